/-
  GuardPlays: for every list of steps the law answers true: a guard goes on, step by step, as the document's does. No condition.
-/
import Derived.Test.YtlohcidapoicoaaKx
import Derived.Deep.RegionHeld3
import Derived.Deep.DeepCutAuto
import Derived.Deep.CutBlock
import Derived.Deep.LoopGhost
import Derived.WalkKit
import Derived.ProofKit
import Derived.OpenShut
import Derived.ShutString
import Derived.ChangeOld
import Derived.Below
namespace Go.Proofs.Ytlohcidapoicoaa.guardPlays
open Go.ChangeShapes Go.WideShapes Go.ChangeAt Go.RowKit Go.Deep
open Go.ChangeMaps (open_string shut_string)
set_option linter.unusedVariables false

theorem own : ownKnob Try.prog.godebug = none := by kernel_rfl
theorem laidOut : laidOutB Try.prog = true := by kernel_rfl
theorem cellAt {w : World} {b : Nat} {cs : Array Value} {t : TypeId} (h : w.heap[b]? = some (.cells cs t (0, 0))) (j : Nat) {v : Value} (hj : cs[j]? = some v) : w.cell? ⟨b, j, none⟩ = some v := by simp [World.cell?, h, hj]
theorem two_cells {w w' : World} {b bo : Nat} {P N : Int} (hg : w.grownBy w' (some b)) (hne : bo ≠ b) (h : w.cell? ⟨bo, 1, none⟩ = some (.int .i64 P) ∧ w.cell? ⟨bo, 2, none⟩ = some (.int .i64 N)) : w'.cell? ⟨bo, 1, none⟩ = some (.int .i64 P) ∧ w'.cell? ⟨bo, 2, none⟩ = some (.int .i64 N) :=
  ⟨World.grownBy.cell hg h.1 (fun e => hne (Option.some.inj e)), World.grownBy.cell hg h.2 (fun e => hne (Option.some.inj e))⟩
theorem below_cell {w w' : World} {b o : Nat} {v : Value} (hb : Below w.heap.size w w') (h : w.cell? ⟨b, o, none⟩ = some v) : w'.cell? ⟨b, o, none⟩ = some v := by
  have hl : b < w.heap.size := by simpa using block_lt_of_cell h
  exact (hb.cell (p := ⟨b, o, none⟩) (by simpa using hl)).trans h

set_option maxRecDepth 100000 in
set_option maxHeartbeats 4000000 in
theorem core (w : World) (a0 : Option Addr) (len0 cap0 : Nat) (h0 : len0 ≤ 9223372036854775807 ∧ SeenO w a0 len0) :
    Calls Try.prog 6 #[.slice a0 len0 cap0] w fun e w' => e = .returned (.bool true) ∧ Below w.heap.size w w' := by
  obtain ⟨hm0, h0⟩ := h0
  have H0 := Lib.hid h0
  clear h0
  go_enter Try.func6, Try.ntmps6
  go_wp2_with fail
  refine (awake_any _).mono ?_
  rintro e w1 ⟨rfl, hb⟩
  go_wp2_with fail
  refine (newV _).mono ?_
  rintro e w2 ⟨rfl, hG2, hb2⟩
  have hl2 := hG2.lt
  have hM0 : Hid (Km [] (fun _ => none)) := ⟨List.Pairwise.nil, fun x p => by simp⟩
  generalize (fun _ : Int => (none : Option (Int × Int))) = m0 at *
  have hK3 : Kg (w2.alloc (.cells #[.slice none 0 0] 41)) w2.heap.size [] := ⟨41, .slice none 0 0, heap_alloc_new _ _, World.ownsRow_nil _ _ _ _⟩
  have hG3 := hG2.below ((Below.refl _ _).alloc (Nat.le_refl _) (Obj.cells #[.slice none 0 0] 41))
  have hb3 := hb2.alloc hb2.size (Obj.cells #[.slice none 0 0] 41)
  clear hG2 hb2
  go_wp2_with fail
  generalize w2.heap.size = G at *
  generalize w2.alloc (Obj.cells #[.slice none 0 0] 41) = w3 at *
  go_loopg [6, 7] 60 (fun g sn i wr => ∃ (k : Nat) (now : Int) (m : Int → Option (Int × Int)) (n : Nat) (ks : List Kn), Gv wr (w1.heap.size + 1) w1.heap.size n m ∧ Kg wr G ks ∧ Hid (Km ks m) ∧ Below w1.heap.size w1 wr ∧ 0 ≤ now ∧ now ≤ 7 * k ∧ n ≤ k ∧ ks.length ≤ k ∧ k ≤ 60 ∧ k ≤ len0 ∧ g = 60 - k ∧ sn = .int .i64 now ∧ i = .int .i64 k)
  case atStart => exact ⟨0, 0, m0, 0, [], hG3, hK3, hM0, hb3, by omega, by omega, by omega, by simp, by omega, by omega, by omega, rfl, rfl⟩
  case round =>
    clear hG3 hK3 hb3 hM0
    obtain ⟨k, now, m, n, ks, hGr, hKr, hMr, hbr, hnow0, hnow1, hnk, hlk, hk60, hkl, rfl, rfl, rfl⟩ := hrel
    by_cases hgo : k < len0 ∧ k < 60
    · obtain ⟨hlt, hlt60⟩ := hgo
      obtain ⟨b, off, rfl, hbw, I, P, N, R, F, hop, wp, wn⟩ := H0.out k hlt
      have hsz := hb.size
      have hcell : ∀ j v, w.cell? ⟨b, off + k * 5 + j, none⟩ = some v → wr.cell? ⟨b, off + k * 5 + j, none⟩ = some v := fun j v h =>
        (hbr.cell (p := ⟨b, off + k * 5 + j, none⟩) (by simp; omega)).trans ((hb.cell (p := ⟨b, off + k * 5 + j, none⟩) (by simpa using hbw)).trans h)
      have c0 := hcell 0 _ hop.1
      have c1 := hcell 1 _ hop.2.1
      have c2 := hcell 2 _ hop.2.2.1
      have c3 := hcell 3 _ hop.2.2.2.1
      have c4 := hcell 4 _ hop.2.2.2.2
      rw [Nat.add_zero] at c0
      obtain ⟨q, hq, hand⟩ := and7 I
      have hid : Hid ((Lit.int .i64 (q : Int)).wf = true) := by
        have h1 : IntKind.i64.min = -9223372036854775808 := by decide
        show (Lit.int .i64 (q : Int)).wf = true
        simp [Lit.wf]
        omega
      have hKl := hKr.lt
      clear hop hcell wp wn
      go_upto_if 40 with fail
      go_cut [6] (fun s6 wx => ∃ now' P' N' : Int, s6 = .int .i64 now' ∧ 0 ≤ now' ∧ now' ≤ 7 * ((k + 1 : Nat) : Int) ∧ wx.cell? ⟨wr.heap.size, 1, none⟩ = some (.int .i64 P') ∧ wx.cell? ⟨wr.heap.size, 2, none⟩ = some (.int .i64 N') ∧ wx.cell? ⟨wr.heap.size, 4, none⟩ = some (.bool F) ∧ Below wr.heap.size wr wx)
      case first =>
        have hH := heap_alloc_new wr (Obj.cells #[.int .i64 I, .int .i64 P, .int .i64 N, .bool R, .bool F] 43)
        have hB := (Below.refl wr.heap.size wr).alloc (Nat.le_refl _) (Obj.cells #[.int .i64 I, .int .i64 P, .int .i64 N, .bool R, .bool F] 43)
        clear c0 c1 c2 c3 c4
        cases R
        · go_wp2_with fail
          go_meet
          exact ⟨now, P, N, rfl, hnow0, by omega, cellAt hH 1 rfl, cellAt hH 2 rfl, cellAt hH 4 rfl, hB⟩
        · obtain ⟨nq, hnq, handn⟩ := and7 N
          obtain ⟨pq, hpq, handp⟩ := and7 P
          have hH2 := heap_alloc_new wr (Obj.cells #[.int .i64 I, .int .i64 (1 + (pq : Int)), .int .i64 (now + (nq : Int)), .bool true, .bool F] 43)
          have hB2 := (Below.refl wr.heap.size wr).alloc (Nat.le_refl _) (Obj.cells #[.int .i64 I, .int .i64 (1 + (pq : Int)), .int .i64 (now + (nq : Int)), .bool true, .bool F] 43)
          have HW2 := Lib.hid hH2
          clear hH2 hH
          go_wp2_with fail
          go_meet
          exact ⟨now + nq, 1 + pq, now + nq, rfl, by omega, by omega, cellAt HW2.out 1 (v := .int .i64 (1 + (pq : Int))) rfl, cellAt HW2.out 2 (v := .int .i64 (now + (nq : Int))) rfl, cellAt HW2.out 4 (v := .bool F) rfl, hB2⟩
      case rest =>
        obtain ⟨now', P', N', rfl, hn0, hn1, d1, d2, d4, hbx⟩ := hcut
        have hG1 := hGr.below hbx
        have hK1 := hKr.below hbx
        have hb1 := hbr.trans (hbx.mono hbr.size)
        have hbs := hbr.size
        have HN1 : Hid (wr.heap.size ≠ w1.heap.size) := by show wr.heap.size ≠ w1.heap.size; omega
        have HN2 : Hid (wr.heap.size ≠ G) := by show wr.heap.size ≠ G; omega
        have HBG : Hid (w1.heap.size < G) := by show w1.heap.size < G; omega
        clear c0 c1 c2 c3 c4 hbr hGr hKr hbx hbs hKl
        generalize wr.heap.size = bo at *
        go_upto_if 54 with fail
        go_cut [10] (fun s10 wy => s10 = .bool true ∧ ∃ (m' : Int → Option (Int × Int)) (n' : Nat) (ks' : List Kn), Gv wy (w1.heap.size + 1) w1.heap.size n' m' ∧ Kg wy G ks' ∧ Hid (Km ks' m') ∧ Below w1.heap.size w1 wy ∧ n' ≤ k + 1 ∧ ks'.length ≤ k + 1)
        case first =>
          cases F
          · obtain ⟨⟨r, m'⟩, hr⟩ : ∃ r, relS m q P' N' = r := ⟨_, rfl⟩
            have CA := Lib.hid (fun W (hGW : Gv W (w1.heap.size + 1) w1.heap.size n m) => relU hGW (by omega) q P' N' r hid.out m' hr)
            have CB := Lib.hid (fun W (hKW : Kg W G ks) => rrelU hKW hMr.out (by omega) q P' N' r m' hr)
            have hGd : Gv wc.drew (w1.heap.size + 1) w1.heap.size n m := hG1.below ⟨rfl, rfl, rfl, Nat.le_refl _, fun _ _ => rfl⟩
            have hKd : Kg wc.drew G ks := hK1.below ⟨rfl, rfl, rfl, Nat.le_refl _, fun _ _ => rfl⟩
            have hbd : Below w1.heap.size w1 wc.drew := hb1.drew
            have hgl := hGd.lt
            clear hr hG1 hK1 hb1
            go_wp2_with fail
            go_region_held3 (fun x => x.cell? ⟨bo, 1, none⟩ = some (.int .i64 P') ∧ x.cell? ⟨bo, 2, none⟩ = some (.int .i64 N')) (first | assumption | (constructor <;> assumption) | exact two_cells hg3 HN1.out ‹_› | exact two_cells hg3 HN1.out ⟨‹_›, ‹_›⟩ | exact two_cells hg4 HN2.out ‹_›) (first
              | (go_at_call 9; refine (CA.out _ ?_).mono ?_; exact hGd; rintro e w5 ⟨rfl, ⟨n3, hn3, hG3⟩, hg3⟩)
              | (go_at_call 16; refine (CB.out _ ?_).mono ?_; exact Kg.kept hKd hg3 HBG.out; rintro e w6 ⟨rfl, ks4, hK4, hM4, hl4, hg4⟩))
            all_goals
              have hl3 := hG3.lt
              have hG4 := hG3.kept hg4 (fun e => by have := Option.some.inj e; have := HBG.out; omega) (fun e => by have := Option.some.inj e; have := HBG.out; omega)
              have hb4 := (below_bm hbd hg3 (Nat.le_refl _) (by omega)).grown hg4 (by omega) (fun j hj => by cases hj; have := HBG.out; omega)
              go_wp2_with fail
              go_meet
              exact ⟨rfl, m', n3, ks4, hG4, hK4, hM4, hb4, by omega, by omega⟩
          · obtain ⟨r, hr⟩ : ∃ r, (m q).isSome = r := ⟨_, rfl⟩
            have hgl := hG1.lt
            have hM4 : Hid (Km (rem q ks) (upd m q none)) := km_rem hMr.out q
            have hrl := rem_le q ks
            have HR := Lib.hid hr
            clear hr
            go_wp2_with fail
            refine (forU hG1 q hid.out r HR.out).mono ?_
            rintro e w5 ⟨rfl, hG3, hg3⟩
            have hK3 := hK1.kept hg3 HBG.out
            have hb3 := below_bm hb1 hg3 (Nat.le_refl _) (by omega)
            have hl3 := hG3.lt
            go_wp2_with fail
            refine (forgetR hK3 (by omega) q r ((km_len hMr.out q).trans HR.out)).mono ?_
            rintro e w6 ⟨rfl, hK4, hg4⟩
            have hG4 := hG3.kept hg4 (fun e => by have := Option.some.inj e; have := HBG.out; omega) (fun e => by have := Option.some.inj e; have := HBG.out; omega)
            have hb4 := hb3.grown hg4 (by omega) (fun j hj => by cases hj; have := HBG.out; omega)
            clear hG1 hK1 hb1 hG3 hK3 hb3 hg3 hg4
            go_wp2_with fail
            go_meet
            exact ⟨rfl, _, n, _, hG4, hK4, hM4, hb4, by omega, by omega⟩
        case rest =>
          obtain ⟨rfl, m', n', ks', hG4, hK4, hM4, hb4, hn4, hl4⟩ := hcut
          clear hG1 hK1 hb1 hMr d1 d2 d4 HN1 HN2
          obtain ⟨r, hr⟩ : ∃ r, ls m' q = r := ⟨_, rfl⟩
          obtain ⟨y, hy⟩ : ∃ y, nx m' q = y := ⟨_, rfl⟩
          obtain ⟨s, hs⟩ : ∃ s, (m' q).isSome = s := ⟨_, rfl⟩
          have HR := Lib.hid hr
          have HY := Lib.hid hy
          have HS := Lib.hid hs
          clear hr hy hs
          go_wp2_with fail
          refine (lastV hG4 q hid.out r HR.out s HS.out).mono ?_
          rintro e w5 ⟨rfl, hb5⟩
          have hG5 := hG4.below hb5
          have hK5 := hK4.below hb5
          have hb5' := below_far hb4 hb5 (by have := hG4.lt; omega)
          clear hG4 hK4 hb4 hb5
          go_wp2_with fail
          refine (lastR hK5 hM4.out (by omega) q r HR.out s HS.out).mono ?_
          rintro e w6 ⟨rfl, rfl⟩
          go_wp2_with fail
          have hsz5 := km_size hM4.out
          refine (idsV hG5 (by omega) (ks'.map (·.1)) hsz5.1 hsz5.2).mono ?_
          rintro e w6 ⟨v1, L, rfl, hLp, hLm, hLl, hrow, hb6⟩
          have hLe : L = ks'.map (·.1) := rising_eq hLp hM4.out.up (fun x => by rw [hLm x, hsz5.2 x])
          have hw1 := rw_of hrow
          rw [hLe] at hw1
          have hG6 := hG5.below hb6
          have hK6 := hK5.below hb6
          have hb6' := below_far hb5' hb6 (by have := hG5.lt; omega)
          clear hLp hLm hLl hrow hLe hG5 hK5 hb5' hb6
          go_wp2_with fail
          refine (idsR hK6 (by omega)).mono ?_
          rintro e w7 ⟨v2, rfl, hrow2, hb7⟩
          have hw2 := rw_of hrow2
          have hw1' := hw1.below hb7
          have hG7 := hG6.below hb7
          have hK7 := hK6.below hb7
          have hb7' := below_far hb6' hb7 (by have := hG6.lt; omega)
          clear hrow2 hw1 hG6 hK6 hb6' hb7
          go_wp2_with fail
          refine (sameU hw1' hw2 (by simp; omega)).mono ?_
          rintro e w8 ⟨rfl, nq, rfl⟩
          have hGd : Gv (w7.drewN nq).drew (w1.heap.size + 1) w1.heap.size n' m' := hG7.below ⟨rfl, rfl, rfl, Nat.le_refl _, fun _ _ => rfl⟩
          have hKd : Kg (w7.drewN nq).drew G ks' := hK7.below ⟨rfl, rfl, rfl, Nat.le_refl _, fun _ _ => rfl⟩
          have hbd : Below w1.heap.size w1 (w7.drewN nq).drew := hb7'.trans ⟨rfl, rfl, rfl, Nat.le_refl _, fun _ _ => rfl⟩
          clear hG7 hK7 hb7' hw1' hw2
          generalize w7.drewN nq = w8 at *
          have hgl := hGd.lt
          have hkc : ∃ a c, w8.cell? ⟨G, 0, none⟩ = some (.slice a ks'.length c) := by
            obtain ⟨T, v, hbb, hrr⟩ := hKd
            obtain ⟨a, c, hv⟩ := hrr.len
            exact ⟨a, c, by have h9 : w8.heap[G]? = _ := hbb; simp [World.cell?, h9, hv]⟩
          obtain ⟨ka, kcap, hkc⟩ := hkc
          have C11 := Lib.hid (fun W (hGW : Gv W (w1.heap.size + 1) w1.heap.size n' m') => nextV hGW q hid.out y HY.out)
          have C20 := Lib.hid (fun W (hKW : Kg W G ks') => nextR hKW hM4.out (by omega) q y HY.out)
          have C14 := Lib.hid (fun W (hGW : Gv W (w1.heap.size + 1) w1.heap.size n' m') => lenV hGW (ks'.map (·.1)) hsz5.1 hsz5.2 ks'.length (by simp))
          clear hsz5
          go_wp2_with fail
          go_region_held3 (fun x => x.cell? ⟨G, 0, none⟩ = some (.slice ka ks'.length kcap)) (first | assumption | exact below_cell hb9 ‹_›) (first
            | (go_at_call 11; refine (C11.out _ ?_).mono ?_; exact hGd; rintro e w9 ⟨rfl, hb9⟩)
            | (go_at_call 20; refine (C20.out _ ?_).mono ?_; exact Kg.below hKd hb9; rintro e w10 ⟨rfl, rfl⟩)
            | (go_at_call 14; refine (C14.out _ ?_).mono ?_; exact Gv.below hGd hb9; rintro e w11 ⟨rfl, rfl⟩))
          all_goals
            go_wp2_with fail
            go_roundg (60 - (k + 1))
            case measure => omega
            case rel => exact ⟨k + 1, now', m', n', ks', hGd.below hb9, hKd.below hb9, hM4, below_far hbd hb9 (by omega), hn0, by omega, by omega, by omega, by omega, by omega, by omega, rfl, by go_num⟩
    · have hcase : ¬ k < len0 ∨ k < len0 ∧ k = 60 := by omega
      rcases hcase with hnl | ⟨hlt, rfl⟩
      · go_wp2_with fail
        go_ret
        exact ⟨rfl, hb.trans (hbr.mono hb.size)⟩
      · go_wp2_with fail
        go_ret
        exact ⟨rfl, hb.trans (hbr.mono hb.size)⟩

/-! ### THE ROW's STEP -/
set_option maxRecDepth 100000 in
theorem lifted (os : Os) (started : os.Started) (H : Type) (enc : TypeId × Value → H) :
    ReturnsInHanded {} Try.checked os 6 .any (Rows.guardPlaysSpec.pre6 enc Try.prog Try.f6 Rows.guardPlaysRow.domain false) (Rows.guardPlaysSpec.post enc Try.prog Try.f6 false true false false) := by
  refine returnsInHanded_of_change (C := Try.checked) own started (by kernel_rfl) Try.func6
    (ChangeSpec.witness6 (enc := enc) (C := Try.checked) false ⟨#[], #[.slice none 0 0], []⟩ 8 (by kernel_rfl) (by kernel_rfl) (by kernel_rfl) (by kernel_rfl)) ?_
  intro W base args ds gs before hval0 hW hcnd _
  have hval : ∀ (j : Nat) t v, Try.f6.params[j]? = some t → args[j]? = some v → Value.okWide Try.prog W .any base t v := hval0
  have hW' := hW
  obtain ⟨p, q, hA0, hV, rfl, hfz, hnd⟩ := hW
  have hA : DataW.TrodAll enc Try.prog W 0 (fun _ => true) true Try.f6.params.toList args.toList ds p := hA0
  rw [Try.params6] at hA hval
  obtain ⟨v0, vs0, d0, ds0, p0, q0, hargs, rfl, rfl, h0, r0⟩ := trodAll_cons hA
  obtain ⟨rfl, rfl, rfl⟩ := trodAll_nil r0
  obtain rfl : args = #[v0] := by cases args; simp_all
  obtain ⟨rfl, rfl⟩ := trodVars_none hV
  obtain ⟨a0, len0, cap0, rfl⟩ := okWide_slice Try.underlying37 (hval 0 37 v0 rfl rfl)
  have k0 := h0
  have lt0 : ∀ x ∈ p0, x.block < W.heap.size := by obtain ⟨m, hm⟩ := k0; exact DataW.trod_lt m _ _ _ hm
  have w0 := open_ops h0
  clear hA0 hval0
  refine (core W a0 len0 cap0 w0).mono fun e W' ⟨he, bel⟩ => ?_
  subst he
  exact ⟨_, rfl, _, _, _, [], _, [], hW', trodAll_mk1 (shut_bool Try.underlying4 _), (trodAll_cons_mk (Below.trod laidOut (by kernel_rfl) (of_decide_eq_true (by kernel_rfl)) k0 bel lt0) trodAll_mk0), rfl, bel.frame _, fun h => by cases h⟩

theorem over : Rows.guardPlaysRow.holds Try.pinned (OpenSpec.ofChange Rows.guardPlaysSpec) :=
  OpenClaim.holds_of_wide 6 Try.f6 rfl rfl rfl rfl rfl rfl rfl ⟨rfl, rfl, rfl, rfl, rfl⟩ rfl rfl rfl rfl rfl (by kernel_rfl) Try.func6 (by kernel_rfl)
    (of_decide_eq_true (by kernel_rfl)) (by unfold Func.isWrapper; first | (rw [if_pos (by decide +kernel)]; kernel_rfl) | (rw [if_neg (by decide +kernel)]; exact ⟨rfl, rfl⟩))
    (fun os started H enc _ => lifted os started H enc)

/-- ████ THE STATEMENT ████ -/
theorem proved : Rows.GuardPlaysSaid := over
#print axioms proved
end Go.Proofs.Ytlohcidapoicoaa.guardPlays
