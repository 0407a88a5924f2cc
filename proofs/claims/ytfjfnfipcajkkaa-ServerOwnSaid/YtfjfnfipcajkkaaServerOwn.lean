/-
  ServerOwn: for every list of numbers the law answers true: what is asked by one number does not wait by another one; those by which something waits rise. No condition.
-/
import Derived.Test.YtfjfnfipcajkkaaOp
import Derived.Deep.QuietTactic
import Derived.BigQuiet
import Derived.Deep.DeepCutAuto
import Derived.Deep.CutBlock
import Derived.Deep.LoopGhost
import Derived.WalkKit
import Derived.ProofKit
import Derived.OpenShut
import Derived.ShutString
import Derived.ChangeOld
import Derived.Below
namespace Go.Proofs.Ytfjfnfipcajkkaa.serverOwn
open Go.ChangeShapes Go.WideShapes Go.ChangeAt Go.RowKit Go.Deep
open Go.ChangeMaps (open_string shut_string)
set_option linter.unusedVariables false

theorem own : ownKnob Try.prog.godebug = none := by kernel_rfl
theorem laidOut : laidOutB Try.prog = true := by kernel_rfl

theorem row_cells {w : World} {B : Nat} {v : Value} {L : List Int} (h : w.ownsRow B 3 1 v L.length (L.map encZ)) (hL : L ≠ []) : ∃ g cap, v = .slice (some ⟨g, 0, none⟩) L.length cap ∧ B ≤ g ∧ ∀ j x, L[j]? = some x → w.cell? ⟨g, j, none⟩ = some (.int .i64 x) := by
  rcases h.2 with ⟨_, h0⟩ | ⟨g, cap, cur, hv, hB, hg, hcap, hmx, hcs, hx⟩
  · exact absurd (List.eq_nil_of_length_eq_zero h0) hL
  · refine ⟨g, cap, hv, hB, fun j x hj => ?_⟩
    have hjl : j < L.length := (List.getElem?_eq_some_iff.1 hj).1
    have e : (L.map encZ)[j]? = some (.int .i64 x) := by simp [hj, encZ]
    rw [← hx, List.getElem?_take_of_lt (by omega), Array.getElem?_toList] at e
    simp [World.cell?, hg, e]
theorem pv_set {w : World} {p bw bt n : Nat} {f t : Int → Int} (h : Pv w p bw bt n f t) (a : Addr) (v : Value) (h1 : a.block ≠ p) (h2 : a.block ≠ bw) (h3 : a.block ≠ bt) : Pv (w.setCell a v) p bw bt n f t :=
  h.kept (row := some a.block) ⟨rfl, rfl, rfl, by simp [World.setCell], fun k _ hk => heap_setCell_other _ _ _ _ (fun e => hk (by rw [e]))⟩ (fun e => h1 (Option.some.inj e).symm) (fun e => h2 (Option.some.inj e).symm) (fun e => h3 (Option.some.inj e).symm)

set_option maxRecDepth 100000 in
set_option maxHeartbeats 4000000 in
theorem core (w : World) (a0 : Option Addr) (len0 cap0 : Nat) (h0 : len0 ≤ 9223372036854775807 ∧ Seen w a0 len0) :
    Calls Try.prog 4 #[.slice a0 len0 cap0] w fun e w' => e = .returned (.bool true) ∧ Below w.heap.size w w' := by
  obtain ⟨hm0, h0⟩ := h0
  have H0 := Lib.hid h0
  clear h0
  go_enter Try.func4, Try.ntmps4
  go_wp2_with fail
  refine (awake_any _).mono ?_
  rintro e w1 ⟨rfl, hb⟩
  go_wp2_with fail
  refine (newV _).mono ?_
  rintro e w2 ⟨rfl, hP2, hb2⟩
  have hl2 := hP2.lt
  have hz : ∀ x : Int, (fun _ => (0 : Int)) x = 0 := fun _ => rfl
  generalize (fun _ : Int => (0 : Int)) = f0 at *
  have HZ := Lib.hid hz
  clear hz
  have hA3 : Ar (w2.alloc (Obj.cells ((List.replicate 16 (0 : Int)).map (Value.int .i64)).toArray 31)) w2.heap.size (List.replicate 16 0) := ⟨31, heap_alloc_new _ _⟩
  have hP3 := hP2.below ((Below.refl _ _).alloc (Nat.le_refl _) (Obj.cells ((List.replicate 16 (0 : Int)).map (Value.int .i64)).toArray 31))
  have hb3 := hb2.alloc hb2.size (Obj.cells ((List.replicate 16 (0 : Int)).map (Value.int .i64)).toArray 31)
  change Ar (w2.alloc (Obj.cells #[.int .i64 0, .int .i64 0, .int .i64 0, .int .i64 0, .int .i64 0, .int .i64 0, .int .i64 0, .int .i64 0, .int .i64 0, .int .i64 0, .int .i64 0, .int .i64 0, .int .i64 0, .int .i64 0, .int .i64 0, .int .i64 0] 31)) _ _ at hA3
  change Pv (w2.alloc (Obj.cells #[.int .i64 0, .int .i64 0, .int .i64 0, .int .i64 0, .int .i64 0, .int .i64 0, .int .i64 0, .int .i64 0, .int .i64 0, .int .i64 0, .int .i64 0, .int .i64 0, .int .i64 0, .int .i64 0, .int .i64 0, .int .i64 0] 31)) _ _ _ _ _ _ at hP3
  change Below _ _ (w2.alloc (Obj.cells #[.int .i64 0, .int .i64 0, .int .i64 0, .int .i64 0, .int .i64 0, .int .i64 0, .int .i64 0, .int .i64 0, .int .i64 0, .int .i64 0, .int .i64 0, .int .i64 0, .int .i64 0, .int .i64 0, .int .i64 0, .int .i64 0] 31)) at hb3
  clear hP2 hb2
  go_wp2_with fail
  generalize w2.heap.size = G at *
  go_loopg [6] 30 (fun g i wr => ∃ (k : Nat) (f t : Int → Int) (n : Nat) (l : List Int), Pv wr (w1.heap.size + 2) w1.heap.size (w1.heap.size + 1) n f t ∧ Ar wr G l ∧ Hid (l.length = 16) ∧ Hid (∀ j : Nat, j < 16 → l[j]? = some (f j)) ∧ Hid (∀ x, f x ≠ 0 → 0 ≤ x ∧ x < 16) ∧ Hid (∀ x, 0 ≤ f x ∧ f x ≤ 31 * k) ∧ Below w1.heap.size w1 wr ∧ n ≤ k ∧ k ≤ 30 ∧ k ≤ len0 ∧ g = 30 - k ∧ i = .int .i64 k)
  case atStart => exact ⟨0, f0, f0, 0, _, hP3, hA3, (by show List.length _ = 16; simp), (by show ∀ j : Nat, j < 16 → _; intro j hj; rw [HZ.out, List.getElem?_replicate, if_pos hj]), (by show ∀ x, _; intro x hx; exact absurd (HZ.out x) hx), (by show ∀ x, _; intro x; rw [HZ.out]; omega), hb3, by omega, by omega, by omega, by omega, rfl⟩
  case round =>
    clear hP3 hA3 hb3
    obtain ⟨k, f, t, n, l, hPr, hAr, hl16, hlf, hin, hbd, hbr, hnk, hk30, hkl, rfl, rfl⟩ := hrel
    by_cases hgo : k < len0 ∧ k < 30
    · obtain ⟨hlt, hlt30⟩ := hgo
      obtain ⟨b, off, rfl, hbw, x, hx, _⟩ := H0.out k hlt
      have hsz := hb.size
      have hxr : wr.cell? ⟨b, off + k, none⟩ = some (.int .i64 x) := by
        rw [hbr.cell (p := ⟨b, off + k, none⟩) (by simp; omega), hb.cell (p := ⟨b, off + k, none⟩) (by simpa using hbw)]; exact hx
      obtain ⟨q, hq, hand⟩ := and15 x
      have hwf : ∀ y : Nat, y < 16 → (Lit.int .i64 (y : Int)).wf = true := fun y hy => by
        have h1 : IntKind.i64.min = -9223372036854775808 := by decide
        simp [Lit.wf]
        omega
      have HW := Lib.hid hwf
      have hlr := hPr.lt
      obtain ⟨A, hA⟩ : ∃ A, f q = A := ⟨_, rfl⟩
      have hA01 := hbd.out q
      rw [hA] at hA01
      have HA := Lib.hid hA
      clear hx hwf hA
      go_wp2_with fail
      refine (askV hPr (by omega) q ((k : Int) + 1) (HW.out q hq) ⟨by omega, by omega, by omega, by omega⟩ (by rw [HA.out]; omega) (by rw [HA.out]; omega) _ rfl).mono ?_
      rintro e w3 ⟨rfl, hP3, hT3⟩
      have hl3 := hP3.lt
      have hA3 := hAr.turn hT3 (by unfold two; omega)
      have hbr3 := Turn.to hbr hT3 (by omega) (two_le (Nat.le_refl _) (Nat.le_succ _))
      have hcw := hA3.cell (hlf.out q hq)
      have hfw := hA3.free q
      rw [HA.out] at hP3 hcw
      have hl16' : Hid ((l.set q (A + ((k : Int) + 1))).length = 16) := by show List.length _ = 16; rw [List.length_set]; exact hl16.out
      have hlf' : Hid (∀ j : Nat, j < 16 → (l.set q (A + ((k : Int) + 1)))[j]? = some (upd f q (A + ((k : Int) + 1)) j)) := by
        show ∀ j : Nat, j < 16 → _
        intro j hj
        by_cases e : q = j
        · subst e
          rw [List.getElem?_set_self (by rw [hl16.out]; exact hj), upd_same]
        · rw [List.getElem?_set_ne e, upd_other _ _ (by omega)]
          exact hlf.out j hj
      have hin' : Hid (∀ x, upd f q (A + ((k : Int) + 1)) x ≠ 0 → 0 ≤ x ∧ x < 16) := by
        show ∀ x, _
        intro x hx
        by_cases e : x = q
        · omega
        · rw [upd_other _ _ e] at hx
          exact hin.out x hx
      have hbd' : Hid (∀ x, 0 ≤ upd f q (A + ((k : Int) + 1)) x ∧ upd f q (A + ((k : Int) + 1)) x ≤ 31 * ((k + 1 : Nat) : Int)) := by
        show ∀ x, _
        intro x
        by_cases e : x = q
        · subst e
          rw [upd_same]
          omega
        · rw [upd_other _ _ e]
          have := hbd.out x
          omega
      have hqn : Hid (upd f q (A + ((k : Int) + 1)) q ≠ 0) := by show upd f q (A + ((k : Int) + 1)) q ≠ 0; rw [upd_same]; omega
      have hP4 := pv_set hP3 ⟨G, q, none⟩ (.int .i64 (A + ((k : Int) + 1))) (by show G ≠ _; omega) (by show G ≠ _; omega) (by show G ≠ _; omega)
      have hA4 := hA3.set q (A + ((k : Int) + 1))
      have hbr4 := hbr3.setCell (p := ⟨G, q, none⟩) (by show _ ≤ G; omega) (.int .i64 (A + ((k : Int) + 1)))
      generalize upd f q (A + ((k : Int) + 1)) = f' at *
      generalize l.set q (A + ((k : Int) + 1)) = l' at *
      clear hPr hAr hbr hT3 hP3 hA3 hbr3 hl16 hlf hin hbd HA hxr
      go_wp2_with fail
      refine (waitV hP4 (by omega)).mono ?_
      rintro e w5 ⟨v, L, rfl, hLp, hLm, hrow, hb5⟩
      obtain ⟨gk, capk, rfl, hgB, hcells⟩ := row_cells hrow (fun e => by have := (hLm q).2 hqn.out; rw [e] at this; simp at this)
      have hA5 := hA4.below hb5
      have hP5 := hP4.below hb5
      have hbr5 := hbr4.trans (hb5.mono (by have := hP4.lt; omega))
      have HLP := Lib.hid hLp
      have HLM := Lib.hid hLm
      have HC := Lib.hid hcells
      have hPq : Hid (∀ m, Pv (w5.drewN m) (w1.heap.size + 2) w1.heap.size (w1.heap.size + 1) (n + 1) f' t) := fun m => hP5.below ⟨rfl, rfl, rfl, Nat.le_refl _, fun _ _ => rfl⟩
      have hst := Lib.hid (upto_start (L := L) (fun x hx => (hin'.out x ((HLM.out x).1 hx)).1))
      clear hA4 hP4 hbr4 hb5 hrow hcells hLp hLm hP5 hcw hfw
      go_wp2_with fail
      go_loopg [9, 10] 16 (fun g cn i wx => ∃ j nn nq : Nat, wx = w5.drewN nq ∧ j ≤ 16 ∧ nn ≤ j ∧ Hid (Upto L j nn) ∧ g = 16 - j ∧ cn = .int .i64 nn ∧ i = .int .i64 j)
      case atStart => exact ⟨0, 0, 0, rfl, by omega, by omega, hst, by omega, rfl, rfl⟩
      case round =>
        obtain ⟨j, nn, nq0, rfl, hj16, hnj, hup, rfl, rfl, rfl⟩ := hrel
        by_cases hjl : j < 16
        · obtain ⟨Y, hY⟩ : ∃ Y, f' j = Y := ⟨_, rfl⟩
          have HY := Lib.hid hY
          have hcy := hA5.cell (hlf'.out j hjl)
          have hY0 := (hbd'.out j).1
          rw [hY] at hcy hY0
          clear hY
          by_cases hYp : 0 < Y
          · have hmem : (j : Int) ∈ L := (HLM.out j).2 (by rw [HY.out]; omega)
            have hat := upto_at hup.out HLP.out hmem
            have hnl : nn < L.length := (List.getElem?_eq_some_iff.1 hat).1
            have hck := HC.out nn j hat
            have hup2 := Lib.hid (upto_hit hup.out HLP.out hmem)
            clear hat hmem hup
            go_wp2_with fail
            go_quiet (exact (backV (hPq.out _) j (HW.out j hjl) Y HY.out).mono fun _ _ h => ⟨h.1, _, h.2.symm⟩)
            go_wp2_with fail
            go_roundg (16 - (j + 1))
            case measure => omega
            case rel => exact ⟨j + 1, nn + 1, _, rfl, by omega, by omega, hup2, by omega, by go_num, by go_num⟩
          · have hmem : (j : Int) ∉ L := fun h => absurd ((HLM.out j).1 h) (by rw [HY.out]; omega)
            have hup2 := Lib.hid (upto_miss hup.out hmem)
            clear hmem hup
            go_wp2_with fail
            go_quiet (exact (backV (hPq.out _) j (HW.out j hjl) Y HY.out).mono fun _ _ h => ⟨h.1, _, h.2.symm⟩)
            go_wp2_with fail
            go_roundg (16 - (j + 1))
            case measure => omega
            case rel => exact ⟨j + 1, nn, _, rfl, by omega, by omega, hup2, by omega, rfl, by go_num⟩
        · have hend : nn = L.length := upto_end hup.out (fun x hx => by have := hin'.out x ((HLM.out x).1 hx); omega)
          clear hup
          subst hend
          go_wp2_with fail
          go_roundg (30 - (k + 1))
          case measure => omega
          case rel => exact ⟨k + 1, f', t, n + 1, l', hPq.out _, hA5.keep rfl, hl16', hlf', hin', hbd', hbr5.trans ⟨rfl, rfl, rfl, Nat.le_refl _, fun _ _ => rfl⟩, by omega, by omega, by omega, by omega, by go_num⟩
    · have hcase : ¬ k < len0 ∨ k < len0 ∧ k = 30 := by omega
      rcases hcase with hnl | ⟨hlt, rfl⟩
      · go_wp2_with fail
        go_ret
        exact ⟨rfl, hb.trans (hbr.mono hb.size)⟩
      · go_wp2_with fail
        go_ret
        exact ⟨rfl, hb.trans (hbr.mono hb.size)⟩

/-! ### THE ROW's STEP -/
set_option maxRecDepth 100000 in
theorem lifted (os : Os) (started : os.Started) (H : Type) (enc : TypeId × Value → H) :
    ReturnsInHanded {} Try.checked os 4 .any (Rows.serverOwnSpec.pre6 enc Try.prog Try.f4 Rows.serverOwnRow.domain false) (Rows.serverOwnSpec.post enc Try.prog Try.f4 false true false false) := by
  refine returnsInHanded_of_change (C := Try.checked) own started (by kernel_rfl) Try.func4
    (ChangeSpec.witness6 (enc := enc) (C := Try.checked) false ⟨#[], #[.slice none 0 0], []⟩ 8 (by kernel_rfl) (by kernel_rfl) (by kernel_rfl) (by kernel_rfl)) ?_
  intro W base args ds gs before hval0 hW hcnd _
  have hval : ∀ (j : Nat) t v, Try.f4.params[j]? = some t → args[j]? = some v → Value.okWide Try.prog W .any base t v := hval0
  have hW' := hW
  obtain ⟨p, q, hA0, hV, rfl, hfz, hnd⟩ := hW
  have hA : DataW.TrodAll enc Try.prog W 0 (fun _ => true) true Try.f4.params.toList args.toList ds p := hA0
  rw [Try.params4] at hA hval
  obtain ⟨v0, vs0, d0, ds0, p0, q0, hargs, rfl, rfl, h0, r0⟩ := trodAll_cons hA
  obtain ⟨rfl, rfl, rfl⟩ := trodAll_nil r0
  obtain rfl : args = #[v0] := by cases args; simp_all
  obtain ⟨rfl, rfl⟩ := trodVars_none hV
  obtain ⟨a0, len0, cap0, rfl⟩ := okWide_slice Try.underlying22 (hval 0 22 v0 rfl rfl)
  have k0 := h0
  have lt0 : ∀ x ∈ p0, x.block < W.heap.size := by obtain ⟨m, hm⟩ := k0; exact DataW.trod_lt m _ _ _ hm
  have w0 := open_nums h0
  clear hA0 hval0
  refine (core W a0 len0 cap0 w0).mono fun e W' ⟨he, bel⟩ => ?_
  subst he
  exact ⟨_, rfl, _, _, _, [], _, [], hW', trodAll_mk1 (shut_bool Try.underlying4 _), (trodAll_cons_mk (Below.trod laidOut (by kernel_rfl) (of_decide_eq_true (by kernel_rfl)) k0 bel lt0) trodAll_mk0), rfl, bel.frame _, fun h => by cases h⟩

theorem over : Rows.serverOwnRow.holds Try.pinned (OpenSpec.ofChange Rows.serverOwnSpec) :=
  OpenClaim.holds_of_wide 4 Try.f4 rfl rfl rfl rfl rfl rfl rfl ⟨rfl, rfl, rfl, rfl, rfl⟩ rfl rfl rfl rfl rfl (by kernel_rfl) Try.func4 (by kernel_rfl)
    (of_decide_eq_true (by kernel_rfl)) (by unfold Func.isWrapper; first | (rw [if_pos (by decide +kernel)]; kernel_rfl) | (rw [if_neg (by decide +kernel)]; exact ⟨rfl, rfl⟩))
    (fun os started H enc _ => lifted os started H enc)

/-- ████ THE STATEMENT ████ -/
theorem proved : Rows.ServerOwnSaid := over
#print axioms proved
end Go.Proofs.Ytfjfnfipcajkkaa.serverOwn
