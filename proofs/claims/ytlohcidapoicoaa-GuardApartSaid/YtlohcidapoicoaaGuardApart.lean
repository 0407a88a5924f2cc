/-
  GuardApart: for every two lists of numbers the law answers true: releases that are let are at least the period of the one ahead apart; one that is that far is let. No condition.
-/
import Derived.Test.YtlohcidapoicoaaMask
import Derived.WalkKit
import Derived.ProofKit
import Derived.OpenShut
import Derived.ShutString
import Derived.ChangeOld
import Derived.Below
namespace Go.Proofs.Ytlohcidapoicoaa.guardApart
open Go.ChangeShapes Go.WideShapes Go.ChangeAt Go.RowKit
open Go.ChangeMaps (open_string shut_string)
set_option linter.unusedVariables false

theorem own : ownKnob Try.prog.godebug = none := by kernel_rfl
theorem laidOut : laidOutB Try.prog = true := by kernel_rfl

/-- WHAT THE WALK IS TOLD OF A SLICE OF INTEGERS THAT CAME IN: it is nil; or it leads to a row of 'cap' cells, the numbers 'zs' (the first 'len' are its elements, the rest its spare room), each fitting its kind. -/
def IsRow (k : IntKind) (w : World) (a : Option Addr) (len cap : Nat) (zs : List Int) : Prop :=
  (a = none ∧ len = 0 ∧ cap = 0 ∧ zs = []) ∨
  ∃ x, a = some x ∧ len ≤ cap ∧ cap ≤ maxLen ∧ zs.length = cap ∧ (∀ i, i < zs.length → w.cell? (x.add i) = some (.int k (zs.getD i 0))) ∧ ∀ n ∈ zs, (Lit.int k n).wf = true

/-! ### STEP 1: THE WALK: the Go text returns true, AND WRITES NOTHING THAT WAS THERE: 'Below w.heap.size w w'' (Derived/Below.lean: '.refl', '.alloc', '.drew', '.setCell' at a new block, '.trans'). Open each 'IsRow' by 'rcases' AHEAD of 'go_enter'; part every test ahead of the walk. -/
theorem row_of {w : World} {a : Option Addr} {len cap : Nat} {zs : List Int} (h : IsRow .i64 w a len cap zs) (hpos : 0 < len) : len ≤ 9223372036854775807 ∧ Has w a len := by
  rcases h with ⟨rfl, rfl, rfl, rfl⟩ | ⟨x, rfl, hl, hm, hz, hcell, hwz⟩
  · omega
  · unfold maxLen at hm
    obtain ⟨b, off, spot⟩ := x
    have hc := hcell 0 (by omega)
    have hspot : spot = none := by simpa [Addr.add] using World.cell?_spot hc
    subst hspot
    refine ⟨by omega, b, off, rfl, by simpa [Addr.add] using block_lt_of_cell hc, fun j hj => ?_⟩
    have hj' := hcell j (by omega)
    have hadd : (⟨b, off, none⟩ : Addr).add j = ⟨b, off + j, none⟩ := by unfold Addr.add; split <;> simp_all
    rw [hadd] at hj'
    refine ⟨_, hj', hwz _ ?_⟩
    have e : zs.getD j 0 = zs[j]'(by omega) := by simp [show j < zs.length by omega]
    rw [e]; exact List.getElem_mem _

/-- No round is gone. -/
theorem core0 (a0 : Option Addr) (len0 cap0 : Nat) (a1 : Option Addr) (len1 cap1 : Nat) (w : World) (h : len0 = 0 ∨ len0 ≠ 0 ∧ len1 = 0) :
    Calls Try.prog 3 #[.slice a0 len0 cap0, .slice a1 len1 cap1] w fun e w' => e = .returned (.bool true) ∧ Below w.heap.size w w' := by
  rcases h with rfl | ⟨h0, rfl⟩
  all_goals
    go_enter Try.func3, Try.ntmps3
    go_wp2_with (first | (go_at_call 7; refine (awake_any _).mono ?_; rintro e w1 ⟨rfl, hb⟩) | (go_at_call 8; refine (newV _).mono ?_; rintro e w2 ⟨rfl, hG, hb2⟩))
    refine wp_loop_rounds 1 ?_
    rw [rounds_succ]
    go_wp2_with fail
    go_ret
    exact ⟨rfl, hb.trans (hb2.mono hb.size)⟩

set_option maxRecDepth 100000 in
set_option maxHeartbeats 1000000 in
theorem core (a0 : Option Addr) (len0 cap0 : Nat) (a1 : Option Addr) (len1 cap1 : Nat) (w : World) (hm : len0 ≤ 9223372036854775807) (hm1 : len1 ≤ 9223372036854775807) (h0 : Has w a0 len0) (h1 : Has w a1 len1) :
    Calls Try.prog 3 #[.slice a0 len0 cap0, .slice a1 len1 cap1] w fun e w' => e = .returned (.bool true) ∧ Below w.heap.size w w' := by
  obtain ⟨b, off, rfl, hbw, hc0⟩ := h0
  obtain ⟨c, ofc, rfl, hcw, hc1⟩ := h1
  go_enter Try.func3, Try.ntmps3
  go_wp2_with (first | (go_at_call 7; refine (awake_any _).mono ?_; rintro e w1 ⟨rfl, hb⟩) | (go_at_call 8; refine (newV _).mono ?_; rintro e w2 ⟨rfl, hG, hb2⟩))
  go_loopw [7, 8, 9, 10] (fun nw ls0 nx0 i wr => ∃ (k : Nat) (now last next : Int) (m : Int → Option (Int × Int)) (n : Nat), k ≤ 40 ∧ k ≤ len0 ∧ k ≤ len1 ∧ n ≤ k ∧ i = .int .i64 k ∧ nw = .int .i64 now ∧ ls0 = .int .i64 last ∧ nx0 = .int .i64 next ∧ 0 ≤ now ∧ now ≤ 31 * k ∧ 0 ≤ next ∧ next ≤ 31 * k + 16 ∧ Gv wr (w1.heap.size + 1) w1.heap.size n m ∧ Hid (nx m 7 = next) ∧ Hid (0 < next → m 7 = some (last, next)) ∧ Below w1.heap.size w1 wr) (fun _ _ _ i _ => 40 - (intOf i).toNat)
  case atStart => exact ⟨0, 0, -1, 0, fun _ => none, 0, by omega, by omega, by omega, by omega, rfl, rfl, rfl, rfl, by omega, by omega, by omega, by omega, hG, rfl, (fun h => by omega), hb2⟩
  case round =>
    obtain ⟨k, now, last, next, m, n, hk40, hk0, hk1, hnk, rfl, rfl, rfl, rfl, hnow0, hnow1, hnx0, hnx1, hGr, hnx, hms, hbr⟩ := hrel
    by_cases hgo : k < len0 ∧ k < len1 ∧ k < 40
    · obtain ⟨hlt0, hlt1, h40⟩ := hgo
      obtain ⟨x, hx, _⟩ := hc0 k hlt0
      obtain ⟨y, hy, _⟩ := hc1 k hlt1
      have hsz := hb.size
      have hxr : wr.cell? ⟨b, off + k, none⟩ = some (.int .i64 x) := by
        rw [hbr.cell (p := ⟨b, off + k, none⟩) (by simp; omega), hb.cell (p := ⟨b, off + k, none⟩) (by simpa using hbw)]; exact hx
      have hyr : wr.cell? ⟨c, ofc + k, none⟩ = some (.int .i64 y) := by
        rw [hbr.cell (p := ⟨c, ofc + k, none⟩) (by simp; omega), hb.cell (p := ⟨c, ofc + k, none⟩) (by simpa using hcw)]; exact hy
      obtain ⟨q, hq, hand⟩ := and31 x
      obtain ⟨r, hr, hand2⟩ := and15 y
      have hlr := hGr.lt
      clear hc0 hc1 hx hy
      by_cases hE : now + q < next
      · have t1 : ((19 : Int) == 0) = false := by decide
        go_wp2_with fail
        refine (relE hGr 7 _ _ (by decide) ⟨by omega, by omega, by omega, by omega⟩ (by rw [hnx.out]; omega)).mono ?_
        rintro e w3 ⟨rfl, hb3⟩
        have hG3 := hGr.below hb3
        have hbr3 := below_far hbr hb3 (by omega)
        have hm7 := Lib.hid (hms.out (by omega))
        clear hb3
        go_wp2_with fail
        refine (lastV hG3 7 (by decide) last (by show ((m 7).getD (0, 0)).1 = last; rw [hm7.out]; rfl) true (by rw [hm7.out]; rfl)).mono ?_
        rintro e w4 ⟨rfl, hb4⟩
        have hG4 := hG3.below hb4
        have hl3 := hG3.lt
        have hbr4 := below_far hbr3 hb4 (by omega)
        clear hb4
        go_wp2_with fail
        refine (nextV hG4 7 (by decide) next hnx.out).mono ?_
        rintro e w5 ⟨rfl, hb5⟩
        have hG5 := hG4.below hb5
        have hl4 := hG4.lt
        have hbr5 := below_far hbr4 hb5 (by omega)
        clear hb5
        go_wp2_with fail
        go_roundw
        case rel => exact ⟨k + 1, now + q, last, next, m, n, by omega, by omega, by omega, by omega, by go_num, by go_num, rfl, rfl, by omega, by omega, by omega, by omega, hG5, hnx, hms, hbr5⟩
        case measure => simp [intOf]; omega
      · go_wp2_with fail
        refine (relO hGr (by omega) 7 _ _ (by decide) ⟨by omega, by omega, by omega, by omega⟩ (by rw [hnx.out]; omega)).mono ?_
        rintro e w3 ⟨rfl, hG3, hg3⟩
        have hbr3 := below_bm hbr hg3 (Nat.le_refl _) (by omega)
        have hm7 : Hid (upd m 7 (some (now + q, now + q + (1 + r))) 7 = some (now + q, now + q + (1 + r))) := rfl
        clear hg3
        go_wp2_with fail
        refine (lastV hG3 7 (by decide) (now + q) rfl true rfl).mono ?_
        rintro e w4 ⟨rfl, hb4⟩
        have hG4 := hG3.below hb4
        have hl3 := hG3.lt
        have hbr4 := below_far hbr3 hb4 (by omega)
        clear hb4
        go_wp2_with fail
        refine (nextV hG4 7 (by decide) (now + q + (1 + r)) rfl).mono ?_
        rintro e w5 ⟨rfl, hb5⟩
        have hG5 := hG4.below hb5
        have hl4 := hG4.lt
        have hbr5 := below_far hbr4 hb5 (by omega)
        clear hb5
        go_wp2_with fail
        go_roundw
        case rel => exact ⟨k + 1, now + q, now + q, now + q + (1 + r), upd m 7 (some (now + q, now + q + (1 + r))), n + 1, by omega, by omega, by omega, by omega, by go_num, rfl, rfl, rfl, by omega, by omega, by omega, by omega, hG5, rfl, (fun _ => rfl), hbr5⟩
        case measure => simp [intOf]; omega
    · have hw6 : k < len0 ∧ k < len1 ∧ ¬ k < 40 ∨ k < len0 ∧ ¬ k < len1 ∨ ¬ k < len0 := by omega
      clear hgo hc0 hc1
      rcases hw6 with ⟨h1, h2, h3⟩ | ⟨h1, h2⟩ | h1
      all_goals
        go_wp2_with fail
        go_ret
        exact ⟨rfl, hb.trans (hbr.mono hb.size)⟩

theorem walk (a0 : Option Addr) (len0 cap0 : Nat) (z0 : List Int) (a1 : Option Addr) (len1 cap1 : Nat) (z1 : List Int) (w : World) (w0 : IsRow .i64 w a0 len0 cap0 z0) (w1 : IsRow .i64 w a1 len1 cap1 z1) :
    Calls Try.prog 3 #[.slice a0 len0 cap0, .slice a1 len1 cap1] w fun e w' => e = .returned (.bool true) ∧ Below w.heap.size w w' := by
  by_cases hz : len0 = 0
  · exact core0 _ _ _ _ _ _ w (.inl hz)
  by_cases hz1 : len1 = 0
  · exact core0 _ _ _ _ _ _ w (.inr ⟨hz, hz1⟩)
  obtain ⟨hm0, ha0⟩ := row_of w0 (by omega)
  obtain ⟨hm1, ha1⟩ := row_of w1 (by omega)
  exact core a0 len0 cap0 a1 len1 cap1 w hm0 hm1 ha0 ha1

/-! ### THE ROW's STEP: WRITTEN OUT: LEAVE IT -/
set_option maxRecDepth 100000 in
theorem lifted (os : Os) (started : os.Started) (H : Type) (enc : TypeId × Value → H) :
    ReturnsInHanded {} Try.checked os 3 .any (Rows.guardApartSpec.pre6 enc Try.prog Try.f3 Rows.guardApartRow.domain false) (Rows.guardApartSpec.post enc Try.prog Try.f3 false true false false) := by
  refine returnsInHanded_of_change (C := Try.checked) own started (by kernel_rfl) Try.func3
    (ChangeSpec.witness6 (enc := enc) (C := Try.checked) false ⟨#[], #[.slice none 0 0, .slice none 0 0], []⟩ 8 (by kernel_rfl) (by kernel_rfl) (by kernel_rfl) (by kernel_rfl)) ?_
  intro W base args ds gs before hval0 hW hcnd _
  have hval : ∀ (j : Nat) t v, Try.f3.params[j]? = some t → args[j]? = some v → Value.okWide Try.prog W .any base t v := hval0
  have hW' := hW
  obtain ⟨p, q, hA0, hV, rfl, hfz, hnd⟩ := hW
  have hA : DataW.TrodAll enc Try.prog W 0 (fun _ => true) true Try.f3.params.toList args.toList ds p := hA0
  rw [Try.params3] at hA hval
  obtain ⟨v0, vs0, d0, ds0, p0, q0, hargs, rfl, rfl, h0, r0⟩ := trodAll_cons hA
  obtain ⟨v1, vs1, d1, ds1, p1, q1, rfl, rfl, rfl, h1, r1⟩ := trodAll_cons r0
  obtain ⟨rfl, rfl, rfl⟩ := trodAll_nil r1
  obtain rfl : args = #[v0, v1] := by cases args; simp_all
  obtain ⟨rfl, rfl⟩ := trodVars_none hV
  obtain ⟨a0, len0, cap0, rfl⟩ := okWide_slice Try.underlying22 (hval 0 22 v0 rfl rfl)
  have k0 := h0
  have lt0 : ∀ x ∈ p0, x.block < W.heap.size := by obtain ⟨m, hm⟩ := k0; exact DataW.trod_lt m _ _ _ hm
  obtain ⟨z0, w0⟩ : ∃ zs, IsRow .i64 W a0 len0 cap0 zs := by
    obtain ⟨fuel, hf⟩ := h0
    rcases open_ints Try.underlying22 Try.underlying3 (by kernel_rfl) hf with ⟨hcs, _⟩ | ⟨x, l, c, zs, hcs, _, hl, hm, hz, _, hcell, hwz⟩
    · simp [Value.cells] at hcs
      obtain ⟨rfl, rfl, rfl⟩ := hcs
      exact ⟨[], .inl ⟨rfl, rfl, rfl, rfl⟩⟩
    · simp [Value.cells] at hcs
      obtain ⟨rfl, rfl, rfl⟩ := hcs
      exact ⟨zs, .inr ⟨_, rfl, hl, hm, by simpa using hz, hcell, hwz⟩⟩
  obtain ⟨a1, len1, cap1, rfl⟩ := okWide_slice Try.underlying22 (hval 1 22 v1 rfl rfl)
  have k1 := h1
  have lt1 : ∀ x ∈ p1, x.block < W.heap.size := by obtain ⟨m, hm⟩ := k1; exact DataW.trod_lt m _ _ _ hm
  obtain ⟨z1, w1⟩ : ∃ zs, IsRow .i64 W a1 len1 cap1 zs := by
    obtain ⟨fuel, hf⟩ := h1
    rcases open_ints Try.underlying22 Try.underlying3 (by kernel_rfl) hf with ⟨hcs, _⟩ | ⟨x, l, c, zs, hcs, _, hl, hm, hz, _, hcell, hwz⟩
    · simp [Value.cells] at hcs
      obtain ⟨rfl, rfl, rfl⟩ := hcs
      exact ⟨[], .inl ⟨rfl, rfl, rfl, rfl⟩⟩
    · simp [Value.cells] at hcs
      obtain ⟨rfl, rfl, rfl⟩ := hcs
      exact ⟨zs, .inr ⟨_, rfl, hl, hm, by simpa using hz, hcell, hwz⟩⟩
  clear hA0 hval0
  refine (walk a0 len0 cap0 z0 a1 len1 cap1 z1 W w0 w1).mono fun e W' ⟨he, bel⟩ => ?_
  subst he
  exact ⟨_, rfl, _, _, _, [], _, [], hW', trodAll_mk1 (shut_bool Try.underlying4 _), (trodAll_cons_mk (Below.trod laidOut (by kernel_rfl) (of_decide_eq_true (by kernel_rfl)) k0 bel lt0) (trodAll_cons_mk (Below.trod laidOut (by kernel_rfl) (of_decide_eq_true (by kernel_rfl)) k1 bel lt1) trodAll_mk0)), rfl, bel.frame _, fun h => by cases h⟩

theorem over : Rows.guardApartRow.holds Try.pinned (OpenSpec.ofChange Rows.guardApartSpec) :=
  OpenClaim.holds_of_wide 3 Try.f3 rfl rfl rfl rfl rfl rfl rfl ⟨rfl, rfl, rfl, rfl, rfl⟩ rfl rfl rfl rfl rfl (by kernel_rfl) Try.func3 (by kernel_rfl)
    (of_decide_eq_true (by kernel_rfl)) (by unfold Func.isWrapper; first | (rw [if_pos (by decide +kernel)]; kernel_rfl) | (rw [if_neg (by decide +kernel)]; exact ⟨rfl, rfl⟩))
    (fun os started H enc _ => lifted os started H enc)

/-- ████ THE STATEMENT ████ -/
theorem proved : Rows.GuardApartSaid := over
#print axioms proved
end Go.Proofs.Ytlohcidapoicoaa.guardApart
