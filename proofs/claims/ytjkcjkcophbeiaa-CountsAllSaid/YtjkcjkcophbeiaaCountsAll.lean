/-
  CountsAll: for every two lists of numbers the law answers true: what was counted of each kind is there, and nothing else. No condition.
-/
import Derived.Test.YtjkcjkcophbeiaaAll
import Derived.Deep.RegionWith
import Derived.Deep.RegionHeld3
import Derived.Deep.WholeRow
import Derived.WalkKit
import Derived.ProofKit
import Derived.OpenShut
import Derived.ShutString
import Derived.ChangeOld
import Derived.Below
namespace Go.Proofs.Ytjkcjkcophbeiaa.countsAll
open Go.ChangeShapes Go.WideShapes Go.ChangeAt Go.RowKit
open Go.ChangeMaps (open_string shut_string)
set_option linter.unusedVariables false

theorem own : ownKnob Try.prog.godebug = none := by kernel_rfl
theorem laidOut : laidOutB Try.prog = true := by kernel_rfl

/-- WHAT THE WALK IS TOLD OF A SLICE OF INTEGERS THAT CAME IN: it is nil; or it leads to a row of 'cap' cells, the numbers 'zs' (the first 'len' are its elements, the rest its spare room), each fitting its kind. -/
def IsRow (k : IntKind) (w : World) (a : Option Addr) (len cap : Nat) (zs : List Int) : Prop :=
  (a = none ∧ len = 0 ∧ cap = 0 ∧ zs = []) ∨
  ∃ x, a = some x ∧ len ≤ cap ∧ cap ≤ maxLen ∧ zs.length = cap ∧ (∀ i, i < zs.length → w.cell? (x.add i) = some (.int k (zs.getD i 0))) ∧ ∀ n ∈ zs, (Lit.int k n).wf = true

/-! ### STEP 1: THE WALK: the Go text returns true, AND WRITES NOTHING THAT WAS THERE: 'Below w.heap.size w w'' (Derived/Below.lean: '.refl', '.alloc', '.drew', '.setCell' at a new block, '.trans'). Open each 'IsRow' by 'rcases' AHEAD of 'go_enter'; part every test ahead of the walk. -/
theorem row_of {k : IntKind} {w : World} {a : Option Addr} {len cap : Nat} {zs : List Int} (h : IsRow k w a len cap zs) (hpos : 0 < len) :
    ∃ b off, len ≤ 9223372036854775807 ∧ a = some ⟨b, off, none⟩ ∧ b < w.heap.size ∧ ∀ j, j < len → ∃ x : Int, w.cell? ⟨b, off + j, none⟩ = some (.int k x) := by
  rcases h with ⟨rfl, rfl, rfl, rfl⟩ | ⟨x, rfl, hl, hm, hz, hcell, hwz⟩
  · omega
  · unfold maxLen at hm
    obtain ⟨b, off, spot⟩ := x
    have hc := hcell 0 (by omega)
    have hspot : spot = none := by simpa [Addr.add] using World.cell?_spot hc
    subst hspot
    refine ⟨b, off, by omega, rfl, by simpa [Addr.add] using block_lt_of_cell hc, fun j hj => ?_⟩
    have hj' := hcell j (by omega)
    have hadd : (⟨b, off, none⟩ : Addr).add j = ⟨b, off + j, none⟩ := by unfold Addr.add; split <;> simp_all
    rw [hadd] at hj'
    exact ⟨_, hj'⟩
theorem sum_nn {l : List Int} (h : ∀ y ∈ l, 0 ≤ y) : 0 ≤ l.sum := by
  induction l with
  | nil => simp
  | cons x l ih =>
    have h1 := h x (by simp)
    have h2 := ih (fun y hy => h y (by simp [hy]))
    simp only [List.sum_cons]
    omega
theorem tot_go (l : List Int) : ∀ s : Int, 0 ≤ s → (∀ x ∈ l, 0 ≤ x) → s + l.sum ≤ 9223372036854775807 → l.foldl (fun s x => wrap64 (s + x)) s = s + l.sum := by
  induction l with
  | nil => intro s _ _ _; simp
  | cons x l ih =>
    intro s h0 hl hs
    have hx := hl x (by simp)
    have hs2 : 0 ≤ l.sum := sum_nn (fun y hy => hl y (by simp [hy]))
    simp only [List.sum_cons] at hs
    simp only [List.foldl_cons, List.sum_cons]
    rw [IntWalk.wrap64_in (s + x) ⟨by omega, by omega⟩, ih _ (by omega) (fun y hy => hl y (by simp [hy])) (by omega)]
    omega
theorem tot_sum (l : List Int) (h : ∀ x ∈ l, 0 ≤ x) (hs : l.sum ≤ 9223372036854775807) : tot l = l.sum := by
  have := tot_go l 0 (by omega) h (by omega)
  simpa [tot] using this
theorem zero_tot : tot [0, 0, 0, 0, 0, 0, 0, 0] = 0 := by decide +kernel
theorem sumR {b : Nat} {l : List Int} {w : World} (hC : Ct w b l) {r : Int} (hr : tot l = r) :
    Calls Try.prog 19 #[.pointer (some ⟨b, 0, none⟩)] w fun e w' => e = .returned (.int .i64 r) ∧ Below w.heap.size w w' := by
  subst hr
  exact sumC hC
theorem eight {l : List Int} (h : l.length = 8) : ∃ a b c d e f g i, l = [a, b, c, d, e, f, g, i] := by
  match l, h with
  | [a, b, c, d, e, f, g, i], _ => exact ⟨a, b, c, d, e, f, g, i, rfl⟩
theorem sum_set {l : List Int} (h8 : l.length = 8) {q : Nat} (hq : q < 8) {v : Int} (hv : l.getD q 0 = v) (n : Int) : (l.set q (v + n)).sum = l.sum + n := by
  have hql : q < l.length := by omega
  have e3 : l.getD q 0 = l[q] := by simp [hql]
  have e : l = l.take q ++ v :: l.drop (q + 1) := by
    rw [← hv, e3, ← List.drop_eq_getElem_cons hql, List.take_append_drop]
  have e2 : l.set q (v + n) = l.take q ++ (v + n) :: l.drop (q + 1) := by
    rw [List.set_eq_take_append_cons_drop, if_pos hql]
  rw [e2]
  conv => rhs; rw [e]
  simp only [List.sum_append, List.sum_cons]
  omega

set_option maxRecDepth 100000 in
set_option maxHeartbeats 1000000 in
theorem core (a0 : Option Addr) (len0 cap0 : Nat) (a1 : Option Addr) (len1 cap1 : Nat) (w : World) (hm : len0 ≤ 9223372036854775807) (hm1 : len1 ≤ 9223372036854775807)
    (h : ∃ b off c ofc, a0 = some ⟨b, off, none⟩ ∧ a1 = some ⟨c, ofc, none⟩ ∧ b < w.heap.size ∧ c < w.heap.size ∧ (∀ k, k < len0 → ∃ x : Int, w.cell? ⟨b, off + k, none⟩ = some (.int .i64 x)) ∧ (∀ k, k < len1 → ∃ x : Int, w.cell? ⟨c, ofc + k, none⟩ = some (.int .i64 x))) :
    Calls Try.prog 5 #[.slice a0 len0 cap0, .slice a1 len1 cap1] w fun e w' => e = .returned (.bool true) ∧ Below w.heap.size w w' := by
  obtain ⟨b, off, c, ofc, rfl, rfl, hbw, hcw, hc0, hc1⟩ := h
  go_enter Try.func5, Try.ntmps5
  go_wp2_with (first | (go_at_call 7; refine (awake_any _).mono ?_; rintro e w1 ⟨rfl, hb⟩) | (go_at_call 11; refine (new_any _).mono ?_; rintro e w2 ⟨rfl, hC, hb2⟩))
  go_loopw [8, 9] (fun s i wr => ∃ (k : Nat) (l : List Int) (t : Int), k ≤ 60 ∧ k ≤ len0 ∧ k ≤ len1 ∧ i = .int .i64 k ∧ s = .int .i64 t ∧ Hid (l.sum = t) ∧ Ct wr w1.heap.size l ∧ Ct wr w2.heap.size l ∧ Hid (∀ x ∈ l, 0 ≤ x ∧ x ≤ 1999 * k) ∧ 0 ≤ t ∧ t ≤ 1999 * k ∧ Below w1.heap.size w1 wr) (fun _ i _ => 60 - (intOf i).toNat)
  case atStart => exact ⟨0, [0, 0, 0, 0, 0, 0, 0, 0], 0, by omega, by omega, by omega, rfl, rfl, rfl, (hC.keep (Below.heap_alloc _ _ _ hC.lt)), ⟨_, heap_alloc_new _ _, rfl⟩, by intro x hx; simp at hx; omega, by decide, by decide, hb2.alloc (Nat.le_of_lt hC.lt) _⟩
  case round =>
    obtain ⟨k, l, t, hk60, hk0, hk1, rfl, rfl, HT, hCr, hN, hbd, hs0, hs1, hbr⟩ := hrel
    by_cases hgo : k < len0 ∧ k < len1 ∧ k < 60
    · obtain ⟨hlt0, hlt1, h60⟩ := hgo
      obtain ⟨x, hx⟩ := hc0 k hlt0
      obtain ⟨y, hy⟩ := hc1 k hlt1
      have hsz := hb.size
      have hxr : wr.cell? ⟨b, off + k, none⟩ = some (.int .i64 x) := by
        rw [hbr.cell (p := ⟨b, off + k, none⟩) (by simp; omega), hb.cell (p := ⟨b, off + k, none⟩) (by simpa using hbw)]; exact hx
      have hyr : wr.cell? ⟨c, ofc + k, none⟩ = some (.int .i64 y) := by
        rw [hbr.cell (p := ⟨c, ofc + k, none⟩) (by simp; omega), hb.cell (p := ⟨c, ofc + k, none⟩) (by simpa using hcw)]; exact hy
      clear hc0 hc1 hx hy
      obtain ⟨q, hq, hand⟩ := and7 x
      have hq0 : (0 : Int) ≤ (q : Int) := by omega
      have hq8 : (q : Int) < (8 : Int) := by omega
      have hr0 : -1000 < y.tmod 1000 := by obtain ⟨_, rfl, h0, _⟩ := tmod_in y 1000 (by omega); exact h0
      have hr1 : y.tmod 1000 < 1000 := by obtain ⟨_, rfl, _, h1⟩ := tmod_in y 1000 (by omega); exact h1
      have hcq := hN.cell hq
      have hfq := hN.free q
      have hmem : l.getD q 0 ∈ l := by
        have hql : q < l.length := by have := hN.len; omega
        have e3 : l.getD q 0 = l[q] := by simp [hql]
        rw [e3]; exact List.getElem_mem hql
      obtain ⟨hv0, hv1⟩ := hbd.out _ hmem
      clear hmem
      obtain ⟨v, hv⟩ : ∃ v, l.getD q 0 = v := ⟨_, rfl⟩
      rw [hv] at hcq hv0 hv1
      have HV := Lib.hid hv
      clear hv
      go_wp2_with fail
      have hne : w1.heap.size ≠ w2.heap.size := Nat.ne_of_lt hC.lt
      have hCr2 : Ct (wr.setCell ⟨w2.heap.size, q, none⟩ (.int .i64 (v + (y.tmod 1000 + 1000)))) w1.heap.size l := hCr.keep (heap_setCell_other _ _ _ _ hne)
      have hN2 := hN.set q (v + (y.tmod 1000 + 1000))
      have hS := hN2.cell hq
      have hsetq : (l.set q (v + (y.tmod 1000 + 1000))).getD q 0 = v + (y.tmod 1000 + 1000) := by
        have hql : q < l.length := by have := hN.len; omega
        simp [hql]
      rw [hsetq] at hS
      have HS := Lib.hid hsetq
      have hsum : (l.set q (v + (y.tmod 1000 + 1000))).sum = t + (y.tmod 1000 + 1000) := by rw [← HT.out]; exact sum_set hN.len hq HV.out _
      have HM := Lib.hid hsum
      have hbr2 : Below w1.heap.size w1 (wr.setCell ⟨w2.heap.size, q, none⟩ (.int .i64 (v + (y.tmod 1000 + 1000)))) := hbr.setCell (Nat.le_of_lt hC.lt) _
      have HNE := Lib.hid hne
      have hwr : wrap64 (l.getD ((q : Int)).toNat 0 + (y.tmod 1000 + 1000)) = v + (y.tmod 1000 + 1000) := by
        rw [Int.toNat_natCast, HV.out, IntWalk.wrap64_in _ ⟨by omega, by omega⟩]
      have HW := Lib.hid hwr
      clear hsetq hsum hne hwr hCr hN hcq hfq hxr hyr
      generalize wr.setCell ⟨w2.heap.size, q, none⟩ (.int .i64 (v + (y.tmod 1000 + 1000))) = wq at *
      go_region_held3 (fun x => x.cell? ⟨w2.heap.size, q, none⟩ = some (.int .i64 (v + (y.tmod 1000 + 1000)))) (first | assumption | exact World.grownBy.cell hg3 ‹_› (fun e => HNE.out (Option.some.inj e).symm)) (first | (go_at_call 16; refine (addR (l := l) ?_ _ _ (by omega) (by omega) _ HW.out).mono ?_; exact hCr2; rintro e w3 ⟨rfl, hC3, hg3⟩) | (go_at_call 9; refine (getR hC3 (q : Int) (by omega) (by omega) (v + (y.tmod 1000 + 1000)) HS.out).mono ?_; rintro e w4 ⟨rfl, rfl⟩))
      all_goals
        go_wp2_with fail
        go_roundw
        case rel =>
          refine ⟨k + 1, l.set q (v + (y.tmod 1000 + 1000)), t + (y.tmod 1000 + 1000), by omega, by omega, by omega, by go_num, rfl, HM.out, hC3, hN2.keep (hg3.block _ hN2.lt (fun e => HNE.out (Option.some.inj e).symm)), ?_, by omega, by omega, below_of hbr2.drew hg3 hCr2.lt⟩
          show ∀ x ∈ _, _
          intro x hx
          rcases List.mem_or_eq_of_mem_set hx with hx | rfl
          · have := hbd.out x hx; omega
          · omega
        case measure => simp [intOf]; omega
    · have hsum : Hid (tot l = t) := by show tot l = t; rw [← HT.out]; exact tot_sum l (fun x hx => (hbd.out x hx).1) (by rw [HT.out]; omega)
      have hlen := hCr.len
      have HL := Lib.hid hlen
      clear hlen
      have hoc : ((l.map (Value.int .i64)).toArray.all (·.oneCell')) = true := by simp [Value.oneCell']
      have heq := fun w => run_equalIn_arr (P := Try.prog) 9998 8 39 2 .i64 Try.underlying39 Try.underlying2 rfl l HL.out w
      have hw6 : k < len0 ∧ k < len1 ∧ ¬ k < 60 ∨ k < len0 ∧ ¬ k < len1 ∨ ¬ k < len0 := by omega
      clear hgo hbd hc0 hc1
      rcases hw6 with ⟨h1, h2, h3⟩ | ⟨h1, h2⟩ | h1
      all_goals
        go_wp2_with fail
        refine (allC hCr).mono ?_
        rintro e w3 ⟨rfl, hb3⟩
        go_wp2_with (refine wpList_store_row rfl 39 _ _ rfl _ _ rfl rfl 39 _ (heap_alloc_new _ _) ?_ ?_ hoc ?_; (show some 8 = _; simp [HL.out]); (simp [HL.out]); rw [World.setRow_alloc_new])
        refine (sumR ?_ hsum.out).mono ?_
        · exact hCr.keep ((Below.heap_alloc _ _ _ (Nat.lt_of_lt_of_le hCr.lt hb3.size)).trans (hb3.block _ hCr.lt))
        rintro e w4 ⟨rfl, hb4⟩
        have hC4 : Ct w4 w1.heap.size l := hCr.keep ((hb4.block _ (by simp; have := hCr.lt; have := hb3.size; omega)).trans ((Below.heap_alloc _ _ _ (Nat.lt_of_lt_of_le hCr.lt hb3.size)).trans (hb3.block _ hCr.lt)))
        have hN4 : Ct w4 w2.heap.size l := hN.keep ((hb4.block _ (by simp; have := hN.lt; have := hb3.size; omega)).trans ((Below.heap_alloc _ _ _ (Nat.lt_of_lt_of_le hN.lt hb3.size)).trans (hb3.block _ hN.lt)))
        have hA4 : Ct w4 w3.heap.size l := ⟨39, (hb4.block _ (by simp)).trans (heap_alloc_new _ _), hN.len⟩
        have hbb : Below w1.heap.size w1 w4 := hbr.trans ((hb3.mono (Nat.le_of_lt hCr.lt)).trans (((Below.refl _ _).alloc (by have := hCr.lt; have := hb3.size; omega) _).trans (hb4.mono (by simp; have := hCr.lt; have := hb3.size; omega))))
        have hlt3 : w1.heap.size ≠ w3.heap.size := by have := hCr.lt; have := hb3.size; omega
        have hne : w1.heap.size ≠ w2.heap.size := Nat.ne_of_lt hC.lt
        clear hb4 hb3 hCr hN
        go_wp2_with fail
        refine (resetC hC4).mono ?_
        rintro e w5 ⟨rfl, hC5, hg5⟩
        have hN5 : Ct w5 w2.heap.size l := hN4.keep (hg5.block _ hN4.lt (fun e => hne (Option.some.inj e).symm))
        have hA5 : Ct w5 w3.heap.size l := hA4.keep (hg5.block _ hA4.lt (fun e => hlt3 (Option.some.inj e).symm))
        have hb5 := below_of hbb hg5 hC4.lt
        obtain ⟨x0, x1, x2, x3, x4, x5, x6, x7, rfl⟩ := eight HL.out
        have heq8 : ∀ w, (Op.equalIn 10000 39 (.agg #[.int .i64 x0, .int .i64 x1, .int .i64 x2, .int .i64 x3, .int .i64 x4, .int .i64 x5, .int .i64 x6, .int .i64 x7]) (.agg #[.int .i64 x0, .int .i64 x1, .int .i64 x2, .int .i64 x3, .int .i64 x4, .int .i64 x5, .int .i64 x6, .int .i64 x7])).run Try.prog w = .ok true w := fun w => heq w
        clear heq
        have cN0 : w5.cell? ⟨w2.heap.size, 0, none⟩ = some (.int .i64 x0) := hN5.cell (k := 0) (by omega)
        have cN1 : w5.cell? ⟨w2.heap.size, 1, none⟩ = some (.int .i64 x1) := hN5.cell (k := 1) (by omega)
        have cN2 : w5.cell? ⟨w2.heap.size, 2, none⟩ = some (.int .i64 x2) := hN5.cell (k := 2) (by omega)
        have cN3 : w5.cell? ⟨w2.heap.size, 3, none⟩ = some (.int .i64 x3) := hN5.cell (k := 3) (by omega)
        have cN4 : w5.cell? ⟨w2.heap.size, 4, none⟩ = some (.int .i64 x4) := hN5.cell (k := 4) (by omega)
        have cN5 : w5.cell? ⟨w2.heap.size, 5, none⟩ = some (.int .i64 x5) := hN5.cell (k := 5) (by omega)
        have cN6 : w5.cell? ⟨w2.heap.size, 6, none⟩ = some (.int .i64 x6) := hN5.cell (k := 6) (by omega)
        have cN7 : w5.cell? ⟨w2.heap.size, 7, none⟩ = some (.int .i64 x7) := hN5.cell (k := 7) (by omega)
        have cA0 : w5.cell? ⟨w3.heap.size, 0, none⟩ = some (.int .i64 x0) := hA5.cell (k := 0) (by omega)
        have cA1 : w5.cell? ⟨w3.heap.size, 1, none⟩ = some (.int .i64 x1) := hA5.cell (k := 1) (by omega)
        have cA2 : w5.cell? ⟨w3.heap.size, 2, none⟩ = some (.int .i64 x2) := hA5.cell (k := 2) (by omega)
        have cA3 : w5.cell? ⟨w3.heap.size, 3, none⟩ = some (.int .i64 x3) := hA5.cell (k := 3) (by omega)
        have cA4 : w5.cell? ⟨w3.heap.size, 4, none⟩ = some (.int .i64 x4) := hA5.cell (k := 4) (by omega)
        have cA5 : w5.cell? ⟨w3.heap.size, 5, none⟩ = some (.int .i64 x5) := hA5.cell (k := 5) (by omega)
        have cA6 : w5.cell? ⟨w3.heap.size, 6, none⟩ = some (.int .i64 x6) := hA5.cell (k := 6) (by omega)
        have cA7 : w5.cell? ⟨w3.heap.size, 7, none⟩ = some (.int .i64 x7) := hA5.cell (k := 7) (by omega)
        clear hbb hg5 hC4 hN4 hA4 hlt3 hne
        go_wp2_with fail
        refine (sumR hC5 zero_tot).mono ?_
        rintro e w6 ⟨rfl, hb6⟩
        go_wp2_with fail
        go_ret
        exact ⟨rfl, (hb.mono (Nat.le_refl _)).trans ((hb5.trans (hb6.mono (Nat.le_of_lt hC5.lt))).mono hb.size)⟩

set_option maxRecDepth 100000 in
set_option maxHeartbeats 1000000 in
theorem core0 (a0 : Option Addr) (len0 cap0 : Nat) (a1 : Option Addr) (len1 cap1 : Nat) (w : World) (h : len0 = 0 ∨ len0 ≠ 0 ∧ len1 = 0) :
    Calls Try.prog 5 #[.slice a0 len0 cap0, .slice a1 len1 cap1] w fun e w' => e = .returned (.bool true) ∧ Below w.heap.size w w' := by
  rcases h with rfl | ⟨h0, rfl⟩
  all_goals
    go_enter Try.func5, Try.ntmps5
    go_wp2_with (first | (go_at_call 7; refine (awake_any _).mono ?_; rintro e w1 ⟨rfl, hb⟩) | (go_at_call 11; refine (new_any _).mono ?_; rintro e w2 ⟨rfl, hC, hb2⟩))
    obtain ⟨l, hl0⟩ : ∃ l : List Int, l = [0, 0, 0, 0, 0, 0, 0, 0] := ⟨_, rfl⟩
    have hN : Ct (w2.alloc (.cells #[.int .i64 0, .int .i64 0, .int .i64 0, .int .i64 0, .int .i64 0, .int .i64 0, .int .i64 0, .int .i64 0] 39)) w2.heap.size l := by rw [hl0]; exact ⟨_, heap_alloc_new _ _, rfl⟩
    have hCr : Ct (w2.alloc (.cells #[.int .i64 0, .int .i64 0, .int .i64 0, .int .i64 0, .int .i64 0, .int .i64 0, .int .i64 0, .int .i64 0] 39)) w1.heap.size l := by rw [hl0]; exact hC.keep (Below.heap_alloc _ _ _ hC.lt)
    have hbr : Below w1.heap.size w1 (w2.alloc (.cells #[.int .i64 0, .int .i64 0, .int .i64 0, .int .i64 0, .int .i64 0, .int .i64 0, .int .i64 0, .int .i64 0] 39)) := hb2.alloc (Nat.le_of_lt hC.lt) _
    have hsum : Hid (tot l = 0) := by rw [hl0]; exact zero_tot
    clear hl0
    have hlen := hCr.len
    have HL := Lib.hid hlen
    clear hlen
    have hoc : ((l.map (Value.int .i64)).toArray.all (·.oneCell')) = true := by simp [Value.oneCell']
    have heq := fun w => run_equalIn_arr (P := Try.prog) 9998 8 39 2 .i64 Try.underlying39 Try.underlying2 rfl l HL.out w
    refine wp_loop_rounds 1 ?_
    rw [rounds_succ]
    go_wp2_with fail
    refine (allC hCr).mono ?_
    rintro e w3 ⟨rfl, hb3⟩
    go_wp2_with (refine wpList_store_row rfl 39 _ _ rfl _ _ rfl rfl 39 _ (heap_alloc_new _ _) ?_ ?_ hoc ?_; (show some 8 = _; simp [HL.out]); (simp [HL.out]); rw [World.setRow_alloc_new])
    refine (sumR ?_ hsum.out).mono ?_
    · exact hCr.keep ((Below.heap_alloc _ _ _ (Nat.lt_of_lt_of_le hCr.lt hb3.size)).trans (hb3.block _ hCr.lt))
    rintro e w4 ⟨rfl, hb4⟩
    have hC4 : Ct w4 w1.heap.size l := hCr.keep ((hb4.block _ (by simp; have := hCr.lt; have := hb3.size; omega)).trans ((Below.heap_alloc _ _ _ (Nat.lt_of_lt_of_le hCr.lt hb3.size)).trans (hb3.block _ hCr.lt)))
    have hN4 : Ct w4 w2.heap.size l := hN.keep ((hb4.block _ (by simp; have := hN.lt; have := hb3.size; omega)).trans ((Below.heap_alloc _ _ _ (Nat.lt_of_lt_of_le hN.lt hb3.size)).trans (hb3.block _ hN.lt)))
    have hA4 : Ct w4 w3.heap.size l := ⟨39, (hb4.block _ (by simp)).trans (heap_alloc_new _ _), hN.len⟩
    have hbb : Below w1.heap.size w1 w4 := hbr.trans ((hb3.mono (Nat.le_of_lt hCr.lt)).trans (((Below.refl _ _).alloc (by have := hCr.lt; have := hb3.size; omega) _).trans (hb4.mono (by simp; have := hCr.lt; have := hb3.size; omega))))
    have hlt3 : w1.heap.size ≠ w3.heap.size := by have := hCr.lt; have := hb3.size; omega
    have hne : w1.heap.size ≠ w2.heap.size := Nat.ne_of_lt hC.lt
    clear hb4 hb3 hCr hN
    go_wp2_with fail
    refine (resetC hC4).mono ?_
    rintro e w5 ⟨rfl, hC5, hg5⟩
    have hN5 : Ct w5 w2.heap.size l := hN4.keep (hg5.block _ hN4.lt (fun e => hne (Option.some.inj e).symm))
    have hA5 : Ct w5 w3.heap.size l := hA4.keep (hg5.block _ hA4.lt (fun e => hlt3 (Option.some.inj e).symm))
    have hb5 := below_of hbb hg5 hC4.lt
    obtain ⟨x0, x1, x2, x3, x4, x5, x6, x7, rfl⟩ := eight HL.out
    have heq8 : ∀ w, (Op.equalIn 10000 39 (.agg #[.int .i64 x0, .int .i64 x1, .int .i64 x2, .int .i64 x3, .int .i64 x4, .int .i64 x5, .int .i64 x6, .int .i64 x7]) (.agg #[.int .i64 x0, .int .i64 x1, .int .i64 x2, .int .i64 x3, .int .i64 x4, .int .i64 x5, .int .i64 x6, .int .i64 x7])).run Try.prog w = .ok true w := fun w => heq w
    clear heq
    have cN0 : w5.cell? ⟨w2.heap.size, 0, none⟩ = some (.int .i64 x0) := hN5.cell (k := 0) (by omega)
    have cN1 : w5.cell? ⟨w2.heap.size, 1, none⟩ = some (.int .i64 x1) := hN5.cell (k := 1) (by omega)
    have cN2 : w5.cell? ⟨w2.heap.size, 2, none⟩ = some (.int .i64 x2) := hN5.cell (k := 2) (by omega)
    have cN3 : w5.cell? ⟨w2.heap.size, 3, none⟩ = some (.int .i64 x3) := hN5.cell (k := 3) (by omega)
    have cN4 : w5.cell? ⟨w2.heap.size, 4, none⟩ = some (.int .i64 x4) := hN5.cell (k := 4) (by omega)
    have cN5 : w5.cell? ⟨w2.heap.size, 5, none⟩ = some (.int .i64 x5) := hN5.cell (k := 5) (by omega)
    have cN6 : w5.cell? ⟨w2.heap.size, 6, none⟩ = some (.int .i64 x6) := hN5.cell (k := 6) (by omega)
    have cN7 : w5.cell? ⟨w2.heap.size, 7, none⟩ = some (.int .i64 x7) := hN5.cell (k := 7) (by omega)
    have cA0 : w5.cell? ⟨w3.heap.size, 0, none⟩ = some (.int .i64 x0) := hA5.cell (k := 0) (by omega)
    have cA1 : w5.cell? ⟨w3.heap.size, 1, none⟩ = some (.int .i64 x1) := hA5.cell (k := 1) (by omega)
    have cA2 : w5.cell? ⟨w3.heap.size, 2, none⟩ = some (.int .i64 x2) := hA5.cell (k := 2) (by omega)
    have cA3 : w5.cell? ⟨w3.heap.size, 3, none⟩ = some (.int .i64 x3) := hA5.cell (k := 3) (by omega)
    have cA4 : w5.cell? ⟨w3.heap.size, 4, none⟩ = some (.int .i64 x4) := hA5.cell (k := 4) (by omega)
    have cA5 : w5.cell? ⟨w3.heap.size, 5, none⟩ = some (.int .i64 x5) := hA5.cell (k := 5) (by omega)
    have cA6 : w5.cell? ⟨w3.heap.size, 6, none⟩ = some (.int .i64 x6) := hA5.cell (k := 6) (by omega)
    have cA7 : w5.cell? ⟨w3.heap.size, 7, none⟩ = some (.int .i64 x7) := hA5.cell (k := 7) (by omega)
    clear hbb hg5 hC4 hN4 hA4 hlt3 hne
    go_wp2_with fail
    refine (sumR hC5 zero_tot).mono ?_
    rintro e w6 ⟨rfl, hb6⟩
    go_wp2_with fail
    go_ret
    exact ⟨rfl, (hb.mono (Nat.le_refl _)).trans ((hb5.trans (hb6.mono (Nat.le_of_lt hC5.lt))).mono hb.size)⟩

theorem walk (a0 : Option Addr) (len0 cap0 : Nat) (z0 : List Int) (a1 : Option Addr) (len1 cap1 : Nat) (z1 : List Int) (w : World) (w0 : IsRow .i64 w a0 len0 cap0 z0) (w1 : IsRow .i64 w a1 len1 cap1 z1) :
    Calls Try.prog 5 #[.slice a0 len0 cap0, .slice a1 len1 cap1] w fun e w' => e = .returned (.bool true) ∧ Below w.heap.size w w' := by
  by_cases hz : len0 = 0
  · exact core0 _ _ _ _ _ _ w (.inl hz)
  by_cases hz1 : len1 = 0
  · exact core0 _ _ _ _ _ _ w (.inr ⟨hz, hz1⟩)
  obtain ⟨b, off, hm0, ha0, hb0, hc0⟩ := row_of w0 (by omega)
  obtain ⟨c, ofc, hm1, ha1, hb1, hc1⟩ := row_of w1 (by omega)
  exact core a0 len0 cap0 a1 len1 cap1 w hm0 hm1 ⟨b, off, c, ofc, ha0, ha1, hb0, hb1, hc0, hc1⟩

/-! ### THE ROW's STEP: WRITTEN OUT: LEAVE IT -/
set_option maxRecDepth 100000 in
theorem lifted (os : Os) (started : os.Started) (H : Type) (enc : TypeId × Value → H) :
    ReturnsInHanded {} Try.checked os 5 .any (Rows.countsAllSpec.pre6 enc Try.prog Try.f5 Rows.countsAllRow.domain false) (Rows.countsAllSpec.post enc Try.prog Try.f5 false true false false) := by
  refine returnsInHanded_of_change (C := Try.checked) own started (by kernel_rfl) Try.func5
    (ChangeSpec.witness6 (enc := enc) (C := Try.checked) false ⟨#[], #[.slice none 0 0, .slice none 0 0], []⟩ 8 (by kernel_rfl) (by kernel_rfl) (by kernel_rfl) (by kernel_rfl)) ?_
  intro W base args ds gs before hval0 hW hcnd _
  have hval : ∀ (j : Nat) t v, Try.f5.params[j]? = some t → args[j]? = some v → Value.okWide Try.prog W .any base t v := hval0
  have hW' := hW
  obtain ⟨p, q, hA0, hV, rfl, hfz, hnd⟩ := hW
  have hA : DataW.TrodAll enc Try.prog W 0 (fun _ => true) true Try.f5.params.toList args.toList ds p := hA0
  rw [Try.params5] at hA hval
  obtain ⟨v0, vs0, d0, ds0, p0, q0, hargs, rfl, rfl, h0, r0⟩ := trodAll_cons hA
  obtain ⟨v1, vs1, d1, ds1, p1, q1, rfl, rfl, rfl, h1, r1⟩ := trodAll_cons r0
  obtain ⟨rfl, rfl, rfl⟩ := trodAll_nil r1
  obtain rfl : args = #[v0, v1] := by cases args; simp_all
  obtain ⟨rfl, rfl⟩ := trodVars_none hV
  obtain ⟨a0, len0, cap0, rfl⟩ := okWide_slice Try.underlying47 (hval 0 47 v0 rfl rfl)
  have k0 := h0
  have lt0 : ∀ x ∈ p0, x.block < W.heap.size := by obtain ⟨m, hm⟩ := k0; exact DataW.trod_lt m _ _ _ hm
  obtain ⟨z0, w0⟩ : ∃ zs, IsRow .i64 W a0 len0 cap0 zs := by
    obtain ⟨fuel, hf⟩ := h0
    rcases open_ints Try.underlying47 Try.underlying3 (by kernel_rfl) hf with ⟨hcs, _⟩ | ⟨x, l, c, zs, hcs, _, hl, hm, hz, _, hcell, hwz⟩
    · simp [Value.cells] at hcs
      obtain ⟨rfl, rfl, rfl⟩ := hcs
      exact ⟨[], .inl ⟨rfl, rfl, rfl, rfl⟩⟩
    · simp [Value.cells] at hcs
      obtain ⟨rfl, rfl, rfl⟩ := hcs
      exact ⟨zs, .inr ⟨_, rfl, hl, hm, by simpa using hz, hcell, hwz⟩⟩
  obtain ⟨a1, len1, cap1, rfl⟩ := okWide_slice Try.underlying47 (hval 1 47 v1 rfl rfl)
  have k1 := h1
  have lt1 : ∀ x ∈ p1, x.block < W.heap.size := by obtain ⟨m, hm⟩ := k1; exact DataW.trod_lt m _ _ _ hm
  obtain ⟨z1, w1⟩ : ∃ zs, IsRow .i64 W a1 len1 cap1 zs := by
    obtain ⟨fuel, hf⟩ := h1
    rcases open_ints Try.underlying47 Try.underlying3 (by kernel_rfl) hf with ⟨hcs, _⟩ | ⟨x, l, c, zs, hcs, _, hl, hm, hz, _, hcell, hwz⟩
    · simp [Value.cells] at hcs
      obtain ⟨rfl, rfl, rfl⟩ := hcs
      exact ⟨[], .inl ⟨rfl, rfl, rfl, rfl⟩⟩
    · simp [Value.cells] at hcs
      obtain ⟨rfl, rfl, rfl⟩ := hcs
      exact ⟨zs, .inr ⟨_, rfl, hl, hm, by simpa using hz, hcell, hwz⟩⟩
  clear hA0 hval0
  refine (walk a0 len0 cap0 z0 a1 len1 cap1 z1 W w0 w1).mono fun e W' ⟨he, bel⟩ => ?_
  subst he
  exact ⟨_, rfl, _, _, _, [], _, [], hW', trodAll_mk1 (shut_bool Try.underlying4 _), (trodAll_cons_mk (Below.trod laidOut (by kernel_rfl) (of_decide_eq_true (by kernel_rfl)) k0 bel lt0) (trodAll_cons_mk (Below.trod laidOut (by kernel_rfl) (of_decide_eq_true (by kernel_rfl)) k1 bel lt1) trodAll_mk0)), rfl, bel.frame _, fun h => by cases h⟩

theorem over : Rows.countsAllRow.holds Try.pinned (OpenSpec.ofChange Rows.countsAllSpec) :=
  OpenClaim.holds_of_wide 5 Try.f5 rfl rfl rfl rfl rfl rfl rfl ⟨rfl, rfl, rfl, rfl, rfl⟩ rfl rfl rfl rfl rfl (by kernel_rfl) Try.func5 (by kernel_rfl)
    (of_decide_eq_true (by kernel_rfl)) (by unfold Func.isWrapper; first | (rw [if_pos (by decide +kernel)]; kernel_rfl) | (rw [if_neg (by decide +kernel)]; exact ⟨rfl, rfl⟩))
    (fun os started H enc _ => lifted os started H enc)

/-- ████ THE STATEMENT ████ -/
theorem proved : Rows.CountsAllSaid := over
#print axioms proved
end Go.Proofs.Ytjkcjkcophbeiaa.countsAll
