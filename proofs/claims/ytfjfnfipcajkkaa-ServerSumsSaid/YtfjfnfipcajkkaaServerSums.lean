/-
  ServerSums: for every two lists of numbers the law answers true: what was asked waits, or was taken; no take is more than it may be, or than waits. No condition.
-/
import Derived.Test.YtfjfnfipcajkkaaMask
import Derived.WalkKit
import Derived.ProofKit
import Derived.OpenShut
import Derived.ShutString
import Derived.ChangeOld
import Derived.Below
namespace Go.Proofs.Ytfjfnfipcajkkaa.serverSums
open Go.ChangeShapes Go.WideShapes Go.ChangeAt Go.RowKit
open Go.ChangeMaps (open_string shut_string)
set_option linter.unusedVariables false

theorem own : ownKnob Try.prog.godebug = none := by kernel_rfl
theorem laidOut : laidOutB Try.prog = true := by kernel_rfl

/-- WHAT THE WALK IS TOLD OF A SLICE OF INTEGERS THAT CAME IN: it is nil; or it leads to a row of 'cap' cells, the numbers 'zs' (the first 'len' are its elements, the rest its spare room), each fitting its kind. -/
def IsRow (k : IntKind) (w : World) (a : Option Addr) (len cap : Nat) (zs : List Int) : Prop :=
  (a = none ∧ len = 0 ∧ cap = 0 ∧ zs = []) ∨
  ∃ x, a = some x ∧ len ≤ cap ∧ cap ≤ maxLen ∧ zs.length = cap ∧ (∀ i, i < zs.length → w.cell? (x.add i) = some (.int k (zs.getD i 0))) ∧ ∀ n ∈ zs, (Lit.int k n).wf = true

/-! ### STEP 1: THE WALK: the Go text returns true, AND WRITES NOTHING THAT WAS THERE: 'Below w.heap.size w w'' (Derived/Below.lean: '.refl', '.alloc', '.drew', '.setCell' at a new block, '.trans'). Open each 'IsRow' by 'rcases' AHEAD of 'go_enter'; part every test ahead of the walk. -/
theorem row_of {w : World} {a : Option Addr} {len cap : Nat} {zs : List Int} (h : IsRow .i64 w a len cap zs) (hpos : 0 < len) : len ≤ 9223372036854775807 ∧ Has w a len := by
  rcases h with ⟨rfl, rfl, rfl, rfl⟩ | ⟨x, rfl, hl, hm, hz, hcell, hwz⟩
  · omega
  · unfold maxLen at hm
    obtain ⟨b, off, spot⟩ := x
    have hc := hcell 0 (by omega)
    have hspot : spot = none := by simpa [Addr.add] using World.cell?_spot hc
    subst hspot
    refine ⟨by omega, b, off, rfl, by simpa [Addr.add] using block_lt_of_cell hc, fun j hj => ?_⟩
    have hj' := hcell j (by omega)
    have hadd : (⟨b, off, none⟩ : Addr).add j = ⟨b, off + j, none⟩ := by unfold Addr.add; split <;> simp_all
    rw [hadd] at hj'
    refine ⟨_, hj', hwz _ ?_⟩
    have e : zs.getD j 0 = zs[j]'(by omega) := by simp [show j < zs.length by omega]
    rw [e]; exact List.getElem_mem _

/-- No round is gone. -/
theorem core0 (a0 : Option Addr) (len0 cap0 : Nat) (a1 : Option Addr) (len1 cap1 : Nat) (w : World) (h : len0 = 0 ∨ len0 ≠ 0 ∧ len1 = 0) :
    Calls Try.prog 3 #[.slice a0 len0 cap0, .slice a1 len1 cap1] w fun e w' => e = .returned (.bool true) ∧ Below w.heap.size w w' := by
  rcases h with rfl | ⟨h0, rfl⟩
  all_goals
    go_enter Try.func3, Try.ntmps3
    go_wp2_with (first | (go_at_call 6; refine (awake_any _).mono ?_; rintro e w1 ⟨rfl, hb⟩) | (go_at_call 7; refine (newV _).mono ?_; rintro e w2 ⟨rfl, hP, hb2⟩))
    refine wp_loop_rounds 1 ?_
    rw [rounds_succ]
    go_wp2_with fail
    refine (dropV hP 5 (by decide) 0 rfl).mono ?_
    rintro e w3 ⟨rfl, hP3, hT3⟩
    have hb3 := Turn.to hb2 hT3 (by have := hP.lt; omega) (two_le (Nat.le_refl _) (Nat.le_succ _))
    clear hT3
    go_wp2_with fail
    refine (backV hP3 5 (by decide) 0 (upd_same _ _ _)).mono ?_
    rintro e w4 ⟨rfl, rfl⟩
    go_wp2_with fail
    refine (takenV hP3 5 (by decide) 0 (upd_same _ _ _)).mono ?_
    rintro e w4 ⟨rfl, rfl⟩
    go_wp2_with fail
    go_ret
    exact ⟨rfl, hb.trans (hb3.mono hb.size)⟩

set_option maxRecDepth 100000 in
set_option maxHeartbeats 1600000 in
theorem core (a0 : Option Addr) (len0 cap0 : Nat) (a1 : Option Addr) (len1 cap1 : Nat) (w : World) (hm : len0 ≤ 9223372036854775807) (hm1 : len1 ≤ 9223372036854775807) (h0 : Has w a0 len0) (h1 : Has w a1 len1) :
    Calls Try.prog 3 #[.slice a0 len0 cap0, .slice a1 len1 cap1] w fun e w' => e = .returned (.bool true) ∧ Below w.heap.size w w' := by
  obtain ⟨b, off, rfl, hbw, hc0⟩ := h0
  obtain ⟨c, ofc, rfl, hcw, hc1⟩ := h1
  go_enter Try.func3, Try.ntmps3
  go_wp2_with (first | (go_at_call 6; refine (awake_any _).mono ?_; rintro e w1 ⟨rfl, hb⟩) | (go_at_call 7; refine (newV _).mono ?_; rintro e w2 ⟨rfl, hP, hb2⟩))
  go_loopw [7, 8, 9] (fun sa st i wr => ∃ (k : Nat) (asked took : Int) (f t : Int → Int) (n : Nat), k ≤ 40 ∧ k ≤ len0 ∧ k ≤ len1 ∧ n ≤ 2 * k ∧ i = .int .i64 k ∧ sa = .int .i64 asked ∧ st = .int .i64 took ∧ 0 ≤ took ∧ took ≤ asked ∧ asked ≤ 1024 * k ∧ Pv wr (w1.heap.size + 2) w1.heap.size (w1.heap.size + 1) n f t ∧ Hid (f 5 = asked - took) ∧ Hid (f 6 = 0) ∧ Hid (t 5 = took) ∧ Below w1.heap.size w1 wr) (fun _ _ i _ => 40 - (intOf i).toNat)
  case atStart => exact ⟨0, 0, 0, fun _ => 0, fun _ => 0, 0, by omega, by omega, by omega, by omega, rfl, rfl, rfl, by omega, by omega, by omega, hP, rfl, rfl, rfl, hb2⟩
  case round =>
    obtain ⟨k, asked, took, f, t, n, hk40, hk0, hk1, hnk, rfl, rfl, rfl, ht0, ht1, ha1, hPr, hf5, hf6, ht5, hbr⟩ := hrel
    by_cases hgo : k < len0 ∧ k < len1 ∧ k < 40
    · obtain ⟨hlt0, hlt1, h40⟩ := hgo
      obtain ⟨x, hx, _⟩ := hc0 k hlt0
      obtain ⟨y, hy, _⟩ := hc1 k hlt1
      have hsz := hb.size
      have hxr : wr.cell? ⟨b, off + k, none⟩ = some (.int .i64 x) := by
        rw [hbr.cell (p := ⟨b, off + k, none⟩) (by simp; omega), hb.cell (p := ⟨b, off + k, none⟩) (by simpa using hbw)]; exact hx
      have hyr : wr.cell? ⟨c, ofc + k, none⟩ = some (.int .i64 y) := by
        rw [hbr.cell (p := ⟨c, ofc + k, none⟩) (by simp; omega), hb.cell (p := ⟨c, ofc + k, none⟩) (by simpa using hcw)]; exact hy
      obtain ⟨q, hq, hand⟩ := and1023 x
      obtain ⟨r, hr, hand2⟩ := and127 y
      have hlr := hPr.lt
      clear hc0 hc1 hx hy
      go_wp2_with fail
      refine (askV hPr (by omega) 5 _ (by decide) ⟨by omega, by omega, by omega, by omega⟩ (by rw [hf5.out]; omega) (by rw [hf5.out]; omega) _ rfl).mono ?_
      rintro e w3 ⟨rfl, hP3, hT3⟩
      have hbr3 := Turn.to hbr hT3 (by omega) (two_le (Nat.le_refl _) (Nat.le_succ _))
      have hl3 := hP3.lt
      have hf53 : Hid (upd f 5 (f 5 + (1 + (q : Int))) 5 = asked - took + (1 + q)) := by show upd f 5 (f 5 + (1 + (q : Int))) 5 = _; rw [upd_same, hf5.out]
      have hf63 : Hid (upd f 5 (f 5 + (1 + (q : Int))) 6 = 0) := by show upd f 5 (f 5 + (1 + (q : Int))) 6 = _; rw [upd_other _ _ (by decide)]; exact hf6.out
      generalize upd f 5 (f 5 + (1 + (q : Int))) = f3 at *
      clear hT3 hPr hbr hf5 hf6
      have hy0 : 0 < asked - took + (1 + (q : Int)) := by omega
      have hcase : r = 0 ∨ 0 < r ∧ (r : Int) ≤ asked + (1 + (q : Int)) - took ∨ 0 < r ∧ asked + (1 + (q : Int)) - took < (r : Int) := by omega
      rcases hcase with rfl | ⟨hr0, hrl⟩ | ⟨hr0, hrl⟩
      · go_wp2_with fail
        refine (takeV hP3 (by omega) 5 _ (by decide) (by rw [hf53.out]; omega) (by rw [hf53.out]; omega) (by rw [ht5.out]; omega) (by rw [ht5.out]; omega) 0 (by rw [hf53.out]; unfold tk; rw [if_pos (by omega)]) _ _ rfl rfl).mono ?_
        rintro e w4 ⟨rfl, hP4, hT4⟩
        have hbr4 := Turn.to hbr3 hT4 (by omega) (two_le (Nat.le_refl _) (Nat.le_succ _))
        have hf54 : Hid (upd f3 5 (f3 5 - 0) 5 = asked + (1 + q) - (took + 0)) := by show upd f3 5 (f3 5 - 0) 5 = _; rw [upd_same, hf53.out]; omega
        have hf64 : Hid (upd f3 5 (f3 5 - 0) 6 = 0) := by show upd f3 5 (f3 5 - 0) 6 = _; rw [upd_other _ _ (by decide)]; exact hf63.out
        have ht54 : Hid (upd t 5 (t 5 + 0) 5 = took + 0) := by show upd t 5 (t 5 + 0) 5 = _; rw [upd_same, ht5.out]
        generalize upd f3 5 (f3 5 - 0) = f4 at *
        generalize upd t 5 (t 5 + 0) = t4 at *
        clear hT4 hP3 hbr3 hf53 hf63 ht5
        go_wp2_with fail
        refine (backV hP4 5 (by decide) (asked + (1 + (q : Int)) - (took + 0)) hf54.out).mono ?_
        rintro e w5 ⟨rfl, rfl⟩
        go_wp2_with fail
        refine (takenV hP4 5 (by decide) (took + 0) ht54.out).mono ?_
        rintro e w5 ⟨rfl, rfl⟩
        go_wp2_with fail
        refine (backV hP4 6 (by decide) 0 hf64.out).mono ?_
        rintro e w5 ⟨rfl, rfl⟩
        go_wp2_with fail
        go_roundw
        case rel => exact ⟨k + 1, asked + (1 + q), took + 0, f4, t4, n + 1 + 1, by omega, by omega, by omega, by omega, by go_num, rfl, by go_num, by omega, by omega, by omega, hP4, hf54, hf64, ht54, hbr4⟩
        case measure => simp [intOf]; omega
      · go_wp2_with fail
        refine (takeV hP3 (by omega) 5 _ (by decide) (by rw [hf53.out]; omega) (by rw [hf53.out]; omega) (by rw [ht5.out]; omega) (by rw [ht5.out]; omega) (r : Int) (by rw [hf53.out]; unfold tk; rw [if_neg (by omega)]; split <;> omega) _ _ rfl rfl).mono ?_
        rintro e w4 ⟨rfl, hP4, hT4⟩
        have hbr4 := Turn.to hbr3 hT4 (by omega) (two_le (Nat.le_refl _) (Nat.le_succ _))
        have hf54 : Hid (upd f3 5 (f3 5 - (r : Int)) 5 = asked + (1 + q) - (took + (r : Int))) := by show upd f3 5 (f3 5 - (r : Int)) 5 = _; rw [upd_same, hf53.out]; omega
        have hf64 : Hid (upd f3 5 (f3 5 - (r : Int)) 6 = 0) := by show upd f3 5 (f3 5 - (r : Int)) 6 = _; rw [upd_other _ _ (by decide)]; exact hf63.out
        have ht54 : Hid (upd t 5 (t 5 + (r : Int)) 5 = took + (r : Int)) := by show upd t 5 (t 5 + (r : Int)) 5 = _; rw [upd_same, ht5.out]
        generalize upd f3 5 (f3 5 - (r : Int)) = f4 at *
        generalize upd t 5 (t 5 + (r : Int)) = t4 at *
        clear hT4 hP3 hbr3 hf53 hf63 ht5
        go_wp2_with fail
        refine (backV hP4 5 (by decide) (asked + (1 + (q : Int)) - (took + (r : Int))) hf54.out).mono ?_
        rintro e w5 ⟨rfl, rfl⟩
        go_wp2_with fail
        refine (takenV hP4 5 (by decide) (took + (r : Int)) ht54.out).mono ?_
        rintro e w5 ⟨rfl, rfl⟩
        go_wp2_with fail
        refine (backV hP4 6 (by decide) 0 hf64.out).mono ?_
        rintro e w5 ⟨rfl, rfl⟩
        go_wp2_with fail
        go_roundw
        case rel => exact ⟨k + 1, asked + (1 + q), took + (r : Int), f4, t4, n + 1 + 1, by omega, by omega, by omega, by omega, by go_num, rfl, by go_num, by omega, by omega, by omega, hP4, hf54, hf64, ht54, hbr4⟩
        case measure => simp [intOf]; omega
      · go_wp2_with fail
        refine (takeV hP3 (by omega) 5 _ (by decide) (by rw [hf53.out]; omega) (by rw [hf53.out]; omega) (by rw [ht5.out]; omega) (by rw [ht5.out]; omega) (asked + (1 + (q : Int)) - took) (by rw [hf53.out]; unfold tk; rw [if_neg (by omega), if_neg (by omega)]; omega) _ _ rfl rfl).mono ?_
        rintro e w4 ⟨rfl, hP4, hT4⟩
        have hbr4 := Turn.to hbr3 hT4 (by omega) (two_le (Nat.le_refl _) (Nat.le_succ _))
        have hf54 : Hid (upd f3 5 (f3 5 - (asked + (1 + (q : Int)) - took)) 5 = asked + (1 + q) - (took + (asked + (1 + (q : Int)) - took))) := by show upd f3 5 (f3 5 - (asked + (1 + (q : Int)) - took)) 5 = _; rw [upd_same, hf53.out]; omega
        have hf64 : Hid (upd f3 5 (f3 5 - (asked + (1 + (q : Int)) - took)) 6 = 0) := by show upd f3 5 (f3 5 - (asked + (1 + (q : Int)) - took)) 6 = _; rw [upd_other _ _ (by decide)]; exact hf63.out
        have ht54 : Hid (upd t 5 (t 5 + (asked + (1 + (q : Int)) - took)) 5 = took + (asked + (1 + (q : Int)) - took)) := by show upd t 5 (t 5 + (asked + (1 + (q : Int)) - took)) 5 = _; rw [upd_same, ht5.out]
        generalize upd f3 5 (f3 5 - (asked + (1 + (q : Int)) - took)) = f4 at *
        generalize upd t 5 (t 5 + (asked + (1 + (q : Int)) - took)) = t4 at *
        clear hT4 hP3 hbr3 hf53 hf63 ht5
        go_wp2_with fail
        refine (backV hP4 5 (by decide) (asked + (1 + (q : Int)) - (took + (asked + (1 + (q : Int)) - took))) hf54.out).mono ?_
        rintro e w5 ⟨rfl, rfl⟩
        go_wp2_with fail
        refine (takenV hP4 5 (by decide) (took + (asked + (1 + (q : Int)) - took)) ht54.out).mono ?_
        rintro e w5 ⟨rfl, rfl⟩
        go_wp2_with fail
        refine (backV hP4 6 (by decide) 0 hf64.out).mono ?_
        rintro e w5 ⟨rfl, rfl⟩
        go_wp2_with fail
        go_roundw
        case rel => exact ⟨k + 1, asked + (1 + q), took + (asked + (1 + (q : Int)) - took), f4, t4, n + 1 + 1, by omega, by omega, by omega, by omega, by go_num, rfl, by go_num, by omega, by omega, by omega, hP4, hf54, hf64, ht54, hbr4⟩
        case measure => simp [intOf]; omega
    · have hw6 : k < len0 ∧ k < len1 ∧ ¬ k < 40 ∨ k < len0 ∧ ¬ k < len1 ∨ ¬ k < len0 := by omega
      clear hgo hc0 hc1
      rcases hw6 with ⟨h1, h2, h3⟩ | ⟨h1, h2⟩ | h1
      all_goals
        go_wp2_with fail
        refine (dropV hPr 5 (by decide) _ hf5.out).mono ?_
        rintro e w3 ⟨rfl, hP3, hT3⟩
        have hb3 := Turn.to hbr hT3 (by have := hPr.lt; omega) (two_le (Nat.le_refl _) (Nat.le_succ _))
        clear hT3
        go_wp2_with fail
        refine (backV hP3 5 (by decide) 0 (upd_same _ _ _)).mono ?_
        rintro e w4 ⟨rfl, rfl⟩
        go_wp2_with fail
        refine (takenV hP3 5 (by decide) 0 (upd_same _ _ _)).mono ?_
        rintro e w4 ⟨rfl, rfl⟩
        go_wp2_with fail
        go_ret
        exact ⟨rfl, hb.trans (hb3.mono hb.size)⟩

theorem walk (a0 : Option Addr) (len0 cap0 : Nat) (z0 : List Int) (a1 : Option Addr) (len1 cap1 : Nat) (z1 : List Int) (w : World) (w0 : IsRow .i64 w a0 len0 cap0 z0) (w1 : IsRow .i64 w a1 len1 cap1 z1) :
    Calls Try.prog 3 #[.slice a0 len0 cap0, .slice a1 len1 cap1] w fun e w' => e = .returned (.bool true) ∧ Below w.heap.size w w' := by
  by_cases hz : len0 = 0
  · exact core0 _ _ _ _ _ _ w (.inl hz)
  by_cases hz1 : len1 = 0
  · exact core0 _ _ _ _ _ _ w (.inr ⟨hz, hz1⟩)
  obtain ⟨hm0, ha0⟩ := row_of w0 (by omega)
  obtain ⟨hm1, ha1⟩ := row_of w1 (by omega)
  exact core a0 len0 cap0 a1 len1 cap1 w hm0 hm1 ha0 ha1

/-! ### THE ROW's STEP: WRITTEN OUT: LEAVE IT -/
set_option maxRecDepth 100000 in
theorem lifted (os : Os) (started : os.Started) (H : Type) (enc : TypeId × Value → H) :
    ReturnsInHanded {} Try.checked os 3 .any (Rows.serverSumsSpec.pre6 enc Try.prog Try.f3 Rows.serverSumsRow.domain false) (Rows.serverSumsSpec.post enc Try.prog Try.f3 false true false false) := by
  refine returnsInHanded_of_change (C := Try.checked) own started (by kernel_rfl) Try.func3
    (ChangeSpec.witness6 (enc := enc) (C := Try.checked) false ⟨#[], #[.slice none 0 0, .slice none 0 0], []⟩ 8 (by kernel_rfl) (by kernel_rfl) (by kernel_rfl) (by kernel_rfl)) ?_
  intro W base args ds gs before hval0 hW hcnd _
  have hval : ∀ (j : Nat) t v, Try.f3.params[j]? = some t → args[j]? = some v → Value.okWide Try.prog W .any base t v := hval0
  have hW' := hW
  obtain ⟨p, q, hA0, hV, rfl, hfz, hnd⟩ := hW
  have hA : DataW.TrodAll enc Try.prog W 0 (fun _ => true) true Try.f3.params.toList args.toList ds p := hA0
  rw [Try.params3] at hA hval
  obtain ⟨v0, vs0, d0, ds0, p0, q0, hargs, rfl, rfl, h0, r0⟩ := trodAll_cons hA
  obtain ⟨v1, vs1, d1, ds1, p1, q1, rfl, rfl, rfl, h1, r1⟩ := trodAll_cons r0
  obtain ⟨rfl, rfl, rfl⟩ := trodAll_nil r1
  obtain rfl : args = #[v0, v1] := by cases args; simp_all
  obtain ⟨rfl, rfl⟩ := trodVars_none hV
  obtain ⟨a0, len0, cap0, rfl⟩ := okWide_slice Try.underlying22 (hval 0 22 v0 rfl rfl)
  have k0 := h0
  have lt0 : ∀ x ∈ p0, x.block < W.heap.size := by obtain ⟨m, hm⟩ := k0; exact DataW.trod_lt m _ _ _ hm
  obtain ⟨z0, w0⟩ : ∃ zs, IsRow .i64 W a0 len0 cap0 zs := by
    obtain ⟨fuel, hf⟩ := h0
    rcases open_ints Try.underlying22 Try.underlying3 (by kernel_rfl) hf with ⟨hcs, _⟩ | ⟨x, l, c, zs, hcs, _, hl, hm, hz, _, hcell, hwz⟩
    · simp [Value.cells] at hcs
      obtain ⟨rfl, rfl, rfl⟩ := hcs
      exact ⟨[], .inl ⟨rfl, rfl, rfl, rfl⟩⟩
    · simp [Value.cells] at hcs
      obtain ⟨rfl, rfl, rfl⟩ := hcs
      exact ⟨zs, .inr ⟨_, rfl, hl, hm, by simpa using hz, hcell, hwz⟩⟩
  obtain ⟨a1, len1, cap1, rfl⟩ := okWide_slice Try.underlying22 (hval 1 22 v1 rfl rfl)
  have k1 := h1
  have lt1 : ∀ x ∈ p1, x.block < W.heap.size := by obtain ⟨m, hm⟩ := k1; exact DataW.trod_lt m _ _ _ hm
  obtain ⟨z1, w1⟩ : ∃ zs, IsRow .i64 W a1 len1 cap1 zs := by
    obtain ⟨fuel, hf⟩ := h1
    rcases open_ints Try.underlying22 Try.underlying3 (by kernel_rfl) hf with ⟨hcs, _⟩ | ⟨x, l, c, zs, hcs, _, hl, hm, hz, _, hcell, hwz⟩
    · simp [Value.cells] at hcs
      obtain ⟨rfl, rfl, rfl⟩ := hcs
      exact ⟨[], .inl ⟨rfl, rfl, rfl, rfl⟩⟩
    · simp [Value.cells] at hcs
      obtain ⟨rfl, rfl, rfl⟩ := hcs
      exact ⟨zs, .inr ⟨_, rfl, hl, hm, by simpa using hz, hcell, hwz⟩⟩
  clear hA0 hval0
  refine (walk a0 len0 cap0 z0 a1 len1 cap1 z1 W w0 w1).mono fun e W' ⟨he, bel⟩ => ?_
  subst he
  exact ⟨_, rfl, _, _, _, [], _, [], hW', trodAll_mk1 (shut_bool Try.underlying4 _), (trodAll_cons_mk (Below.trod laidOut (by kernel_rfl) (of_decide_eq_true (by kernel_rfl)) k0 bel lt0) (trodAll_cons_mk (Below.trod laidOut (by kernel_rfl) (of_decide_eq_true (by kernel_rfl)) k1 bel lt1) trodAll_mk0)), rfl, bel.frame _, fun h => by cases h⟩

theorem over : Rows.serverSumsRow.holds Try.pinned (OpenSpec.ofChange Rows.serverSumsSpec) :=
  OpenClaim.holds_of_wide 3 Try.f3 rfl rfl rfl rfl rfl rfl rfl ⟨rfl, rfl, rfl, rfl, rfl⟩ rfl rfl rfl rfl rfl (by kernel_rfl) Try.func3 (by kernel_rfl)
    (of_decide_eq_true (by kernel_rfl)) (by unfold Func.isWrapper; first | (rw [if_pos (by decide +kernel)]; kernel_rfl) | (rw [if_neg (by decide +kernel)]; exact ⟨rfl, rfl⟩))
    (fun os started H enc _ => lifted os started H enc)

/-- ████ THE STATEMENT ████ -/
theorem proved : Rows.ServerSumsSaid := over
#print axioms proved
end Go.Proofs.Ytfjfnfipcajkkaa.serverSums
