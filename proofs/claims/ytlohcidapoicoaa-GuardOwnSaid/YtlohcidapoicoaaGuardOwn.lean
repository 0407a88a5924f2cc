/-
  GuardOwn: for every two numbers and every period the law answers true: what is released of one number says nothing of another one; what was forgotten may be released at once. No condition.
-/
import Derived.Test.YtlohcidapoicoaaMask
import Derived.WalkKit
import Derived.ProofKit
import Derived.OpenShut
import Derived.ShutString
namespace Go.Proofs.Ytlohcidapoicoaa.guardOwn
open Go.ChangeShapes Go.WideShapes Go.ChangeAt Go.RowKit
open Go.ChangeMaps (open_string shut_string)
set_option linter.unusedVariables false      -- a walk need not use every 'w<i>' (that an integer argument fits its kind)

theorem own : ownKnob Try.prog.godebug = none := by kernel_rfl

/-! ### STEP 1: THE WALK: the Go text returns true. 'Below w.heap.size w w'': the world has at most new blocks (Derived/RowKit3.lean). Part the cases AHEAD of 'go_enter' where a test parts the walk; take each callee by a contract of your own. -/
set_option maxRecDepth 100000 in
set_option maxHeartbeats 1000000 in
theorem same (a0 a1 a2 : Int) (wa : (Lit.int .i64 a0).wf = true) (wb : (Lit.int .i64 a1).wf = true) (w : World) :
    Calls Try.prog 4 #[.int .i64 a0, .int .i64 a0, .int .i64 a2] w fun e w' => e = .returned (.bool true) ∧ Below w.heap.size w w' := by
  obtain ⟨q, hq0, hq1, hand⟩ := and31b a2
  obtain ⟨kk, hkk⟩ : ∃ kk, wrap64 (a0 - 1) = kk := ⟨_, rfl⟩
  have wk : (Lit.int .i64 kk).wf = true := by rw [← hkk]; exact wrap64_wf _
  have hka : Hid (kk ≠ a0) := by show kk ≠ a0; rw [← hkk]; unfold wrap64; omega
  have t1 : (a0 != a0) = false := by simp
  have t2 : (kk != a0) = true := by rw [bne_iff_ne]; exact hka.out
  have t3 : ((19 : Int) == 0) = false := by decide
  go_enter Try.func4, Try.ntmps4
  go_wp2_with (first | (go_at_call 7; refine (awake_any _).mono ?_; rintro e w1 ⟨rfl, hb⟩) | (go_at_call 8; refine (newV _).mono ?_; rintro e w2 ⟨rfl, hG, hb2⟩))
  refine (relO hG (by omega) a0 _ _ wa ⟨by omega, by omega, by omega, by omega⟩ (by show ¬ (10 : Int) < 0; omega)).mono ?_
  rintro e w3 ⟨rfl, hG3, hg3⟩
  have hb3 := below_bm hb2 hg3 (Nat.le_refl _) (by have := hG.lt; omega)
  have hl3 := hG3.lt
  clear hg3 hb2 hG
  go_wp2_with fail
  refine (relE hG3 a0 _ _ wa ⟨by omega, by omega, by omega, by omega⟩ (by show (10 : Int) < nx (upd _ a0 _) a0; simp [nx, upd]; omega)).mono ?_
  rintro e w4 ⟨rfl, hb4⟩
  have hG4 := hG3.below hb4
  have hb4 := below_far hb3 hb4 (by omega)
  clear hG3
  have hl4 := hG4.lt
  go_wp2_with fail
  refine (nextV hG4 a0 wa (10 + (1 + q)) (by simp [nx, upd])).mono ?_
  rintro e w5 ⟨rfl, hb5⟩
  have hG5 := hG4.below hb5
  have hb5 := below_far hb4 hb5 (by omega)
  have hl5 := hG5.lt
  clear hG4
  go_wp2_with fail
  refine (forY hG5 a0 wa (by simp [upd])).mono ?_
  rintro e w6 ⟨rfl, hG6, hg6⟩
  have hb6 := below_bm hb5 hg6 (Nat.le_refl _) (by omega)
  have hl6 := hG6.lt
  clear hg6 hG5
  go_wp2_with fail
  refine (relO hG6 (by omega) a0 _ _ wa ⟨by omega, by omega, by omega, by omega⟩ (by simp [nx, upd])).mono ?_
  rintro e w7 ⟨rfl, hG7, hg7⟩
  have hb7 := below_bm hb6 hg7 (Nat.le_refl _) (by omega)
  have hl7 := hG7.lt
  clear hg7 hG6
  go_wp2_with fail
  refine (forN hG7 kk wk (by simp [upd, hka.out])).mono ?_
  rintro e w8 ⟨rfl, hb8⟩
  have hb8 := below_far hb7 hb8 (by omega)
  go_wp2_with fail
  go_ret
  exact ⟨rfl, hb.trans (hb8.mono hb.size)⟩

set_option maxRecDepth 100000 in
set_option maxHeartbeats 1000000 in
theorem apart (a0 a1 a2 : Int) (wa : (Lit.int .i64 a0).wf = true) (wb : (Lit.int .i64 a1).wf = true) (w : World) (hab : a0 ≠ a1) :
    Calls Try.prog 4 #[.int .i64 a0, .int .i64 a1, .int .i64 a2] w fun e w' => e = .returned (.bool true) ∧ Below w.heap.size w w' := by
  obtain ⟨q, hq0, hq1, hand⟩ := and31b a2
  obtain ⟨kk, hkk⟩ : ∃ kk, wrap64 (a0 - 1) = kk := ⟨_, rfl⟩
  have wk : (Lit.int .i64 kk).wf = true := by rw [← hkk]; exact wrap64_wf _
  have hka : Hid (kk ≠ a0) := by show kk ≠ a0; rw [← hkk]; unfold wrap64; omega
  have t1 : (a0 != a1) = true := by rw [bne_iff_ne]; exact hab
  have hne : Hid (a0 ≠ a1) := hab
  have hba : Hid (a1 ≠ a0) := Ne.symm hab
  clear hab
  by_cases hb1 : kk = a1
  · have t2 : (kk != a1) = false := by simp [hb1]
    have hkb : Hid (kk = a1) := hb1
    clear hb1
    go_enter Try.func4, Try.ntmps4
    go_wp2_with (first | (go_at_call 7; refine (awake_any _).mono ?_; rintro e w1 ⟨rfl, hb⟩) | (go_at_call 8; refine (newV _).mono ?_; rintro e w2 ⟨rfl, hG, hb2⟩))
    refine (relO hG (by omega) a0 _ _ wa ⟨by omega, by omega, by omega, by omega⟩ (by show ¬ (10 : Int) < 0; omega)).mono ?_
    rintro e w3 ⟨rfl, hG3, hg3⟩
    have hb3 := below_bm hb2 hg3 (Nat.le_refl _) (by have := hG.lt; omega)
    have hl3 := hG3.lt
    clear hg3 hb2 hG
    go_wp2_with fail
    refine (relO hG3 (by omega) a1 _ _ wb ⟨by omega, by omega, by omega, by omega⟩ (by simp [nx, upd, hba.out])).mono ?_
    rintro e w4 ⟨rfl, hG4, hg4⟩
    have hb4 := below_bm hb3 hg4 (Nat.le_refl _) (by omega)
    clear hg4 hG3
    have hl4 := hG4.lt
    go_wp2_with fail
    refine (nextV hG4 a0 wa (10 + (1 + q)) (by simp [nx, upd, hne.out])).mono ?_
    rintro e w5 ⟨rfl, hb5⟩
    have hG5 := hG4.below hb5
    have hb5 := below_far hb4 hb5 (by omega)
    have hl5 := hG5.lt
    clear hG4
    go_wp2_with fail
    refine (forY hG5 a0 wa (by simp [upd, hne.out])).mono ?_
    rintro e w6 ⟨rfl, hG6, hg6⟩
    have hb6 := below_bm hb5 hg6 (Nat.le_refl _) (by omega)
    have hl6 := hG6.lt
    clear hg6 hG5
    go_wp2_with fail
    refine (relO hG6 (by omega) a0 _ _ wa ⟨by omega, by omega, by omega, by omega⟩ (by simp [nx, upd])).mono ?_
    rintro e w7 ⟨rfl, hG7, hg7⟩
    have hb7 := below_bm hb6 hg7 (Nat.le_refl _) (by omega)
    have hl7 := hG7.lt
    clear hg7 hG6
    go_wp2_with fail
    refine (forY hG7 kk wk (by rw [hkb.out]; simp [upd, hba.out])).mono ?_
    rintro e w8 ⟨rfl, hG8, hg8⟩
    have hb8 := below_bm hb7 hg8 (Nat.le_refl _) (by omega)
    clear hg8 hG8 hG7
    go_wp2_with fail
    go_ret
    exact ⟨rfl, hb.trans (hb8.mono hb.size)⟩
  · have t2 : (kk != a1) = true := by rw [bne_iff_ne]; exact hb1
    have hkb : Hid (kk ≠ a1) := hb1
    clear hb1
    go_enter Try.func4, Try.ntmps4
    go_wp2_with (first | (go_at_call 7; refine (awake_any _).mono ?_; rintro e w1 ⟨rfl, hb⟩) | (go_at_call 8; refine (newV _).mono ?_; rintro e w2 ⟨rfl, hG, hb2⟩))
    refine (relO hG (by omega) a0 _ _ wa ⟨by omega, by omega, by omega, by omega⟩ (by show ¬ (10 : Int) < 0; omega)).mono ?_
    rintro e w3 ⟨rfl, hG3, hg3⟩
    have hb3 := below_bm hb2 hg3 (Nat.le_refl _) (by have := hG.lt; omega)
    have hl3 := hG3.lt
    clear hg3 hb2 hG
    go_wp2_with fail
    refine (relO hG3 (by omega) a1 _ _ wb ⟨by omega, by omega, by omega, by omega⟩ (by simp [nx, upd, hba.out])).mono ?_
    rintro e w4 ⟨rfl, hG4, hg4⟩
    have hb4 := below_bm hb3 hg4 (Nat.le_refl _) (by omega)
    clear hg4 hG3
    have hl4 := hG4.lt
    go_wp2_with fail
    refine (nextV hG4 a0 wa (10 + (1 + q)) (by simp [nx, upd, hne.out])).mono ?_
    rintro e w5 ⟨rfl, hb5⟩
    have hG5 := hG4.below hb5
    have hb5 := below_far hb4 hb5 (by omega)
    have hl5 := hG5.lt
    clear hG4
    go_wp2_with fail
    refine (forY hG5 a0 wa (by simp [upd, hne.out])).mono ?_
    rintro e w6 ⟨rfl, hG6, hg6⟩
    have hb6 := below_bm hb5 hg6 (Nat.le_refl _) (by omega)
    have hl6 := hG6.lt
    clear hg6 hG5
    go_wp2_with fail
    refine (relO hG6 (by omega) a0 _ _ wa ⟨by omega, by omega, by omega, by omega⟩ (by simp [nx, upd])).mono ?_
    rintro e w7 ⟨rfl, hG7, hg7⟩
    have hb7 := below_bm hb6 hg7 (Nat.le_refl _) (by omega)
    have hl7 := hG7.lt
    clear hg7 hG6
    go_wp2_with fail
    refine (forN hG7 kk wk (by simp [upd, hka.out, hkb.out])).mono ?_
    rintro e w8 ⟨rfl, hb8⟩
    have hb8 := below_far hb7 hb8 (by omega)
    go_wp2_with fail
    go_ret
    exact ⟨rfl, hb.trans (hb8.mono hb.size)⟩

theorem walk (a0 : Int) (a1 : Int) (a2 : Int) (w0 : (Lit.int .i64 a0).wf = true) (w1 : (Lit.int .i64 a1).wf = true) (w2 : (Lit.int .i64 a2).wf = true) (w : World) :
    Calls Try.prog 4 #[.int .i64 a0, .int .i64 a1, .int .i64 a2] w fun e w' => e = .returned (.bool true) ∧ Below w.heap.size w w' := by
  by_cases h : a0 = a1
  · subst h; exact same a0 a0 a2 w0 w0 w
  · exact apart a0 a1 a2 w0 w1 w h

/-! ### THE ROW's STEP: WRITTEN OUT: LEAVE IT -/
set_option maxRecDepth 100000 in
theorem lifted (os : Os) (started : os.Started) (H : Type) (enc : TypeId × Value → H) :
    ReturnsInHanded {} Try.checked os 4 .any (Rows.guardOwnSpec.pre6 enc Try.prog Try.f4 Rows.guardOwnRow.domain false) (Rows.guardOwnSpec.post enc Try.prog Try.f4 false true false false) := by
  refine returnsInHanded_of_change (C := Try.checked) own started (by kernel_rfl) Try.func4
    (ChangeSpec.witness6 (enc := enc) (C := Try.checked) false ⟨#[], #[.int .i64 0, .int .i64 0, .int .i64 0], []⟩ 8 (by kernel_rfl) (by kernel_rfl) (by kernel_rfl) (by kernel_rfl)) ?_
  intro W base args ds gs before hval0 hW hcnd _
  have hval : ∀ (j : Nat) t v, Try.f4.params[j]? = some t → args[j]? = some v → Value.okWide Try.prog W .any base t v := hval0
  have hW' := hW
  obtain ⟨p, q, hA0, hV, rfl, hfz, hnd⟩ := hW
  have hA : DataW.TrodAll enc Try.prog W 0 (fun _ => true) true Try.f4.params.toList args.toList ds p := hA0
  rw [Try.params4] at hA hval
  obtain ⟨v0, vs0, d0, ds0, p0, q0, hargs, rfl, rfl, h0, r0⟩ := trodAll_cons hA
  obtain ⟨v1, vs1, d1, ds1, p1, q1, rfl, rfl, rfl, h1, r1⟩ := trodAll_cons r0
  obtain ⟨v2, vs2, d2, ds2, p2, q2, rfl, rfl, rfl, h2, r2⟩ := trodAll_cons r1
  obtain ⟨rfl, rfl, rfl⟩ := trodAll_nil r2
  obtain rfl : args = #[v0, v1, v2] := by cases args; simp_all
  obtain ⟨rfl, rfl⟩ := trodVars_none hV
  obtain ⟨a0, rfl, rfl, rfl, w0⟩ := open_int Try.underlying3 (hval 0 3 v0 rfl rfl) h0
  obtain ⟨a1, rfl, rfl, rfl, w1⟩ := open_int Try.underlying3 (hval 1 3 v1 rfl rfl) h1
  obtain ⟨a2, rfl, rfl, rfl, w2⟩ := open_int Try.underlying2 (hval 2 2 v2 rfl rfl) h2
  clear hA0 hval0
  simp only [List.append_nil] at hW'
  refine (walk a0 a1 a2 w0 w1 w2 W).mono fun e W' ⟨he, bel⟩ => ?_
  subst he
  exact ⟨_, rfl, _, _, _, [], _, [], hW', trodAll_mk1 (shut_bool Try.underlying4 _), (trodAll_cons_mk (shut_int Try.underlying3 w0) (trodAll_cons_mk (shut_int Try.underlying3 w1) (trodAll_cons_mk (shut_int Try.underlying2 w2) trodAll_mk0))), rfl, bel.frame _, fun h => by cases h⟩

theorem over : Rows.guardOwnRow.holds Try.pinned (OpenSpec.ofChange Rows.guardOwnSpec) :=
  OpenClaim.holds_of_wide 4 Try.f4 rfl rfl rfl rfl rfl rfl rfl ⟨rfl, rfl, rfl, rfl, rfl⟩ rfl rfl rfl rfl rfl (by kernel_rfl) Try.func4 (by kernel_rfl)
    (of_decide_eq_true (by kernel_rfl)) (by unfold Func.isWrapper; first | (rw [if_pos (by decide +kernel)]; kernel_rfl) | (rw [if_neg (by decide +kernel)]; exact ⟨rfl, rfl⟩))
    (fun os started H enc _ => lifted os started H enc)

/-- ████ THE STATEMENT ████ -/
theorem proved : Rows.GuardOwnSaid :=
  over
#print axioms proved
end Go.Proofs.Ytlohcidapoicoaa.guardOwn
