/-
  CountsMost: for every list of numbers the law answers true: the most is the greatest number that was told, or 0. No condition.
-/
import Derived.Test.YtjkcjkcophbeiaaSt
import Derived.WalkKit
import Derived.ProofKit
import Derived.OpenShut
import Derived.ShutString
import Derived.ChangeOld
import Derived.Below
namespace Go.Proofs.Ytjkcjkcophbeiaa.countsMost
open Go.ChangeShapes Go.WideShapes Go.ChangeAt Go.RowKit
open Go.ChangeMaps (open_string shut_string)
set_option linter.unusedVariables false

theorem own : ownKnob Try.prog.godebug = none := by kernel_rfl
theorem laidOut : laidOutB Try.prog = true := by kernel_rfl

/-- WHAT THE WALK IS TOLD OF A SLICE OF INTEGERS THAT CAME IN: it is nil; or it leads to a row of 'cap' cells, the numbers 'zs' (the first 'len' are its elements, the rest its spare room), each fitting its kind. -/
def IsRow (k : IntKind) (w : World) (a : Option Addr) (len cap : Nat) (zs : List Int) : Prop :=
  (a = none ∧ len = 0 ∧ cap = 0 ∧ zs = []) ∨
  ∃ x, a = some x ∧ len ≤ cap ∧ cap ≤ maxLen ∧ zs.length = cap ∧ (∀ i, i < zs.length → w.cell? (x.add i) = some (.int k (zs.getD i 0))) ∧ ∀ n ∈ zs, (Lit.int k n).wf = true

/-! ### STEP 1: THE WALK: the Go text returns true, AND WRITES NOTHING THAT WAS THERE: 'Below w.heap.size w w'' (Derived/Below.lean: '.refl', '.alloc', '.drew', '.setCell' at a new block, '.trans'). Open each 'IsRow' by 'rcases' AHEAD of 'go_enter'; part every test ahead of the walk. -/
theorem core (a0 : Option Addr) (len0 cap0 : Nat) (w : World) (hm : len0 ≤ 9223372036854775807)
    (h : len0 = 0 ∨ ∃ b off, a0 = some ⟨b, off, none⟩ ∧ b < w.heap.size ∧ ∀ k, k < len0 → ∃ x : Int, w.cell? ⟨b, off + k, none⟩ = some (.int .i64 x)) :
    Calls Try.prog 3 #[.slice a0 len0 cap0] w fun e w' => e = .returned (.bool true) ∧ Below w.heap.size w w' := by
  rcases h with rfl | ⟨b, off, rfl, hbw, hc⟩
  · go_enter Try.func3, Try.ntmps3
    go_wp2_with (go_at_call 7; refine (awake_any _).mono ?_; rintro e w1 ⟨rfl, hb⟩)
    have hC : Ct (w1.alloc (Obj.cells #[.int .i64 0, .int .i64 0, .int .i64 0, .int .i64 0, .int .i64 0, .int .i64 0, .int .i64 0, .int .i64 0] 32)) w1.heap.size [0, 0, 0, 0, 0, 0, 0, 0] := ⟨_, heap_alloc_new _ _, rfl⟩
    have hl8 : [(0 : Int), 0, 0, 0, 0, 0, 0, 0].length = 8 := rfl
    refine wp_loop_rounds 1 ?_
    rw [rounds_succ]
    go_wp2_with fail
    refine (swapR hC 3 (-1) (by omega) (by omega) 0 rfl).mono ?_
    rintro e w3 ⟨rfl, hC3, hg3⟩
    go_wp2_with fail
    refine (getR hC3 3 (by omega) (by omega) (-1) (by show (_ : List Int).getD 3 0 = -1; simp)).mono ?_
    rintro e w4 ⟨rfl, rfl⟩
    go_wp2_with fail
    go_ret
    exact ⟨rfl, hb.trans ((below_of ((Below.refl _ _).alloc (Nat.le_refl _) _) hg3 hC.lt).mono hb.size)⟩
  · go_enter Try.func3, Try.ntmps3
    go_wp2_with (go_at_call 7; refine (awake_any _).mono ?_; rintro e w1 ⟨rfl, hb⟩)
    go_loopw [5, 6] (fun v i wr => ∃ (k : Nat) (m : Int) (l : List Int), k ≤ len0 ∧ i = .int .i64 k ∧ v = .int .i64 m ∧ Ct wr w1.heap.size l ∧ Hid (l.getD 3 0 = m) ∧ Hid (l.getD 2 0 = 0) ∧ Below w1.heap.size w1 wr) (fun _ i _ => len0 - (intOf i).toNat)
    case atStart => exact ⟨0, 0, [0, 0, 0, 0, 0, 0, 0, 0], Nat.zero_le _, rfl, rfl, ⟨_, heap_alloc_new _ _, rfl⟩, rfl, rfl, (Below.refl _ _).alloc (Nat.le_refl _) _⟩
    case round =>
      obtain ⟨k, m, l, hk, rfl, rfl, hC, hm3, hm2, hbr⟩ := hrel
      have hl8 : l.length = 8 := by obtain ⟨_, _, h8⟩ := hC; exact h8
      by_cases hgo : k < len0 ∧ k < 40
      · obtain ⟨hlt, h40⟩ := hgo
        obtain ⟨x, hx⟩ := hc k hlt
        have hsz := hb.size
        have hxr : wr.cell? ⟨b, off + k, none⟩ = some (.int .i64 x) := by
          rw [hbr.cell (p := ⟨b, off + k, none⟩) (by simp; omega), hb.cell (p := ⟨b, off + k, none⟩) (by simpa using hbw)]; exact hx
        clear hc hx
        have hl8' := Lib.hid hl8
        clear hl8
        have hrr : ∃ r, top m x = r := ⟨_, rfl⟩
        obtain ⟨r, hr⟩ := hrr
        have hrS : Hid (top (l.getD (Int.toNat 3) 0) x = r) := by show top (l.getD 3 0) x = r; rw [hm3.out]; exact hr
        have hr3 : Hid ((l.set (Int.toNat 3) r).getD (Int.toNat 3) 0 = r) := by show (l.set 3 r).getD 3 0 = r; simp [hl8'.out]
        have hr2 : Hid ((l.set (Int.toNat 3) r).getD (Int.toNat 2) 0 = 0) := by
          show (l.set 3 r).getD 2 0 = 0
          have := hm2.out
          simp only [List.getD_eq_getElem?_getD] at this ⊢
          rw [List.getElem?_set_ne (by omega)]; exact this
        have hrm : m < x ∧ r = x ∨ ¬ m < x ∧ r = m := by
          unfold top at hr
          split at hr
          · exact .inl ⟨‹_›, hr.symm⟩
          · exact .inr ⟨‹_›, hr.symm⟩
        clear hr
        rcases hrm with ⟨hmx, rfl⟩ | ⟨hmx, rfl⟩
        all_goals
          go_wp2_with fail
          refine (mostR hC 3 _ (by omega) (by omega) _ hrS.out).mono ?_
          rintro e w3 ⟨rfl, hC3, hg3⟩
          have hb3 := below_of hbr hg3 hC.lt
          go_wp2_with fail
          refine (getR hC3 3 (by omega) (by omega) _ hr3.out).mono ?_
          rintro e w4 ⟨rfl, rfl⟩
          go_wp2_with fail
          refine (getR hC3 2 (by omega) (by omega) 0 hr2.out).mono ?_
          rintro e w4 ⟨rfl, rfl⟩
          go_wp2_with fail
          go_roundw
          case rel => exact ⟨k + 1, _, _, by omega, by go_num, rfl, hC3, hr3, hr2, hb3⟩
          case measure => simp [intOf]; omega
      · by_cases hlt : k < len0
        · have h40 : ¬ k < 40 := fun h => hgo ⟨hlt, h⟩
          clear hgo
          go_wp2_with fail
          refine (swapR hC 3 (-1) (by omega) (by omega) _ hm3.out).mono ?_
          rintro e w3 ⟨rfl, hC3, hg3⟩
          go_wp2_with fail
          refine (getR hC3 3 (by omega) (by omega) (-1) (by show (_ : List Int).getD 3 0 = -1; simp [hl8])).mono ?_
          rintro e w4 ⟨rfl, rfl⟩
          go_wp2_with fail
          go_ret
          exact ⟨rfl, hb.trans ((below_of hbr hg3 hC.lt).mono hb.size)⟩
        · clear hgo
          go_wp2_with fail
          refine (swapR hC 3 (-1) (by omega) (by omega) _ hm3.out).mono ?_
          rintro e w3 ⟨rfl, hC3, hg3⟩
          go_wp2_with fail
          refine (getR hC3 3 (by omega) (by omega) (-1) (by show (_ : List Int).getD 3 0 = -1; simp [hl8])).mono ?_
          rintro e w4 ⟨rfl, rfl⟩
          go_wp2_with fail
          go_ret
          exact ⟨rfl, hb.trans ((below_of hbr hg3 hC.lt).mono hb.size)⟩

theorem walk (a0 : Option Addr) (len0 cap0 : Nat) (z0 : List Int) (w : World) (w0 : IsRow .i64 w a0 len0 cap0 z0) :
    Calls Try.prog 3 #[.slice a0 len0 cap0] w fun e w' => e = .returned (.bool true) ∧ Below w.heap.size w w' := by
  rcases w0 with ⟨rfl, rfl, rfl, rfl⟩ | ⟨x, rfl, hl, hm, hz, hcell, hwz⟩
  · exact core none 0 0 w (by omega) (.inl rfl)
  · unfold maxLen at hm
    refine core (some x) len0 cap0 w (by omega) ?_
    rcases Nat.eq_zero_or_pos len0 with h0 | hpos
    · exact .inl h0
    · obtain ⟨b, off, spot⟩ := x
      have hc := hcell 0 (by omega)
      have hspot : spot = none := by simpa [Addr.add] using World.cell?_spot hc
      subst hspot
      refine .inr ⟨b, off, rfl, by simpa [Addr.add] using block_lt_of_cell hc, fun k hk => ?_⟩
      have hk := hcell k (by omega)
      have hadd : (⟨b, off, none⟩ : Addr).add k = ⟨b, off + k, none⟩ := by unfold Addr.add; split <;> simp_all
      rw [hadd] at hk
      exact ⟨_, hk⟩

/-! ### THE ROW's STEP: WRITTEN OUT: LEAVE IT -/
set_option maxRecDepth 100000 in
theorem lifted (os : Os) (started : os.Started) (H : Type) (enc : TypeId × Value → H) :
    ReturnsInHanded {} Try.checked os 3 .any (Rows.countsMostSpec.pre6 enc Try.prog Try.f3 Rows.countsMostRow.domain false) (Rows.countsMostSpec.post enc Try.prog Try.f3 false true false false) := by
  refine returnsInHanded_of_change (C := Try.checked) own started (by kernel_rfl) Try.func3
    (ChangeSpec.witness6 (enc := enc) (C := Try.checked) false ⟨#[], #[.slice none 0 0], []⟩ 8 (by kernel_rfl) (by kernel_rfl) (by kernel_rfl) (by kernel_rfl)) ?_
  intro W base args ds gs before hval0 hW hcnd _
  have hval : ∀ (j : Nat) t v, Try.f3.params[j]? = some t → args[j]? = some v → Value.okWide Try.prog W .any base t v := hval0
  have hW' := hW
  obtain ⟨p, q, hA0, hV, rfl, hfz, hnd⟩ := hW
  have hA : DataW.TrodAll enc Try.prog W 0 (fun _ => true) true Try.f3.params.toList args.toList ds p := hA0
  rw [Try.params3] at hA hval
  obtain ⟨v0, vs0, d0, ds0, p0, q0, hargs, rfl, rfl, h0, r0⟩ := trodAll_cons hA
  obtain ⟨rfl, rfl, rfl⟩ := trodAll_nil r0
  obtain rfl : args = #[v0] := by cases args; simp_all
  obtain ⟨rfl, rfl⟩ := trodVars_none hV
  obtain ⟨a0, len0, cap0, rfl⟩ := okWide_slice Try.underlying22 (hval 0 22 v0 rfl rfl)
  have k0 := h0
  have lt0 : ∀ x ∈ p0, x.block < W.heap.size := by obtain ⟨m, hm⟩ := k0; exact DataW.trod_lt m _ _ _ hm
  obtain ⟨z0, w0⟩ : ∃ zs, IsRow .i64 W a0 len0 cap0 zs := by
    obtain ⟨fuel, hf⟩ := h0
    rcases open_ints Try.underlying22 Try.underlying2 (by kernel_rfl) hf with ⟨hcs, _⟩ | ⟨x, l, c, zs, hcs, _, hl, hm, hz, _, hcell, hwz⟩
    · simp [Value.cells] at hcs
      obtain ⟨rfl, rfl, rfl⟩ := hcs
      exact ⟨[], .inl ⟨rfl, rfl, rfl, rfl⟩⟩
    · simp [Value.cells] at hcs
      obtain ⟨rfl, rfl, rfl⟩ := hcs
      exact ⟨zs, .inr ⟨_, rfl, hl, hm, by simpa using hz, hcell, hwz⟩⟩
  clear hA0 hval0
  refine (walk a0 len0 cap0 z0 W w0).mono fun e W' ⟨he, bel⟩ => ?_
  subst he
  exact ⟨_, rfl, _, _, _, [], _, [], hW', trodAll_mk1 (shut_bool Try.underlying4 _), (trodAll_cons_mk (Below.trod laidOut (by kernel_rfl) (of_decide_eq_true (by kernel_rfl)) k0 bel lt0) trodAll_mk0), rfl, bel.frame _, fun h => by cases h⟩

theorem over : Rows.countsMostRow.holds Try.pinned (OpenSpec.ofChange Rows.countsMostSpec) :=
  OpenClaim.holds_of_wide 3 Try.f3 rfl rfl rfl rfl rfl rfl rfl ⟨rfl, rfl, rfl, rfl, rfl⟩ rfl rfl rfl rfl rfl (by kernel_rfl) Try.func3 (by kernel_rfl)
    (of_decide_eq_true (by kernel_rfl)) (by unfold Func.isWrapper; first | (rw [if_pos (by decide +kernel)]; kernel_rfl) | (rw [if_neg (by decide +kernel)]; exact ⟨rfl, rfl⟩))
    (fun os started H enc _ => lifted os started H enc)

/-- ████ THE STATEMENT ████ -/
theorem proved : Rows.CountsMostSaid := over
#print axioms proved
end Go.Proofs.Ytjkcjkcophbeiaa.countsMost
