/-
  GuardOrder: for every list of numbers the law answers true: what is known is told by rising numbers, each once; releases of others change none. No condition.
-/
import Derived.Test.YtlohcidapoicoaaOp
import Derived.Deep.QuietTactic
import Derived.BigQuiet
import Derived.Deep.DeepCutAuto
import Derived.Deep.CutBlock
import Derived.Deep.LoopGhost
import Derived.WalkKit
import Derived.ProofKit
import Derived.OpenShut
import Derived.ShutString
import Derived.ChangeOld
import Derived.Below
namespace Go.Proofs.Ytlohcidapoicoaa.guardOrder
open Go.ChangeShapes Go.WideShapes Go.ChangeAt Go.RowKit Go.Deep
open Go.ChangeMaps (open_string shut_string)
set_option linter.unusedVariables false

theorem own : ownKnob Try.prog.godebug = none := by kernel_rfl
theorem laidOut : laidOutB Try.prog = true := by kernel_rfl

theorem row_cells {w : World} {B : Nat} {v : Value} {L : List Int} (h : w.ownsRow B 3 1 v L.length (L.map encZ)) (hL : L ≠ []) : ∃ g cap, v = .slice (some ⟨g, 0, none⟩) L.length cap ∧ B ≤ g ∧ ∀ j x, L[j]? = some x → w.cell? ⟨g, j, none⟩ = some (.int .i64 x) := by
  rcases h.2 with ⟨_, h0⟩ | ⟨g, cap, cur, hv, hB, hg, hcap, hmx, hcs, hx⟩
  · exact absurd (List.eq_nil_of_length_eq_zero h0) hL
  · refine ⟨g, cap, hv, hB, fun j x hj => ?_⟩
    have hjl : j < L.length := (List.getElem?_eq_some_iff.1 hj).1
    have e : (L.map encZ)[j]? = some (.int .i64 x) := by simp [hj, encZ]
    rw [← hx, List.getElem?_take_of_lt (by omega), Array.getElem?_toList] at e
    simp [World.cell?, hg, e]
theorem upd_some (m : Int → Option (Int × Int)) (q : Int) (p : Int × Int) (x : Int) : (upd m q (some p) x).isSome = true ↔ x = q ∨ (m x).isSome = true := by
  unfold upd
  by_cases h : x = q <;> simp [h]

set_option maxRecDepth 100000 in
set_option maxHeartbeats 4000000 in
theorem core (w : World) (a0 : Option Addr) (len0 cap0 : Nat) (h0 : len0 ≤ 9223372036854775807 ∧ Seen w a0 len0) :
    Calls Try.prog 5 #[.slice a0 len0 cap0] w fun e w' => e = .returned (.bool true) ∧ Below w.heap.size w w' := by
  obtain ⟨hm0, h0⟩ := h0
  have H0 := Lib.hid h0
  clear h0
  go_enter Try.func5, Try.ntmps5
  go_wp2_with fail
  refine (awake_any _).mono ?_
  rintro e w1 ⟨rfl, hb⟩
  go_wp2_with fail
  refine (newV _).mono ?_
  rintro e w2 ⟨rfl, hG2, hb2⟩
  go_wp2_with fail
  go_loopg [5, 6] 30 (fun g sn i wr => ∃ (k : Nat) (K : List Int) (m : Int → Option (Int × Int)) (nn : Nat), Gv wr (w1.heap.size + 1) w1.heap.size nn m ∧ Hid K.Nodup ∧ Hid (∀ x, x ∈ K ↔ (m x).isSome = true) ∧ Hid (∀ x, (m x).isSome = true → 100 ≤ nx m x) ∧ Below w1.heap.size w1 wr ∧ nn ≤ k ∧ K.length ≤ k ∧ k ≤ 30 ∧ k ≤ len0 ∧ g = 30 - k ∧ sn = .int .i64 K.length ∧ i = .int .i64 k)
  case atStart => exact ⟨0, [], _, 0, hG2, (by show List.Nodup _; simp), (by show ∀ x, _; simp), (by show ∀ x, _; simp), hb2, by omega, by simp, by omega, by omega, by omega, rfl, rfl⟩
  case round =>
    obtain ⟨k, K, m, nn, hGr, hK, hKm, hnx, hbr, hnn, hKk, hk30, hkl, rfl, rfl, rfl⟩ := hrel
    by_cases hgo : k < len0 ∧ k < 30
    · obtain ⟨hlt, hlt30⟩ := hgo
      obtain ⟨b, off, rfl, hbw, x, hx, _⟩ := H0.out k hlt
      have hsz := hb.size
      have hxr : wr.cell? ⟨b, off + k, none⟩ = some (.int .i64 x) := by
        rw [hbr.cell (p := ⟨b, off + k, none⟩) (by simp; omega), hb.cell (p := ⟨b, off + k, none⟩) (by simpa using hbw)]; exact hx
      obtain ⟨q, hq, hand⟩ := and63 x
      have hqw : (Lit.int .i64 (q : Int)).wf = true := by
        have h1 : IntKind.i64.min = -9223372036854775808 := by decide
        simp [Lit.wf]
        omega
      have hlr := hGr.lt
      have HQ := Lib.hid hqw
      clear hx hqw
      obtain ⟨r, hr⟩ : ∃ r, ls m q = r := ⟨_, rfl⟩
      have HR := Lib.hid hr
      clear hr
      by_cases hwas : (m q).isSome = true
      · have HW := Lib.hid hwas
        clear hwas
        go_wp2_with fail
        refine (lastV hGr q HQ.out r HR.out true HW.out).mono ?_
        rintro e w4 ⟨rfl, hb4⟩
        have hG4 := hGr.below hb4
        have hbr4 := below_far hbr hb4 (by omega)
        clear hGr hbr hb4 hxr
        go_wp2_with fail
        refine (relE hG4 q 100 k HQ.out ⟨by omega, by omega, by omega, by omega⟩ (by have := hnx.out q HW.out; omega)).mono ?_
        rintro e w5 ⟨rfl, hb5⟩
        have hG5 := hG4.below hb5
        have hbr5 := below_far hbr4 hb5 (by have := hG4.lt; omega)
        clear hG4 hbr4 hb5
        go_wp2_with fail
        have hpos : 0 < K.length := List.length_pos_of_mem ((hKm.out q).2 HW.out)
        refine (idsV hG5 (by omega) K hK.out hKm.out).mono ?_
        rintro e w6 ⟨v, L, rfl, hLp, -, hLl, hrow, hb6⟩
        obtain ⟨gk, capk, rfl, hgB, hcells⟩ := row_cells hrow (fun e => by rw [e] at hLl; simp at hLl; omega)
        have hG6 := hG5.below hb6
        have hbr6 := below_far hbr5 hb6 (by have := hG5.lt; omega)
        have HLP := Lib.hid hLp
        have HC := Lib.hid hcells
        have hLk : L.length = K.length := by omega
        clear hG5 hbr5 hb6 hrow hLp hcells
        go_wp2_with fail
        refine (lenV hG6 K hK.out hKm.out K.length (by omega)).mono ?_
        rintro e w7 ⟨rfl, rfl⟩
        go_wp2_with fail
        go_loopg [12] 31 (fun g i wx => ∃ j nq : Nat, wx = w6.drewN nq ∧ 1 ≤ j ∧ j ≤ L.length ∧ g = 32 - j ∧ i = .int .i64 j)
        case atStart => exact ⟨1, 0, rfl, by omega, by omega, by omega, rfl⟩
        case round =>
          obtain ⟨j, nq0, rfl, hj1, hjL, rfl, rfl⟩ := hrel
          by_cases hjl : j < L.length
          · obtain ⟨j', rfl⟩ : ∃ j', j = j' + 1 := ⟨j - 1, by omega⟩
            have c1 : w6.cell? ⟨gk, j' + 1, none⟩ = some (.int .i64 L[j' + 1]) := HC.out (j' + 1) _ (List.getElem?_eq_getElem hjl)
            have c2 : w6.cell? ⟨gk, j', none⟩ = some (.int .i64 (L[j']'(by omega))) := HC.out j' _ (List.getElem?_eq_getElem (by omega))
            have hlt2 : L[j']'(by omega) < L[j' + 1] := List.pairwise_iff_getElem.1 HLP.out j' (j' + 1) (by omega) hjl (by omega)
            generalize L[j' + 1] = A1 at *
            generalize L[j']'(by omega) = A0 at *
            go_wp2_with fail
            go_quiet (fail)
            go_wp2_with fail
            go_roundg (32 - (j' + 1 + 1))
            case measure => omega
            case rel => exact ⟨j' + 1 + 1, _, rfl, by omega, by omega, by omega, by go_num⟩
          · go_wp2_with fail
            go_roundg (30 - (k + 1))
            case measure => omega
            case rel => exact ⟨k + 1, K, m, nn, (hG6.below ⟨rfl, rfl, rfl, Nat.le_refl _, fun _ _ => rfl⟩), hK, hKm, hnx, (hbr6.trans ⟨rfl, rfl, rfl, Nat.le_refl _, fun _ _ => rfl⟩), by omega, by omega, by omega, by omega, by omega, by go_num, by go_num⟩
      · have HW := Lib.hid (show (m q).isSome = false by simpa using hwas)
        clear hwas
        go_wp2_with fail
        refine (lastV hGr q HQ.out r HR.out false HW.out).mono ?_
        rintro e w4 ⟨rfl, hb4⟩
        have hG4 := hGr.below hb4
        have hbr4 := below_far hbr hb4 (by omega)
        clear hGr hbr hb4 hxr
        go_wp2_with fail
        refine (relO hG4 (by omega) q 100 k HQ.out ⟨by omega, by omega, by omega, by omega⟩ (by
          have e : nx m q = 0 := by
            have := HW.out
            unfold nx
            cases hmq : m q with
            | none => rfl
            | some p => rw [hmq] at this; simp at this
          omega)).mono ?_
        rintro e w5 ⟨rfl, hG5, hg5⟩
        have hbr5 := below_bm hbr4 hg5 (Nat.le_refl _) (by have := hG4.lt; omega)
        have hnot : ((q : Int) ∉ K) := fun h => by have := (hKm.out q).1 h; rw [HW.out] at this; cases this
        have hK5 : Hid ((q : Int) :: K).Nodup := List.nodup_cons.2 ⟨hnot, hK.out⟩
        have hKm5 : Hid (∀ x, x ∈ ((q : Int) :: K) ↔ (upd m q (some ((k : Int), (k : Int) + 100)) x).isSome = true) := by
          show ∀ x, x ∈ ((q : Int) :: K) ↔ (upd m q (some ((k : Int), (k : Int) + 100)) x).isSome = true
          intro x
          rw [upd_some, List.mem_cons, hKm.out]
        have hnx5 : Hid (∀ x, (upd m q (some ((k : Int), (k : Int) + 100)) x).isSome = true → 100 ≤ nx (upd m q (some ((k : Int), (k : Int) + 100))) x) := by
          show ∀ x, (upd m q (some ((k : Int), (k : Int) + 100)) x).isSome = true → 100 ≤ nx (upd m q (some ((k : Int), (k : Int) + 100))) x
          intro x hx
          by_cases hxq : x = q
          · subst hxq
            simp [nx, upd]
            omega
          · have := hnx.out x (by rw [upd_some] at hx; exact hx.resolve_left hxq)
            simpa [nx, upd, hxq] using this
        generalize upd m q (some ((k : Int), (k : Int) + 100)) = m' at *
        have hlen5 : ((q : Int) :: K).length = K.length + 1 := rfl
        generalize ((q : Int) :: K) = K' at *
        clear hG4 hbr4 hg5 hnot hK hKm hnx HW HR
        go_wp2_with fail
        have hpos : 0 < K'.length := by omega
        refine (idsV hG5 (by omega) K' hK5.out hKm5.out).mono ?_
        rintro e w6 ⟨v, L, rfl, hLp, -, hLl, hrow, hb6⟩
        obtain ⟨gk, capk, rfl, hgB, hcells⟩ := row_cells hrow (fun e => by rw [e] at hLl; simp at hLl; omega)
        have hG6 := hG5.below hb6
        have hbr6 := below_far hbr5 hb6 (by have := hG5.lt; omega)
        have HLP := Lib.hid hLp
        have HC := Lib.hid hcells
        have hLk : L.length = K.length + 1 := by omega
        clear hG5 hbr5 hb6 hrow hLp hcells
        go_wp2_with fail
        refine (lenV hG6 K' hK5.out hKm5.out (K.length + 1) (by omega)).mono ?_
        rintro e w7 ⟨rfl, rfl⟩
        go_wp2_with fail
        go_loopg [12] 31 (fun g i wx => ∃ j nq : Nat, wx = w6.drewN nq ∧ 1 ≤ j ∧ j ≤ L.length ∧ g = 32 - j ∧ i = .int .i64 j)
        case atStart => exact ⟨1, 0, rfl, by omega, by omega, by omega, rfl⟩
        case round =>
          obtain ⟨j, nq0, rfl, hj1, hjL, rfl, rfl⟩ := hrel
          by_cases hjl : j < L.length
          · obtain ⟨j', rfl⟩ : ∃ j', j = j' + 1 := ⟨j - 1, by omega⟩
            have c1 : w6.cell? ⟨gk, j' + 1, none⟩ = some (.int .i64 L[j' + 1]) := HC.out (j' + 1) _ (List.getElem?_eq_getElem hjl)
            have c2 : w6.cell? ⟨gk, j', none⟩ = some (.int .i64 (L[j']'(by omega))) := HC.out j' _ (List.getElem?_eq_getElem (by omega))
            have hlt2 : L[j']'(by omega) < L[j' + 1] := List.pairwise_iff_getElem.1 HLP.out j' (j' + 1) (by omega) hjl (by omega)
            generalize L[j' + 1] = A1 at *
            generalize L[j']'(by omega) = A0 at *
            go_wp2_with fail
            go_quiet (fail)
            go_wp2_with fail
            go_roundg (32 - (j' + 1 + 1))
            case measure => omega
            case rel => exact ⟨j' + 1 + 1, _, rfl, by omega, by omega, by omega, by go_num⟩
          · go_wp2_with fail
            go_roundg (30 - (k + 1))
            case measure => omega
            case rel => exact ⟨k + 1, K', m', nn + 1, (hG6.below ⟨rfl, rfl, rfl, Nat.le_refl _, fun _ _ => rfl⟩), hK5, hKm5, hnx5, (hbr6.trans ⟨rfl, rfl, rfl, Nat.le_refl _, fun _ _ => rfl⟩), by omega, by omega, by omega, by omega, by omega, by go_num, by go_num⟩
    · have hcase : ¬ k < len0 ∨ k < len0 ∧ k = 30 := by omega
      rcases hcase with hnl | ⟨hlt, rfl⟩
      · go_wp2_with fail
        go_ret
        exact ⟨rfl, hb.trans (hbr.mono hb.size)⟩
      · go_wp2_with fail
        go_ret
        exact ⟨rfl, hb.trans (hbr.mono hb.size)⟩

/-! ### THE ROW's STEP -/
set_option maxRecDepth 100000 in
theorem lifted (os : Os) (started : os.Started) (H : Type) (enc : TypeId × Value → H) :
    ReturnsInHanded {} Try.checked os 5 .any (Rows.guardOrderSpec.pre6 enc Try.prog Try.f5 Rows.guardOrderRow.domain false) (Rows.guardOrderSpec.post enc Try.prog Try.f5 false true false false) := by
  refine returnsInHanded_of_change (C := Try.checked) own started (by kernel_rfl) Try.func5
    (ChangeSpec.witness6 (enc := enc) (C := Try.checked) false ⟨#[], #[.slice none 0 0], []⟩ 8 (by kernel_rfl) (by kernel_rfl) (by kernel_rfl) (by kernel_rfl)) ?_
  intro W base args ds gs before hval0 hW hcnd _
  have hval : ∀ (j : Nat) t v, Try.f5.params[j]? = some t → args[j]? = some v → Value.okWide Try.prog W .any base t v := hval0
  have hW' := hW
  obtain ⟨p, q, hA0, hV, rfl, hfz, hnd⟩ := hW
  have hA : DataW.TrodAll enc Try.prog W 0 (fun _ => true) true Try.f5.params.toList args.toList ds p := hA0
  rw [Try.params5] at hA hval
  obtain ⟨v0, vs0, d0, ds0, p0, q0, hargs, rfl, rfl, h0, r0⟩ := trodAll_cons hA
  obtain ⟨rfl, rfl, rfl⟩ := trodAll_nil r0
  obtain rfl : args = #[v0] := by cases args; simp_all
  obtain ⟨rfl, rfl⟩ := trodVars_none hV
  obtain ⟨a0, len0, cap0, rfl⟩ := okWide_slice Try.underlying22 (hval 0 22 v0 rfl rfl)
  have k0 := h0
  have lt0 : ∀ x ∈ p0, x.block < W.heap.size := by obtain ⟨m, hm⟩ := k0; exact DataW.trod_lt m _ _ _ hm
  have w0 := open_nums h0
  clear hA0 hval0
  refine (core W a0 len0 cap0 w0).mono fun e W' ⟨he, bel⟩ => ?_
  subst he
  exact ⟨_, rfl, _, _, _, [], _, [], hW', trodAll_mk1 (shut_bool Try.underlying4 _), (trodAll_cons_mk (Below.trod laidOut (by kernel_rfl) (of_decide_eq_true (by kernel_rfl)) k0 bel lt0) trodAll_mk0), rfl, bel.frame _, fun h => by cases h⟩

theorem over : Rows.guardOrderRow.holds Try.pinned (OpenSpec.ofChange Rows.guardOrderSpec) :=
  OpenClaim.holds_of_wide 5 Try.f5 rfl rfl rfl rfl rfl rfl rfl ⟨rfl, rfl, rfl, rfl, rfl⟩ rfl rfl rfl rfl rfl (by kernel_rfl) Try.func5 (by kernel_rfl)
    (of_decide_eq_true (by kernel_rfl)) (by unfold Func.isWrapper; first | (rw [if_pos (by decide +kernel)]; kernel_rfl) | (rw [if_neg (by decide +kernel)]; exact ⟨rfl, rfl⟩))
    (fun os started H enc _ => lifted os started H enc)

/-- ████ THE STATEMENT ████ -/
theorem proved : Rows.GuardOrderSaid := over
#print axioms proved
end Go.Proofs.Ytlohcidapoicoaa.guardOrder
