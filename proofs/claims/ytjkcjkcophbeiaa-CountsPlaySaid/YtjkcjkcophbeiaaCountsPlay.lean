/-
  CountsPlay: for every list of steps the law answers true: counts go on, step by step, as the document's do. No condition.
-/
import Derived.Test.YtjkcjkcophbeiaaPlay
import Derived.Deep.Slices
import Derived.Deep.Fields
import Derived.ChangeSame
import Derived.WalkKit
import Derived.ProofKit
import Derived.OpenShut
import Derived.ShutString
import Derived.ChangeOld
import Derived.Below
namespace Go.Proofs.Ytjkcjkcophbeiaa.countsPlay
open Go.ChangeShapes Go.WideShapes Go.ChangeAt Go.RowKit Go.Deep
open Go.ChangeMaps (open_string shut_string)
set_option linter.unusedVariables false

theorem add_plain (b off j : Nat) : (⟨b, off, none⟩ : Addr).add j = ⟨b, off + j, none⟩ := by unfold Addr.add; split <;> simp_all

/-- The rows of the script, opened. -/
theorem op_cells {H : Type} {enc : TypeId × Value → H} {W : World} {n : Nat} {cs : List Value} {x : DataW H × List MemPlace} (h : DataW.trod enc Try.prog W 0 (fun _ => true) true n 43 cs = some x) :
    ∃ K O N : Int, ∃ R S : Bool, cs = [.int .i64 K, .int .i64 O, .int .i64 N, .bool R, .bool S] := by
  have hc5 : Try.prog.cellsOf 43 = 5 := by kernel_rfl
  have hc2 : Try.prog.cellsOf 2 = 1 := by kernel_rfl
  have hc3 : Try.prog.cellsOf 3 = 1 := by kernel_rfl
  have hc4 : Try.prog.cellsOf 4 = 1 := by kernel_rfl
  obtain ⟨xs, m, _, _, hl, hxl, hf⟩ := DataW.trod_struct Try.underlying43 h
  rw [hc5] at hl
  match cs, hl with
  | [v0, v1, v2, v3, v4], _ =>
    match xs, hxl with
    | [y0, y1, y2, y3, y4], _ =>
      have e0 := hf 0 _ rfl
      change DataW.trod enc Try.prog W 0 (fun _ => true) true m 3 (List.take (Try.prog.cellsOf 3) [v0, v1, v2, v3, v4]) = some y0 at e0
      rw [hc3] at e0
      have e1 := hf 1 _ rfl
      change DataW.trod enc Try.prog W 0 (fun _ => true) true m 3 (List.take (Try.prog.cellsOf 3) [v1, v2, v3, v4]) = some y1 at e1
      rw [hc3] at e1
      have e2 := hf 2 _ rfl
      change DataW.trod enc Try.prog W 0 (fun _ => true) true m 2 (List.take (Try.prog.cellsOf 2) [v2, v3, v4]) = some y2 at e2
      rw [hc2] at e2
      have e3 := hf 3 _ rfl
      change DataW.trod enc Try.prog W 0 (fun _ => true) true m 4 (List.take (Try.prog.cellsOf 4) [v3, v4]) = some y3 at e3
      rw [hc4] at e3
      have e4 := hf 4 _ rfl
      change DataW.trod enc Try.prog W 0 (fun _ => true) true m 4 (List.take (Try.prog.cellsOf 4) [v4]) = some y4 at e4
      rw [hc4] at e4
      simp only [List.take_succ_cons, List.take_zero] at e0 e1 e2 e3 e4
      obtain ⟨K, g0, _, _⟩ := DataW.trod_int Try.underlying3 e0
      obtain ⟨O, g1, _, _⟩ := DataW.trod_int Try.underlying3 e1
      obtain ⟨N, g2, _, _⟩ := DataW.trod_int Try.underlying2 e2
      obtain ⟨R, g3, _⟩ := DataW.trod_bool Try.underlying4 e3
      obtain ⟨S, g4, _⟩ := DataW.trod_bool Try.underlying4 e4
      simp only [List.cons.injEq, and_true] at g0 g1 g2 g3 g4
      exact ⟨K, O, N, R, S, by rw [g0, g1, g2, g3, g4]⟩

theorem open_ops {H : Type} {enc : TypeId × Value → H} {W : World} {a0 : Option Addr} {len0 cap0 : Nat} {d : DataW H} {p : List MemPlace} (h : DataW.Trod enc Try.prog W 0 (fun _ => true) true 36 (.slice a0 len0 cap0) d p) :
    len0 ≤ 9223372036854775807 ∧ (len0 = 0 ∨ ∃ b off, a0 = some ⟨b, off, none⟩ ∧ b < W.heap.size ∧ ∀ k, k < len0 → ∃ K O N : Int, ∃ R S : Bool, OpAt W b (off + k * 5) K O N R S) := by
  obtain ⟨fuel, hf⟩ := h
  have hc5 : Try.prog.cellsOf 43 = 5 := by kernel_rfl
  rcases open_slice Try.underlying36 hf with ⟨hcs, _⟩ | ⟨a, len, cap, m, n, D, Pl, hcs, _, hl, hm, hmm, _, hi⟩
  · simp [Value.cells] at hcs
    obtain ⟨rfl, rfl, rfl⟩ := hcs
    exact ⟨by omega, .inl rfl⟩
  · simp [Value.cells] at hcs
    obtain ⟨rfl, rfl, rfl⟩ := hcs
    unfold maxLen at hm
    refine ⟨by omega, ?_⟩
    rcases Nat.eq_zero_or_pos len0 with h0 | hpos
    · exact .inl h0
    · obtain rfl : m = cap0 := by simpa using hmm
      rw [hc5] at hi
      have row : ∀ k, k < len0 → ∃ K O N : Int, ∃ R S : Bool, ∀ j (hj : j < 5), W.cell? ((a.add (k * 5)).add j) = [Value.int .i64 K, .int .i64 O, .int .i64 N, .bool R, .bool S][j]? := by
        intro k hk
        obtain ⟨cs', hc, ht⟩ := hi k (by omega)
        obtain ⟨K, O, N, R, S, rfl⟩ := op_cells ht
        exact ⟨K, O, N, R, S, (World.cells?_some hc).2.2⟩
      obtain ⟨b, off, spot⟩ := a
      obtain ⟨K, O, N, R, S, hr⟩ := row 0 hpos
      have hc := hr 0 (by omega)
      have hspot : spot = none := by simpa [Addr.add] using World.cell?_spot hc
      subst hspot
      have hadd : ∀ i j, ((⟨b, off, none⟩ : Addr).add i).add j = ⟨b, off + i + j, none⟩ := by
        intro i j
        rw [add_plain, add_plain]
      refine .inr ⟨b, off, rfl, by simpa [Addr.add] using block_lt_of_cell hc, fun k hk => ?_⟩
      obtain ⟨K, O, N, R, S, hr⟩ := row k hk
      have h0 := hr 0 (by omega)
      have h1 := hr 1 (by omega)
      have h2 := hr 2 (by omega)
      have h3 := hr 3 (by omega)
      have h4 := hr 4 (by omega)
      rw [hadd] at h0 h1 h2 h3 h4
      exact ⟨K, O, N, R, S, h0, h1, h2, h3, h4⟩

/-! ### THE ROW's STEP: WRITTEN OUT: LEAVE IT -/
set_option maxRecDepth 100000 in
theorem lifted (os : Os) (started : os.Started) (H : Type) (enc : TypeId × Value → H) :
    ReturnsInHanded {} Try.checked os 4 .any (Rows.countsPlaySpec.pre6 enc Try.prog Try.f4 Rows.countsPlayRow.domain false) (Rows.countsPlaySpec.post enc Try.prog Try.f4 false true false false) := by
  refine returnsInHanded_of_change (C := Try.checked) own started (by kernel_rfl) Try.func4
    (ChangeSpec.witness6 (enc := enc) (C := Try.checked) false ⟨#[], #[.slice none 0 0], []⟩ 8 (by kernel_rfl) (by kernel_rfl) (by kernel_rfl) (by kernel_rfl)) ?_
  intro W base args ds gs before hval0 hW hcnd _
  have hval : ∀ (j : Nat) t v, Try.f4.params[j]? = some t → args[j]? = some v → Value.okWide Try.prog W .any base t v := hval0
  have hW' := hW
  obtain ⟨p, q, hA0, hV, rfl, hfz, hnd⟩ := hW
  have hA : DataW.TrodAll enc Try.prog W 0 (fun _ => true) true Try.f4.params.toList args.toList ds p := hA0
  rw [Try.params4] at hA hval
  obtain ⟨v0, vs0, d0, ds0, p0, q0, hargs, rfl, rfl, h0, r0⟩ := trodAll_cons hA
  obtain ⟨rfl, rfl, rfl⟩ := trodAll_nil r0
  obtain rfl : args = #[v0] := by cases args; simp_all
  obtain ⟨rfl, rfl⟩ := trodVars_none hV
  obtain ⟨a0, len0, cap0, rfl⟩ := okWide_slice Try.underlying36 (hval 0 36 v0 rfl rfl)
  have k0 := h0
  have lt0 : ∀ x ∈ p0, x.block < W.heap.size := by obtain ⟨m, hm⟩ := k0; exact DataW.trod_lt m _ _ _ hm
  have w0 := open_ops h0
  clear hA0 hval0
  refine (core a0 len0 cap0 W w0.1 w0.2).mono fun e W' ⟨he, bel⟩ => ?_
  subst he
  exact ⟨_, rfl, _, _, _, [], _, [], hW', trodAll_mk1 (shut_bool Try.underlying4 _), (trodAll_cons_mk (Below.trod laidOut (by kernel_rfl) (of_decide_eq_true (by kernel_rfl)) k0 bel lt0) trodAll_mk0), rfl, bel.frame _, fun h => by cases h⟩

theorem over : Rows.countsPlayRow.holds Try.pinned (OpenSpec.ofChange Rows.countsPlaySpec) :=
  OpenClaim.holds_of_wide 4 Try.f4 rfl rfl rfl rfl rfl rfl rfl ⟨rfl, rfl, rfl, rfl, rfl⟩ rfl rfl rfl rfl rfl (by kernel_rfl) Try.func4 (by kernel_rfl)
    (of_decide_eq_true (by kernel_rfl)) (by unfold Func.isWrapper; first | (rw [if_pos (by decide +kernel)]; kernel_rfl) | (rw [if_neg (by decide +kernel)]; exact ⟨rfl, rfl⟩))
    (fun os started H enc _ => lifted os started H enc)

/-- ████ THE STATEMENT ████ -/
theorem proved : Rows.CountsPlaySaid := over
#print axioms proved
end Go.Proofs.Ytjkcjkcophbeiaa.countsPlay
