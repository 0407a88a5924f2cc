/-
  The script of a pool, opened.
-/
import Derived.Test.YtfjfnfipcajkkaaRs
namespace Go.Proofs.Ytfjfnfipcajkkaa
open Go.ChangeShapes Go.WideShapes Go.ChangeAt Go.RowKit Go.Deep

/-- The cells of one step. -/
def OpAt (w : World) (b o : Nat) (K I : Int) (F : Bool) (N : Int) : Prop :=
  w.cell? ⟨b, o, none⟩ = some (.int .i64 K) ∧ w.cell? ⟨b, o + 1, none⟩ = some (.int .i64 I) ∧ w.cell? ⟨b, o + 2, none⟩ = some (.bool F) ∧ w.cell? ⟨b, o + 3, none⟩ = some (.int .i64 N)
theorem op_cells {H : Type} {enc : TypeId × Value → H} {W : World} {n : Nat} {cs : List Value} {x : DataW H × List MemPlace} (h : DataW.trod enc Try.prog W 0 (fun _ => true) true n 40 cs = some x) :
    ∃ K I : Int, ∃ F : Bool, ∃ N : Int, cs = [.int .i64 K, .int .i64 I, .bool F, .int .i64 N] ∧ (Lit.int .i64 I).wf = true ∧ (Lit.int .i64 N).wf = true := by
  have hc5 : Try.prog.cellsOf 40 = 4 := by kernel_rfl
  have hc2 : Try.prog.cellsOf 2 = 1 := by kernel_rfl
  have hc3 : Try.prog.cellsOf 3 = 1 := by kernel_rfl
  have hc4 : Try.prog.cellsOf 4 = 1 := by kernel_rfl
  obtain ⟨xs, m, _, _, hl, hxl, hf⟩ := DataW.trod_struct Try.underlying40 h
  rw [hc5] at hl
  match cs, hl with
  | [v0, v1, v2, v3], _ =>
    match xs, hxl with
    | [y0, y1, y2, y3], _ =>
      have e0 := hf 0 _ rfl
      change DataW.trod enc Try.prog W 0 (fun _ => true) true m 3 (List.take (Try.prog.cellsOf 3) [v0, v1, v2, v3]) = some y0 at e0
      rw [hc3] at e0
      have e1 := hf 1 _ rfl
      change DataW.trod enc Try.prog W 0 (fun _ => true) true m 3 (List.take (Try.prog.cellsOf 3) [v1, v2, v3]) = some y1 at e1
      rw [hc3] at e1
      have e2 := hf 2 _ rfl
      change DataW.trod enc Try.prog W 0 (fun _ => true) true m 4 (List.take (Try.prog.cellsOf 4) [v2, v3]) = some y2 at e2
      rw [hc4] at e2
      have e3 := hf 3 _ rfl
      change DataW.trod enc Try.prog W 0 (fun _ => true) true m 2 (List.take (Try.prog.cellsOf 2) [v3]) = some y3 at e3
      rw [hc2] at e3
      simp only [List.take_succ_cons, List.take_zero] at e0 e1 e2 e3
      obtain ⟨K, g0, _, _⟩ := DataW.trod_int Try.underlying3 e0
      obtain ⟨I, g1, _, wi⟩ := DataW.trod_int Try.underlying3 e1
      obtain ⟨F, g2, _⟩ := DataW.trod_bool Try.underlying4 e2
      obtain ⟨N, g3, _, wn⟩ := DataW.trod_int Try.underlying2 e3
      simp only [List.cons.injEq, and_true] at g0 g1 g2 g3
      exact ⟨K, I, F, N, by rw [g0, g1, g2, g3], wi, wn⟩
def SeenO (w : World) (a : Option Addr) (len : Nat) : Prop :=
  ∀ k, k < len → ∃ b off, a = some ⟨b, off, none⟩ ∧ b < w.heap.size ∧ ∃ K I : Int, ∃ F : Bool, ∃ N : Int, OpAt w b (off + k * 4) K I F N ∧ (Lit.int .i64 I).wf = true ∧ (Lit.int .i64 N).wf = true
theorem open_ops {H : Type} {enc : TypeId × Value → H} {W : World} {a : Option Addr} {len cap : Nat} {d : DataW H} {p : List MemPlace} (h : DataW.Trod enc Try.prog W 0 (fun _ => true) true 34 (.slice a len cap) d p) :
    len ≤ 9223372036854775807 ∧ SeenO W a len := by
  obtain ⟨hl, hr⟩ := open_rows Try.underlying34 (c := 4) (by kernel_rfl) (by omega) h
  refine ⟨hl, fun k hk => ?_⟩
  obtain ⟨b, off, ha, hb, m, cs, x, ht, hcl, hc⟩ := hr k hk
  obtain ⟨K, I, F, N, rfl, wi, wn⟩ := op_cells ht
  exact ⟨b, off, ha, hb, K, I, F, N, ⟨hc 0 (by omega), hc 1 (by omega), hc 2 (by omega), hc 3 (by omega)⟩, wi, wn⟩
end Go.Proofs.Ytfjfnfipcajkkaa
