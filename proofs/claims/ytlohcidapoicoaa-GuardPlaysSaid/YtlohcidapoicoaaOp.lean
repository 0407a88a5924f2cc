/-
  The rows that come in, opened.
-/
import Derived.Test.YtlohcidapoicoaaKs
import Derived.Deep.Slices
import Derived.Deep.Fields
import Derived.ChangeSame
import Derived.WalkKit
import Derived.ProofKit
import Derived.OpenShut
import Derived.ShutString
import Derived.ChangeOld
namespace Go.Proofs.Ytlohcidapoicoaa
open Go.ChangeShapes Go.WideShapes Go.ChangeAt Go.RowKit Go.Deep

theorem add_plain (b off j : Nat) : (⟨b, off, none⟩ : Addr).add j = ⟨b, off + j, none⟩ := by unfold Addr.add; split <;> simp_all

theorem open_rows {H : Type} {enc : TypeId × Value → H} {W : World} {t e c : Nat} {a : Option Addr} {len cap : Nat} {d : DataW H} {p : List MemPlace} (ht : Try.prog.underlying t = some (.slice e)) (hc : Try.prog.cellsOf e = c) (hc0 : 0 < c)
    (h : DataW.Trod enc Try.prog W 0 (fun _ => true) true t (.slice a len cap) d p) :
    len ≤ 9223372036854775807 ∧ ∀ k, k < len → ∃ b off, a = some ⟨b, off, none⟩ ∧ b < W.heap.size ∧ ∃ m cs x, DataW.trod enc Try.prog W 0 (fun _ => true) true m e cs = some x ∧ cs.length = c ∧ ∀ j, j < c → W.cell? ⟨b, off + k * c + j, none⟩ = cs[j]? := by
  obtain ⟨fuel, hf⟩ := h
  rcases open_slice ht hf with ⟨hcs, _⟩ | ⟨a', len', cap', m, n, D, Pl, hcs, _, hl, hm, hmm, _, hi⟩
  · simp [Value.cells] at hcs
    obtain ⟨rfl, rfl, rfl⟩ := hcs
    exact ⟨by omega, fun k hk => by omega⟩
  · simp [Value.cells] at hcs
    obtain ⟨rfl, rfl, rfl⟩ := hcs
    unfold maxLen at hm
    refine ⟨by omega, fun k hk => ?_⟩
    obtain rfl : m = cap := by simpa using hmm
    rw [hc] at hi
    obtain ⟨b, off, spot⟩ := a'
    obtain ⟨cs0, hc1, ht1⟩ := hi 0 (by omega)
    have hq := (World.cells?_some hc1).2
    have h0 := hq.2 0 hc0
    rw [List.getElem?_eq_getElem (by rw [hq.1]; exact hc0)] at h0
    have hspot : spot = none := by simpa [Addr.add] using World.cell?_spot h0
    subst hspot
    have hb : b < W.heap.size := by simpa [Addr.add] using block_lt_of_cell h0
    obtain ⟨cs, hc2, ht2⟩ := hi k (by omega)
    have hq2 := (World.cells?_some hc2).2
    refine ⟨b, off, rfl, hb, _, cs, _, ht2, hq2.1, fun j hj => ?_⟩
    have := hq2.2 j hj
    rw [add_plain, add_plain] at this
    exact this

/-- What a walk is told of a slice of numbers that came in. -/
def Seen (w : World) (a : Option Addr) (len : Nat) : Prop :=
  ∀ k, k < len → ∃ b off, a = some ⟨b, off, none⟩ ∧ b < w.heap.size ∧ ∃ x : Int, w.cell? ⟨b, off + k, none⟩ = some (.int .i64 x) ∧ (Lit.int .i64 x).wf = true
theorem open_nums {H : Type} {enc : TypeId × Value → H} {W : World} {a : Option Addr} {len cap : Nat} {d : DataW H} {p : List MemPlace} (h : DataW.Trod enc Try.prog W 0 (fun _ => true) true 22 (.slice a len cap) d p) :
    len ≤ 9223372036854775807 ∧ Seen W a len := by
  obtain ⟨hl, hr⟩ := open_rows Try.underlying22 (c := 1) (by kernel_rfl) (by omega) h
  refine ⟨hl, fun k hk => ?_⟩
  obtain ⟨b, off, ha, hb, m, cs, x, ht, hcl, hc⟩ := hr k hk
  obtain ⟨n, hn, _, hw⟩ := DataW.trod_int Try.underlying3 ht
  refine ⟨b, off, ha, hb, n, ?_, hw⟩
  have := hc 0 (by omega)
  rw [hn] at this
  simpa using this

/-- The cells of one step. -/
def OpAt (w : World) (b o : Nat) (I P N : Int) (R F : Bool) : Prop :=
  w.cell? ⟨b, o, none⟩ = some (.int .i64 I) ∧ w.cell? ⟨b, o + 1, none⟩ = some (.int .i64 P) ∧ w.cell? ⟨b, o + 2, none⟩ = some (.int .i64 N) ∧ w.cell? ⟨b, o + 3, none⟩ = some (.bool R) ∧ w.cell? ⟨b, o + 4, none⟩ = some (.bool F)
theorem op_cells {H : Type} {enc : TypeId × Value → H} {W : World} {n : Nat} {cs : List Value} {x : DataW H × List MemPlace} (h : DataW.trod enc Try.prog W 0 (fun _ => true) true n 43 cs = some x) :
    ∃ I P N : Int, ∃ R F : Bool, cs = [.int .i64 I, .int .i64 P, .int .i64 N, .bool R, .bool F] ∧ (Lit.int .i64 P).wf = true ∧ (Lit.int .i64 N).wf = true := by
  have hc5 : Try.prog.cellsOf 43 = 5 := by kernel_rfl
  have hc2 : Try.prog.cellsOf 2 = 1 := by kernel_rfl
  have hc3 : Try.prog.cellsOf 3 = 1 := by kernel_rfl
  have hc4 : Try.prog.cellsOf 4 = 1 := by kernel_rfl
  obtain ⟨xs, m, _, _, hl, hxl, hf⟩ := DataW.trod_struct Try.underlying43 h
  rw [hc5] at hl
  match cs, hl with
  | [v0, v1, v2, v3, v4], _ =>
    match xs, hxl with
    | [y0, y1, y2, y3, y4], _ =>
      have e0 := hf 0 _ rfl
      change DataW.trod enc Try.prog W 0 (fun _ => true) true m 3 (List.take (Try.prog.cellsOf 3) [v0, v1, v2, v3, v4]) = some y0 at e0
      rw [hc3] at e0
      have e1 := hf 1 _ rfl
      change DataW.trod enc Try.prog W 0 (fun _ => true) true m 2 (List.take (Try.prog.cellsOf 2) [v1, v2, v3, v4]) = some y1 at e1
      rw [hc2] at e1
      have e2 := hf 2 _ rfl
      change DataW.trod enc Try.prog W 0 (fun _ => true) true m 2 (List.take (Try.prog.cellsOf 2) [v2, v3, v4]) = some y2 at e2
      rw [hc2] at e2
      have e3 := hf 3 _ rfl
      change DataW.trod enc Try.prog W 0 (fun _ => true) true m 4 (List.take (Try.prog.cellsOf 4) [v3, v4]) = some y3 at e3
      rw [hc4] at e3
      have e4 := hf 4 _ rfl
      change DataW.trod enc Try.prog W 0 (fun _ => true) true m 4 (List.take (Try.prog.cellsOf 4) [v4]) = some y4 at e4
      rw [hc4] at e4
      simp only [List.take_succ_cons, List.take_zero] at e0 e1 e2 e3 e4
      obtain ⟨I, g0, _, _⟩ := DataW.trod_int Try.underlying3 e0
      obtain ⟨P, g1, _, wp⟩ := DataW.trod_int Try.underlying2 e1
      obtain ⟨N, g2, _, wn⟩ := DataW.trod_int Try.underlying2 e2
      obtain ⟨R, g3, _⟩ := DataW.trod_bool Try.underlying4 e3
      obtain ⟨F, g4, _⟩ := DataW.trod_bool Try.underlying4 e4
      simp only [List.cons.injEq, and_true] at g0 g1 g2 g3 g4
      exact ⟨I, P, N, R, F, by rw [g0, g1, g2, g3, g4], wp, wn⟩
def SeenO (w : World) (a : Option Addr) (len : Nat) : Prop :=
  ∀ k, k < len → ∃ b off, a = some ⟨b, off, none⟩ ∧ b < w.heap.size ∧ ∃ I P N : Int, ∃ R F : Bool, OpAt w b (off + k * 5) I P N R F ∧ (Lit.int .i64 P).wf = true ∧ (Lit.int .i64 N).wf = true
theorem open_ops {H : Type} {enc : TypeId × Value → H} {W : World} {a : Option Addr} {len cap : Nat} {d : DataW H} {p : List MemPlace} (h : DataW.Trod enc Try.prog W 0 (fun _ => true) true 37 (.slice a len cap) d p) :
    len ≤ 9223372036854775807 ∧ SeenO W a len := by
  obtain ⟨hl, hr⟩ := open_rows Try.underlying37 (c := 5) (by kernel_rfl) (by omega) h
  refine ⟨hl, fun k hk => ?_⟩
  obtain ⟨b, off, ha, hb, m, cs, x, ht, hcl, hc⟩ := hr k hk
  obtain ⟨I, P, N, R, F, rfl, wp, wn⟩ := op_cells ht
  exact ⟨b, off, ha, hb, I, P, N, R, F, ⟨hc 0 (by omega), hc 1 (by omega), hc 2 (by omega), hc 3 (by omega), hc 4 (by omega)⟩, wp, wn⟩
end Go.Proofs.Ytlohcidapoicoaa
