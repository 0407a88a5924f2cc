/-
  The rows that come in, opened.
-/
import Derived.Test.YtfjfnfipcajkkaaKs
import Derived.Deep.Slices
import Derived.Deep.Fields
import Derived.ChangeSame
import Derived.WalkKit
import Derived.ProofKit
import Derived.OpenShut
import Derived.ShutString
import Derived.ChangeOld
namespace Go.Proofs.Ytfjfnfipcajkkaa
open Go.ChangeShapes Go.WideShapes Go.ChangeAt Go.RowKit Go.Deep

theorem add_plain (b off j : Nat) : (⟨b, off, none⟩ : Addr).add j = ⟨b, off + j, none⟩ := by unfold Addr.add; split <;> simp_all

theorem open_rows {H : Type} {enc : TypeId × Value → H} {W : World} {t e c : Nat} {a : Option Addr} {len cap : Nat} {d : DataW H} {p : List MemPlace} (ht : Try.prog.underlying t = some (.slice e)) (hc : Try.prog.cellsOf e = c) (hc0 : 0 < c)
    (h : DataW.Trod enc Try.prog W 0 (fun _ => true) true t (.slice a len cap) d p) :
    len ≤ 9223372036854775807 ∧ ∀ k, k < len → ∃ b off, a = some ⟨b, off, none⟩ ∧ b < W.heap.size ∧ ∃ m cs x, DataW.trod enc Try.prog W 0 (fun _ => true) true m e cs = some x ∧ cs.length = c ∧ ∀ j, j < c → W.cell? ⟨b, off + k * c + j, none⟩ = cs[j]? := by
  obtain ⟨fuel, hf⟩ := h
  rcases open_slice ht hf with ⟨hcs, _⟩ | ⟨a', len', cap', m, n, D, Pl, hcs, _, hl, hm, hmm, _, hi⟩
  · simp [Value.cells] at hcs
    obtain ⟨rfl, rfl, rfl⟩ := hcs
    exact ⟨by omega, fun k hk => by omega⟩
  · simp [Value.cells] at hcs
    obtain ⟨rfl, rfl, rfl⟩ := hcs
    unfold maxLen at hm
    refine ⟨by omega, fun k hk => ?_⟩
    obtain rfl : m = cap := by simpa using hmm
    rw [hc] at hi
    obtain ⟨b, off, spot⟩ := a'
    obtain ⟨cs0, hc1, ht1⟩ := hi 0 (by omega)
    have hq := (World.cells?_some hc1).2
    have h0 := hq.2 0 hc0
    rw [List.getElem?_eq_getElem (by rw [hq.1]; exact hc0)] at h0
    have hspot : spot = none := by simpa [Addr.add] using World.cell?_spot h0
    subst hspot
    have hb : b < W.heap.size := by simpa [Addr.add] using block_lt_of_cell h0
    obtain ⟨cs, hc2, ht2⟩ := hi k (by omega)
    have hq2 := (World.cells?_some hc2).2
    refine ⟨b, off, rfl, hb, _, cs, _, ht2, hq2.1, fun j hj => ?_⟩
    have := hq2.2 j hj
    rw [add_plain, add_plain] at this
    exact this

/-- What a walk is told of a slice of numbers that came in. -/
def Seen (w : World) (a : Option Addr) (len : Nat) : Prop :=
  ∀ k, k < len → ∃ b off, a = some ⟨b, off, none⟩ ∧ b < w.heap.size ∧ ∃ x : Int, w.cell? ⟨b, off + k, none⟩ = some (.int .i64 x) ∧ (Lit.int .i64 x).wf = true
theorem open_nums {H : Type} {enc : TypeId × Value → H} {W : World} {a : Option Addr} {len cap : Nat} {d : DataW H} {p : List MemPlace} (h : DataW.Trod enc Try.prog W 0 (fun _ => true) true 22 (.slice a len cap) d p) :
    len ≤ 9223372036854775807 ∧ Seen W a len := by
  obtain ⟨hl, hr⟩ := open_rows Try.underlying22 (c := 1) (by kernel_rfl) (by omega) h
  refine ⟨hl, fun k hk => ?_⟩
  obtain ⟨b, off, ha, hb, m, cs, x, ht, hcl, hc⟩ := hr k hk
  obtain ⟨n, hn, _, hw⟩ := DataW.trod_int Try.underlying3 ht
  refine ⟨b, off, ha, hb, n, ?_, hw⟩
  have := hc 0 (by omega)
  rw [hn] at this
  simpa using this

end Go.Proofs.Ytfjfnfipcajkkaa
