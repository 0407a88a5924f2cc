/-
  The rows that come in, opened: numbers, booleans, fates.
-/
import Derived.Test.YtaccmeffcjfeeaaTw
import Derived.Deep.Slices
import Derived.Deep.Fields
import Derived.ChangeSame
import Derived.WalkKit
import Derived.ProofKit
import Derived.OpenShut
import Derived.ShutString
import Derived.ChangeOld
namespace Go.Proofs.Ytaccmeffcjfeeaa
open Go.ChangeShapes Go.WideShapes Go.ChangeAt Go.RowKit Go.Deep

theorem add_plain (b off j : Nat) : (⟨b, off, none⟩ : Addr).add j = ⟨b, off + j, none⟩ := by unfold Addr.add; split <;> simp_all

theorem open_rows {H : Type} {enc : TypeId × Value → H} {W : World} {t e c : Nat} {a : Option Addr} {len cap : Nat} {d : DataW H} {p : List MemPlace} (ht : Try.prog.underlying t = some (.slice e)) (hc : Try.prog.cellsOf e = c) (hc0 : 0 < c)
    (h : DataW.Trod enc Try.prog W 0 (fun _ => true) true t (.slice a len cap) d p) :
    len ≤ 9223372036854775807 ∧ ∀ k, k < len → ∃ b off, a = some ⟨b, off, none⟩ ∧ b < W.heap.size ∧ ∃ m cs x, DataW.trod enc Try.prog W 0 (fun _ => true) true m e cs = some x ∧ cs.length = c ∧ ∀ j, j < c → W.cell? ⟨b, off + k * c + j, none⟩ = cs[j]? := by
  obtain ⟨fuel, hf⟩ := h
  rcases open_slice ht hf with ⟨hcs, _⟩ | ⟨a', len', cap', m, n, D, Pl, hcs, _, hl, hm, hmm, _, hi⟩
  · simp [Value.cells] at hcs
    obtain ⟨rfl, rfl, rfl⟩ := hcs
    exact ⟨by omega, fun k hk => by omega⟩
  · simp [Value.cells] at hcs
    obtain ⟨rfl, rfl, rfl⟩ := hcs
    unfold maxLen at hm
    refine ⟨by omega, fun k hk => ?_⟩
    obtain rfl : m = cap := by simpa using hmm
    rw [hc] at hi
    obtain ⟨b, off, spot⟩ := a'
    obtain ⟨cs0, hc1, ht1⟩ := hi 0 (by omega)
    have hq := (World.cells?_some hc1).2
    have h0 := hq.2 0 hc0
    rw [List.getElem?_eq_getElem (by rw [hq.1]; exact hc0)] at h0
    have hspot : spot = none := by simpa [Addr.add] using World.cell?_spot h0
    subst hspot
    have hb : b < W.heap.size := by simpa [Addr.add] using block_lt_of_cell h0
    obtain ⟨cs, hc2, ht2⟩ := hi k (by omega)
    have hq2 := (World.cells?_some hc2).2
    refine ⟨b, off, rfl, hb, _, cs, _, ht2, hq2.1, fun j hj => ?_⟩
    have := hq2.2 j hj
    rw [add_plain, add_plain] at this
    exact this

theorem open_nums {H : Type} {enc : TypeId × Value → H} {W : World} {a : Option Addr} {len cap : Nat} {d : DataW H} {p : List MemPlace} (h : DataW.Trod enc Try.prog W 0 (fun _ => true) true 22 (.slice a len cap) d p) :
    len ≤ 9223372036854775807 ∧ Seen W a len := by
  obtain ⟨hl, hr⟩ := open_rows Try.underlying22 (c := 1) (by kernel_rfl) (by omega) h
  refine ⟨hl, fun k hk => ?_⟩
  obtain ⟨b, off, ha, hb, m, cs, x, ht, hcl, hc⟩ := hr k hk
  obtain ⟨n, hn, _⟩ := DataW.trod_int Try.underlying3 ht
  refine ⟨b, off, ha, hb, n, ?_⟩
  have := hc 0 (by omega)
  rw [hn] at this
  simpa using this

def SeenB (w : World) (a : Option Addr) (len : Nat) : Prop :=
  ∀ k, k < len → ∃ b off, a = some ⟨b, off, none⟩ ∧ b < w.heap.size ∧ ∃ x : Bool, w.cell? ⟨b, off + k, none⟩ = some (.bool x)
theorem open_bools {H : Type} {enc : TypeId × Value → H} {W : World} {a : Option Addr} {len cap : Nat} {d : DataW H} {p : List MemPlace} (h : DataW.Trod enc Try.prog W 0 (fun _ => true) true 41 (.slice a len cap) d p) :
    len ≤ 9223372036854775807 ∧ SeenB W a len := by
  obtain ⟨hl, hr⟩ := open_rows Try.underlying41 (c := 1) (by kernel_rfl) (by omega) h
  refine ⟨hl, fun k hk => ?_⟩
  obtain ⟨b, off, ha, hb, m, cs, x, ht, hcl, hc⟩ := hr k hk
  obtain ⟨n, hn, _⟩ := DataW.trod_bool Try.underlying4 ht
  refine ⟨b, off, ha, hb, n, ?_⟩
  have := hc 0 (by omega)
  rw [hn] at this
  simpa using this

theorem fate_cells {H : Type} {enc : TypeId × Value → H} {W : World} {n : Nat} {cs : List Value} {x : DataW H × List MemPlace} (h : DataW.trod enc Try.prog W 0 (fun _ => true) true n 31 cs = some x) :
    ∃ K A : Int, cs = [.int .i64 K, .int .i64 A] := by
  have hc2 : Try.prog.cellsOf 31 = 2 := by kernel_rfl
  have hc3 : Try.prog.cellsOf 3 = 1 := by kernel_rfl
  obtain ⟨xs, m, _, _, hl, hxl, hf⟩ := DataW.trod_struct Try.underlying31 h
  rw [hc2] at hl
  match cs, hl with
  | [v0, v1], _ =>
    match xs, hxl with
    | [y0, y1], _ =>
      have e0 := hf 0 _ rfl
      change DataW.trod enc Try.prog W 0 (fun _ => true) true m 3 (List.take (Try.prog.cellsOf 3) [v0, v1]) = some y0 at e0
      rw [hc3] at e0
      have e1 := hf 1 _ rfl
      change DataW.trod enc Try.prog W 0 (fun _ => true) true m 3 (List.take (Try.prog.cellsOf 3) [v1]) = some y1 at e1
      rw [hc3] at e1
      simp only [List.take_succ_cons, List.take_zero] at e0 e1
      obtain ⟨K, g0, _, _⟩ := DataW.trod_int Try.underlying3 e0
      obtain ⟨A, g1, _, _⟩ := DataW.trod_int Try.underlying3 e1
      simp only [List.cons.injEq, and_true] at g0 g1
      exact ⟨K, A, by rw [g0, g1]⟩
/-- A list of fates, the k-th by what its cells hold. -/
theorem pick_list {P : Nat → Int × Int → Prop} : ∀ len, (∀ k, k < len → ∃ q, P k q) → ∃ F : List (Int × Int), F.length = len ∧ ∀ k (h : k < F.length), P k F[k]
  | 0, _ => ⟨[], rfl, fun k h => by simp at h⟩
  | n + 1, h => by
    obtain ⟨F, hF, hP⟩ := pick_list n (fun k hk => h k (by omega))
    obtain ⟨q, hq⟩ := h n (by omega)
    refine ⟨F ++ [q], by simp [hF], fun k hk => ?_⟩
    simp at hk
    by_cases hkn : k < F.length
    · rw [List.getElem_append_left hkn]; exact hP k hkn
    · have : k = n := by omega
      subst this
      rw [List.getElem_append_right (by omega)]
      simpa [hF] using hq
theorem open_fates {H : Type} {enc : TypeId × Value → H} {W : World} {a : Option Addr} {len cap : Nat} {d : DataW H} {p : List MemPlace} (h : DataW.Trod enc Try.prog W 0 (fun _ => true) true 26 (.slice a len cap) d p) :
    len ≤ 9223372036854775807 ∧ ∃ F : List (Int × Int), F.length = len ∧ Fates W a F := by
  obtain ⟨hl, hr⟩ := open_rows Try.underlying26 (c := 2) (by kernel_rfl) (by omega) h
  refine ⟨hl, ?_⟩
  obtain ⟨F, hF, hP⟩ := pick_list (P := fun k q => ∃ c off, a = some ⟨c, off, none⟩ ∧ W.cell? ⟨c, off + k * 2, none⟩ = some (.int .i64 q.1) ∧ W.cell? ⟨c, off + k * 2 + 1, none⟩ = some (.int .i64 q.2)) len (fun k hk => by
    obtain ⟨b, off, ha, hb, m, cs, x, ht, hcl, hc⟩ := hr k hk
    obtain ⟨K, A, rfl⟩ := fate_cells ht
    exact ⟨(K, A), b, off, ha, hc 0 (by omega), hc 1 (by omega)⟩)
  exact ⟨F, hF, hP⟩

theorem Fates.below {w w' : World} {a : Option Addr} {F : List (Int × Int)} (h : Fates w a F) (hb : Below w.heap.size w w') : Fates w' a F := by
  intro i hi
  obtain ⟨c, off, ha, h0, h1⟩ := h i hi
  have hcw : c < w.heap.size := by simpa using block_lt_of_cell h0
  exact ⟨c, off, ha, (hb.cell (p := ⟨c, off + i * 2, none⟩) (by simpa using hcw)).trans h0, (hb.cell (p := ⟨c, off + i * 2 + 1, none⟩) (by simpa using hcw)).trans h1⟩
theorem Fates.lt {w : World} {a : Option Addr} {F : List (Int × Int)} (h : Fates w a F) {len : Nat} (hl : F.length = len) (h0 : 0 < len) : ∀ c off, a = some ⟨c, off, none⟩ → c < w.heap.size := by
  intro c off ha
  obtain ⟨c', off', ha', hc, _⟩ := h 0 (by omega)
  rw [ha] at ha'
  cases ha'
  simpa using block_lt_of_cell hc
end Go.Proofs.Ytaccmeffcjfeeaa
