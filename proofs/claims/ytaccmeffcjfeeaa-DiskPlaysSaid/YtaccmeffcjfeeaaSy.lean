/-
  A row of booleans in memory; what a crash leaves of sectors whose open writes all bear great bytes.
-/
import Derived.Test.YtaccmeffcjfeeaaSg
namespace Go.Proofs.Ytaccmeffcjfeeaa
open Go.RowKit

def Bo (w : World) (b : Nat) (l : List Bool) : Prop := ∃ T, w.heap[b]? = some (.cells (l.map Value.bool).toArray T (0, 0))
theorem Bo.keep {w w' : World} {b : Nat} {l : List Bool} (h : Bo w b l) (e : w'.heap[b]? = w.heap[b]?) : Bo w' b l := by
  obtain ⟨T, hb⟩ := h
  exact ⟨T, e.trans hb⟩
theorem Bo.lt {w : World} {b : Nat} {l : List Bool} (h : Bo w b l) : b < w.heap.size := by
  obtain ⟨_, hb⟩ := h
  exact (Array.getElem?_eq_some_iff.1 hb).1
theorem Bo.cell {w : World} {b : Nat} {l : List Bool} (h : Bo w b l) {k : Nat} {x : Bool} (hk : l[k]? = some x) : w.cell? ⟨b, k, none⟩ = some (.bool x) := by
  obtain ⟨T, hb⟩ := h
  exact cellAt hb k (by simp [hk])
theorem Bo.free {w : World} {b : Nat} {l : List Bool} (h : Bo w b l) (k : Nat) : w.frozen? ⟨b, k, none⟩ = false := by
  obtain ⟨T, hb⟩ := h
  exact freeAt hb k
theorem Bo.set {w : World} {b : Nat} {l : List Bool} (h : Bo w b l) (k : Nat) (d : Bool) : Bo (w.setCell ⟨b, k, none⟩ (.bool d)) b (l.set k d) := by
  obtain ⟨T, hb⟩ := h
  refine ⟨T, ?_⟩
  rw [heap_setCell_same w b k _ T _ hb]
  simp [List.map_set]
theorem Bo.moved {w w' : World} {g : Nat} {l : List Bool} {b s : Nat} {oa : Option Addr} (h : Bo w g l) (hm : Moved w w' b s oa) (h1 : g ≠ b) (h2 : g ≠ s) (h3 : ob oa ≠ some g) : Bo w' g l :=
  h.keep (hm.block g h.lt h1 h2 h3)
theorem Bo.below {w w' : World} {g : Nat} {l : List Bool} (h : Bo w g l) (hb : Below w.heap.size w w') : Bo w' g l := h.keep (hb.block g h.lt)
theorem By.setOther {w : World} {g : Nat} {l : List UInt8} (h : By w g l) (p : Addr) (v : Value) (hp : p.block ≠ g) : By (w.setCell p v) g l := h.keep (heap_setCell_other _ _ _ _ (fun e => hp e.symm))

/-- All open writes bear great bytes, and stand by sectors that are marked. -/
def Wg (ov : List Bool) (O : List (Nat × List UInt8)) : Prop := ∀ p ∈ O, ov.getD p.1 false = true ∧ ∃ x : UInt8, 100 ≤ x.toNat ∧ p.2 = List.replicate 64 x
theorem Wg.mark {ov : List Bool} {O : List (Nat × List UInt8)} (h : Wg ov O) (q : Nat) (hq : q < ov.length) (x : UInt8) (hx : 100 ≤ x.toNat) : Wg (ov.set q true) (O ++ [(q, List.replicate 64 x)]) := by
  intro p hp
  have hset : ∀ j, ov.getD j false = true ∨ j = q → (ov.set q true).getD j false = true := by
    intro j hj
    simp only [List.getD_eq_getElem?_getD] at hj ⊢
    by_cases e : q = j
    · subst e
      rw [List.getElem?_set_self hq]
      rfl
    · rw [List.getElem?_set_ne e]
      rcases hj with h | h
      · exact h
      · exact absurd h.symm e
  rcases List.mem_append.1 hp with h1 | h1
  · exact ⟨hset _ (.inl (h p h1).1), (h p h1).2⟩
  · simp at h1
    subst h1
    exact ⟨hset _ (.inr rfl), x, hx, rfl⟩

/-- A sector: great bytes ahead of P, x from there on. -/
structure Good (o : Bool) (x : UInt8) (s : List UInt8) (P : Nat) : Prop where
  len : s.length = 64
  le : P ≤ 64
  no : o = false → P = 0
  ahead : ∀ i v, i < P → s[i]? = some v → 100 ≤ v.toNat
  behind : ∀ i v, P ≤ i → s[i]? = some v → v = x
theorem good_start (o : Bool) (x : UInt8) : Good o x (List.replicate 64 x) 0 :=
  ⟨by simp, by omega, fun _ => rfl, fun i v h _ => by omega, fun i v _ h => by
    rw [List.getElem?_replicate] at h
    split at h
    · exact (Option.some.inj h).symm
    · cases h⟩
theorem Good.put {x : UInt8} {s : List UInt8} {P : Nat} (h : Good true x s P) (n : Nat) (hn : n ≤ 64) (y : UInt8) (hy : 100 ≤ y.toNat) : Good true x ((List.replicate 64 y).take n ++ s.drop n) (max P n) := by
  have hl := h.len
  have hle := h.le
  have hT : ((List.replicate 64 y).take n).length = n := by simp; omega
  refine ⟨by simp; omega, by omega, (fun e => by cases e), fun i v hi hv => ?_, fun i v hi hv => ?_⟩
  · by_cases hin : i < n
    · rw [List.getElem?_append_left (by omega), List.getElem?_take_of_lt hin, List.getElem?_replicate, if_pos (by omega)] at hv
      rw [← Option.some.inj hv]
      exact hy
    · rw [List.getElem?_append_right (by omega), hT, List.getElem?_drop] at hv
      exact h.ahead i v (by omega) (by rw [show n + (i - n) = i by omega] at hv; exact hv)
  · rw [List.getElem?_append_right (by omega), hT, List.getElem?_drop] at hv
    exact h.behind i v (by omega) (by rw [show n + (i - n) = i by omega] at hv; exact hv)
theorem getD_set_self {α : Type} {l : List α} {i : Nat} {d : α} (x : α) (h : i < l.length) : (l.set i x).getD i d = x := by
  rw [List.getD_eq_getElem?_getD, List.getElem?_set_self h]
  rfl
theorem getD_set_ne {α : Type} {l : List α} {i j : Nat} {d : α} (x : α) (h : i ≠ j) : (l.set i x).getD j d = l.getD j d := by
  rw [List.getD_eq_getElem?_getD, List.getElem?_set_ne h, ← List.getD_eq_getElem?_getD]
theorem crS_good (F : List (Int × Int)) (ov : List Bool) (l : List UInt8) : ∀ (O : List (Nat × List UInt8)) (i : Nat) (S : List (List UInt8)), Wg ov O → (∀ p ∈ O, p.1 < S.length) →
    (∀ j, j < S.length → ∃ P, Good (ov.getD j false) (l.getD j 0) (S.getD j []) P) → ∀ j, j < S.length → ∃ P, Good (ov.getD j false) (l.getD j 0) ((crS F i S O).getD j []) P
  | [], _, _, _, _, h => h
  | p :: O, i, S, hw, hp, h => by
    intro j hj
    simp only [crS]
    have hp1 := hp p (by simp)
    refine crS_good F ov l O (i + 1) _ (fun q hq => hw q (by simp [hq])) (fun q hq => by rw [List.length_set]; exact hp q (by simp [hq])) (fun j hj => ?_) j (by rw [List.length_set]; exact hj)
    rw [List.length_set] at hj
    obtain ⟨ho, x, hx, hpx⟩ := hw p (by simp)
    by_cases e : p.1 = j
    · subst e
      obtain ⟨P, hP⟩ := h _ hp1
      rw [ho] at hP ⊢
      have hg := hP.put (lf F i) (lf_le _ _) x hx
      rw [← hpx] at hg
      refine ⟨max P (lf F i), ?_⟩
      rw [getD_set_self _ hp1]
      exact hg
    · obtain ⟨P, hP⟩ := h j hj
      refine ⟨P, ?_⟩
      rw [getD_set_ne _ e]
      exact hP
end Go.Proofs.Ytaccmeffcjfeeaa
