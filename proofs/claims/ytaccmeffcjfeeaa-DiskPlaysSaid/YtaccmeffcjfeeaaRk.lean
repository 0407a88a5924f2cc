/-
  The document's disk in memory, and a contract for its small methods.
-/
import Derived.Test.YtaccmeffcjfeeaaSy
namespace Go.Proofs.Ytaccmeffcjfeeaa
open Go.RowKit

/-- A sector as a text; an open write as cells. -/
def sc (x : List UInt8) : Value := .string ⟨x.toArray⟩
def pc (p : Nat × List UInt8) : List Value := [.int .i64 (p.1 : Int), sc p.2]
/-- A row of sectors, a row of open writes. -/
def Rs (w : World) (B : Nat) (v : Value) (S : List (List UInt8)) : Prop := w.ownsRow B 9 1 v S.length (S.map sc)
def Ro (w : World) (B : Nat) (v : Value) (O : List (Nat × List UInt8)) : Prop := w.ownsRow B 67 2 v O.length (O.flatMap pc)
theorem pc_at : ∀ (O : List (Nat × List UInt8)) (i : Nat) (p : Nat × List UInt8), O[i]? = some p → (O.flatMap pc)[i * 2]? = some (.int .i64 (p.1 : Int)) ∧ (O.flatMap pc)[i * 2 + 1]? = some (sc p.2)
  | [], i, p, h => by simp at h
  | q :: O, 0, p, h => by
    simp at h
    subst h
    exact ⟨rfl, rfl⟩
  | q :: O, i + 1, p, h => by
    have ih := pc_at O i p (by simpa using h)
    simp only [List.flatMap_cons]
    have hl : (pc q).length = 2 := rfl
    refine ⟨?_, ?_⟩
    · rw [List.getElem?_append_right (by omega), show (i + 1) * 2 - (pc q).length = i * 2 by omega]
      exact ih.1
    · rw [List.getElem?_append_right (by omega), show (i + 1) * 2 + 1 - (pc q).length = i * 2 + 1 by omega]
      exact ih.2
theorem Rs.cell {w : World} {B : Nat} {v : Value} {S : List (List UInt8)} (h : Rs w B v S) {i : Nat} {x : List UInt8} (hi : S[i]? = some x) :
    ∃ g cap, v = .slice (some ⟨g, 0, none⟩) S.length cap ∧ B ≤ g ∧ w.cell? ⟨g, i, none⟩ = some (sc x) ∧ w.frozen? ⟨g, i, none⟩ = false := by
  have hil : i < S.length := (List.getElem?_eq_some_iff.1 hi).1
  rcases h.2 with ⟨_, h0⟩ | ⟨g, cap, cur, hv, hB, hg, hcap, hmx, hcs, hx⟩
  · omega
  · refine ⟨g, cap, hv, hB, ?_, by simp [World.frozen?, hg]⟩
    have e : (S.map sc)[i]? = some (sc x) := by simp [hi]
    rw [← hx, List.getElem?_take_of_lt (by omega), Array.getElem?_toList] at e
    simp [World.cell?, hg, e]
theorem Ro.cells {w : World} {B : Nat} {v : Value} {O : List (Nat × List UInt8)} (h : Ro w B v O) {i : Nat} {p : Nat × List UInt8} (hi : O[i]? = some p) :
    ∃ g cap, v = .slice (some ⟨g, 0, none⟩) O.length cap ∧ B ≤ g ∧ w.cell? ⟨g, i * 2, none⟩ = some (.int .i64 (p.1 : Int)) ∧ w.cell? ⟨g, i * 2 + 1, none⟩ = some (sc p.2) := by
  have hil : i < O.length := (List.getElem?_eq_some_iff.1 hi).1
  rcases h.2 with ⟨_, h0⟩ | ⟨g, cap, cur, hv, hB, hg, hcap, hmx, hcs, hx⟩
  · omega
  · have hk := pc_at O i p hi
    have hz : ∀ j, j < O.length * 2 → (O.flatMap pc)[j]? = cur[j]? := fun j hj => by
      rw [← hx, List.getElem?_take_of_lt hj, Array.getElem?_toList]
    refine ⟨g, cap, hv, hB, ?_, ?_⟩
    · rw [hz _ (by omega)] at hk; simp [World.cell?, hg, hk.1]
    · rw [hz (i * 2 + 1) (by omega)] at hk; simp [World.cell?, hg, hk.2]
theorem row_len {w : World} {B e s : Nat} {v : Value} {n : Nat} {xs : List Value} (h : w.ownsRow B e s v n xs) : ∃ a c, v = .slice a n c := by
  rcases h.2 with ⟨hv, h0⟩ | ⟨g, cap, cur, hv, _⟩
  · exact ⟨none, 0, by rw [hv, h0]⟩
  · exact ⟨_, cap, hv⟩
theorem row_keep {w w' : World} {B e s : Nat} {v : Value} {n : Nat} {xs : List Value} (h : w.ownsRow B e s v n xs) (k : ∀ g, v.ownBlock = some g → g < w.heap.size → w'.heap[g]? = w.heap[g]?) : w'.ownsRow B e s v n xs := by
  refine ⟨h.1, ?_⟩
  rcases h.2 with h0 | ⟨g, cap, cur, hv, hB, hg, hr⟩
  · exact .inl h0
  · exact .inr ⟨g, cap, cur, hv, hB, (k g (by rw [hv]; rfl) (Array.getElem?_eq_some_iff.1 hg).1).trans hg, hr⟩

/-- The document's disk in block R. -/
structure Rk (w : World) (R : Nat) (S : List (List UInt8)) (O : List (Nat × List UInt8)) (vS vO : Value) (f c : Int) : Prop where
  box : w.heap[R]? = some (.cells #[vS, vO, .int .i64 f, .int .i64 c] 53 (0, 0))
  rs : Rs w (R + 1) vS S
  ro : Ro w (R + 1) vO O
section
variable {w w' : World} {R : Nat} {S : List (List UInt8)} {O : List (Nat × List UInt8)} {vS vO : Value} {f c : Int}
theorem Rk.lt (h : Rk w R S O vS vO f c) : R < w.heap.size := by
  exact (Array.getElem?_eq_some_iff.1 h.box).1
theorem Rk.c0 (h : Rk w R S O vS vO f c) : w.cell? ⟨R, 0, none⟩ = some vS := by exact cellAt h.box 0 rfl
theorem Rk.c1 (h : Rk w R S O vS vO f c) : w.cell? ⟨R, 1, none⟩ = some vO := by exact cellAt h.box 1 rfl
theorem Rk.c2 (h : Rk w R S O vS vO f c) : w.cell? ⟨R, 2, none⟩ = some (.int .i64 f) := by exact cellAt h.box 2 rfl
theorem Rk.c3 (h : Rk w R S O vS vO f c) : w.cell? ⟨R, 3, none⟩ = some (.int .i64 c) := by exact cellAt h.box 3 rfl
theorem Rk.fr (h : Rk w R S O vS vO f c) (j : Nat) : w.frozen? ⟨R, j, none⟩ = false := freeAt h.box j
theorem Rk.keep (h : Rk w R S O vS vO f c) (e : ∀ k, k < w.heap.size → R ≤ k → w'.heap[k]? = w.heap[k]?) : Rk w' R S O vS vO f c := by
  exact ⟨(e R h.lt (Nat.le_refl _)).trans h.box, row_keep h.rs fun g hg hl => e g hl (by have := (World.ownsRow.lt h.rs g hg).1; omega), row_keep h.ro fun g hg hl => e g hl (by have := (World.ownsRow.lt h.ro g hg).1; omega)⟩
theorem Rk.below (h : Rk w R S O vS vO f c) (hb : Below w.heap.size w w') : Rk w' R S O vS vO f c := h.keep fun k hk _ => hb.block k hk
/-- A number of the box is set. -/
theorem Rk.setf (h : Rk w R S O vS vO f c) (f' : Int) : Rk (w.setCell ⟨R, 2, none⟩ (.int .i64 f')) R S O vS vO f' c := by
  refine ⟨by rw [heap_setCell_same w R 2 _ 53 _ h.box]; rfl, row_keep h.rs fun g hg _ => ?_, row_keep h.ro fun g hg _ => ?_⟩
  · exact heap_setCell_other _ _ _ _ (by have := (World.ownsRow.lt h.rs g hg).1; show g ≠ R; omega)
  · exact heap_setCell_other _ _ _ _ (by have := (World.ownsRow.lt h.ro g hg).1; show g ≠ R; omega)
theorem Rk.setc (h : Rk w R S O vS vO f c) (c' : Int) : Rk (w.setCell ⟨R, 3, none⟩ (.int .i64 c')) R S O vS vO f c' := by
  refine ⟨by rw [heap_setCell_same w R 3 _ 53 _ h.box]; rfl, row_keep h.rs fun g hg _ => ?_, row_keep h.ro fun g hg _ => ?_⟩
  · exact heap_setCell_other _ _ _ _ (by have := (World.ownsRow.lt h.rs g hg).1; show g ≠ R; omega)
  · exact heap_setCell_other _ _ _ _ (by have := (World.ownsRow.lt h.ro g hg).1; show g ≠ R; omega)
theorem grown_cell (w : World) (R j : Nat) (v : Value) : w.grownBy (w.setCell ⟨R, j, none⟩ v) (some R) :=
  ⟨rfl, rfl, rfl, by simp [World.setCell], fun k _ hk => heap_setCell_other _ _ _ _ (fun e => hk (by rw [e]))⟩
theorem grown_nothing (w : World) (row : Option Nat) : w.grownBy w row := ⟨rfl, rfl, rfl, Nat.le_refl _, fun _ _ _ => rfl⟩
theorem grown_then {a b c : World} {row : Option Nat} (h : a.grownBy b row) (k : b.grownBy c row) : a.grownBy c row :=
  ⟨k.os.trans h.os, k.tape.trans h.tape, k.output.trans h.output, Nat.le_trans h.size k.size, fun j hj hr => (k.block j (Nat.lt_of_lt_of_le hj h.size) hr).trans (h.block j hj hr)⟩

theorem rfails (h : Rk w R S O vS vO f c) (hf0 : 0 ≤ f) (hf1 : f ≤ 9223372036854775807) (b : Bool) (f' : Int) (hf : failS f = (b, f')) :
    Calls Try.prog 29 #[.pointer (some ⟨R, 0, none⟩)] w fun e w' => e = .returned (.bool b) ∧ Rk w' R S O vS vO f' c ∧ w.grownBy w' (some R) := by
  unfold failS at hf
  have c2 := h.c2
  have hz := h.fr 2
  split at hf
  · rename_i h0
    obtain ⟨rfl, rfl⟩ := hf
    subst h0
    go_enter Try.func29, Try.ntmps29
    go_wp2
    go_ret
    exact ⟨rfl, h, grown_nothing _ _⟩
  · rename_i h0
    simp only [Prod.mk.injEq] at hf
    obtain ⟨hb, hf'⟩ := hf
    have HB := Lib.hid hb
    subst hf'
    have hs := h.setf (f - 1)
    have hg := grown_cell w R 2 (.int .i64 (f - 1))
    clear hb
    go_enter Try.func29, Try.ntmps29
    go_wp2
    go_ret
    exact ⟨by rw [← HB.out]; rfl, hs, hg⟩
theorem rFail (h : Rk w R S O vS vO f c) (k f' : Int) (hf : (if 0 < k then k else 0) = f') :
    Calls Try.prog 21 #[.pointer (some ⟨R, 0, none⟩), .int .i64 k] w fun e w' => e = .returned (.tuple #[]) ∧ Rk w' R S O vS vO f' c ∧ w.grownBy w' (some R) := by
  have c2 := h.c2
  have hz := h.fr 2
  have hs := h.setf f'
  have hg := grown_cell w R 2 (.int .i64 f')
  by_cases hk : k < 0
  · rw [if_neg (by omega)] at hf
    subst hf
    go_enter Try.func21, Try.ntmps21
    go_wp2
    go_end0
    exact ⟨rfl, hs, hg⟩
  · have hf2 : f' = k := by split at hf <;> omega
    subst hf2
    clear hf
    go_enter Try.func21, Try.ntmps21
    go_wp2
    go_end0
    exact ⟨rfl, hs, hg⟩
end
end Go.Proofs.Ytaccmeffcjfeeaa
