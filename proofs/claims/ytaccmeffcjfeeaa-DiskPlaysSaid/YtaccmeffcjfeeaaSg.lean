/-
  A disk and a row of bytes beside it; what a Read tells behind a write, and behind a flush.
-/
import Derived.Test.YtaccmeffcjfeeaaOp
namespace Go.Proofs.Ytaccmeffcjfeeaa
open Go.RowKit

theorem fill_int (j : Int) (h0 : 0 ≤ j) (h1 : j < 256) (w : World) : Calls Try.prog 11 #[.int .u8 j] w fun e w' => e = .returned (.string (fil (UInt8.ofNat j.toNat))) ∧ Below w.heap.size w w' := by
  have e : ((UInt8.ofNat j.toNat).toNat : Int) = j := by simp; omega
  have h := fill_any (UInt8.ofNat j.toNat) w
  rw [e] at h
  exact h
theorem By.seti {w : World} {b : Nat} {l : List UInt8} (h : By w b l) (k : Nat) (j : Int) (h0 : 0 ≤ j) (h1 : j < 256) : By (w.setCell ⟨b, k, none⟩ (.int .u8 j)) b (l.set k (UInt8.ofNat j.toNat)) := by
  have e : ((UInt8.ofNat j.toNat).toNat : Int) = j := by simp; omega
  have := h.set k (UInt8.ofNat j.toNat)
  rw [e] at this
  exact this
theorem By.moved {w w' : World} {g : Nat} {l : List UInt8} {b s : Nat} {oa : Option Addr} (h : By w g l) (hm : Moved w w' b s oa) (h1 : g ≠ b) (h2 : g ≠ s) (h3 : ob oa ≠ some g) : By w' g l :=
  h.keep (hm.block g h.lt h1 h2 h3)
theorem By.below {w w' : World} {g : Nat} {l : List UInt8} (h : By w g l) (hb : Below w.heap.size w w') : By w' g l := h.keep (hb.block g h.lt)
theorem Dk.setOther {w : World} {b s n : Nat} {S : List (List UInt8)} {O : List (Nat × List UInt8)} {m : Nat} {oa : Option Addr} {cap : Nat} {f r : Int} (h : Dk w b s n S O m oa cap f r) (p : Addr) (v : Value) (h1 : p.block ≠ b) (h2 : p.block ≠ s) (h3 : ob oa ≠ some p.block) : Dk (w.setCell p v) b s n S O m oa cap f r :=
  h.keep fun k hk hc => heap_setCell_other _ _ _ _ (by
    rcases hc with rfl | rfl | hc
    · exact fun e => h1 e.symm
    · exact fun e => h2 e.symm
    · exact fun e => h3 (by rw [← e]; exact (own_slice oa 0 0 m cap).trans hc))

theorem rd_write (S : List (List UInt8)) (O : List (Nat × List UInt8)) (q : Nat) (A : List UInt8) (j : Nat) : rd S (O ++ [(q, A)]) j = if q = j then A else rd S O j := by
  simp [rd, List.foldl_append]
theorem fl_len : ∀ (O : List (Nat × List UInt8)) (S : List (List UInt8)), (fl S O).length = S.length
  | [], _ => rfl
  | p :: O, S => by
    have := fl_len O (S.set p.1 p.2)
    rw [List.length_set] at this
    exact this
theorem rd_fl (j : Nat) : ∀ (O : List (Nat × List UInt8)) (S : List (List UInt8)), (∀ p ∈ O, p.1 < S.length) → rd (fl S O) [] j = rd S O j
  | [], _, _ => rfl
  | p :: O, S, h => by
    have ih := rd_fl j O (S.set p.1 p.2) (fun q hq => by rw [List.length_set]; exact h q (by simp [hq]))
    have hp := h p (by simp)
    have e : (S.set p.1 p.2).getD j [] = if p.1 = j then p.2 else S.getD j [] := by
      simp only [List.getD_eq_getElem?_getD]
      by_cases hj : p.1 = j
      · subst hj
        rw [List.getElem?_set_self hp, if_pos rfl]
        rfl
      · rw [List.getElem?_set_ne hj, if_neg hj]
    have e2 : rd S (p :: O) j = rd (S.set p.1 p.2) O j := by
      simp only [rd, List.foldl_cons]
      rw [e]
    rw [e2]
    exact ih
theorem fil_of {R : List UInt8} {x : UInt8} (h : R = List.replicate 64 x) : (⟨R.toArray⟩ : ByteArray) = fil x := by subst h; rfl
end Go.Proofs.Ytaccmeffcjfeeaa
