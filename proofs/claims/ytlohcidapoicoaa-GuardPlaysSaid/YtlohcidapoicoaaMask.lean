/-
  Masks of whole numbers, and a row of numbers that came in.
-/
import Derived.Test.YtlohcidapoicoaaGv
namespace Go.Proofs.Ytlohcidapoicoaa
open Go.RowKit

theorem i64_mask (n : Int) (j m : Nat) (hm : m = 2 ^ j) (hj : j ≤ 40) (hc : (BitVec.ofInt 64 ((m : Int) - 1)).toNat = 2 ^ j - 1) : bits .and .i64 n ((m : Int) - 1) = n % m := by
  have key : (BitVec.ofInt 64 n &&& BitVec.ofInt 64 ((m : Int) - 1)).toNat = (n % ((2 ^ 64 : Nat) : Int)).toNat % 2 ^ j := by
    rw [BitVec.toNat_and, BitVec.toNat_ofInt, hc, Nat.and_two_pow_sub_one_eq_mod]
  show IntKind.i64.wrap ((BitVec.ofInt 64 n &&& BitVec.ofInt 64 ((m : Int) - 1)).toNat : Nat) = n % m
  rw [key, IntKind.wrap_i64, hm]
  have h1 : ((n % ((2 ^ 64 : Nat) : Int)).toNat % 2 ^ j : Nat) < 2 ^ j := Nat.mod_lt _ (Nat.two_pow_pos j)
  have h2 : 2 ^ j ≤ 2 ^ 40 := Nat.pow_le_pow_right (by omega) hj
  have h3 : (((n % ((2 ^ 64 : Nat) : Int)).toNat % 2 ^ j : Nat) : Int) = n % ((2 ^ j : Nat) : Int) := by
    have hpos : 0 ≤ n % ((2 ^ 64 : Nat) : Int) := Int.emod_nonneg _ (by decide)
    rw [Int.natCast_emod, Int.toNat_of_nonneg hpos]
    exact Int.emod_emod_of_dvd n (by exact_mod_cast Nat.pow_dvd_pow 2 (by omega))
  rw [← h3]
  generalize (n % ((2 ^ 64 : Nat) : Int)).toNat % 2 ^ j = x at *
  omega

theorem and31 (n : Int) : ∃ q : Nat, q < 32 ∧ bits .and .i64 n 31 = (q : Int) :=
  ⟨(n % 32).toNat, by omega, by have : bits .and .i64 n 31 = n % 32 := i64_mask n 5 32 rfl (by omega) (by decide); rw [this]; omega⟩
theorem and15 (n : Int) : ∃ q : Nat, q < 16 ∧ bits .and .i64 n 15 = (q : Int) :=
  ⟨(n % 16).toNat, by omega, by have : bits .and .i64 n 15 = n % 16 := i64_mask n 4 16 rfl (by omega) (by decide); rw [this]; omega⟩
theorem and63 (n : Int) : ∃ q : Nat, q < 64 ∧ bits .and .i64 n 63 = (q : Int) :=
  ⟨(n % 64).toNat, by omega, by have : bits .and .i64 n 63 = n % 64 := i64_mask n 6 64 rfl (by omega) (by decide); rw [this]; omega⟩
theorem and7 (n : Int) : ∃ q : Nat, q < 8 ∧ bits .and .i64 n 7 = (q : Int) :=
  ⟨(n % 8).toNat, by omega, by have : bits .and .i64 n 7 = n % 8 := i64_mask n 3 8 rfl (by omega) (by decide); rw [this]; omega⟩
theorem and31b (n : Int) : ∃ q : Int, 0 ≤ q ∧ q < 2147483648 ∧ bits .and .i64 n 2147483647 = q :=
  ⟨n % 2147483648, by omega, by omega, by have : bits .and .i64 n 2147483647 = n % 2147483648 := i64_mask n 31 2147483648 (by decide) (by omega) (by decide); rw [this]⟩

/-- What a walk is told of a slice of numbers: no element, or a row. -/
def Has (w : World) (a : Option Addr) (len : Nat) : Prop :=
  ∃ b off, a = some ⟨b, off, none⟩ ∧ b < w.heap.size ∧ ∀ k, k < len → ∃ x : Int, w.cell? ⟨b, off + k, none⟩ = some (.int .i64 x) ∧ (Lit.int .i64 x).wf = true
end Go.Proofs.Ytlohcidapoicoaa
