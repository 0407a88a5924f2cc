/-
  Arrays of numbers: one element; an array held against itself.
-/
import Derived.Test.YtjkcjkcophbeiaaSt

namespace Go.Proofs.Ytjkcjkcophbeiaa
open Go.RowKit

theorem run_isAgg_int {P : Program} {e : TypeId} {q : IntKind} (he : P.underlying e = some (.int q)) (w : World) : (isAgg e).run P w = .ok false w := by
  unfold isAgg
  rw [Sem.run_bind, run_underlying he w]
  simp
theorem run_part_int {P : Program} {e : TypeId} {q : IntKind} (he : P.underlying e = some (.int q)) (w : World) (cs : Array Value) (i : Nat) (v : Value) (hv : cs[i]? = some v) : (part e cs i).run P w = .ok v w := by
  unfold part
  rw [Sem.run_bind, run_isAgg_int he]
  simp [hv]

/-- An array of numbers held against itself. -/
theorem run_equalIn_arr {P : Program} (d n : Nat) (t e : TypeId) (q : IntKind) (ht : P.underlying t = some (.array n e)) (he : P.underlying e = some (.int q)) (hs : (P.info? e).map (·.size) = some 1) (l : List Int) (hl : l.length = n) (w : World) :
    (Op.equalIn (d + 2) t (.agg (l.map (Value.int q)).toArray) (.agg (l.map (Value.int q)).toArray)).run P w = .ok true w := by
  obtain ⟨i, hi, hi1⟩ := Option.map_eq_some_iff.1 hs
  rw [Op.equalIn]
  simp only [Sem.run_bind, run_underlying ht, Result.andThen_ok, sizeOf, typeInfo, hi, hi1, run_program, Sem.run_pure]
  rw [Std.Legacy.Range.forIn_eq_forIn_range']
  have key : ∀ ks : List Nat, (∀ k ∈ ks, k < n) → Sem.run P (forIn ks ((none : Option Bool), ()) fun i __s => do
            let __do_lift ← part e (List.map (Value.int q) l).toArray (i * 1)
            let __do_lift_1 ← part e (List.map (Value.int q) l).toArray (i * 1)
            let __do_lift ← Op.equalIn (d + 1) e __do_lift __do_lift_1
            if (!__do_lift) = true then pure (ForInStep.done (some false, ())) else pure (ForInStep.yield (none, ()))) w = .ok (none, ()) w := by
    intro ks
    induction ks with
    | nil => intro _; simp
    | cons k ks ih =>
      intro h
      have hk : k < n := h k (by simp)
      have hk' : k < l.length := by omega
      have hp := run_part_int he w (l.map (Value.int q)).toArray k (.int q (l.getD k 0)) (by simp [hk'])
      simp only [List.forIn_cons, Sem.run_bind, Nat.mul_one, hp, Result.andThen_ok, run_equalIn_int w d e q q _ _ he]
      simp only [beq_self_eq_true, Bool.not_true, Bool.false_eq_true, if_false, Sem.run_pure, Result.andThen_ok]
      simpa only [Nat.mul_one] using ih (fun k hk => h k (by simp [hk]))
  rw [key _ (by intro k hk; simpa [List.mem_range'] using hk)]
  simp
/-- An array's element. -/
theorem run_index_arr {P : Program} (n : Nat) (t e : TypeId) (q : IntKind) (ht : P.underlying t = some (.array n e)) (he : P.underlying e = some (.int q)) (hs : (P.info? e).map (·.size) = some 1) (l : List Int) (hl : l.length = n) (k : Nat) (hk : k < n) (w : World) :
    (Instr.index t (.agg (l.map (Value.int q)).toArray) (.int .i64 k)).run P w = .ok (.int q (l.getD k 0)) w := by
  obtain ⟨i, hi, hi1⟩ := Option.map_eq_some_iff.1 hs
  have hk' : k < l.length := by omega
  have hpart := run_part_int he w (l.map (Value.int q)).toArray k (.int q (l.getD k 0)) (by simp [hk'])
  have hc : (0 : Int) ≤ (k : Int) ∧ (k : Int) < (n : Int) := by omega
  simp [Instr.index, asIntOf, run_underlying ht, sizeOf, typeInfo, hi, hi1, hc, hpart, Result.andThen]
  intro h; omega

theorem i64_and7 (n : Int) : bits .and .i64 n 7 = n % 8 := by
  have h7 : (BitVec.ofInt 64 7).toNat = 2 ^ 3 - 1 := by decide
  have key : (BitVec.ofInt 64 n &&& BitVec.ofInt 64 7).toNat = (n % ((2 ^ 64 : Nat) : Int)).toNat % 2 ^ 3 := by
    rw [BitVec.toNat_and, BitVec.toNat_ofInt, h7, Nat.and_two_pow_sub_one_eq_mod]
  show IntKind.i64.wrap ((BitVec.ofInt 64 n &&& BitVec.ofInt 64 7).toNat : Nat) = n % 8
  rw [key, IntKind.wrap_i64]
  omega
/-- n & 7: a number below 8. -/
theorem and7 (n : Int) : ∃ q : Nat, q < 8 ∧ bits .and .i64 n 7 = (q : Int) := ⟨(n % 8).toNat, by omega, by rw [i64_and7]; omega⟩
theorem tmod_in (n : Int) (m : Nat) (h : 0 < m) : ∃ r : Int, n.tmod m = r ∧ -(m : Int) < r ∧ r < m := by
  refine ⟨_, rfl, ?_, ?_⟩
  · have := Int.tmod_lt_of_pos (-n) (b := m) (by omega)
    rw [Int.neg_tmod] at this
    omega
  · exact Int.tmod_lt_of_pos _ (by omega)
end Go.Proofs.Ytjkcjkcophbeiaa
