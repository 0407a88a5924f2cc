/-
  A new disk; the chapter's example.
-/
import Derived.Test.YtaccmeffcjfeeaaCr
namespace Go.Proofs.Ytaccmeffcjfeeaa
open Go.RowKit
set_option linter.unusedSimpArgs false

theorem new_low (n : Int) (h : n < 1) (w : World) : Calls Try.prog 10 #[.int .i64 n] w fun e w' => e = .returned (.pointer none) ∧ w = w' := by
  go_enter Try.func10, Try.ntmps10
  go_wp2
  go_ret
  exact ⟨rfl, rfl⟩
theorem new_high (n : Int) (h : 1024 < n) (w : World) : Calls Try.prog 10 #[.int .i64 n] w fun e w' => e = .returned (.pointer none) ∧ w = w' := by
  go_enter Try.func10, Try.ntmps10
  go_wp2
  go_ret
  exact ⟨rfl, rfl⟩
/-- Sectors of zeros. -/
def zs (n : Nat) : List (List UInt8) := List.replicate n (List.replicate 64 0)
theorem zs_flat (n : Nat) : (zs n).flatMap bc = List.replicate (n * 64) (Value.int .u8 0) := by
  induction n with
  | zero => simp [zs]
  | succ n ih =>
    have e : zs (n + 1) = List.replicate 64 0 :: zs n := rfl
    rw [e, List.flatMap_cons, ih, Nat.succ_mul, Nat.add_comm (n * 64) 64, ← List.replicate_append_replicate]
    rfl
theorem made_rep (k N : Nat) (hk : 0 < k) (x : Value) : madeCells (List.replicate k x).toArray N = (List.replicate N x).toArray := by
  apply Array.ext
  · simp [madeCells]
  · intro i h1 h2
    have hlt : i % k < k := Nat.mod_lt _ hk
    simp [madeCells, hlt]
theorem made_secs (z : Value) (n : Nat) (hz : z.cells = (List.replicate 64 (Value.int .u8 0)).toArray) : madeCells z.cells (n * 64) = ((zs n).flatMap bc).toArray := by
  rw [zs_flat, hz, made_rep 64 _ (by omega)]
theorem zero62c : (Try.prog.info? 62).map (fun i => (i.zero.map fun z => z.cells, i.size, i.bytes)) = some (some (List.replicate 64 (Value.int .u8 0)).toArray, 64, 64) := by kernel_rfl
theorem wpList_make_secs (w : World) {ops : Array Oper} {rest : List Oper} {o : Oper} {a : Act} {Q : Exit → Act → World → Prop}
    (hg : o.guard = none) (l c : Operand) (hop : o.op = Op.makeSlice 56 l c) (n : Nat) (hn : n ≤ 1024) (hl : a.eval l = .int .i64 n) (hc : a.eval c = .int .i64 n)
    (hK : ∀ C : Array Value, Hid (C = ((zs n).flatMap bc).toArray) → wpList Try.prog ops Q rest (a.put o.dst (.slice (some ⟨w.heap.size, 0, none⟩) n n)) (w.alloc (.cells C 62))) :
    wpList Try.prog ops Q (o :: rest) a w := by
  cases hi : Try.prog.info? 62 with
  | none => have := zero62c; simp [hi] at this
  | some i0 =>
    have h1 := zero62c
    simp only [hi, Option.map_some, Option.some.injEq, Prod.mk.injEq] at h1
    obtain ⟨hz0, hz1, hz2⟩ := h1
    cases hz : i0.zero with
    | none => simp [hz] at hz0
    | some z =>
      have hzc : z.cells = (List.replicate 64 (Value.int .u8 0)).toArray := by simpa [hz] using hz0
      refine wpList_plain hg fun K hK' => ?_
      have hrun := run_make (P := Try.prog) w 56 62 i0 z Try.underlying56 hi hz .i64 .i64 (n : Int) (n : Int) (by omega) (Int.le_refl _) (by rw [hz2]; omega) (by omega)
      rw [hz1] at hrun
      simp only [Int.toNat_natCast] at hrun
      rw [made_secs z n hzc] at hrun
      have hk := hK _ rfl
      unfold Oper.wp
      simp only [execOp, hop, hl, hc, Sem.run_bind, hrun, Result.andThen_ok]
      exact hK' _ _ hk

theorem new_ok (n : Nat) (h0 : 1 ≤ n) (h1 : n ≤ 1024) (w : World) :
    Calls Try.prog 10 #[.int .i64 n] w fun e w' => e = .returned (.pointer (some ⟨w.heap.size + 1, 0, none⟩)) ∧ Dk w' (w.heap.size + 1) w.heap.size n (zs n) [] 0 none 0 0 0 ∧ Below w.heap.size w w' ∧ w'.heap.size = w.heap.size + 2 := by
  go_enter Try.func10, Try.ntmps10
  go_wp2_with (refine wpList_make_secs _ rfl _ _ rfl n h1 rfl rfl ?_; intro C hC)
  go_ret
  have hB : Dk ((w.alloc (.cells C 62)).alloc (.cells #[.slice (some ⟨w.heap.size, 0, none⟩) n n, .slice none 0 0, .int .i64 0, .int .i64 0] 59)) (w.heap.size + 1) w.heap.size n (zs n) [] 0 none 0 0 0 := by
    refine ⟨⟨59, heap_alloc2_new _ _ _⟩, ⟨62, ?_⟩, by simp [zs], ?_, rfl, World.ownsRow_nil _ _ _ _, by simp, by omega, by simp [Value.ownBlock], by simp [Value.ownBlock], h0, h1, by omega, by omega, by omega, by omega, by omega⟩
    · rw [← hC.out]; exact heap_alloc2_old _ _ _
    · intro x hx
      simp only [zs, List.mem_replicate] at hx
      rw [hx.2]
      simp
  exact ⟨rfl, hB, ((Below.refl _ _).alloc (Nat.le_refl _) _).alloc (by simp) _, by simp⟩

theorem fil_size (x : UInt8) : (fil x).size = 64 := by simp [fil, ByteArray.size]
theorem fil_list (x : UInt8) : (fil x).data.toList = List.replicate 64 x := by simp [fil]

end Go.Proofs.Ytaccmeffcjfeeaa
