/-
  'Most' of the counts: its contracts: at a kind that is not, at nil, where the count is there already, where it is raised.
-/
import Derived.Test.YtjkcjkcophbeiaaCt
import Derived.WalkMore
import Derived.Outline
namespace Go.Proofs.Ytjkcjkcophbeiaa
open Go.RowKit

theorem most_out (b : Nat) (k n : Int) (h0 : ¬ (0 ≤ k ∧ k < 8)) (w : World) :
    Calls Try.prog 8 #[.pointer (some ⟨b, 0, none⟩), .int .i64 k, .int .i64 n] w fun e w' => e = .returned (.int .i64 0) ∧ w = w' := by
  go_enter Try.func8, Try.ntmps8
  go_wp2_with fail
  go_step3
  go_wp2_with (go_at_call 21; refine (of_out b k h0 _).mono ?_; rintro e w' ⟨rfl, rfl⟩)
  rw [Exit.noGoto_ret]
  go_ret
  exact ⟨rfl, rfl⟩
theorem most_nil (k n : Int) (w : World) :
    Calls Try.prog 8 #[.pointer none, .int .i64 k, .int .i64 n] w fun e w' => e = .returned (.int .i64 0) ∧ w = w' := by
  go_enter Try.func8, Try.ntmps8
  go_wp2_with fail
  go_step3
  go_wp2_with (go_at_call 21; refine (of_nil k _).mono ?_; rintro e w' ⟨rfl, rfl⟩)
  rw [Exit.noGoto_ret]
  go_ret
  exact ⟨rfl, rfl⟩
theorem most_less (b : Nat) (k x n : Int) (h0 : 0 ≤ k) (h8 : k < 8) (hn : n ≤ x) (w : World) (hc : w.cell? ⟨b, k.toNat, none⟩ = some (.int .i64 x)) :
    Calls Try.prog 8 #[.pointer (some ⟨b, 0, none⟩), .int .i64 k, .int .i64 n] w fun e w' => e = .returned (.int .i64 x) ∧ w = w' := by
  have hl := run_call_load (P := Try.prog) Try.func27 (by kernel_rfl) (by kernel_rfl) (by kernel_rfl) .i64 (by kernel_rfl) hc
  go_enter Try.func8, Try.ntmps8
  go_wp2_with fail
  go_step3
  go_wp2_with (first | (go_at_call 21; refine (of_in b k h0 h8 _).mono ?_; rintro e w' ⟨rfl, rfl⟩) | go_in)
  go_step3
  go_wp2
  refine wp_loop_rounds 1 ?_
  rw [rounds_succ]
  go_wp2
  rw [Exit.noGoto_ret]
  go_ret
  exact ⟨rfl, rfl⟩
theorem most_more (b : Nat) (k x n : Int) (h0 : 0 ≤ k) (h8 : k < 8) (hn : x < n) (w : World) (hc : w.cell? ⟨b, k.toNat, none⟩ = some (.int .i64 x)) (hz : w.frozen? ⟨b, k.toNat, none⟩ = false) :
    Calls Try.prog 8 #[.pointer (some ⟨b, 0, none⟩), .int .i64 k, .int .i64 n] w fun e w' => e = .returned (.int .i64 n) ∧ w.setCell ⟨b, k.toNat, none⟩ (.int .i64 n) = w' := by
  have hl := run_call_load (P := Try.prog) Try.func27 (by kernel_rfl) (by kernel_rfl) (by kernel_rfl) .i64 (by kernel_rfl) hc
  have hl2 := run_call_load (P := Try.prog) Try.func27 (by kernel_rfl) (by kernel_rfl) (by kernel_rfl) .i64 (by kernel_rfl) (World.cell?_setCell_same w _ (.int .i64 n) hc)
  have hcas := run_call_cas_hit (P := Try.prog) Try.func28 (by kernel_rfl) (by kernel_rfl) (by kernel_rfl) .i64 (by kernel_rfl) (y := n) hc hz
  go_enter Try.func8, Try.ntmps8
  go_wp2_with fail
  go_step3
  go_wp2_with (first | (go_at_call 21; refine (of_in b k h0 h8 _).mono ?_; rintro e w' ⟨rfl, rfl⟩) | go_in)
  go_step3
  go_wp2
  refine wp_loop_rounds 1 ?_
  rw [rounds_succ]
  go_wp2
  rw [Exit.noGoto_ret]
  go_ret
  exact ⟨rfl, rfl⟩
end Go.Proofs.Ytjkcjkcophbeiaa
