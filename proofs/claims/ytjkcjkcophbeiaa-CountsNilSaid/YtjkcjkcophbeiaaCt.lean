/-
  The counts' own state in memory, and a contract for each of its methods: what a call hands back, and what the eight counts are behind it.
-/
import Derived.Test.YtjkcjkcophbeiaaRows
import Derived.WalkKit
import Derived.WalkSpells
import Derived.WalkLawsBesides
import Derived.Laws.LoneSync
import Derived.Lib.Hide
namespace Go.Proofs.Ytjkcjkcophbeiaa
open Go.RowKit

/-- Block b holds eight counts. -/
def Ct (w : World) (b : Nat) (l : List Int) : Prop := ∃ T, w.heap[b]? = some (.cells (l.map (Value.int .i64)).toArray T (0, 0)) ∧ l.length = 8

theorem Ct.cell {w : World} {b : Nat} {l : List Int} (h : Ct w b l) {k : Nat} (hk : k < 8) : w.cell? ⟨b, k, none⟩ = some (.int .i64 (l.getD k 0)) := by
  obtain ⟨T, hb, hl⟩ := h
  have hk' : k < l.length := by omega
  simp [World.cell?, hb, hk']
theorem Ct.free {w : World} {b : Nat} {l : List Int} (h : Ct w b l) (k : Nat) : w.frozen? ⟨b, k, none⟩ = false := by
  obtain ⟨T, hb, _⟩ := h
  simp [World.frozen?, hb]
theorem Ct.set {w : World} {b : Nat} {l : List Int} (h : Ct w b l) (k : Nat) (v : Int) : Ct (w.setCell ⟨b, k, none⟩ (.int .i64 v)) b (l.set k v) := by
  obtain ⟨T, hb, hl⟩ := h
  refine ⟨T, ?_, by simpa using hl⟩
  rw [heap_setCell_same w b k _ T _ hb]
  simp
theorem Ct.lt {w : World} {b : Nat} {l : List Int} (h : Ct w b l) : b < w.heap.size := by
  obtain ⟨T, hb, _⟩ := h
  exact (Array.getElem?_eq_some_iff.1 hb).1
theorem Ct.keep {w w' : World} {b : Nat} {l : List Int} (h : Ct w b l) (e : w'.heap[b]? = w.heap[b]?) : Ct w' b l := by
  obtain ⟨T, hb, hl⟩ := h
  exact ⟨T, e.trans hb, hl⟩

/-- sync/atomic.SwapT: what the cell held; the new number is stored. -/
theorem run_call_swap {P : Program} {f : FuncId} {fn : Func} (hf : P.funcs[f]? = some fn) (hname : (fn.name == "runtime.NumGoroutine") = false) (hb : fn.body.isNone = true) (hn : Extern.findNext fn = none) (k : IntKind)
    (he : Extern.find fn = some (Extern.Atomic.swapT (.int k))) {a : Addr} {x y : Int} {w : World} (hc : w.cell? a = some (.int k x)) (hz : w.frozen? a = false) :
    (callFunc f #[.pointer (some a), .int k y]).run P w = .ok (.value (.int k x)) (w.setCell a (.int k y)) := by
  rw [run_callFunc_extern hf hname hb hn he]
  change (Sem.run P (do
    let a' ← asAddr (.pointer (some a))
    let old ← Extern.Atomic.read (.int k) a'
    store a' (.int k y) .atomic
    pure old) w).andThen _ = _
  simp [Extern.Atomic.read, asAddr, hc, hz, run_store P w a (.int k y) .atomic rfl, Result.andThen]

theorem of_in (b : Nat) (k : Int) (h0 : 0 ≤ k) (h8 : k < 8) (w : World) :
    Calls Try.prog 21 #[.pointer (some ⟨b, 0, none⟩), .int .i64 k] w fun e w' => e = .returned (.pointer (some ⟨b, k.toNat, none⟩)) ∧ w = w' := by
  go_enter Try.func21, Try.ntmps21
  go_wp2
  go_ret
  exact ⟨by simp, rfl⟩

theorem of_low (b : Nat) (k : Int) (h0 : k < 0) (w : World) :
    Calls Try.prog 21 #[.pointer (some ⟨b, 0, none⟩), .int .i64 k] w fun e w' => e = .returned (.pointer none) ∧ w = w' := by
  go_enter Try.func21, Try.ntmps21
  go_wp2
  go_ret
  exact ⟨rfl, rfl⟩
theorem of_high (b : Nat) (k : Int) (h0 : 8 ≤ k) (w : World) :
    Calls Try.prog 21 #[.pointer (some ⟨b, 0, none⟩), .int .i64 k] w fun e w' => e = .returned (.pointer none) ∧ w = w' := by
  go_enter Try.func21, Try.ntmps21
  go_wp2
  go_ret
  exact ⟨rfl, rfl⟩
theorem of_out (b : Nat) (k : Int) (h0 : ¬ (0 ≤ k ∧ k < 8)) (w : World) :
    Calls Try.prog 21 #[.pointer (some ⟨b, 0, none⟩), .int .i64 k] w fun e w' => e = .returned (.pointer none) ∧ w = w' := by
  by_cases h : k < 0
  · exact of_low b k h w
  · exact of_high b k (by omega) w
theorem of_nil (k : Int) (w : World) :
    Calls Try.prog 21 #[.pointer none, .int .i64 k] w fun e w' => e = .returned (.pointer none) ∧ w = w' := by
  go_enter Try.func21, Try.ntmps21
  go_wp2
  go_ret
  exact ⟨rfl, rfl⟩

theorem get_in (b : Nat) (k x : Int) (h0 : 0 ≤ k) (h8 : k < 8) (w : World) (hc : w.cell? ⟨b, k.toNat, none⟩ = some (.int .i64 x)) :
    Calls Try.prog 9 #[.pointer (some ⟨b, 0, none⟩), .int .i64 k] w fun e w' => e = .returned (.int .i64 x) ∧ w = w' := by
  have hl := run_call_load (P := Try.prog) Try.func27 (by kernel_rfl) (by kernel_rfl) (by kernel_rfl) .i64 (by kernel_rfl) hc
  go_enter Try.func9, Try.ntmps9
  go_wp2_with (first | (go_at_call 21; refine (of_in b k h0 h8 _).mono ?_; rintro e w' ⟨rfl, rfl⟩) | go_in)
  go_ret
  exact ⟨rfl, rfl⟩
theorem get_out (b : Nat) (k : Int) (h0 : ¬ (0 ≤ k ∧ k < 8)) (w : World) :
    Calls Try.prog 9 #[.pointer (some ⟨b, 0, none⟩), .int .i64 k] w fun e w' => e = .returned (.int .i64 0) ∧ w = w' := by
  go_enter Try.func9, Try.ntmps9
  go_wp2_with (go_at_call 21; refine (of_out b k h0 _).mono ?_; rintro e w' ⟨rfl, rfl⟩)
  go_ret
  exact ⟨rfl, rfl⟩
theorem get_nil (k : Int) (w : World) :
    Calls Try.prog 9 #[.pointer none, .int .i64 k] w fun e w' => e = .returned (.int .i64 0) ∧ w = w' := by
  go_enter Try.func9, Try.ntmps9
  go_wp2_with (go_at_call 21; refine (of_nil k _).mono ?_; rintro e w' ⟨rfl, rfl⟩)
  go_ret
  exact ⟨rfl, rfl⟩

theorem swap_in (b : Nat) (k x n : Int) (h0 : 0 ≤ k) (h8 : k < 8) (w : World) (hc : w.cell? ⟨b, k.toNat, none⟩ = some (.int .i64 x)) (hz : w.frozen? ⟨b, k.toNat, none⟩ = false) :
    Calls Try.prog 10 #[.pointer (some ⟨b, 0, none⟩), .int .i64 k, .int .i64 n] w fun e w' => e = .returned (.int .i64 x) ∧ w.setCell ⟨b, k.toNat, none⟩ (.int .i64 n) = w' := by
  have hl := run_call_swap (P := Try.prog) Try.func29 (by kernel_rfl) (by kernel_rfl) (by kernel_rfl) .i64 (by kernel_rfl) (y := n) hc hz
  go_enter Try.func10, Try.ntmps10
  go_wp2_with (first | (go_at_call 21; refine (of_in b k h0 h8 _).mono ?_; rintro e w' ⟨rfl, rfl⟩) | go_in)
  go_ret
  exact ⟨rfl, rfl⟩
theorem swap_out (b : Nat) (k n : Int) (h0 : ¬ (0 ≤ k ∧ k < 8)) (w : World) :
    Calls Try.prog 10 #[.pointer (some ⟨b, 0, none⟩), .int .i64 k, .int .i64 n] w fun e w' => e = .returned (.int .i64 0) ∧ w = w' := by
  go_enter Try.func10, Try.ntmps10
  go_wp2_with (go_at_call 21; refine (of_out b k h0 _).mono ?_; rintro e w' ⟨rfl, rfl⟩)
  go_ret
  exact ⟨rfl, rfl⟩
theorem swap_nil (k n : Int) (w : World) :
    Calls Try.prog 10 #[.pointer none, .int .i64 k, .int .i64 n] w fun e w' => e = .returned (.int .i64 0) ∧ w = w' := by
  go_enter Try.func10, Try.ntmps10
  go_wp2_with (go_at_call 21; refine (of_nil k _).mono ?_; rintro e w' ⟨rfl, rfl⟩)
  go_ret
  exact ⟨rfl, rfl⟩

theorem add_in (b : Nat) (k x n : Int) (h0 : 0 ≤ k) (h8 : k < 8) (w : World) (hc : w.cell? ⟨b, k.toNat, none⟩ = some (.int .i64 x)) (hz : w.frozen? ⟨b, k.toNat, none⟩ = false) :
    Calls Try.prog 16 #[.pointer (some ⟨b, 0, none⟩), .int .i64 k, .int .i64 n] w fun e w' => e = .returned (.int .i64 (wrap64 (x + n))) ∧ w.setCell ⟨b, k.toNat, none⟩ (.int .i64 (wrap64 (x + n))) = w' := by
  have hl := run_call_add (P := Try.prog) Try.func30 (by kernel_rfl) (by kernel_rfl) (by kernel_rfl) .i64 (by kernel_rfl) (y := n) (s := wrap64 (x + n)) hc hz (by simp [go_sem, wrap64, IntKind.wrap_i64])
  go_enter Try.func16, Try.ntmps16
  go_wp2_with (first | (go_at_call 21; refine (of_in b k h0 h8 _).mono ?_; rintro e w' ⟨rfl, rfl⟩) | go_in)
  go_ret
  exact ⟨rfl, rfl⟩
theorem add_out (b : Nat) (k n : Int) (h0 : ¬ (0 ≤ k ∧ k < 8)) (w : World) :
    Calls Try.prog 16 #[.pointer (some ⟨b, 0, none⟩), .int .i64 k, .int .i64 n] w fun e w' => e = .returned (.int .i64 0) ∧ w = w' := by
  go_enter Try.func16, Try.ntmps16
  go_wp2_with (go_at_call 21; refine (of_out b k h0 _).mono ?_; rintro e w' ⟨rfl, rfl⟩)
  go_ret
  exact ⟨rfl, rfl⟩
theorem add_nil (k n : Int) (w : World) :
    Calls Try.prog 16 #[.pointer none, .int .i64 k, .int .i64 n] w fun e w' => e = .returned (.int .i64 0) ∧ w = w' := by
  go_enter Try.func16, Try.ntmps16
  go_wp2_with (go_at_call 21; refine (of_nil k _).mono ?_; rintro e w' ⟨rfl, rfl⟩)
  go_ret
  exact ⟨rfl, rfl⟩

end Go.Proofs.Ytjkcjkcophbeiaa
