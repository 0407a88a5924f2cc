/-
  All, Sum and Reset of the counts: what they hand back, and what the counts are behind them.
-/
import Derived.Test.YtjkcjkcophbeiaaArr

namespace Go.Proofs.Ytjkcjkcophbeiaa
open Go.RowKit

/-- The first k of l, and then nothing. -/
def mid (l : List Int) (k : Nat) : List Int := l.take k ++ List.replicate (8 - k) 0
theorem mid_zero (l : List Int) : mid l 0 = [0, 0, 0, 0, 0, 0, 0, 0] := by simp [mid, List.replicate]
theorem mid_full {l : List Int} (h : l.length = 8) : mid l 8 = l := by simp [mid, List.take_of_length_le (Nat.le_of_eq h)]
theorem mid_step {l : List Int} (h : l.length = 8) {k : Nat} (hk : k < 8) : (mid l k).set k (l.getD k 0) = mid l (k + 1) := by
  unfold mid
  have e : 8 - k = (8 - (k + 1)) + 1 := by omega
  have hkl : k < l.length := by omega
  rw [e, List.replicate_succ, List.set_append_right _ _ (by simp; omega), List.take_succ_eq_append_getElem hkl]
  have e2 : k - (l.take k).length = 0 := by simp; omega
  have e3 : l.getD k 0 = l[k] := by simp [hkl]
  rw [e2, List.set_cons_zero, List.append_assoc, e3]
  rfl

theorem Ct.len {w : World} {b : Nat} {l : List Int} (h : Ct w b l) : l.length = 8 := by obtain ⟨_, _, h8⟩ := h; exact h8

set_option maxHeartbeats 400000 in
theorem allG (p : Option Addr) (l : List Int) (w : World) (hlen : l.length = 8)
    (hg : ∀ (k : Int), 0 ≤ k → k < 8 → ∀ wr, Below w.heap.size w wr → Calls Try.prog 9 #[.pointer p, .int .i64 k] wr fun e w' => e = .returned (.int .i64 (l.getD k.toNat 0)) ∧ wr = w') :
    Calls Try.prog 18 #[.pointer p] w fun e w' => e = .returned (.agg (l.map (Value.int .i64)).toArray) ∧ Below w.heap.size w w' := by
  have h8 := Lib.hid hlen
  have HG := Lib.hid hg
  clear hlen hg
  go_enter Try.func18, Try.ntmps18
  go_wp2_with fail
  go_loopw [5] (fun i wr => ∃ (k : Nat), k ≤ 8 ∧ i = .int .i64 k ∧ Ct wr (w.heap.size + 1) (mid l k) ∧ Ct wr w.heap.size [0, 0, 0, 0, 0, 0, 0, 0] ∧ Below w.heap.size w wr) (fun i _ => 8 - (intOf i).toNat)
  case atStart => exact ⟨0, by omega, rfl, by rw [mid_zero]; exact ⟨_, heap_alloc2_new _ _ _, rfl⟩, ⟨_, heap_alloc2_old _ _ _, rfl⟩, ((Below.refl _ _).alloc (Nat.le_refl _) _).alloc (by simp) _⟩
  case round =>
    obtain ⟨k, hk, rfl, hO, hZ, hbr⟩ := hrel
    by_cases hlt : k < 8
    · have hcell := hO.cell hlt
      have hfree := hO.free k
      go_wp2_with (go_at_call 9; refine (HG.out _ (by omega) (by omega) _ hbr).mono ?_; rintro e w1 ⟨rfl, rfl⟩)
      go_roundw
      case rel =>
        refine ⟨k + 1, by omega, by go_num, ?_, ?_, ?_⟩
        · rw [← mid_step h8.out hlt]; exact hO.set k _
        · exact hZ.keep (heap_setCell_other _ _ _ _ (by simp))
        · exact hbr.setCell (by simp) _
      case measure => simp [intOf]; omega
    · obtain rfl : k = 8 := by omega
      rw [mid_full h8.out] at hO
      obtain ⟨T, hT, hlen⟩ := hO
      obtain ⟨T0, hT0, _⟩ := hZ
      have hoc : ((l.map (Value.int .i64)).toArray.all (·.oneCell')) = true := by simp [Value.oneCell']
      go_wp2_with (first | (refine wpList_load_row rfl 39 _ rfl _ rfl T _ _ _ hT Try.underlying39 rfl ?hi ?_; (show some 8 = _; simp [hlen])) | (refine wpList_store_row rfl 39 _ _ rfl _ _ rfl rfl T0 _ hT0 ?hj ?hk hoc ?_; (show some 8 = _; simp [hlen]); (simp [hlen])))
      exact bodyPost_ret (results_cell_row (ty := 39) rfl _ _ w.heap.size T0 _ _ _ rfl (setRow_heap _ _ _ _ _ _ hT0) Try.underlying39 rfl (by show some 8 = _; simp [hlen])) rfl ⟨rfl, hbr.trans ⟨rfl, rfl, rfl, by simp, fun k hk => setRow_other _ _ _ _ (by omega)⟩⟩

theorem allC {b : Nat} {l : List Int} {w : World} (hC : Ct w b l) :
    Calls Try.prog 18 #[.pointer (some ⟨b, 0, none⟩)] w fun e w' => e = .returned (.agg (l.map (Value.int .i64)).toArray) ∧ Below w.heap.size w w' :=
  allG _ l w hC.len fun k h0 h8 _ hb => getC (hC.keep (hb.block b hC.lt)) k h0 h8

theorem zero_get (k : Int) : [(0 : Int), 0, 0, 0, 0, 0, 0, 0].getD k.toNat 0 = 0 := by
  rcases k.toNat with _ | _ | _ | _ | _ | _ | _ | _ | n <;> simp
theorem all_nil (w : World) :
    Calls Try.prog 18 #[.pointer none] w fun e w' => e = .returned (.agg ([(0 : Int), 0, 0, 0, 0, 0, 0, 0].map (Value.int .i64)).toArray) ∧ Below w.heap.size w w' :=
  allG _ _ w rfl fun k _ _ wr _ => by rw [zero_get]; exact get_nil k wr

set_option maxHeartbeats 400000 in
theorem resetC {b : Nat} {l : List Int} {w : World} (hC : Ct w b l) :
    Calls Try.prog 15 #[.pointer (some ⟨b, 0, none⟩)] w fun e w' => e = .returned (.tuple #[]) ∧ Ct w' b [0, 0, 0, 0, 0, 0, 0, 0] ∧ w.grownBy w' (some b) := by
  have h8 := Lib.hid hC.len
  have hblt := hC.lt
  go_enter Try.func15, Try.ntmps15
  go_wp2_with fail
  go_loopw [3] (fun i wr => ∃ (k : Nat), k ≤ 8 ∧ i = .int .i64 k ∧ Ct wr b (List.replicate k 0 ++ l.drop k) ∧ w.grownBy wr (some b)) (fun i _ => 8 - (intOf i).toNat)
  case atStart => exact ⟨0, by omega, rfl, by simpa using hC, grown_refl _ _⟩
  case round =>
    obtain ⟨k, hk, rfl, hCr, hg⟩ := hrel
    by_cases hlt : k < 8
    · go_wp2_with fail
      refine (swapC hCr _ 0 (by omega) (by omega)).mono ?_
      rintro e w1 ⟨rfl, hC1, hg1⟩
      go_wp2_with fail
      go_roundw
      case rel =>
        refine ⟨k + 1, by omega, by go_num, ?_, hg.trans hg1⟩
        have e : (List.replicate k (0 : Int) ++ l.drop k).set (k : Int).toNat 0 = List.replicate (k + 1) 0 ++ l.drop (k + 1) := by
          have hkl : k < l.length := by have := h8.out; omega
          have e2 : k - (List.replicate k (0 : Int)).length = 0 := by simp
          rw [Int.toNat_natCast, List.set_append_right _ _ (by simp), List.drop_eq_getElem_cons hkl, List.replicate_succ', e2, List.set_cons_zero, List.append_assoc]
          rfl
        rw [← e]
        exact hC1
      case measure => simp [intOf]; omega
    · obtain rfl : k = 8 := by omega
      go_wp2
      go_end0
      refine ⟨rfl, ?_, hg⟩
      have e : List.replicate 8 (0 : Int) ++ l.drop 8 = [0, 0, 0, 0, 0, 0, 0, 0] := by rw [List.drop_of_length_le (by have := h8.out; omega)]; rfl
      rw [← e]
      exact hCr

theorem swap_low (k n : Int) (w : World) : Calls Try.prog 10 #[.pointer none, .int .i64 k, .int .i64 n] w fun e w' => e = .returned (.int .i64 0) ∧ w = w' := swap_nil k n w

theorem reset_nil (w : World) : Calls Try.prog 15 #[.pointer none] w fun e w' => e = .returned (.tuple #[]) ∧ w = w' := by
  go_enter Try.func15, Try.ntmps15
  go_wp2_with fail
  go_loop [3] (fun i => ∃ (k : Nat), k ≤ 8 ∧ i = .int .i64 k) (fun i => 8 - (intOf i).toNat)
  case atStart => exact ⟨0, by omega, rfl⟩
  case round =>
    obtain ⟨k, hk, rfl⟩ := hrel
    by_cases hlt : k < 8
    · go_wp2_with (go_at_call 10; refine (swap_nil _ _ _).mono ?_; rintro e w1 ⟨rfl, rfl⟩)
      go_round
      case rel => exact ⟨k + 1, by omega, by go_num⟩
      case measure => simp [intOf]; omega
    · go_wp2
      go_end0
      exact ⟨rfl, rfl⟩

/-- The sum, as the machine goes on with it. -/
def tot (l : List Int) : Int := l.foldl (fun s x => wrap64 (s + x)) 0
theorem tot_snoc (l : List Int) (x : Int) : tot (l ++ [x]) = wrap64 (tot l + x) := by simp [tot]

set_option maxHeartbeats 400000 in
theorem sumG (p : Option Addr) (l : List Int) (w : World) (hlen : l.length = 8)
    (ha : Calls Try.prog 18 #[.pointer p] w fun e w' => e = .returned (.agg (l.map (Value.int .i64)).toArray) ∧ Below w.heap.size w w') :
    Calls Try.prog 19 #[.pointer p] w fun e w' => e = .returned (.int .i64 (tot l)) ∧ Below w.heap.size w w' := by
  have h8 := Lib.hid hlen
  have hix : ∀ (k : Nat), k < 8 → ∀ w, (Instr.index 39 (.agg (l.map (Value.int .i64)).toArray) (.int .i64 k)).run Try.prog w = .ok (.int .i64 (l.getD k 0)) w := fun k hk w => run_index_arr 8 39 2 .i64 Try.underlying39 Try.underlying2 rfl l hlen k hk w
  have H := Lib.hid hix
  have HA := Lib.hid ha
  clear hix hlen ha
  go_enter Try.func19, Try.ntmps19
  go_wp2_with (go_at_call 18; refine HA.out.mono ?_; rintro e w1 ⟨rfl, hb⟩)
  go_loop [3, 8] (fun n i => ∃ (k : Nat), k ≤ 8 ∧ i = .int .i64 k ∧ n = .int .i64 (tot (l.take k))) (fun _ i => 8 - (intOf i).toNat)
  case atStart => exact ⟨0, by omega, rfl, rfl⟩
  case round =>
    obtain ⟨k, hk, rfl, rfl⟩ := hrel
    by_cases hlt : k < 8
    · have hi := H.out k hlt
      have hs : Hid (tot (l.take (k + 1)) = wrap64 (tot (l.take k) + l.getD k 0)) := by
        have hkl : k < l.length := by have := h8.out; omega
        have e3 : l.getD k 0 = l[k] := by simp [hkl]
        show tot (l.take (k + 1)) = _
        rw [List.take_succ_eq_append_getElem hkl, tot_snoc, e3]
      go_wp2
      go_round
      case rel => exact ⟨k + 1, by omega, by go_num, by rw [hs.out]; simp⟩
      case measure => simp [intOf]; omega
    · obtain rfl : k = 8 := by omega
      go_wp2
      go_ret
      exact ⟨by rw [List.take_of_length_le (by have := h8.out; omega)]; rfl, hb⟩
theorem sumC {b : Nat} {l : List Int} {w : World} (hC : Ct w b l) :
    Calls Try.prog 19 #[.pointer (some ⟨b, 0, none⟩)] w fun e w' => e = .returned (.int .i64 (tot l)) ∧ Below w.heap.size w w' :=
  sumG _ l w hC.len (allC hC)
theorem sum_nil (w : World) : Calls Try.prog 19 #[.pointer none] w fun e w' => e = .returned (.int .i64 0) ∧ Below w.heap.size w w' := by
  have h := sumG _ _ w rfl (all_nil w)
  rwa [show tot [0, 0, 0, 0, 0, 0, 0, 0] = 0 from by decide +kernel] at h

end Go.Proofs.Ytjkcjkcophbeiaa
