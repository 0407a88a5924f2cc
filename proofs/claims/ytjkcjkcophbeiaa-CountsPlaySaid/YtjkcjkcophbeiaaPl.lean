/-
  One step of the counts as a function of the list of eight; the methods of the counts and those of the document's counts both do it.
-/
import Derived.Test.YtjkcjkcophbeiaaAll
namespace Go.Proofs.Ytjkcjkcophbeiaa
open Go.RowKit

def gS (l : List Int) (k : Int) : Int := if 0 ≤ k ∧ k < 8 then l.getD k.toNat 0 else 0
def aS (l : List Int) (k n : Int) : Int × List Int := if 0 ≤ k ∧ k < 8 then (wrap64 (l.getD k.toNat 0 + n), l.set k.toNat (wrap64 (l.getD k.toNat 0 + n))) else (0, l)
def mS (l : List Int) (k n : Int) : Int × List Int := if 0 ≤ k ∧ k < 8 then (top (l.getD k.toNat 0) n, l.set k.toNat (top (l.getD k.toNat 0) n)) else (0, l)
def sS (l : List Int) (k n : Int) : Int × List Int := if 0 ≤ k ∧ k < 8 then (l.getD k.toNat 0, l.set k.toNat n) else (0, l)

theorem stay {f : FuncId} {b : Nat} {l : List Int} {args : Array Value} {w : World} (hC : Ct w b l) (h : Calls Try.prog f args w fun e w' => e = .returned (.int .i64 0) ∧ w = w') :
    Calls Try.prog f args w fun e w' => e = .returned (.int .i64 0) ∧ Ct w' b l ∧ w.grownBy w' (some b) :=
  h.mono fun _ _ ⟨he, hw⟩ => ⟨he, hw ▸ hC, hw ▸ grown_refl _ _⟩

theorem getU {b : Nat} {l : List Int} {w : World} (hC : Ct w b l) (k r : Int) (h : gS l k = r) :
    Calls Try.prog 9 #[.pointer (some ⟨b, 0, none⟩), .int .i64 k] w fun e w' => e = .returned (.int .i64 r) ∧ w = w' := by
  subst h
  unfold gS
  split
  · rename_i h; exact getC hC k h.1 h.2
  · rename_i h; exact get_out b k h w
theorem addU {b : Nat} {l : List Int} {w : World} (hC : Ct w b l) (k n r : Int) (l' : List Int) (h : aS l k n = (r, l')) :
    Calls Try.prog 16 #[.pointer (some ⟨b, 0, none⟩), .int .i64 k, .int .i64 n] w fun e w' => e = .returned (.int .i64 r) ∧ Ct w' b l' ∧ w.grownBy w' (some b) := by
  unfold aS at h
  split at h <;> obtain ⟨rfl, rfl⟩ := h
  · rename_i h; exact addC hC k n h.1 h.2
  · rename_i h; exact stay hC (add_out b k n h w)
theorem mostU {b : Nat} {l : List Int} {w : World} (hC : Ct w b l) (k n r : Int) (l' : List Int) (h : mS l k n = (r, l')) :
    Calls Try.prog 8 #[.pointer (some ⟨b, 0, none⟩), .int .i64 k, .int .i64 n] w fun e w' => e = .returned (.int .i64 r) ∧ Ct w' b l' ∧ w.grownBy w' (some b) := by
  unfold mS at h
  split at h <;> obtain ⟨rfl, rfl⟩ := h
  · rename_i h; exact mostC hC k n h.1 h.2
  · rename_i h; exact stay hC (most_out b k n h w)
theorem swapU {b : Nat} {l : List Int} {w : World} (hC : Ct w b l) (k n r : Int) (l' : List Int) (h : sS l k n = (r, l')) :
    Calls Try.prog 10 #[.pointer (some ⟨b, 0, none⟩), .int .i64 k, .int .i64 n] w fun e w' => e = .returned (.int .i64 r) ∧ Ct w' b l' ∧ w.grownBy w' (some b) := by
  unfold sS at h
  split at h <;> obtain ⟨rfl, rfl⟩ := h
  · rename_i h; exact swapC hC k n h.1 h.2
  · rename_i h; exact stay hC (swap_out b k n h w)

/-! ### The document's own -/
theorem is_in (k : Int) (h0 : 0 ≤ k) (h8 : k < 8) (w : World) : Calls Try.prog 25 #[.int .i64 k] w fun e w' => e = .returned (.bool true) ∧ w = w' := by
  have h7 : k ≤ 7 := by omega
  go_enter Try.func25, Try.ntmps25
  go_wp2
  go_ret
  exact ⟨rfl, rfl⟩
theorem is_out (k : Int) (h : ¬ (0 ≤ k ∧ k < 8)) (w : World) : Calls Try.prog 25 #[.int .i64 k] w fun e w' => e = .returned (.bool false) ∧ w = w' := by
  by_cases h0 : 0 ≤ k
  · have h7 : ¬ k ≤ 7 := by omega
    clear h
    go_enter Try.func25, Try.ntmps25
    go_wp2
    go_ret
    exact ⟨rfl, rfl⟩
  · clear h
    go_enter Try.func25, Try.ntmps25
    go_wp2
    go_ret
    exact ⟨rfl, rfl⟩

theorem rget_in {b : Nat} {l : List Int} {w : World} (hC : Ct w b l) (k : Int) (h0 : 0 ≤ k) (h8 : k < 8) :
    Calls Try.prog 12 #[.pointer (some ⟨b, 0, none⟩), .int .i64 k] w fun e w' => e = .returned (.int .i64 (l.getD k.toNat 0)) ∧ w = w' := by
  have hc := hC.cell (k := k.toNat) (by omega)
  go_enter Try.func12, Try.ntmps12
  go_wp2_with (go_at_call 25; refine (is_in k h0 h8 _).mono ?_; rintro e w1 ⟨rfl, rfl⟩)
  go_ret
  exact ⟨rfl, rfl⟩
theorem rget_out {b : Nat} {w : World} (k : Int) (h : ¬ (0 ≤ k ∧ k < 8)) :
    Calls Try.prog 12 #[.pointer (some ⟨b, 0, none⟩), .int .i64 k] w fun e w' => e = .returned (.int .i64 0) ∧ w = w' := by
  have H := Lib.hid h
  clear h
  go_enter Try.func12, Try.ntmps12
  go_wp2_with (go_at_call 25; refine (is_out k H.out _).mono ?_; rintro e w1 ⟨rfl, rfl⟩)
  go_ret
  exact ⟨rfl, rfl⟩
theorem rgetU {b : Nat} {l : List Int} {w : World} (hC : Ct w b l) (k r : Int) (h : gS l k = r) :
    Calls Try.prog 12 #[.pointer (some ⟨b, 0, none⟩), .int .i64 k] w fun e w' => e = .returned (.int .i64 r) ∧ w = w' := by
  subst h
  unfold gS
  split
  · rename_i h; exact rget_in hC k h.1 h.2
  · rename_i h; exact rget_out k h

theorem rswap_in {b : Nat} {l : List Int} {w : World} (hC : Ct w b l) (k n : Int) (h0 : 0 ≤ k) (h8 : k < 8) :
    Calls Try.prog 13 #[.pointer (some ⟨b, 0, none⟩), .int .i64 k, .int .i64 n] w fun e w' => e = .returned (.int .i64 (l.getD k.toNat 0)) ∧ Ct w' b (l.set k.toNat n) ∧ w.grownBy w' (some b) := by
  have hc := hC.cell (k := k.toNat) (by omega)
  have hf := hC.free k.toNat
  go_enter Try.func13, Try.ntmps13
  go_wp2_with (first | (go_at_call 25; refine (is_in k h0 h8 _).mono ?_; rintro e w1 ⟨rfl, rfl⟩) | (go_at_call 12; refine (rget_in hC k h0 h8).mono ?_; rintro e w1 ⟨rfl, rfl⟩))
  go_ret
  exact ⟨rfl, hC.set _ _, grown_set _ _ _ _⟩
theorem rswapU {b : Nat} {l : List Int} {w : World} (hC : Ct w b l) (k n r : Int) (l' : List Int) (h : sS l k n = (r, l')) :
    Calls Try.prog 13 #[.pointer (some ⟨b, 0, none⟩), .int .i64 k, .int .i64 n] w fun e w' => e = .returned (.int .i64 r) ∧ Ct w' b l' ∧ w.grownBy w' (some b) := by
  unfold sS at h
  split at h <;> obtain ⟨rfl, rfl⟩ := h
  · rename_i h; exact rswap_in hC k n h.1 h.2
  · rename_i h
    have H := Lib.hid h
    clear h
    refine stay hC ?_
    go_enter Try.func13, Try.ntmps13
    go_wp2_with (first | (go_at_call 25; refine (is_out k H.out _).mono ?_; rintro e w1 ⟨rfl, rfl⟩) | (go_at_call 12; refine (rget_out k H.out).mono ?_; rintro e w1 ⟨rfl, rfl⟩))
    go_ret
    exact ⟨rfl, rfl⟩

theorem getD_set_self {l : List Int} {q : Nat} (hq : q < l.length) (v : Int) : (l.set q v).getD q 0 = v := by simp [hq]

theorem rmost_more {b : Nat} {l : List Int} {w : World} (hC : Ct w b l) (k n : Int) (h0 : 0 ≤ k) (h8 : k < 8) (x : Int) (hx : l.getD k.toNat 0 = x) (hlt : x < n) :
    Calls Try.prog 14 #[.pointer (some ⟨b, 0, none⟩), .int .i64 k, .int .i64 n] w fun e w' => e = .returned (.int .i64 n) ∧ Ct w' b (l.set k.toNat n) ∧ w.grownBy w' (some b) := by
  have hc := hC.cell (k := k.toNat) (by omega)
  have hf := hC.free k.toNat
  rw [hx] at hc
  have hG := rget_in (hC.set k.toNat n) k h0 h8
  rw [getD_set_self (by have := hC.len; omega)] at hG
  have HG := Lib.hid hG
  clear hG hx
  go_enter Try.func14, Try.ntmps14
  go_wp2_with (first | (go_at_call 25; refine (is_in k h0 h8 _).mono ?_; rintro e w1 ⟨rfl, rfl⟩) | (go_at_call 12; refine HG.out.mono ?_; rintro e w1 ⟨rfl, rfl⟩))
  go_ret
  exact ⟨rfl, hC.set _ _, grown_set _ _ _ _⟩
theorem rmost_less {b : Nat} {l : List Int} {w : World} (hC : Ct w b l) (k n : Int) (h0 : 0 ≤ k) (h8 : k < 8) (x : Int) (hx : l.getD k.toNat 0 = x) (hlt : ¬ x < n) :
    Calls Try.prog 14 #[.pointer (some ⟨b, 0, none⟩), .int .i64 k, .int .i64 n] w fun e w' => e = .returned (.int .i64 x) ∧ w = w' := by
  have hc := hC.cell (k := k.toNat) (by omega)
  rw [hx] at hc
  have hG := rget_in hC k h0 h8
  rw [hx] at hG
  have HG := Lib.hid hG
  clear hG hx
  go_enter Try.func14, Try.ntmps14
  go_wp2_with (first | (go_at_call 25; refine (is_in k h0 h8 _).mono ?_; rintro e w1 ⟨rfl, rfl⟩) | (go_at_call 12; refine HG.out.mono ?_; rintro e w1 ⟨rfl, rfl⟩))
  go_ret
  exact ⟨rfl, rfl⟩
theorem set_same {l : List Int} {q : Nat} (hq : q < l.length) : l.set q (l.getD q 0) = l := by
  apply List.ext_getElem?
  intro i
  rw [List.getElem?_set]
  split
  · rename_i h; subst h; simp [hq]
  · rfl
theorem rmostU {b : Nat} {l : List Int} {w : World} (hC : Ct w b l) (k n r : Int) (l' : List Int) (h : mS l k n = (r, l')) :
    Calls Try.prog 14 #[.pointer (some ⟨b, 0, none⟩), .int .i64 k, .int .i64 n] w fun e w' => e = .returned (.int .i64 r) ∧ Ct w' b l' ∧ w.grownBy w' (some b) := by
  unfold mS at h
  split at h <;> obtain ⟨rfl, rfl⟩ := h
  · rename_i h
    by_cases hx : l.getD k.toNat 0 < n
    · rw [show top (l.getD k.toNat 0) n = n from if_pos hx]
      exact rmost_more hC k n h.1 h.2 _ rfl hx
    · rw [show top (l.getD k.toNat 0) n = l.getD k.toNat 0 from if_neg hx, set_same (by have := hC.len; omega)]
      exact (rmost_less hC k n h.1 h.2 _ rfl hx).mono fun _ _ ⟨he, hw⟩ => ⟨he, hw ▸ hC, hw ▸ grown_refl _ _⟩
  · rename_i h
    have H := Lib.hid h
    clear h
    refine stay hC ?_
    go_enter Try.func14, Try.ntmps14
    go_wp2_with (first | (go_at_call 25; refine (is_out k H.out _).mono ?_; rintro e w1 ⟨rfl, rfl⟩) | (go_at_call 12; refine (rget_out k H.out).mono ?_; rintro e w1 ⟨rfl, rfl⟩))
    go_ret
    exact ⟨rfl, rfl⟩

theorem radd_in {b : Nat} {l : List Int} {w : World} (hC : Ct w b l) (k n : Int) (h0 : 0 ≤ k) (h8 : k < 8) :
    Calls Try.prog 17 #[.pointer (some ⟨b, 0, none⟩), .int .i64 k, .int .i64 n] w fun e w' => e = .returned (.int .i64 (wrap64 (l.getD k.toNat 0 + n))) ∧ Ct w' b (l.set k.toNat (wrap64 (l.getD k.toNat 0 + n))) ∧ w.grownBy w' (some b) := by
  have hc := hC.cell (k := k.toNat) (by omega)
  have hf := hC.free k.toNat
  have hS := hC.set k.toNat (wrap64 (l.getD k.toNat 0 + n))
  have hc2 := hS.cell (k := k.toNat) (by omega)
  rw [getD_set_self (by have := hC.len; omega)] at hc2
  have hk : k.toNat < 8 := by omega
  have hg : w.grownBy (w.setCell ⟨b, k.toNat, none⟩ (.int .i64 (wrap64 (l.getD k.toNat 0 + n)))).drew (some b) := by
    obtain ⟨h1, h2, h3, h4, h5⟩ := grown_set w b k.toNat (.int .i64 (wrap64 (l.getD k.toNat 0 + n)))
    exact ⟨h1, h2, h3, h4, h5⟩
  go_enter Try.func17, Try.ntmps17
  go_wp2_with (go_at_call 25; refine (is_in k h0 h8 _).mono ?_; rintro e w1 ⟨rfl, rfl⟩)
  go_region
  go_wp2
  go_ret
  exact ⟨rfl, hS, hg⟩
theorem raddU {b : Nat} {l : List Int} {w : World} (hC : Ct w b l) (k n r : Int) (l' : List Int) (h : aS l k n = (r, l')) :
    Calls Try.prog 17 #[.pointer (some ⟨b, 0, none⟩), .int .i64 k, .int .i64 n] w fun e w' => e = .returned (.int .i64 r) ∧ Ct w' b l' ∧ w.grownBy w' (some b) := by
  unfold aS at h
  split at h <;> obtain ⟨rfl, rfl⟩ := h
  · rename_i h; exact radd_in hC k n h.1 h.2
  · rename_i h
    have H := Lib.hid h
    clear h
    refine stay hC ?_
    go_enter Try.func17, Try.ntmps17
    go_wp2_with (go_at_call 25; refine (is_out k H.out _).mono ?_; rintro e w1 ⟨rfl, rfl⟩)
    go_ret
    exact ⟨rfl, rfl⟩

theorem rsumC {b : Nat} {l : List Int} {w : World} (hC : Ct w b l) (r : Int) (hr : tot l = r) :
    Calls Try.prog 20 #[.pointer (some ⟨b, 0, none⟩)] w fun e w' => e = .returned (.int .i64 r) ∧ w = w' := by
  subst hr
  have hT : ∀ k, k < 8 → tot (l.take (k + 1)) = wrap64 (tot (l.take k) + l.getD k 0) := by
    intro k hk
    have hkl : k < l.length := by have := hC.len; omega
    have e3 : l.getD k 0 = l[k] := by simp [hkl]
    rw [List.take_succ_eq_append_getElem hkl, tot_snoc, e3]
  have HT := Lib.hid hT
  clear hT
  go_enter Try.func20, Try.ntmps20
  go_wp2
  go_loop [3, 4] (fun n i => ∃ (k : Nat), k ≤ 8 ∧ i = .int .i64 k ∧ n = .int .i64 (tot (l.take k))) (fun _ i => 8 - (intOf i).toNat)
  case atStart => exact ⟨0, by omega, rfl, rfl⟩
  case round =>
    obtain ⟨k, hk, rfl, rfl⟩ := hrel
    by_cases hlt : k < 8
    · have hc := hC.cell hlt
      have hs := Lib.hid (HT.out k hlt)
      go_wp2
      go_round
      case rel => exact ⟨k + 1, by omega, by go_num, by rw [hs.out]; simp⟩
      case measure => simp [intOf]; omega
    · obtain rfl : k = 8 := by omega
      go_wp2
      go_ret
      exact ⟨by rw [List.take_of_length_le (by have := hC.len; omega)]; rfl, rfl⟩

end Go.Proofs.Ytjkcjkcophbeiaa
