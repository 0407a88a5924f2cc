/-
  The methods of the counts, said of the eight counts as a list.
-/
import Derived.Test.YtjkcjkcophbeiaaMost
namespace Go.Proofs.Ytjkcjkcophbeiaa
open Go.RowKit

theorem grown_set (w : World) (b k : Nat) (v : Value) : w.grownBy (w.setCell ⟨b, k, none⟩ v) (some b) :=
  ⟨rfl, rfl, rfl, by simp [World.setCell], fun i _ hi => heap_setCell_other w ⟨b, k, none⟩ i v (fun e => hi (by rw [e]))⟩

theorem grown_refl (w : World) (r : Option Nat) : w.grownBy w r := ⟨rfl, rfl, rfl, Nat.le_refl _, fun _ _ _ => rfl⟩

theorem getC {b : Nat} {l : List Int} {w : World} (hC : Ct w b l) (k : Int) (h0 : 0 ≤ k) (h8 : k < 8) :
    Calls Try.prog 9 #[.pointer (some ⟨b, 0, none⟩), .int .i64 k] w fun e w' => e = .returned (.int .i64 (l.getD k.toNat 0)) ∧ w = w' :=
  get_in b k _ h0 h8 w (hC.cell (by omega))

theorem swapC {b : Nat} {l : List Int} {w : World} (hC : Ct w b l) (k n : Int) (h0 : 0 ≤ k) (h8 : k < 8) :
    Calls Try.prog 10 #[.pointer (some ⟨b, 0, none⟩), .int .i64 k, .int .i64 n] w fun e w' => e = .returned (.int .i64 (l.getD k.toNat 0)) ∧ Ct w' b (l.set k.toNat n) ∧ w.grownBy w' (some b) :=
  (swap_in b k _ n h0 h8 w (hC.cell (by omega)) (hC.free _)).mono fun _ _ ⟨he, hw⟩ => ⟨he, hw ▸ hC.set _ _, hw ▸ grown_set _ _ _ _⟩

theorem addC {b : Nat} {l : List Int} {w : World} (hC : Ct w b l) (k n : Int) (h0 : 0 ≤ k) (h8 : k < 8) :
    Calls Try.prog 16 #[.pointer (some ⟨b, 0, none⟩), .int .i64 k, .int .i64 n] w fun e w' => e = .returned (.int .i64 (wrap64 (l.getD k.toNat 0 + n))) ∧ Ct w' b (l.set k.toNat (wrap64 (l.getD k.toNat 0 + n))) ∧ w.grownBy w' (some b) :=
  (add_in b k _ n h0 h8 w (hC.cell (by omega)) (hC.free _)).mono fun _ _ ⟨he, hw⟩ => ⟨he, hw ▸ hC.set _ _, hw ▸ grown_set _ _ _ _⟩

/-- The greater of two. -/
def top (a b : Int) : Int := if a < b then b else a

theorem mostC {b : Nat} {l : List Int} {w : World} (hC : Ct w b l) (k n : Int) (h0 : 0 ≤ k) (h8 : k < 8) :
    Calls Try.prog 8 #[.pointer (some ⟨b, 0, none⟩), .int .i64 k, .int .i64 n] w fun e w' => e = .returned (.int .i64 (top (l.getD k.toNat 0) n)) ∧ Ct w' b (l.set k.toNat (top (l.getD k.toNat 0) n)) ∧ w.grownBy w' (some b) := by
  have hc := hC.cell (k := k.toNat) (by omega)
  by_cases h : l.getD k.toNat 0 < n
  · have e : top (l.getD k.toNat 0) n = n := if_pos h
    rw [e]
    exact (most_more b k _ n h0 h8 h w hc (hC.free _)).mono fun _ _ ⟨he, hw⟩ => ⟨he, hw ▸ hC.set _ _, hw ▸ grown_set _ _ _ _⟩
  · have e : top (l.getD k.toNat 0) n = l.getD k.toNat 0 := if_neg h
    rw [e]
    refine (most_less b k _ n h0 h8 (by omega) w hc).mono fun _ _ ⟨he, hw⟩ => ⟨he, ?_, hw ▸ grown_refl _ _⟩
    subst hw
    have hl : l.set k.toNat (l.getD k.toNat 0) = l := by
      obtain ⟨_, _, hl⟩ := hC
      have hk : k.toNat < l.length := by omega
      apply List.ext_getElem?
      intro i
      rw [List.getElem?_set]
      split
      · rename_i h; subst h; simp [hk]
      · rfl
    rw [hl]
    exact hC

theorem new_any (w : World) : Calls Try.prog 11 #[] w fun e w' => e = .returned (.pointer (some ⟨w.heap.size, 0, none⟩)) ∧ Ct w' w.heap.size [0, 0, 0, 0, 0, 0, 0, 0] ∧ Below w.heap.size w w' := by
  go_enter Try.func11, Try.ntmps11
  go_wp2
  go_ret
  exact ⟨rfl, ⟨_, heap_alloc_new _ _, rfl⟩, (Below.refl _ _).alloc (Nat.le_refl _) _⟩

theorem below_of {b : Nat} {a w w' : World} (h : Below b a w) (hg : w.grownBy w' (some b)) (hlt : b < w.heap.size) : Below b a w' :=
  h.grown hg (by omega) (fun k hk => by cases hk; exact Nat.le_refl _)

/-- The same with the answer and the new counts named. -/
theorem addR {b : Nat} {l : List Int} {w : World} (hC : Ct w b l) (k n : Int) (h0 : 0 ≤ k) (h8 : k < 8) (r : Int) (hr : wrap64 (l.getD k.toNat 0 + n) = r) :
    Calls Try.prog 16 #[.pointer (some ⟨b, 0, none⟩), .int .i64 k, .int .i64 n] w fun e w' => e = .returned (.int .i64 r) ∧ Ct w' b (l.set k.toNat r) ∧ w.grownBy w' (some b) := by
  subst hr
  exact addC hC k n h0 h8
theorem mostR {b : Nat} {l : List Int} {w : World} (hC : Ct w b l) (k n : Int) (h0 : 0 ≤ k) (h8 : k < 8) (r : Int) (hr : top (l.getD k.toNat 0) n = r) :
    Calls Try.prog 8 #[.pointer (some ⟨b, 0, none⟩), .int .i64 k, .int .i64 n] w fun e w' => e = .returned (.int .i64 r) ∧ Ct w' b (l.set k.toNat r) ∧ w.grownBy w' (some b) := by
  subst hr
  exact mostC hC k n h0 h8
theorem getR {b : Nat} {l : List Int} {w : World} (hC : Ct w b l) (k : Int) (h0 : 0 ≤ k) (h8 : k < 8) (r : Int) (hr : l.getD k.toNat 0 = r) :
    Calls Try.prog 9 #[.pointer (some ⟨b, 0, none⟩), .int .i64 k] w fun e w' => e = .returned (.int .i64 r) ∧ w = w' := by
  subst hr
  exact getC hC k h0 h8
theorem swapR {b : Nat} {l : List Int} {w : World} (hC : Ct w b l) (k n : Int) (h0 : 0 ≤ k) (h8 : k < 8) (r : Int) (hr : l.getD k.toNat 0 = r) :
    Calls Try.prog 10 #[.pointer (some ⟨b, 0, none⟩), .int .i64 k, .int .i64 n] w fun e w' => e = .returned (.int .i64 r) ∧ Ct w' b (l.set k.toNat n) ∧ w.grownBy w' (some b) := by
  subst hr
  exact swapC hC k n h0 h8

theorem awake_any (w : World) : Calls Try.prog 7 #[] w fun e w' => e = .returned (.bool true) ∧ Below w.heap.size w w' := by
  go_enter Try.func7, Try.ntmps7
  go_wp2_with (go_at_call 11; refine (new_any _).mono ?_; rintro e w1 ⟨rfl, hC, hb⟩)
  refine (addR hC 1 2 (by omega) (by omega) 2 (by decide +kernel)).mono ?_
  rintro e w2 ⟨rfl, hC2, hg2⟩
  have hb2 := below_of hb hg2 hC.lt
  clear hg2 hb hC
  go_wp2_with fail
  refine (addR hC2 1 3 (by omega) (by omega) 5 (by decide +kernel)).mono ?_
  rintro e w3 ⟨rfl, hC3, hg3⟩
  have hb3 := below_of hb2 hg3 hC2.lt
  clear hg3 hb2 hC2
  go_wp2_with fail
  refine (mostR hC3 1 4 (by omega) (by omega) 5 (by decide +kernel)).mono ?_
  rintro e w4 ⟨rfl, hC4, hg4⟩
  have hb4 := below_of hb3 hg4 hC3.lt
  clear hg4 hb3 hC3
  go_wp2_with fail
  refine (mostR hC4 1 9 (by omega) (by omega) 9 (by decide)).mono ?_
  rintro e w5 ⟨rfl, hC5, hg5⟩
  have hb5 := below_of hb4 hg5 hC4.lt
  clear hg5 hb4 hC4
  go_wp2_with fail
  go_ret
  exact ⟨rfl, hb5⟩
end Go.Proofs.Ytjkcjkcophbeiaa
