/-
  The pool, said of what waits and of what was taken as functions of the number; the chapter's example.
-/
import Derived.Test.YtfjfnfipcajkkaaSv
namespace Go.Proofs.Ytfjfnfipcajkkaa
open Go.RowKit Go.Maps

def Pv (w : World) (p bw bt n : Nat) (f t : Int → Int) : Prop := ∃ D E, Sv w p bw bt n D E ∧ Sees D f ∧ Full D f ∧ Sees E t
theorem Pv.lt {w : World} {p bw bt n : Nat} {f t : Int → Int} (h : Pv w p bw bt n f t) : p < w.heap.size := by obtain ⟨_, _, h, _⟩ := h; exact h.lt
theorem Pv.ltw {w : World} {p bw bt n : Nat} {f t : Int → Int} (h : Pv w p bw bt n f t) : bw < w.heap.size := by obtain ⟨_, _, h, _⟩ := h; exact h.ow.lt
theorem Pv.ltt {w : World} {p bw bt n : Nat} {f t : Int → Int} (h : Pv w p bw bt n f t) : bt < w.heap.size := by obtain ⟨_, _, h, _⟩ := h; exact h.ot.lt
theorem Pv.below {w w' : World} {p bw bt n : Nat} {f t : Int → Int} (h : Pv w p bw bt n f t) (hb : Below w.heap.size w w') : Pv w' p bw bt n f t := by
  obtain ⟨D, E, h, r⟩ := h
  exact ⟨D, E, h.below hb, r⟩
theorem Pv.kept {w w' : World} {p bw bt n : Nat} {f t : Int → Int} (h : Pv w p bw bt n f t) {row : Option Nat} (hg : w.grownBy w' row) (h1 : some p ≠ row) (h2 : some bw ≠ row) (h3 : some bt ≠ row) : Pv w' p bw bt n f t := by
  obtain ⟨D, E, h, r⟩ := h
  exact ⟨D, E, h.kept hg h1 h2 h3, r⟩
theorem Pv.mono {w : World} {p bw bt n n' : Nat} {f t : Int → Int} (h : Pv w p bw bt n f t) (hn : n ≤ n') : Pv w p bw bt n' f t := by
  obtain ⟨D, E, h, r⟩ := h
  exact ⟨D, E, h.mono hn, r⟩

theorem newV (w : World) : Calls Try.prog 7 #[] w fun e w' => e = .returned (.pointer (some ⟨w.heap.size + 2, 0, none⟩)) ∧ Pv w' (w.heap.size + 2) w.heap.size (w.heap.size + 1) 0 (fun _ => 0) (fun _ => 0) ∧ Below w.heap.size w w' :=
  (new_any w).mono fun _ _ ⟨he, hS, hb⟩ => ⟨he, ⟨_, _, hS, Sees.none, Full.none, Sees.none⟩, hb⟩
theorem backV {p bw bt n : Nat} {f t : Int → Int} {w : World} (hP : Pv w p bw bt n f t) (k : Int) (hk : (Lit.int .i64 k).wf = true) (r : Int) (hr : f k = r) :
    Calls Try.prog 10 #[.pointer (some ⟨p, 0, none⟩), .int .i64 k] w fun e w' => e = .returned (.int .i64 r) ∧ w = w' := by
  subst hr
  obtain ⟨D, E, hS, hs, _⟩ := hP
  exact back_any hS hs k hk
theorem takenV {p bw bt n : Nat} {f t : Int → Int} {w : World} (hP : Pv w p bw bt n f t) (k : Int) (hk : (Lit.int .i64 k).wf = true) (r : Int) (hr : t k = r) :
    Calls Try.prog 11 #[.pointer (some ⟨p, 0, none⟩), .int .i64 k] w fun e w' => e = .returned (.int .i64 r) ∧ w = w' := by
  subst hr
  obtain ⟨D, E, hS, _, _, hs⟩ := hP
  exact taken_any hS hs k hk
theorem askV {p bw bt n : Nat} {f t : Int → Int} {w : World} (hP : Pv w p bw bt n f t) (hn : n < 1000000) (k v : Int) (hk : (Lit.int .i64 k).wf = true) (hm : may k v) (h0 : 0 ≤ f k) (hf : f k ≤ 1099511627776 - v) (g : Int → Int) (hg : upd f k (f k + v) = g) :
    Calls Try.prog 8 #[.pointer (some ⟨p, 0, none⟩), .int .i64 k, .int .i64 v] w fun e w' => e = .returned (.int .i64 0) ∧ Pv w' p bw bt (n + 1) g t ∧ Turn (two bw bt) w w' := by
  subst hg
  obtain ⟨D, E, hS, hs, hfu, ht⟩ := hP
  exact (ask_ok hS hs hfu hn k v hk hm h0 hf).mono fun _ _ ⟨he, ⟨D', hS', hs', hfu'⟩, hg⟩ => ⟨he, ⟨D', E, hS', hs', hfu', ht⟩, Turn.grown hg (.inl rfl)⟩
theorem askF {p bw bt n : Nat} {f t : Int → Int} {w : World} (hP : Pv w p bw bt n f t) (k v : Int) (hk : (Lit.int .i64 k).wf = true) (hm : may k v) (hf : 1099511627776 - v < f k) :
    Calls Try.prog 8 #[.pointer (some ⟨p, 0, none⟩), .int .i64 k, .int .i64 v] w fun e w' => e = .returned (.int .i64 15) ∧ w = w' := by
  obtain ⟨D, E, hS, hs, _⟩ := hP
  exact ask_full hS hs k v hk hm hf

/-- How much is taken. -/
def tk (y v : Int) : Int := if v ≤ 0 then 0 else if v < y then v else y

theorem takeV {p bw bt n : Nat} {f t : Int → Int} {w : World} (hP : Pv w p bw bt n f t) (hn : n < 1000000) (k v : Int) (hk : (Lit.int .i64 k).wf = true) (h0 : 0 ≤ f k) (hf : f k ≤ 1099511627776)
    (ht0 : 0 ≤ t k) (ht1 : t k ≤ 4611686018427387904) (r : Int) (hr : tk (f k) v = r) (g u : Int → Int) (hg : upd f k (f k - r) = g) (hu : upd t k (t k + r) = u) :
    Calls Try.prog 9 #[.pointer (some ⟨p, 0, none⟩), .int .i64 k, .int .i64 v] w fun e w' => e = .returned (.int .i64 r) ∧ Pv w' p bw bt (n + 1) g u ∧ Turn (two bw bt) w w' := by
  subst hg hu
  obtain ⟨D, E, hS, hs, hfu, ht⟩ := hP
  have idem : ∀ (h : Int → Int), upd h k (h k) = h := fun h => by
    funext j
    by_cases hj : j = k
    · subst hj; exact upd_same _ _ _
    · exact upd_other _ _ hj
  unfold tk at hr
  by_cases hv : v ≤ 0 ∨ 0 < v ∧ f k = 0
  · obtain rfl : r = 0 := by
      rcases hv with hv | ⟨hv, hy⟩
      · rw [if_pos hv] at hr; exact hr.symm
      · rw [if_neg (by omega), if_neg (by omega), hy] at hr; exact hr.symm
    have e1 : upd f k (f k - 0) = f := by rw [Int.sub_zero]; exact idem f
    have e2 : upd t k (t k + 0) = t := by rw [Int.add_zero]; exact idem t
    rw [e1, e2]
    exact (take_none hS hs k v hk h0 hv).mono fun _ _ ⟨he, hw⟩ => ⟨he, hw ▸ ⟨D, E, hS.mono (Nat.le_succ _), hs, hfu, ht⟩, hw ▸ Turn.refl _ _⟩
  · have hv0 : 0 < v := by omega
    have hy0 : 0 < f k := by omega
    rw [if_neg (by omega)] at hr
    by_cases hlt : v < f k
    · rw [if_pos hlt] at hr
      subst hr
      exact (take_part hS hs hfu ht hn k v hk hv0 hlt hf ht0 ht1).mono fun _ _ ⟨he, ⟨D', E', hS', h1, h2, h3⟩, hT⟩ => ⟨he, ⟨D', E', hS', h1, h2, h3⟩, hT⟩
    · rw [if_neg hlt] at hr
      subst hr
      rw [Int.sub_self]
      exact (take_all hS hs hfu ht hn k v hk hy0 (by omega) hf ht0 ht1).mono fun _ _ ⟨he, ⟨D', E', hS', h1, h2, h3⟩, hT⟩ => ⟨he, ⟨D', E', hS', h1, h2, h3⟩, hT⟩
theorem dropV {p bw bt n : Nat} {f t : Int → Int} {w : World} (hP : Pv w p bw bt n f t) (k : Int) (hk : (Lit.int .i64 k).wf = true) (r : Int) (hr : f k = r) :
    Calls Try.prog 12 #[.pointer (some ⟨p, 0, none⟩), .int .i64 k] w fun e w' => e = .returned (.int .i64 r) ∧ Pv w' p bw bt n (upd f k 0) (upd t k 0) ∧ Turn (two bw bt) w w' := by
  subst hr
  obtain ⟨D, E, hS, hs, hfu, ht⟩ := hP
  exact (drop_any hS hs hfu ht k hk).mono fun _ _ ⟨he, ⟨D', E', hS', h1, h2, h3⟩, hT⟩ => ⟨he, ⟨D', E', hS', h1, h2, h3⟩, hT⟩

theorem two_le {bw bt B : Nat} (h1 : B ≤ bw) (h2 : B ≤ bt) : ∀ k, two bw bt k → B ≤ k := fun k h => by
  rcases h with rfl | rfl <;> assumption

set_option maxHeartbeats 400000 in
theorem awake_any (w : World) : Calls Try.prog 6 #[] w fun e w' => e = .returned (.bool true) ∧ Below w.heap.size w w' := by
  go_enter Try.func6, Try.ntmps6
  go_wp2_with fail
  refine (newV _).mono ?_
  rintro e w1 ⟨rfl, hP, hb⟩
  go_wp2_with fail
  refine (askV hP (by omega) 3 10 (by decide) ⟨by omega, by omega, by omega, by omega⟩ (by decide) (by decide) _ rfl).mono ?_
  rintro e w2 ⟨rfl, hP2, hT2⟩
  have hb2 := Turn.to hb hT2 (by have := hP.lt; omega) (two_le (Nat.le_refl _) (Nat.le_succ _))
  have hl2 := hP2.lt
  clear hT2 hb hP
  go_wp2_with fail
  refine (takeV hP2 (by omega) 3 4 (by decide) (by decide) (by decide) (by decide) (by decide) 4 (by decide) _ _ rfl rfl).mono ?_
  rintro e w3 ⟨rfl, hP3, hT3⟩
  have hb3 := Turn.to hb2 hT3 (by omega) (two_le (Nat.le_refl _) (Nat.le_succ _))
  clear hT3 hb2 hP2
  go_wp2_with fail
  refine (backV hP3 3 (by decide) 6 (by decide)).mono ?_
  rintro e w4 ⟨rfl, rfl⟩
  go_wp2_with fail
  go_ret
  exact ⟨rfl, hb3⟩
end Go.Proofs.Ytfjfnfipcajkkaa
