/-
  The guard, said of what is known of each number as a function; the chapter's example.
-/
import Derived.Test.YtlohcidapoicoaaGd
namespace Go.Proofs.Ytlohcidapoicoaa
open Go.RowKit Go.Maps

/-- Block g is a guard that knows m. -/
def Gv (w : World) (g bm n : Nat) (m : Int → Option (Int × Int)) : Prop := ∃ D, Gd w g bm n D ∧ Sees D m
theorem Gv.lt {w : World} {g bm n : Nat} {m : Int → Option (Int × Int)} (h : Gv w g bm n m) : g < w.heap.size := by obtain ⟨_, h, _⟩ := h; exact h.lt
theorem Gv.ltm {w : World} {g bm n : Nat} {m : Int → Option (Int × Int)} (h : Gv w g bm n m) : bm < w.heap.size := by obtain ⟨_, h, _⟩ := h; exact h.ltm
theorem Gv.kept {w w' : World} {g bm n : Nat} {m : Int → Option (Int × Int)} (h : Gv w g bm n m) {row : Option Nat} (hg : w.grownBy w' row) (h1 : some g ≠ row) (h2 : some bm ≠ row) : Gv w' g bm n m := by
  obtain ⟨D, h, hs⟩ := h
  exact ⟨D, h.kept hg h1 h2, hs⟩
theorem Gv.below {w w' : World} {g bm n : Nat} {m : Int → Option (Int × Int)} (h : Gv w g bm n m) (hb : Below w.heap.size w w') : Gv w' g bm n m := by
  obtain ⟨D, h, hs⟩ := h
  exact ⟨D, h.below hb, hs⟩
/-- What is known: the last release, and from when on the next may be. -/
def nx (m : Int → Option (Int × Int)) (k : Int) : Int := ((m k).getD (0, 0)).2
def ls (m : Int → Option (Int × Int)) (k : Int) : Int := ((m k).getD (0, 0)).1

theorem newV (w : World) : Calls Try.prog 8 #[] w fun e w' => e = .returned (.pointer (some ⟨w.heap.size + 1, 0, none⟩)) ∧ Gv w' (w.heap.size + 1) w.heap.size 0 (fun _ => none) ∧ Below w.heap.size w w' :=
  (new_any w).mono fun _ _ ⟨he, hG, hb⟩ => ⟨he, ⟨_, hG, Sees.none⟩, hb⟩
theorem nextV {g bm n : Nat} {m : Int → Option (Int × Int)} {w : World} (hG : Gv w g bm n m) (k : Int) (hk : (Lit.int .i64 k).wf = true) (r : Int) (hr : nx m k = r) :
    Calls Try.prog 11 #[.pointer (some ⟨g, 0, none⟩), .int .i64 k] w fun e w' => e = .returned (.int .i64 r) ∧ Below w.heap.size w w' := by
  subst hr
  obtain ⟨D, hG, hs⟩ := hG
  exact next_any hG hs k hk
theorem lastV {g bm n : Nat} {m : Int → Option (Int × Int)} {w : World} (hG : Gv w g bm n m) (k : Int) (hk : (Lit.int .i64 k).wf = true) (r : Int) (hr : ls m k = r) (b : Bool) (hb : (m k).isSome = b) :
    Calls Try.prog 10 #[.pointer (some ⟨g, 0, none⟩), .int .i64 k] w fun e w' => e = .returned (.tuple #[.int .i64 r, .bool b]) ∧ Below w.heap.size w w' := by
  subst hr hb
  obtain ⟨D, hG, hs⟩ := hG
  exact last_any hG hs k hk
theorem relE {g bm n : Nat} {m : Int → Option (Int × Int)} {w : World} (hG : Gv w g bm n m) (k p now : Int) (hk : (Lit.int .i64 k).wf = true) (hm : may p now) (hlt : now < nx m k) :
    Calls Try.prog 9 #[.pointer (some ⟨g, 0, none⟩), .int .i64 k, .int .i64 p, .int .i64 now] w fun e w' => e = .returned (.int .i64 19) ∧ Below w.heap.size w w' := by
  obtain ⟨D, hG, hs⟩ := hG
  exact rel_early hG hs k p now hk hm hlt
theorem relO {g bm n : Nat} {m : Int → Option (Int × Int)} {w : World} (hG : Gv w g bm n m) (hn : n < 1000000) (k p now : Int) (hk : (Lit.int .i64 k).wf = true) (hm : may p now) (hge : ¬ now < nx m k) :
    Calls Try.prog 9 #[.pointer (some ⟨g, 0, none⟩), .int .i64 k, .int .i64 p, .int .i64 now] w fun e w' => e = .returned (.int .i64 0) ∧ Gv w' g bm (n + 1) (upd m k (some (now, now + p))) ∧ w.grownBy w' (some bm) := by
  obtain ⟨D, hG, hs⟩ := hG
  exact (rel_ok hG hs hn k p now hk hm hge).mono fun _ _ ⟨he, hG, hg⟩ => ⟨he, ⟨_, hG, hs.put _ _⟩, hg⟩
theorem forY {g bm n : Nat} {m : Int → Option (Int × Int)} {w : World} (hG : Gv w g bm n m) (k : Int) (hk : (Lit.int .i64 k).wf = true) (his : (m k).isSome = true) :
    Calls Try.prog 12 #[.pointer (some ⟨g, 0, none⟩), .int .i64 k] w fun e w' => e = .returned (.bool true) ∧ Gv w' g bm n (upd m k none) ∧ w.grownBy w' (some bm) := by
  obtain ⟨D, hG, hs⟩ := hG
  exact (forget_is hG hs k hk his).mono fun _ _ ⟨he, hG, hg⟩ => ⟨he, ⟨_, hG, hs.del _⟩, hg⟩
theorem forN {g bm n : Nat} {m : Int → Option (Int × Int)} {w : World} (hG : Gv w g bm n m) (k : Int) (hk : (Lit.int .i64 k).wf = true) (his : (m k).isSome = false) :
    Calls Try.prog 12 #[.pointer (some ⟨g, 0, none⟩), .int .i64 k] w fun e w' => e = .returned (.bool false) ∧ Below w.heap.size w w' := by
  obtain ⟨D, hG, hs⟩ := hG
  exact forget_no hG hs k hk his

theorem below_bm {B bm : Nat} {a w w' : World} (h : Below B a w) (hg : w.grownBy w' (some bm)) (hB : B ≤ bm) (hlt : B ≤ w.heap.size) : Below B a w' :=
  h.grown hg hlt (fun k hk => by cases hk; exact hB)
theorem below_far {B : Nat} {a w w' : World} (h : Below B a w) (hb : Below w.heap.size w w') (hlt : B ≤ w.heap.size) : Below B a w' :=
  h.trans (hb.mono hlt)

set_option maxHeartbeats 400000 in
theorem awake_any (w : World) : Calls Try.prog 7 #[] w fun e w' => e = .returned (.bool true) ∧ Below w.heap.size w w' := by
  go_enter Try.func7, Try.ntmps7
  go_wp2_with fail
  refine (newV _).mono ?_
  rintro e w1 ⟨rfl, hG, hb⟩
  go_wp2_with fail
  refine (relO hG (by omega) 1 5 3 (by decide) ⟨by omega, by omega, by omega, by omega⟩ (by decide)).mono ?_
  rintro e w2 ⟨rfl, hG2, hg2⟩
  have hb2 := below_bm hb hg2 (Nat.le_refl _) (by have := hG.lt; omega)
  have hl2 := hG2.lt
  go_wp2_with fail
  refine (relE hG2 1 5 7 (by decide) ⟨by omega, by omega, by omega, by omega⟩ (by decide)).mono ?_
  rintro e w3 ⟨rfl, hb3⟩
  have hG3 := hG2.below hb3
  have hb3' := below_far hb2 hb3 (by omega)
  go_wp2_with fail
  refine (relO hG3 (by omega) 1 5 8 (by decide) ⟨by omega, by omega, by omega, by omega⟩ (by decide)).mono ?_
  rintro e w4 ⟨rfl, hG4, hg4⟩
  have hb4 := below_bm hb3' hg4 (Nat.le_refl _) (by have := hG3.lt; omega)
  clear hg4 hb3' hb3 hg2 hb2 hb hG hG2 hG3 hG4
  go_wp2_with fail
  go_ret
  exact ⟨rfl, hb4⟩
end Go.Proofs.Ytlohcidapoicoaa
