/-
  The document's pool in memory, and a contract for each of its methods; two rows of numbers compared.
-/
import Derived.Test.YtfjfnfipcajkkaaOp
import Derived.Deep.QuietTactic
import Derived.BigQuiet
import Derived.Great.Ranges
import Derived.Deep.LoopGhost
namespace Go.Proofs.Ytfjfnfipcajkkaa
open Go.RowKit

/-- The document's pool in block R: what waits, and what was taken. -/
def Rf (w : World) (R : Nat) (f t : Int → Int) : Prop := ∃ (C : Array Value) (T : TypeId), w.heap[R]? = some (.cells C T (0, 0)) ∧ C.size = 2048 ∧ ∀ q : Nat, q < 1024 → C[q]? = some (.int .i64 (f q)) ∧ C[1024 + q]? = some (.int .i64 (t q))
section
variable {w w' : World} {R : Nat} {f t : Int → Int}
theorem Rf.lt (h : Rf w R f t) : R < w.heap.size := by
  obtain ⟨_, _, hb, _⟩ := h
  exact (Array.getElem?_eq_some_iff.1 hb).1
theorem Rf.keep (h : Rf w R f t) (e : w'.heap[R]? = w.heap[R]?) : Rf w' R f t := by
  obtain ⟨C, T, hb, hs, hc⟩ := h
  exact ⟨C, T, e.trans hb, hs, hc⟩
theorem Rf.below (h : Rf w R f t) (hb : Below w.heap.size w w') : Rf w' R f t := h.keep (hb.block R h.lt)
theorem Rf.cw (h : Rf w R f t) {q : Nat} (hq : q < 1024) : w.cell? ⟨R, q, none⟩ = some (.int .i64 (f q)) := by
  obtain ⟨C, T, hb, hs, hc⟩ := h
  simp [World.cell?, hb, (hc q hq).1]
theorem Rf.ct (h : Rf w R f t) {q : Nat} (hq : q < 1024) : w.cell? ⟨R, 1024 + q, none⟩ = some (.int .i64 (t q)) := by
  obtain ⟨C, T, hb, hs, hc⟩ := h
  simp [World.cell?, hb, (hc q hq).2]
theorem Rf.free (h : Rf w R f t) (q : Nat) : w.frozen? ⟨R, q, none⟩ = false := by
  obtain ⟨C, T, hb, hs, hc⟩ := h
  simp [World.frozen?, hb]
theorem Rf.setw (h : Rf w R f t) {q : Nat} (hq : q < 1024) (v : Int) : Rf (w.setCell ⟨R, q, none⟩ (.int .i64 v)) R (upd f q v) t := by
  obtain ⟨C, T, hb, hs, hc⟩ := h
  refine ⟨C.setIfInBounds q (.int .i64 v), T, heap_setCell_same w R q _ T _ hb, by simp [hs], fun j hj => ?_⟩
  have h1 := hc j hj
  refine ⟨?_, ?_⟩
  · rw [Array.getElem?_setIfInBounds]
    by_cases e : q = j
    · subst e
      rw [if_pos rfl, if_pos (by omega), upd_same]
    · rw [if_neg e, h1.1, upd_other _ _ (by omega)]
  · rw [Array.getElem?_setIfInBounds, if_neg (by omega), h1.2]
theorem Rf.sett (h : Rf w R f t) {q : Nat} (hq : q < 1024) (v : Int) : Rf (w.setCell ⟨R, 1024 + q, none⟩ (.int .i64 v)) R f (upd t q v) := by
  obtain ⟨C, T, hb, hs, hc⟩ := h
  refine ⟨C.setIfInBounds (1024 + q) (.int .i64 v), T, heap_setCell_same w R (1024 + q) _ T _ hb, by simp [hs], fun j hj => ?_⟩
  have h1 := hc j hj
  refine ⟨?_, ?_⟩
  · rw [Array.getElem?_setIfInBounds, if_neg (by omega), h1.1]
  · rw [Array.getElem?_setIfInBounds]
    by_cases e : q = j
    · subst e
      rw [if_pos rfl, if_pos (by omega), upd_same]
    · rw [if_neg (by omega), h1.2, upd_other _ _ (by omega)]
end
theorem grown_set (w : World) (R q : Nat) (v : Value) : w.grownBy (w.setCell ⟨R, q, none⟩ v) (some R) :=
  ⟨rfl, rfl, rfl, by simp [World.setCell], fun k _ hk => heap_setCell_other _ _ _ _ (fun e => hk (by rw [e]))⟩
theorem grown_refl (w : World) (row : Option Nat) : w.grownBy w row := ⟨rfl, rfl, rfl, Nat.le_refl _, fun _ _ _ => rfl⟩
theorem grown_trans {a b c : World} {row : Option Nat} (h : a.grownBy b row) (k : b.grownBy c row) : a.grownBy c row :=
  ⟨k.os.trans h.os, k.tape.trans h.tape, k.output.trans h.output, Nat.le_trans h.size k.size, fun j hj hr => (k.block j (Nat.lt_of_lt_of_le hj h.size) hr).trans (h.block j hj hr)⟩
theorem grown_drew {a b : World} {row : Option Nat} (h : a.grownBy b row) : a.grownBy b.drew row := ⟨h.os, h.tape, h.output, h.size, h.block⟩
theorem upd_id (f : Int → Int) (k v : Int) (h : f k = v) : upd f k v = f := by
  funext j
  by_cases e : j = k
  · subst e; rw [upd_same, h]
  · rw [upd_other _ _ e]

/-- No number waits, or was taken, beyond what may be. -/
structure Ok (f t : Int → Int) (B : Int) : Prop where
  fo : ∀ x, ¬ (0 ≤ x ∧ x ≤ 1023) → f x = 0
  to : ∀ x, ¬ (0 ≤ x ∧ x ≤ 1023) → t x = 0
  f0 : ∀ x, 0 ≤ f x
  f1 : ∀ x, f x ≤ 1099511627776
  t0 : ∀ x, 0 ≤ t x
  t1 : ∀ x, t x ≤ B
theorem Ok.mono {f t : Int → Int} {B B' : Int} (h : Ok f t B) (hB : B ≤ B') : Ok f t B' := { h with t1 := fun x => Int.le_trans (h.t1 x) hB }

theorem rid_in (q : Nat) (h : q < 1024) (w : World) : Calls Try.prog 23 #[.int .i64 (q : Int)] w fun e w' => e = .returned (.bool true) ∧ w = w' := by
  have hd : decide ((q : Int) ≤ 1023) = true := decide_eq_true (by omega)
  have HD := Lib.hid hd
  clear hd
  go_enter Try.func23, Try.ntmps23
  go_wp2
  go_ret
  exact ⟨by show Ending.returned (Value.bool (decide ((q : Int) ≤ 1023))) = _; rw [HD.out], rfl⟩
theorem rid_out (k : Int) (h : ¬ (0 ≤ k ∧ k ≤ 1023)) (w : World) : Calls Try.prog 23 #[.int .i64 k] w fun e w' => e = .returned (.bool false) ∧ w = w' := by
  have h1 : k < 0 ∨ 0 ≤ k ∧ 1023 < k := by omega
  clear h
  rcases h1 with h | ⟨h, h1⟩
  · go_enter Try.func23, Try.ntmps23
    go_wp2
    go_ret
    exact ⟨rfl, rfl⟩
  · have HD : Hid (decide (k ≤ 1023) = false) := decide_eq_false (by omega)
    go_enter Try.func23, Try.ntmps23
    go_wp2
    go_ret
    exact ⟨by show Ending.returned (Value.bool (decide (k ≤ 1023))) = _; rw [HD.out], rfl⟩

section
variable {w : World} {R : Nat} {f t : Int → Int} {B : Int}
theorem backR (hR : Rf w R f t) (hO : Ok f t B) (k r : Int) (hr : f k = r) :
    Calls Try.prog 19 #[.pointer (some ⟨R, 0, none⟩), .int .i64 k] w fun e w' => e = .returned (.int .i64 r) ∧ w = w' := by
  by_cases hk : 0 ≤ k ∧ k ≤ 1023
  · obtain ⟨q, rfl⟩ := Int.eq_ofNat_of_zero_le hk.1
    have hq : q < 1024 := by omega
    have hc := hR.cw hq
    rw [hr] at hc
    clear hr hk
    go_enter Try.func19, Try.ntmps19
    go_wp2_with (go_at_call 23; refine (rid_in q hq _).mono ?_; rintro e w1 ⟨rfl, rfl⟩)
    go_ret
    exact ⟨rfl, rfl⟩
  · have h0 := hO.fo k hk
    rw [h0] at hr
    subst hr
    have HK := Lib.hid hk
    clear hk h0
    go_enter Try.func19, Try.ntmps19
    go_wp2_with (go_at_call 23; refine (rid_out k HK.out _).mono ?_; rintro e w1 ⟨rfl, rfl⟩)
    go_ret
    exact ⟨rfl, rfl⟩
theorem manyR (hR : Rf w R f t) (hO : Ok f t B) (k r : Int) (hr : t k = r) :
    Calls Try.prog 20 #[.pointer (some ⟨R, 0, none⟩), .int .i64 k] w fun e w' => e = .returned (.int .i64 r) ∧ w = w' := by
  by_cases hk : 0 ≤ k ∧ k ≤ 1023
  · obtain ⟨q, rfl⟩ := Int.eq_ofNat_of_zero_le hk.1
    have hq : q < 1024 := by omega
    have hc := hR.ct hq
    rw [hr] at hc
    clear hr hk
    go_enter Try.func20, Try.ntmps20
    go_wp2_with (go_at_call 23; refine (rid_in q hq _).mono ?_; rintro e w1 ⟨rfl, rfl⟩)
    go_ret
    exact ⟨rfl, rfl⟩
  · have h0 := hO.to k hk
    rw [h0] at hr
    subst hr
    have HK := Lib.hid hk
    clear hk h0
    go_enter Try.func20, Try.ntmps20
    go_wp2_with (go_at_call 23; refine (rid_out k HK.out _).mono ?_; rintro e w1 ⟨rfl, rfl⟩)
    go_ret
    exact ⟨rfl, rfl⟩

/-! ### Ask -/
def askS (f : Int → Int) (k v : Int) : Int × (Int → Int) := if ¬ (0 ≤ k ∧ k ≤ 1023 ∧ 1 ≤ v ∧ v ≤ 2147483648) then (1, f) else if 1099511627776 - v < f k then (15, f) else (0, upd f k (f k + v))
theorem raskU (hR : Rf w R f t) (hO : Ok f t B) (k v e : Int) (f' : Int → Int) (hS : askS f k v = (e, f')) :
    Calls Try.prog 16 #[.pointer (some ⟨R, 0, none⟩), .int .i64 k, .int .i64 v] w fun r w' => r = .returned (.int .i64 e) ∧ Rf w' R f' t ∧ w.grownBy w' (some R) := by
  unfold askS at hS
  split at hS
  · rename_i hm
    obtain ⟨rfl, rfl⟩ := hS
    by_cases hk : 0 ≤ k ∧ k ≤ 1023
    · obtain ⟨q, rfl⟩ := Int.eq_ofNat_of_zero_le hk.1
      have hq : q < 1024 := by omega
      have hv : v < 1 ∨ 1 ≤ v ∧ 2147483648 < v := by omega
      clear hm hk
      rcases hv with hv | ⟨hv, hv2⟩
      all_goals
        go_enter Try.func16, Try.ntmps16
        go_wp2_with (go_at_call 23; refine (rid_in q hq _).mono ?_; rintro e w1 ⟨rfl, rfl⟩)
        go_ret
        exact ⟨rfl, hR, grown_refl _ _⟩
    · have HK := Lib.hid hk
      clear hk hm
      go_enter Try.func16, Try.ntmps16
      go_wp2_with (go_at_call 23; refine (rid_out k HK.out _).mono ?_; rintro e w1 ⟨rfl, rfl⟩)
      go_ret
      exact ⟨rfl, hR, grown_refl _ _⟩
  · rename_i hm
    have hm' : 0 ≤ k ∧ k ≤ 1023 ∧ 1 ≤ v ∧ v ≤ 2147483648 := Decidable.not_not.1 hm
    clear hm
    obtain ⟨h1, h2, h3, h4⟩ := hm'
    obtain ⟨q, rfl⟩ := Int.eq_ofNat_of_zero_le h1
    have hq : q < 1024 := by omega
    have hc := hR.cw hq
    have hfr := hR.free q
    have hy0 := hO.f0 q
    have hy1 := hO.f1 q
    split at hS
    · rename_i hlt
      obtain ⟨rfl, rfl⟩ := hS
      obtain ⟨y, hy⟩ : ∃ y, f q = y := ⟨_, rfl⟩
      rw [hy] at hc hlt hy0 hy1
      clear hy
      go_enter Try.func16, Try.ntmps16
      go_wp2_with (go_at_call 23; refine (rid_in q hq _).mono ?_; rintro e w1 ⟨rfl, rfl⟩)
      go_ret
      exact ⟨rfl, hR, grown_refl _ _⟩
    · rename_i hlt
      obtain ⟨rfl, rfl⟩ := hS
      have hS := hR.setw hq (f q + v)
      have hg : w.grownBy (w.setCell ⟨R, q, none⟩ (.int .i64 (f q + v))).drew (some R) := grown_drew (grown_set _ _ _ _)
      obtain ⟨y, hy⟩ : ∃ y, f q = y := ⟨_, rfl⟩
      rw [hy] at hc hlt hy0 hy1 hS hg
      rw [hy]
      clear hy
      go_enter Try.func16, Try.ntmps16
      go_wp2_with (go_at_call 23; refine (rid_in q hq _).mono ?_; rintro e w1 ⟨rfl, rfl⟩)
      go_region
      go_wp2
      go_ret
      exact ⟨rfl, hS, hg⟩

/-! ### Take, Drop -/
theorem rtakeU (hR : Rf w R f t) (hO : Ok f t B) (hB : B ≤ 4611686018427387904) (k v r : Int) (hr : tk (f k) v = r) :
    Calls Try.prog 14 #[.pointer (some ⟨R, 0, none⟩), .int .i64 k, .int .i64 v] w fun e w' => e = .returned (.int .i64 r) ∧ Rf w' R (upd f k (f k - r)) (upd t k (t k + r)) ∧ w.grownBy w' (some R) := by
  by_cases hk : 0 ≤ k ∧ k ≤ 1023
  · obtain ⟨q, rfl⟩ := Int.eq_ofNat_of_zero_le hk.1
    have hq : q < 1024 := by omega
    by_cases hv : v < 1
    · have hr0 : r = 0 := by rw [← hr]; unfold tk; rw [if_pos (by omega)]
      subst hr0
      rw [upd_id f q _ (by omega), upd_id t q _ (by omega)]
      clear hr hk
      go_enter Try.func14, Try.ntmps14
      go_wp2_with (go_at_call 23; refine (rid_in q hq _).mono ?_; rintro e w1 ⟨rfl, rfl⟩)
      go_ret
      exact ⟨rfl, hR, grown_refl _ _⟩
    · have hc := hR.cw hq
      have hct := hR.ct hq
      have hfr := hR.free q
      have hfr2 := hR.free (1024 + q)
      have hy0 := hO.f0 q
      have hy1 := hO.f1 q
      have hz0 := hO.t0 q
      have hz1 := hO.t1 q
      have hS := hR.setw hq (f q - r)
      have hT := hS.sett hq (t q + r)
      have hg : w.grownBy ((w.setCell ⟨R, q, none⟩ (.int .i64 (f q - r))).drew.setCell ⟨R, 1024 + q, none⟩ (.int .i64 (t q + r))).drew (some R) := grown_drew (grown_trans (grown_drew (grown_set _ _ _ _)) (grown_set _ _ _ _))
      have hcase : f q ≤ v ∧ r = f q ∨ v < f q ∧ r = v := by
        unfold tk at hr
        rw [if_neg (by omega)] at hr
        split at hr
        · exact .inr ⟨by assumption, hr.symm⟩
        · exact .inl ⟨by omega, hr.symm⟩
      clear hr hk
      obtain ⟨y, hy⟩ : ∃ y, f q = y := ⟨_, rfl⟩
      obtain ⟨z, hz⟩ : ∃ z, t q = z := ⟨_, rfl⟩
      rw [hy] at hc hy0 hy1 hT hS hg hcase
      rw [hz] at hct hz0 hz1 hT hg
      rw [hy, hz]
      clear hy hz
      rcases hcase with ⟨h1, rfl⟩ | ⟨h1, rfl⟩
      all_goals
        try simp only [Int.sub_self] at hT hg ⊢
        go_enter Try.func14, Try.ntmps14
        go_wp2_with (go_at_call 23; refine (rid_in q hq _).mono ?_; rintro e w1 ⟨rfl, rfl⟩)
        go_region
        go_wp2
        go_region
        go_wp2
        go_ret
        exact ⟨rfl, hT.keep rfl, ⟨hg.os, hg.tape, hg.output, hg.size, hg.block⟩⟩
  · have h0 := hO.fo k hk
    have hr0 : r = 0 := by rw [← hr, h0]; unfold tk; split <;> (try split) <;> omega
    subst hr0
    rw [upd_id f k _ (by omega), upd_id t k _ (by omega)]
    have HK := Lib.hid hk
    clear hk h0 hr
    go_enter Try.func14, Try.ntmps14
    go_wp2_with (go_at_call 23; refine (rid_out k HK.out _).mono ?_; rintro e w1 ⟨rfl, rfl⟩)
    go_ret
    exact ⟨rfl, hR, grown_refl _ _⟩
theorem rdropU (hR : Rf w R f t) (hO : Ok f t B) (k r : Int) (hr : f k = r) :
    Calls Try.prog 15 #[.pointer (some ⟨R, 0, none⟩), .int .i64 k] w fun e w' => e = .returned (.int .i64 r) ∧ Rf w' R (upd f k 0) (upd t k 0) ∧ w.grownBy w' (some R) := by
  have HB := Lib.hid (backR hR hO k r hr)
  by_cases hk : 0 ≤ k ∧ k ≤ 1023
  · obtain ⟨q, rfl⟩ := Int.eq_ofNat_of_zero_le hk.1
    have hq : q < 1024 := by omega
    have hc := hR.cw hq
    have hct := hR.ct hq
    have hfr := hR.free q
    have hfr2 := hR.free (1024 + q)
    have hT := (hR.setw hq 0).sett hq 0
    have hg : w.grownBy ((w.setCell ⟨R, q, none⟩ (.int .i64 0)).setCell ⟨R, 1024 + q, none⟩ (.int .i64 0)) (some R) := grown_trans (grown_set _ _ _ _) (grown_set _ _ _ _)
    clear hr hk
    go_enter Try.func15, Try.ntmps15
    go_wp2_with (first | (go_at_call 23; refine (rid_in q hq _).mono ?_; rintro e w1 ⟨rfl, rfl⟩) | (go_at_call 19; refine HB.out.mono ?_; rintro e w1 ⟨rfl, rfl⟩))
    go_ret
    exact ⟨rfl, hT, hg⟩
  · rw [upd_id f k _ (hO.fo k hk), upd_id t k _ (hO.to k hk)]
    have HK := Lib.hid hk
    clear hk hr
    go_enter Try.func15, Try.ntmps15
    go_wp2_with (first | (go_at_call 23; refine (rid_out k HK.out _).mono ?_; rintro e w1 ⟨rfl, rfl⟩) | (go_at_call 19; refine HB.out.mono ?_; rintro e w1 ⟨rfl, rfl⟩))
    go_ret
    exact ⟨rfl, hR, grown_refl _ _⟩
end
end Go.Proofs.Ytfjfnfipcajkkaa
