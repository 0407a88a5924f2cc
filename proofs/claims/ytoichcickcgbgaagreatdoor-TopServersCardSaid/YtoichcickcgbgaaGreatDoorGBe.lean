/-
  The last deadline ahead of a time.
-/
import Derived.Test.YtoichcickcgbgaaGreatDoorGLeDo
namespace Go.Proofs.YtoichcickcgbgaaGreatDoor
open Go.RowKit
attribute [local go_sem] Oper.semAt_some
/-- One task more. -/
def befF (acc d t X : Nat) : Nat := if manyF d t ((X : Int) - 1) = 0 then acc else max acc (d + t * (manyF d t ((X : Int) - 1) - 1))
set_option maxRecDepth 100000 in
set_option maxHeartbeats 1000000 in
theorem before_1 {w : World} {g cap : Nat} {a : Tk} {na da : Nat} (hg : g < w.heap.size) (hc : 1 ≤ cap) (hr : w.rangeAt g 0 (tc a)) (ho_a : a.ok) (hn_a : a.t = na) (hp_a : 0 < na) (hl_a : na ≤ 10) (hd_a : a.d = da) (hdl_a : da ≤ 10) (X : Nat) (hX : X ≤ 100000) (r : Nat) (hrr : (befF 0 da na X) = r) :
    Calls Tryz.prog 238 #[.slice (some ⟨g, 0, none⟩) 1 cap, .int .i64 X] w fun e w' => e = .returned (.tuple #[.int .i64 r, .bool (decide (0 < (r : Int)))]) ∧ Below w.heap.size w w' := by
  have hS : Sx tc w (.slice (some ⟨g, 0, none⟩) 1 cap) [a] := ⟨_, cap, rfl, .inr ⟨g, rfl⟩, fun _ => ⟨g, rfl, hg, hc, by simpa using hr⟩⟩
  have HM := Lib.hid (dmay_any hS (by simp) (by simp ; exact ho_a) X (by omega) (by omega))
  clear hS
  have R00 := Lib.hid hr
  clear hr
  have hm_a : manyF da na ((X : Int) - 1) ≤ 100001 := by
    unfold manyF
    split
    · omega
    · have := Nat.div_le_self (((X : Int) - 1).toNat - da) na
      omega
  have MN_a := Lib.hid (show ∀ u : World, Calls Tryz.prog 253 #[.agg #[.int .i64 a.id, .int .i64 a.c, .int .i64 da, .int .i64 na, .int .i64 a.m], .int .i64 ((X : Int) - 1)] u fun e w' => e = .returned (.int .i64 (manyF da na ((X : Int) - 1))) ∧ Below u.heap.size u w' from fun u => many_any (w := u) ((X : Int) - 1) (by omega) (by omega) hp_a)
  unfold befF at hrr
  generalize manyF da na ((X : Int) - 1) = ea at *
  have hkl_a : na * (ea - 1) ≤ 10 * 100001 := Nat.mul_le_mul hl_a (by omega)
  have hk_a : ea ≠ 0 → (na : Int) * ((ea : Int) - 1) = ((na * (ea - 1) : Nat) : Int) := fun h => by rw [show (ea : Int) - 1 = ((ea - 1 : Nat) : Int) by omega]; push_cast; rfl
  generalize na * (ea - 1) = pa at *
  by_cases za : ea = 0
  · subst za
    clear hk_a
    have HRR := Lib.hid hrr
    clear hrr
    go_enter Tryz.func238, Tryz.ntmps238
    go_wp2_with fail
    refine HM.out.mono ?_
    rintro e w0 ⟨rfl, b0⟩
    have R0 := Lib.hid (rangeAt_block R00.out (b0.block g hg))
    have hg0 := Nat.lt_of_lt_of_le hg b0.size
    have hb0 := b0.size
    have B0 := Lib.hid b0
    clear b0 HM
    go_wp2_with fail
    refine wp_loop_rounds 2 ?_
    rw [rounds_succ]
    have q0 := R0.out 0 _ rfl
    have q1 := R0.out 1 _ rfl
    have q2 := R0.out 2 _ rfl
    have q3 := R0.out 3 _ rfl
    have q4 := R0.out 4 _ rfl
    simp only [Nat.zero_add, hn_a, hd_a] at q0 q1 q2 q3 q4
    have hgn : g ≠ w0.heap.size := by omega
    have bs := (Below.refl w0.heap.size w0).alloc (Nat.le_refl _) (.cells #[.int .i64 a.id, .int .i64 a.c, .int .i64 da, .int .i64 na, .int .i64 a.m] 32)
    have NA := Lib.hid (Bx.new w0 [.int .i64 a.id, .int .i64 a.c, .int .i64 da, .int .i64 na, .int .i64 a.m] 32)
    have BS := Lib.hid bs
    clear bs
    go_wp2_with fail
    have R1 := Lib.hid (rangeAt_block R0.out (BS.out.block g hg0))
    have hgu := Nat.lt_of_lt_of_le hg0 BS.out.size
    have BU := Lib.hid (B0.out.trans (BS.out.mono hb0))
    have hbu := BU.out.size
    clear q0 q1 q2 q3 q4 BS hgn
    generalize w0.alloc (.cells #[.int .i64 a.id, .int .i64 a.c, .int .i64 da, .int .i64 na, .int .i64 a.m] 32) = u0 at *
    refine (MN_a.out _).mono ?_
    rintro e w1 ⟨rfl, b1⟩
    have NB := NA.out.below b1
    have r2 := NB.cell 2 rfl
    have r3 := NB.cell 3 rfl
    have R1 := Lib.hid (rangeAt_block R1.out (b1.block g hgu))
    have hg1 := Nat.lt_of_lt_of_le hgu b1.size
    have B1 := Lib.hid (BU.out.trans (b1.mono hbu))
    have hb1 := B1.out.size
    clear b1 NA NB BU hgu hbu
    go_wp2_with fail
    clear r2 r3
    rw [rounds_succ]
    go_wp2_with fail
    go_ret2
    have hr := HRR.out
    simp only [Nat.zero_max, if_true] at hr
    subst hr
    exact ⟨rfl, B1.out⟩
  · have hk_a := hk_a za
    have hgt_a : decide ((ea : Int) > 0) = true := by simp; omega
    have hgt2_a : (0 : Int) < (ea : Int) := by omega
    have HRR := Lib.hid hrr
    clear hrr
    go_enter Tryz.func238, Tryz.ntmps238
    go_wp2_with fail
    refine HM.out.mono ?_
    rintro e w0 ⟨rfl, b0⟩
    have R0 := Lib.hid (rangeAt_block R00.out (b0.block g hg))
    have hg0 := Nat.lt_of_lt_of_le hg b0.size
    have hb0 := b0.size
    have B0 := Lib.hid b0
    clear b0 HM
    go_wp2_with fail
    refine wp_loop_rounds 2 ?_
    rw [rounds_succ]
    have q0 := R0.out 0 _ rfl
    have q1 := R0.out 1 _ rfl
    have q2 := R0.out 2 _ rfl
    have q3 := R0.out 3 _ rfl
    have q4 := R0.out 4 _ rfl
    simp only [Nat.zero_add, hn_a, hd_a] at q0 q1 q2 q3 q4
    have hgn : g ≠ w0.heap.size := by omega
    have bs := (Below.refl w0.heap.size w0).alloc (Nat.le_refl _) (.cells #[.int .i64 a.id, .int .i64 a.c, .int .i64 da, .int .i64 na, .int .i64 a.m] 32)
    have NA := Lib.hid (Bx.new w0 [.int .i64 a.id, .int .i64 a.c, .int .i64 da, .int .i64 na, .int .i64 a.m] 32)
    have BS := Lib.hid bs
    clear bs
    go_wp2_with fail
    have R1 := Lib.hid (rangeAt_block R0.out (BS.out.block g hg0))
    have hgu := Nat.lt_of_lt_of_le hg0 BS.out.size
    have BU := Lib.hid (B0.out.trans (BS.out.mono hb0))
    have hbu := BU.out.size
    clear q0 q1 q2 q3 q4 BS hgn
    generalize w0.alloc (.cells #[.int .i64 a.id, .int .i64 a.c, .int .i64 da, .int .i64 na, .int .i64 a.m] 32) = u0 at *
    refine (MN_a.out _).mono ?_
    rintro e w1 ⟨rfl, b1⟩
    have NB := NA.out.below b1
    have r2 := NB.cell 2 rfl
    have r3 := NB.cell 3 rfl
    have R1 := Lib.hid (rangeAt_block R1.out (b1.block g hgu))
    have hg1 := Nat.lt_of_lt_of_le hgu b1.size
    have B1 := Lib.hid (BU.out.trans (b1.mono hbu))
    have hb1 := B1.out.size
    clear b1 NA NB BU hgu hbu
    go_wp2_with fail
    clear r2 r3
    rw [rounds_succ]
    go_wp2_with fail
    go_ret2
    have hr := HRR.out
    simp only [Nat.zero_max, za, if_false] at hr
    have e1 : (max (0 : Int) ((da : Int) + (pa : Int))) = (r : Int) := by omega
    refine ⟨?_, B1.out⟩
    show Ending.returned (.tuple #[.int .i64 (max (0 : Int) ((da : Int) + (pa : Int))), .bool (decide (0 < (max (0 : Int) ((da : Int) + (pa : Int)))))]) = _
    rw [e1]
set_option maxRecDepth 100000 in
set_option maxHeartbeats 1000000 in
theorem before_2 {w : World} {g cap : Nat} {a b : Tk} {na da nb db : Nat} (hg : g < w.heap.size) (hc : 2 ≤ cap) (hr : w.rangeAt g 0 (tc a ++ tc b)) (ho_a : a.ok) (hn_a : a.t = na) (hp_a : 0 < na) (hl_a : na ≤ 10) (hd_a : a.d = da) (hdl_a : da ≤ 10) (ho_b : b.ok) (hn_b : b.t = nb) (hp_b : 0 < nb) (hl_b : nb ≤ 10) (hd_b : b.d = db) (hdl_b : db ≤ 10) (X : Nat) (hX : X ≤ 100000) (r : Nat) (hrr : (befF (befF 0 da na X) db nb X) = r) :
    Calls Tryz.prog 238 #[.slice (some ⟨g, 0, none⟩) 2 cap, .int .i64 X] w fun e w' => e = .returned (.tuple #[.int .i64 r, .bool (decide (0 < (r : Int)))]) ∧ Below w.heap.size w w' := by
  have hS : Sx tc w (.slice (some ⟨g, 0, none⟩) 2 cap) [a, b] := ⟨_, cap, rfl, .inr ⟨g, rfl⟩, fun _ => ⟨g, rfl, hg, hc, by simpa using hr⟩⟩
  have HM := Lib.hid (dmay_any hS (by simp) (by simp ; exact ⟨ho_a, ho_b⟩) X (by omega) (by omega))
  clear hS
  have R00 := Lib.hid hr
  clear hr
  have hm_a : manyF da na ((X : Int) - 1) ≤ 100001 := by
    unfold manyF
    split
    · omega
    · have := Nat.div_le_self (((X : Int) - 1).toNat - da) na
      omega
  have MN_a := Lib.hid (show ∀ u : World, Calls Tryz.prog 253 #[.agg #[.int .i64 a.id, .int .i64 a.c, .int .i64 da, .int .i64 na, .int .i64 a.m], .int .i64 ((X : Int) - 1)] u fun e w' => e = .returned (.int .i64 (manyF da na ((X : Int) - 1))) ∧ Below u.heap.size u w' from fun u => many_any (w := u) ((X : Int) - 1) (by omega) (by omega) hp_a)
  have hm_b : manyF db nb ((X : Int) - 1) ≤ 100001 := by
    unfold manyF
    split
    · omega
    · have := Nat.div_le_self (((X : Int) - 1).toNat - db) nb
      omega
  have MN_b := Lib.hid (show ∀ u : World, Calls Tryz.prog 253 #[.agg #[.int .i64 b.id, .int .i64 b.c, .int .i64 db, .int .i64 nb, .int .i64 b.m], .int .i64 ((X : Int) - 1)] u fun e w' => e = .returned (.int .i64 (manyF db nb ((X : Int) - 1))) ∧ Below u.heap.size u w' from fun u => many_any (w := u) ((X : Int) - 1) (by omega) (by omega) hp_b)
  unfold befF at hrr
  generalize manyF da na ((X : Int) - 1) = ea at *
  have hkl_a : na * (ea - 1) ≤ 10 * 100001 := Nat.mul_le_mul hl_a (by omega)
  have hk_a : ea ≠ 0 → (na : Int) * ((ea : Int) - 1) = ((na * (ea - 1) : Nat) : Int) := fun h => by rw [show (ea : Int) - 1 = ((ea - 1 : Nat) : Int) by omega]; push_cast; rfl
  generalize na * (ea - 1) = pa at *
  generalize manyF db nb ((X : Int) - 1) = eb at *
  have hkl_b : nb * (eb - 1) ≤ 10 * 100001 := Nat.mul_le_mul hl_b (by omega)
  have hk_b : eb ≠ 0 → (nb : Int) * ((eb : Int) - 1) = ((nb * (eb - 1) : Nat) : Int) := fun h => by rw [show (eb : Int) - 1 = ((eb - 1 : Nat) : Int) by omega]; push_cast; rfl
  generalize nb * (eb - 1) = pb at *
  by_cases za : ea = 0
  · subst za
    clear hk_a
    by_cases zb : eb = 0
    · subst zb
      clear hk_b
      have HRR := Lib.hid hrr
      clear hrr
      go_enter Tryz.func238, Tryz.ntmps238
      go_wp2_with fail
      refine HM.out.mono ?_
      rintro e w0 ⟨rfl, b0⟩
      have R0 := Lib.hid (rangeAt_block R00.out (b0.block g hg))
      have hg0 := Nat.lt_of_lt_of_le hg b0.size
      have hb0 := b0.size
      have B0 := Lib.hid b0
      clear b0 HM
      go_wp2_with fail
      refine wp_loop_rounds 3 ?_
      rw [rounds_succ]
      have q0 := R0.out 0 _ rfl
      have q1 := R0.out 1 _ rfl
      have q2 := R0.out 2 _ rfl
      have q3 := R0.out 3 _ rfl
      have q4 := R0.out 4 _ rfl
      simp only [Nat.zero_add, hn_a, hd_a] at q0 q1 q2 q3 q4
      have hgn : g ≠ w0.heap.size := by omega
      have bs := (Below.refl w0.heap.size w0).alloc (Nat.le_refl _) (.cells #[.int .i64 a.id, .int .i64 a.c, .int .i64 da, .int .i64 na, .int .i64 a.m] 32)
      have NA := Lib.hid (Bx.new w0 [.int .i64 a.id, .int .i64 a.c, .int .i64 da, .int .i64 na, .int .i64 a.m] 32)
      have BS := Lib.hid bs
      clear bs
      go_wp2_with fail
      have R1 := Lib.hid (rangeAt_block R0.out (BS.out.block g hg0))
      have hgu := Nat.lt_of_lt_of_le hg0 BS.out.size
      have BU := Lib.hid (B0.out.trans (BS.out.mono hb0))
      have hbu := BU.out.size
      clear q0 q1 q2 q3 q4 BS hgn
      generalize w0.alloc (.cells #[.int .i64 a.id, .int .i64 a.c, .int .i64 da, .int .i64 na, .int .i64 a.m] 32) = u0 at *
      refine (MN_a.out _).mono ?_
      rintro e w1 ⟨rfl, b1⟩
      have NB := NA.out.below b1
      have r2 := NB.cell 2 rfl
      have r3 := NB.cell 3 rfl
      have R1 := Lib.hid (rangeAt_block R1.out (b1.block g hgu))
      have hg1 := Nat.lt_of_lt_of_le hgu b1.size
      have B1 := Lib.hid (BU.out.trans (b1.mono hbu))
      have hb1 := B1.out.size
      clear b1 NA NB BU hgu hbu
      go_wp2_with fail
      clear r2 r3
      rw [rounds_succ]
      have q0 := R1.out 5 _ rfl
      have q1 := R1.out 6 _ rfl
      have q2 := R1.out 7 _ rfl
      have q3 := R1.out 8 _ rfl
      have q4 := R1.out 9 _ rfl
      simp only [Nat.zero_add, hn_b, hd_b] at q0 q1 q2 q3 q4
      have hgn : g ≠ w1.heap.size := by omega
      have bs := (Below.refl w1.heap.size w1).alloc (Nat.le_refl _) (.cells #[.int .i64 b.id, .int .i64 b.c, .int .i64 db, .int .i64 nb, .int .i64 b.m] 32)
      have NA := Lib.hid (Bx.new w1 [.int .i64 b.id, .int .i64 b.c, .int .i64 db, .int .i64 nb, .int .i64 b.m] 32)
      have BS := Lib.hid bs
      clear bs
      go_wp2_with fail
      have R2 := Lib.hid (rangeAt_block R1.out (BS.out.block g hg1))
      have hgu := Nat.lt_of_lt_of_le hg1 BS.out.size
      have BU := Lib.hid (B1.out.trans (BS.out.mono hb1))
      have hbu := BU.out.size
      clear q0 q1 q2 q3 q4 BS hgn
      generalize w1.alloc (.cells #[.int .i64 b.id, .int .i64 b.c, .int .i64 db, .int .i64 nb, .int .i64 b.m] 32) = u1 at *
      refine (MN_b.out _).mono ?_
      rintro e w2 ⟨rfl, b1⟩
      have NB := NA.out.below b1
      have r2 := NB.cell 2 rfl
      have r3 := NB.cell 3 rfl
      have R2 := Lib.hid (rangeAt_block R2.out (b1.block g hgu))
      have hg2 := Nat.lt_of_lt_of_le hgu b1.size
      have B2 := Lib.hid (BU.out.trans (b1.mono hbu))
      have hb2 := B2.out.size
      clear b1 NA NB BU hgu hbu
      go_wp2_with fail
      clear r2 r3
      rw [rounds_succ]
      go_wp2_with fail
      go_ret2
      have hr := HRR.out
      simp only [Nat.zero_max, if_true] at hr
      subst hr
      exact ⟨rfl, B2.out⟩
    · have hk_b := hk_b zb
      have hgt_b : decide ((eb : Int) > 0) = true := by simp; omega
      have hgt2_b : (0 : Int) < (eb : Int) := by omega
      have HRR := Lib.hid hrr
      clear hrr
      go_enter Tryz.func238, Tryz.ntmps238
      go_wp2_with fail
      refine HM.out.mono ?_
      rintro e w0 ⟨rfl, b0⟩
      have R0 := Lib.hid (rangeAt_block R00.out (b0.block g hg))
      have hg0 := Nat.lt_of_lt_of_le hg b0.size
      have hb0 := b0.size
      have B0 := Lib.hid b0
      clear b0 HM
      go_wp2_with fail
      refine wp_loop_rounds 3 ?_
      rw [rounds_succ]
      have q0 := R0.out 0 _ rfl
      have q1 := R0.out 1 _ rfl
      have q2 := R0.out 2 _ rfl
      have q3 := R0.out 3 _ rfl
      have q4 := R0.out 4 _ rfl
      simp only [Nat.zero_add, hn_a, hd_a] at q0 q1 q2 q3 q4
      have hgn : g ≠ w0.heap.size := by omega
      have bs := (Below.refl w0.heap.size w0).alloc (Nat.le_refl _) (.cells #[.int .i64 a.id, .int .i64 a.c, .int .i64 da, .int .i64 na, .int .i64 a.m] 32)
      have NA := Lib.hid (Bx.new w0 [.int .i64 a.id, .int .i64 a.c, .int .i64 da, .int .i64 na, .int .i64 a.m] 32)
      have BS := Lib.hid bs
      clear bs
      go_wp2_with fail
      have R1 := Lib.hid (rangeAt_block R0.out (BS.out.block g hg0))
      have hgu := Nat.lt_of_lt_of_le hg0 BS.out.size
      have BU := Lib.hid (B0.out.trans (BS.out.mono hb0))
      have hbu := BU.out.size
      clear q0 q1 q2 q3 q4 BS hgn
      generalize w0.alloc (.cells #[.int .i64 a.id, .int .i64 a.c, .int .i64 da, .int .i64 na, .int .i64 a.m] 32) = u0 at *
      refine (MN_a.out _).mono ?_
      rintro e w1 ⟨rfl, b1⟩
      have NB := NA.out.below b1
      have r2 := NB.cell 2 rfl
      have r3 := NB.cell 3 rfl
      have R1 := Lib.hid (rangeAt_block R1.out (b1.block g hgu))
      have hg1 := Nat.lt_of_lt_of_le hgu b1.size
      have B1 := Lib.hid (BU.out.trans (b1.mono hbu))
      have hb1 := B1.out.size
      clear b1 NA NB BU hgu hbu
      go_wp2_with fail
      clear r2 r3
      rw [rounds_succ]
      have q0 := R1.out 5 _ rfl
      have q1 := R1.out 6 _ rfl
      have q2 := R1.out 7 _ rfl
      have q3 := R1.out 8 _ rfl
      have q4 := R1.out 9 _ rfl
      simp only [Nat.zero_add, hn_b, hd_b] at q0 q1 q2 q3 q4
      have hgn : g ≠ w1.heap.size := by omega
      have bs := (Below.refl w1.heap.size w1).alloc (Nat.le_refl _) (.cells #[.int .i64 b.id, .int .i64 b.c, .int .i64 db, .int .i64 nb, .int .i64 b.m] 32)
      have NA := Lib.hid (Bx.new w1 [.int .i64 b.id, .int .i64 b.c, .int .i64 db, .int .i64 nb, .int .i64 b.m] 32)
      have BS := Lib.hid bs
      clear bs
      go_wp2_with fail
      have R2 := Lib.hid (rangeAt_block R1.out (BS.out.block g hg1))
      have hgu := Nat.lt_of_lt_of_le hg1 BS.out.size
      have BU := Lib.hid (B1.out.trans (BS.out.mono hb1))
      have hbu := BU.out.size
      clear q0 q1 q2 q3 q4 BS hgn
      generalize w1.alloc (.cells #[.int .i64 b.id, .int .i64 b.c, .int .i64 db, .int .i64 nb, .int .i64 b.m] 32) = u1 at *
      refine (MN_b.out _).mono ?_
      rintro e w2 ⟨rfl, b1⟩
      have NB := NA.out.below b1
      have r2 := NB.cell 2 rfl
      have r3 := NB.cell 3 rfl
      have R2 := Lib.hid (rangeAt_block R2.out (b1.block g hgu))
      have hg2 := Nat.lt_of_lt_of_le hgu b1.size
      have B2 := Lib.hid (BU.out.trans (b1.mono hbu))
      have hb2 := B2.out.size
      clear b1 NA NB BU hgu hbu
      go_wp2_with fail
      clear r2 r3
      rw [rounds_succ]
      go_wp2_with fail
      go_ret2
      have hr := HRR.out
      simp only [Nat.zero_max, zb, if_true, if_false] at hr
      have e1 : (max (0 : Int) ((db : Int) + (pb : Int))) = (r : Int) := by omega
      refine ⟨?_, B2.out⟩
      show Ending.returned (.tuple #[.int .i64 (max (0 : Int) ((db : Int) + (pb : Int))), .bool (decide (0 < (max (0 : Int) ((db : Int) + (pb : Int)))))]) = _
      rw [e1]
  · have hk_a := hk_a za
    have hgt_a : decide ((ea : Int) > 0) = true := by simp; omega
    have hgt2_a : (0 : Int) < (ea : Int) := by omega
    by_cases zb : eb = 0
    · subst zb
      clear hk_b
      have HRR := Lib.hid hrr
      clear hrr
      go_enter Tryz.func238, Tryz.ntmps238
      go_wp2_with fail
      refine HM.out.mono ?_
      rintro e w0 ⟨rfl, b0⟩
      have R0 := Lib.hid (rangeAt_block R00.out (b0.block g hg))
      have hg0 := Nat.lt_of_lt_of_le hg b0.size
      have hb0 := b0.size
      have B0 := Lib.hid b0
      clear b0 HM
      go_wp2_with fail
      refine wp_loop_rounds 3 ?_
      rw [rounds_succ]
      have q0 := R0.out 0 _ rfl
      have q1 := R0.out 1 _ rfl
      have q2 := R0.out 2 _ rfl
      have q3 := R0.out 3 _ rfl
      have q4 := R0.out 4 _ rfl
      simp only [Nat.zero_add, hn_a, hd_a] at q0 q1 q2 q3 q4
      have hgn : g ≠ w0.heap.size := by omega
      have bs := (Below.refl w0.heap.size w0).alloc (Nat.le_refl _) (.cells #[.int .i64 a.id, .int .i64 a.c, .int .i64 da, .int .i64 na, .int .i64 a.m] 32)
      have NA := Lib.hid (Bx.new w0 [.int .i64 a.id, .int .i64 a.c, .int .i64 da, .int .i64 na, .int .i64 a.m] 32)
      have BS := Lib.hid bs
      clear bs
      go_wp2_with fail
      have R1 := Lib.hid (rangeAt_block R0.out (BS.out.block g hg0))
      have hgu := Nat.lt_of_lt_of_le hg0 BS.out.size
      have BU := Lib.hid (B0.out.trans (BS.out.mono hb0))
      have hbu := BU.out.size
      clear q0 q1 q2 q3 q4 BS hgn
      generalize w0.alloc (.cells #[.int .i64 a.id, .int .i64 a.c, .int .i64 da, .int .i64 na, .int .i64 a.m] 32) = u0 at *
      refine (MN_a.out _).mono ?_
      rintro e w1 ⟨rfl, b1⟩
      have NB := NA.out.below b1
      have r2 := NB.cell 2 rfl
      have r3 := NB.cell 3 rfl
      have R1 := Lib.hid (rangeAt_block R1.out (b1.block g hgu))
      have hg1 := Nat.lt_of_lt_of_le hgu b1.size
      have B1 := Lib.hid (BU.out.trans (b1.mono hbu))
      have hb1 := B1.out.size
      clear b1 NA NB BU hgu hbu
      go_wp2_with fail
      clear r2 r3
      rw [rounds_succ]
      have q0 := R1.out 5 _ rfl
      have q1 := R1.out 6 _ rfl
      have q2 := R1.out 7 _ rfl
      have q3 := R1.out 8 _ rfl
      have q4 := R1.out 9 _ rfl
      simp only [Nat.zero_add, hn_b, hd_b] at q0 q1 q2 q3 q4
      have hgn : g ≠ w1.heap.size := by omega
      have bs := (Below.refl w1.heap.size w1).alloc (Nat.le_refl _) (.cells #[.int .i64 b.id, .int .i64 b.c, .int .i64 db, .int .i64 nb, .int .i64 b.m] 32)
      have NA := Lib.hid (Bx.new w1 [.int .i64 b.id, .int .i64 b.c, .int .i64 db, .int .i64 nb, .int .i64 b.m] 32)
      have BS := Lib.hid bs
      clear bs
      go_wp2_with fail
      have R2 := Lib.hid (rangeAt_block R1.out (BS.out.block g hg1))
      have hgu := Nat.lt_of_lt_of_le hg1 BS.out.size
      have BU := Lib.hid (B1.out.trans (BS.out.mono hb1))
      have hbu := BU.out.size
      clear q0 q1 q2 q3 q4 BS hgn
      generalize w1.alloc (.cells #[.int .i64 b.id, .int .i64 b.c, .int .i64 db, .int .i64 nb, .int .i64 b.m] 32) = u1 at *
      refine (MN_b.out _).mono ?_
      rintro e w2 ⟨rfl, b1⟩
      have NB := NA.out.below b1
      have r2 := NB.cell 2 rfl
      have r3 := NB.cell 3 rfl
      have R2 := Lib.hid (rangeAt_block R2.out (b1.block g hgu))
      have hg2 := Nat.lt_of_lt_of_le hgu b1.size
      have B2 := Lib.hid (BU.out.trans (b1.mono hbu))
      have hb2 := B2.out.size
      clear b1 NA NB BU hgu hbu
      go_wp2_with fail
      clear r2 r3
      rw [rounds_succ]
      go_wp2_with fail
      go_ret2
      have hr := HRR.out
      simp only [Nat.zero_max, za, if_true, if_false] at hr
      have e1 : (max (0 : Int) ((da : Int) + (pa : Int))) = (r : Int) := by omega
      refine ⟨?_, B2.out⟩
      show Ending.returned (.tuple #[.int .i64 (max (0 : Int) ((da : Int) + (pa : Int))), .bool (decide (0 < (max (0 : Int) ((da : Int) + (pa : Int)))))]) = _
      rw [e1]
    · have hk_b := hk_b zb
      have hgt_b : decide ((eb : Int) > 0) = true := by simp; omega
      have hgt2_b : (0 : Int) < (eb : Int) := by omega
      have HRR := Lib.hid hrr
      clear hrr
      go_enter Tryz.func238, Tryz.ntmps238
      go_wp2_with fail
      refine HM.out.mono ?_
      rintro e w0 ⟨rfl, b0⟩
      have R0 := Lib.hid (rangeAt_block R00.out (b0.block g hg))
      have hg0 := Nat.lt_of_lt_of_le hg b0.size
      have hb0 := b0.size
      have B0 := Lib.hid b0
      clear b0 HM
      go_wp2_with fail
      refine wp_loop_rounds 3 ?_
      rw [rounds_succ]
      have q0 := R0.out 0 _ rfl
      have q1 := R0.out 1 _ rfl
      have q2 := R0.out 2 _ rfl
      have q3 := R0.out 3 _ rfl
      have q4 := R0.out 4 _ rfl
      simp only [Nat.zero_add, hn_a, hd_a] at q0 q1 q2 q3 q4
      have hgn : g ≠ w0.heap.size := by omega
      have bs := (Below.refl w0.heap.size w0).alloc (Nat.le_refl _) (.cells #[.int .i64 a.id, .int .i64 a.c, .int .i64 da, .int .i64 na, .int .i64 a.m] 32)
      have NA := Lib.hid (Bx.new w0 [.int .i64 a.id, .int .i64 a.c, .int .i64 da, .int .i64 na, .int .i64 a.m] 32)
      have BS := Lib.hid bs
      clear bs
      go_wp2_with fail
      have R1 := Lib.hid (rangeAt_block R0.out (BS.out.block g hg0))
      have hgu := Nat.lt_of_lt_of_le hg0 BS.out.size
      have BU := Lib.hid (B0.out.trans (BS.out.mono hb0))
      have hbu := BU.out.size
      clear q0 q1 q2 q3 q4 BS hgn
      generalize w0.alloc (.cells #[.int .i64 a.id, .int .i64 a.c, .int .i64 da, .int .i64 na, .int .i64 a.m] 32) = u0 at *
      refine (MN_a.out _).mono ?_
      rintro e w1 ⟨rfl, b1⟩
      have NB := NA.out.below b1
      have r2 := NB.cell 2 rfl
      have r3 := NB.cell 3 rfl
      have R1 := Lib.hid (rangeAt_block R1.out (b1.block g hgu))
      have hg1 := Nat.lt_of_lt_of_le hgu b1.size
      have B1 := Lib.hid (BU.out.trans (b1.mono hbu))
      have hb1 := B1.out.size
      clear b1 NA NB BU hgu hbu
      go_wp2_with fail
      clear r2 r3
      rw [rounds_succ]
      have q0 := R1.out 5 _ rfl
      have q1 := R1.out 6 _ rfl
      have q2 := R1.out 7 _ rfl
      have q3 := R1.out 8 _ rfl
      have q4 := R1.out 9 _ rfl
      simp only [Nat.zero_add, hn_b, hd_b] at q0 q1 q2 q3 q4
      have hgn : g ≠ w1.heap.size := by omega
      have bs := (Below.refl w1.heap.size w1).alloc (Nat.le_refl _) (.cells #[.int .i64 b.id, .int .i64 b.c, .int .i64 db, .int .i64 nb, .int .i64 b.m] 32)
      have NA := Lib.hid (Bx.new w1 [.int .i64 b.id, .int .i64 b.c, .int .i64 db, .int .i64 nb, .int .i64 b.m] 32)
      have BS := Lib.hid bs
      clear bs
      go_wp2_with fail
      have R2 := Lib.hid (rangeAt_block R1.out (BS.out.block g hg1))
      have hgu := Nat.lt_of_lt_of_le hg1 BS.out.size
      have BU := Lib.hid (B1.out.trans (BS.out.mono hb1))
      have hbu := BU.out.size
      clear q0 q1 q2 q3 q4 BS hgn
      generalize w1.alloc (.cells #[.int .i64 b.id, .int .i64 b.c, .int .i64 db, .int .i64 nb, .int .i64 b.m] 32) = u1 at *
      refine (MN_b.out _).mono ?_
      rintro e w2 ⟨rfl, b1⟩
      have NB := NA.out.below b1
      have r2 := NB.cell 2 rfl
      have r3 := NB.cell 3 rfl
      have R2 := Lib.hid (rangeAt_block R2.out (b1.block g hgu))
      have hg2 := Nat.lt_of_lt_of_le hgu b1.size
      have B2 := Lib.hid (BU.out.trans (b1.mono hbu))
      have hb2 := B2.out.size
      clear b1 NA NB BU hgu hbu
      go_wp2_with fail
      clear r2 r3
      rw [rounds_succ]
      go_wp2_with fail
      go_ret2
      have hr := HRR.out
      simp only [Nat.zero_max, za, zb, if_false] at hr
      have e1 : (max (0 : Int) (max ((da : Int) + (pa : Int)) ((db : Int) + (pb : Int)))) = (r : Int) := by omega
      refine ⟨?_, B2.out⟩
      show Ending.returned (.tuple #[.int .i64 (max (0 : Int) (max ((da : Int) + (pa : Int)) ((db : Int) + (pb : Int)))), .bool (decide (0 < (max (0 : Int) (max ((da : Int) + (pa : Int)) ((db : Int) + (pb : Int))))))]) = _
      rw [e1]
end Go.Proofs.YtoichcickcgbgaaGreatDoor
