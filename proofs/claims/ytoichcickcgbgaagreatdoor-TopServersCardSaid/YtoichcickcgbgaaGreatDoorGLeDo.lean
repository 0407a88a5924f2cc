/-
  The least deadline.
  The deadlines of a task.
  The work of all deadlines not above a time.
-/
import Derived.Test.YtoichcickcgbgaaGreatDoorGPdWk
import Derived.Deep.RegionHeld3
namespace Go.Proofs.YtoichcickcgbgaaGreatDoor
open Go.RowKit
attribute [local go_sem] Oper.semAt_some
set_option maxRecDepth 100000 in
set_option maxHeartbeats 1000000 in
theorem least_1 {w : World} {g cap : Nat} {a : Tk} {na ca : Nat} (hg : g < w.heap.size) (hc : 1 ≤ cap) (hr : w.rangeAt g 0 (tc a)) (ho_a : a.ok) (hn_a : a.t = na) (hc_a : a.c = ca) :
    Calls Tryz.prog 237 #[.slice (some ⟨g, 0, none⟩) 1 cap] w fun e w' => e = .returned (.int .i64 (min a.d a.d)) ∧ Below w.heap.size w w' := by
  have hS : Sx tc w (.slice (some ⟨g, 0, none⟩) 1 cap) [a] := ⟨_, cap, rfl, .inr ⟨g, rfl⟩, fun _ => ⟨g, rfl, hg, hc, by simpa using hr⟩⟩
  have HM := Lib.hid (row_any hS (by simp) (by simp ; exact ho_a) )
  clear hS
  have R00 := Lib.hid hr
  clear hr
  go_enter Tryz.func237, Tryz.ntmps237
  go_wp2_with fail
  refine HM.out.mono ?_
  rintro e w0 ⟨rfl, b0⟩
  have R0 := Lib.hid (rangeAt_block R00.out (b0.block g hg))
  have hg0 := Nat.lt_of_lt_of_le hg b0.size
  have hb0 := b0.size
  have B0 := Lib.hid b0
  clear b0 HM
  have p2 := R0.out 2 _ rfl
  simp only [Nat.zero_add] at p2
  go_wp2_with fail
  clear p2
  refine wp_loop_rounds 2 ?_
  rw [rounds_succ]
  have q0 := R0.out 0 _ rfl
  have q1 := R0.out 1 _ rfl
  have q2 := R0.out 2 _ rfl
  have q3 := R0.out 3 _ rfl
  have q4 := R0.out 4 _ rfl
  simp only [Nat.zero_add, hn_a, hc_a] at q0 q1 q2 q3 q4
  have hgn : g ≠ w0.heap.size := by omega
  have bs := ((Below.refl w0.heap.size w0).alloc (Nat.le_refl _) (.cells #[.int .i64 a.id, .int .i64 ca, .int .i64 a.d, .int .i64 na, .int .i64 a.m] 32))
  have NA := Bx.new w0 [.int .i64 a.id, .int .i64 ca, .int .i64 a.d, .int .i64 na, .int .i64 a.m] 32
  go_wp2_with fail
  go_wp2_with fail
  have R1 := Lib.hid (rangeAt_block R0.out (bs.block g hg0))
  have hg1 := Nat.lt_of_lt_of_le hg0 bs.size
  have B1 := Lib.hid (B0.out.trans (bs.mono hb0))
  have hb1 := B1.out.size
  clear q0 q1 q2 q3 q4 NA bs hgn
  generalize w0.alloc (.cells #[.int .i64 a.id, .int .i64 ca, .int .i64 a.d, .int .i64 na, .int .i64 a.m] 32) = w1 at *
  rw [rounds_succ]
  go_wp2_with fail
  refine bodyPost_ret (v := .int .i64 (min a.d a.d)) (by simp [results, Tryz.results237, go_sem]) rfl ⟨rfl, B1.out⟩
set_option maxRecDepth 100000 in
set_option maxHeartbeats 1000000 in
theorem least_2 {w : World} {g cap : Nat} {a b : Tk} {na ca nb cb : Nat} (hg : g < w.heap.size) (hc : 2 ≤ cap) (hr : w.rangeAt g 0 (tc a ++ tc b)) (ho_a : a.ok) (hn_a : a.t = na) (hc_a : a.c = ca) (ho_b : b.ok) (hn_b : b.t = nb) (hc_b : b.c = cb) :
    Calls Tryz.prog 237 #[.slice (some ⟨g, 0, none⟩) 2 cap] w fun e w' => e = .returned (.int .i64 (min (min a.d a.d) b.d)) ∧ Below w.heap.size w w' := by
  have hS : Sx tc w (.slice (some ⟨g, 0, none⟩) 2 cap) [a, b] := ⟨_, cap, rfl, .inr ⟨g, rfl⟩, fun _ => ⟨g, rfl, hg, hc, by simpa using hr⟩⟩
  have HM := Lib.hid (row_any hS (by simp) (by simp ; exact ⟨ho_a, ho_b⟩) )
  clear hS
  have R00 := Lib.hid hr
  clear hr
  go_enter Tryz.func237, Tryz.ntmps237
  go_wp2_with fail
  refine HM.out.mono ?_
  rintro e w0 ⟨rfl, b0⟩
  have R0 := Lib.hid (rangeAt_block R00.out (b0.block g hg))
  have hg0 := Nat.lt_of_lt_of_le hg b0.size
  have hb0 := b0.size
  have B0 := Lib.hid b0
  clear b0 HM
  have p2 := R0.out 2 _ rfl
  simp only [Nat.zero_add] at p2
  go_wp2_with fail
  clear p2
  refine wp_loop_rounds 3 ?_
  rw [rounds_succ]
  have q0 := R0.out 0 _ rfl
  have q1 := R0.out 1 _ rfl
  have q2 := R0.out 2 _ rfl
  have q3 := R0.out 3 _ rfl
  have q4 := R0.out 4 _ rfl
  simp only [Nat.zero_add, hn_a, hc_a] at q0 q1 q2 q3 q4
  have hgn : g ≠ w0.heap.size := by omega
  have bs := ((Below.refl w0.heap.size w0).alloc (Nat.le_refl _) (.cells #[.int .i64 a.id, .int .i64 ca, .int .i64 a.d, .int .i64 na, .int .i64 a.m] 32))
  have NA := Bx.new w0 [.int .i64 a.id, .int .i64 ca, .int .i64 a.d, .int .i64 na, .int .i64 a.m] 32
  go_wp2_with fail
  go_wp2_with fail
  have R1 := Lib.hid (rangeAt_block R0.out (bs.block g hg0))
  have hg1 := Nat.lt_of_lt_of_le hg0 bs.size
  have B1 := Lib.hid (B0.out.trans (bs.mono hb0))
  have hb1 := B1.out.size
  clear q0 q1 q2 q3 q4 NA bs hgn
  generalize w0.alloc (.cells #[.int .i64 a.id, .int .i64 ca, .int .i64 a.d, .int .i64 na, .int .i64 a.m] 32) = w1 at *
  rw [rounds_succ]
  have q0 := R1.out 5 _ rfl
  have q1 := R1.out 6 _ rfl
  have q2 := R1.out 7 _ rfl
  have q3 := R1.out 8 _ rfl
  have q4 := R1.out 9 _ rfl
  simp only [Nat.zero_add, hn_b, hc_b] at q0 q1 q2 q3 q4
  have hgn : g ≠ w1.heap.size := by omega
  have bs := ((Below.refl w1.heap.size w1).alloc (Nat.le_refl _) (.cells #[.int .i64 b.id, .int .i64 cb, .int .i64 b.d, .int .i64 nb, .int .i64 b.m] 32))
  have NA := Bx.new w1 [.int .i64 b.id, .int .i64 cb, .int .i64 b.d, .int .i64 nb, .int .i64 b.m] 32
  go_wp2_with fail
  go_wp2_with fail
  have R2 := Lib.hid (rangeAt_block R1.out (bs.block g hg1))
  have hg2 := Nat.lt_of_lt_of_le hg1 bs.size
  have B2 := Lib.hid (B1.out.trans (bs.mono hb1))
  have hb2 := B2.out.size
  clear q0 q1 q2 q3 q4 NA bs hgn
  generalize w1.alloc (.cells #[.int .i64 b.id, .int .i64 cb, .int .i64 b.d, .int .i64 nb, .int .i64 b.m] 32) = w2 at *
  rw [rounds_succ]
  go_wp2_with fail
  refine bodyPost_ret (v := .int .i64 (min (min a.d a.d) b.d)) (by simp [results, Tryz.results237, go_sem]) rfl ⟨rfl, B2.out⟩
end Go.Proofs.YtoichcickcgbgaaGreatDoor
namespace Go.Proofs.YtoichcickcgbgaaGreatDoor
open Go.RowKit
attribute [local go_sem] Oper.semAt_some
set_option maxRecDepth 100000 in
theorem dmay_any {w : World} {v : Value} {ts : List Tk} (h : Sx tc w v ts) (hn : ts.length ≤ 16) (hok : ∀ t ∈ ts, t.ok) (x : Int) (h0 : 0 ≤ x) (h1 : x ≤ 1099511627776) :
    Calls Tryz.prog 252 #[v, .int .i64 x] w fun e w' => e = .returned (.bool true) ∧ Below w.heap.size w w' := by
  have H := Lib.hid (row_any h hn hok)
  have g0 : decide (x ≥ 0) = true := by simpa using h0
  have g1 : decide (x ≤ 1099511627776) = true := by simpa using h1
  clear h
  go_enter Tryz.func252, Tryz.ntmps252
  go_wp2_with fail
  refine H.out.mono ?_
  rintro e w1 ⟨rfl, b1⟩
  have B1 := Lib.hid b1
  clear b1
  go_wp2_with fail
  go_ret
  exact ⟨rfl, B1.out⟩
/-- How many deadlines of a task are not above x. -/
def manyF (d t : Nat) (x : Int) : Nat := if x < (d : Int) then 0 else (x.toNat - d) / t + 1
set_option maxRecDepth 100000 in
theorem many_any {w : World} {i c m : Int} {d t : Nat} (x : Int) (hx0 : -1 ≤ x) (hx : x ≤ 100000) (ht : 0 < t) :
    Calls Tryz.prog 253 #[.agg #[.int .i64 i, .int .i64 c, .int .i64 d, .int .i64 t, .int .i64 m], .int .i64 x] w fun e w' => e = .returned (.int .i64 (manyF d t x)) ∧ Below w.heap.size w w' := by
  by_cases hl : x < (d : Int)
  · have hd : decide (x < (d : Int)) = true := by simpa using hl
    have hm : manyF d t x = 0 := if_pos hl
    rw [hm]
    clear hm
    go_enter Tryz.func253, Tryz.ntmps253
    go_wp2_with fail
    go_ret
    exact ⟨rfl, (Below.refl _ _).alloc (Nat.le_refl _) _⟩
  · have hm : manyF d t x = (x.toNat - d) / t + 1 := if_neg hl
    rw [hm]
    have hq : (x - (d : Int)).tdiv (t : Int) = (((x.toNat - d) / t : Nat) : Int) := by
      rw [show x - (d : Int) = ((x.toNat - d : Nat) : Int) by omega]; exact tdiv_nat _ _
    have hz : ¬ ((t : Int) = 0) := by omega
    have hb : (x.toNat - d) / t ≤ 100000 := Nat.le_trans (Nat.div_le_self _ _) (by omega)
    generalize (x.toNat - d) / t = q at *
    have hw : IntKind.i64.wrap (q : Int) = (q : Int) := IntWalk.i64_in _ (by omega)
    clear hm
    go_enter Tryz.func253, Tryz.ntmps253
    go_wp2_with fail
    go_ret
    exact ⟨rfl, (Below.refl _ _).alloc (Nat.le_refl _) _⟩
end Go.Proofs.YtoichcickcgbgaaGreatDoor
namespace Go.Proofs.YtoichcickcgbgaaGreatDoor
open Go.RowKit
attribute [local go_sem] Oper.semAt_some
set_option maxRecDepth 100000 in
set_option maxHeartbeats 1000000 in
theorem of_1 {w : World} {g cap : Nat} {a : Tk} {na ca da : Nat} (hg : g < w.heap.size) (hc : 1 ≤ cap) (hr : w.rangeAt g 0 (tc a)) (ho_a : a.ok) (hn_a : a.t = na) (hp_a : 0 < na) (hc_a : a.c = ca) (hcl_a : ca ≤ 10) (hd_a : a.d = da) (X : Nat) (hX : X ≤ 100000) :
    Calls Tryz.prog 239 #[.slice (some ⟨g, 0, none⟩) 1 cap, .int .i64 X] w fun e w' => e = .returned (.int .i64 ((0 + ca * manyF da na X) : Nat)) ∧ Below w.heap.size w w' := by
  have hS : Sx tc w (.slice (some ⟨g, 0, none⟩) 1 cap) [a] := ⟨_, cap, rfl, .inr ⟨g, rfl⟩, fun _ => ⟨g, rfl, hg, hc, by simpa using hr⟩⟩
  have HM := Lib.hid (dmay_any hS (by simp) (by simp ; exact ho_a) X (by omega) (by omega))
  clear hS
  have R00 := Lib.hid hr
  clear hr
  have hm_a : manyF da na X ≤ 100001 := by
    unfold manyF
    split
    · omega
    · have := Nat.div_le_self ((X : Int).toNat - da) na
      omega
  have MN_a := Lib.hid (show ∀ u : World, Calls Tryz.prog 253 #[.agg #[.int .i64 a.id, .int .i64 ca, .int .i64 da, .int .i64 na, .int .i64 a.m], .int .i64 X] u fun e w' => e = .returned (.int .i64 (manyF da na X)) ∧ Below u.heap.size u w' from fun u => many_any (w := u) (X : Int) (by omega) (by omega) hp_a)
  have hkl_a : ca * manyF da na X ≤ 10 * 100001 := Nat.mul_le_mul hcl_a hm_a
  have hk_a : (ca : Int) * ((manyF da na X : Nat) : Int) = ((ca * manyF da na X : Nat) : Int) := by push_cast; rfl
  generalize manyF da na X = ea at *
  generalize ca * ea = ka at *
  go_enter Tryz.func239, Tryz.ntmps239
  go_wp2_with fail
  refine HM.out.mono ?_
  rintro e w0 ⟨rfl, b0⟩
  have R0 := Lib.hid (rangeAt_block R00.out (b0.block g hg))
  have hg0 := Nat.lt_of_lt_of_le hg b0.size
  have hb0 := b0.size
  have B0 := Lib.hid b0
  clear b0 HM
  go_wp2_with fail
  refine wp_loop_rounds 2 ?_
  rw [rounds_succ]
  have q0 := R0.out 0 _ rfl
  have q1 := R0.out 1 _ rfl
  have q2 := R0.out 2 _ rfl
  have q3 := R0.out 3 _ rfl
  have q4 := R0.out 4 _ rfl
  simp only [Nat.zero_add, hn_a, hc_a, hd_a] at q0 q1 q2 q3 q4
  have hgn : g ≠ w0.heap.size := by omega
  have bs := (Below.refl w0.heap.size w0).alloc (Nat.le_refl _) (.cells #[.int .i64 a.id, .int .i64 ca, .int .i64 da, .int .i64 na, .int .i64 a.m] 32)
  have NA := Lib.hid (Bx.new w0 [.int .i64 a.id, .int .i64 ca, .int .i64 da, .int .i64 na, .int .i64 a.m] 32)
  have BS := Lib.hid bs
  clear bs
  go_wp2_with fail
  have R1 := Lib.hid (rangeAt_block R0.out (BS.out.block g hg0))
  have hgu := Nat.lt_of_lt_of_le hg0 BS.out.size
  have BU := Lib.hid (B0.out.trans (BS.out.mono hb0))
  have hbu := BU.out.size
  clear q0 q1 q2 q3 q4 BS hgn
  generalize w0.alloc (.cells #[.int .i64 a.id, .int .i64 ca, .int .i64 da, .int .i64 na, .int .i64 a.m] 32) = u0 at *
  have KC : Hid (∀ y, Hid (Below u0.heap.size u0 y) → (y.cell? ⟨w0.heap.size, 0, none⟩ = some (.int .i64 a.id) ∧ y.cell? ⟨w0.heap.size, 1, none⟩ = some (.int .i64 ca) ∧ y.cell? ⟨w0.heap.size, 2, none⟩ = some (.int .i64 da) ∧ y.cell? ⟨w0.heap.size, 3, none⟩ = some (.int .i64 na) ∧ y.cell? ⟨w0.heap.size, 4, none⟩ = some (.int .i64 a.m))) := fun y h => ⟨(NA.out.bl h).cell 0 rfl, (NA.out.bl h).cell 1 rfl, (NA.out.bl h).cell 2 rfl, (NA.out.bl h).cell 3 rfl, (NA.out.bl h).cell 4 rfl⟩
  refine wp_region_held_drew (S := fun y => (y.cell? ⟨w0.heap.size, 0, none⟩ = some (.int .i64 a.id) ∧ y.cell? ⟨w0.heap.size, 1, none⟩ = some (.int .i64 ca) ∧ y.cell? ⟨w0.heap.size, 2, none⟩ = some (.int .i64 da) ∧ y.cell? ⟨w0.heap.size, 3, none⟩ = some (.int .i64 na) ∧ y.cell? ⟨w0.heap.size, 4, none⟩ = some (.int .i64 a.m)) ∧ Hid (Below u0.heap.size u0 y)) (by kernel_rfl) (skeep KC (bl_drew (bl0 _))) (fun hHeld => ?_)
  refine wtk 0 18 (.int .i64 0) rfl (by kernel_rfl) (fun _ _ _ h => h) (by rfl) (fun x hSw => by obtain ⟨⟨d0, d1, d2, d3, d4⟩, _⟩ := id hSw; (go_simp) <;> first | decide | exact IntWalk.i64_in _ (by omega) | (push_cast; exact IntWalk.i64_in _ (by omega))) (by assumption) ?_
  try simp only [Act.put, pw]
  refine wtk 1 19 (.pointer (some ⟨w0.heap.size, 1, none⟩)) rfl (by kernel_rfl) (fun _ _ _ h => h) (by rfl) (fun x hSw => by obtain ⟨⟨d0, d1, d2, d3, d4⟩, _⟩ := id hSw; (go_simp) <;> first | decide | exact IntWalk.i64_in _ (by omega) | (push_cast; exact IntWalk.i64_in _ (by omega))) (by assumption) ?_
  try simp only [Act.put, pw]
  refine wtk 2 20 (.int .i64 ca) rfl (by kernel_rfl) (fun _ _ _ h => h) (by rfl) (fun x hSw => by obtain ⟨⟨d0, d1, d2, d3, d4⟩, _⟩ := id hSw; (go_simp) <;> first | decide | exact IntWalk.i64_in _ (by omega) | (push_cast; exact IntWalk.i64_in _ (by omega))) (by assumption) ?_
  try simp only [Act.put, pw]
  refine wtk 3 21 (.agg #[.int .i64 a.id, .int .i64 ca, .int .i64 da, .int .i64 na, .int .i64 a.m]) rfl (by kernel_rfl) (fun _ _ _ h => h) (by rfl) (fun x hSw => by obtain ⟨⟨d0, d1, d2, d3, d4⟩, _⟩ := id hSw; (go_simp) <;> first | decide | exact IntWalk.i64_in _ (by omega) | (push_cast; exact IntWalk.i64_in _ (by omega))) (by assumption) ?_
  try simp only [Act.put, pw]
  refine wtk 4 22 (.int .i64 X) rfl (by kernel_rfl) (fun _ _ _ h => h) (by rfl) (fun x hSw => by obtain ⟨⟨d0, d1, d2, d3, d4⟩, _⟩ := id hSw; (go_simp) <;> first | decide | exact IntWalk.i64_in _ (by omega) | (push_cast; exact IntWalk.i64_in _ (by omega))) (by assumption) ?_
  try simp only [Act.put, pw]
  refine wpAnyH_ready (rs := [5]) (by kernel_rfl) (by simp) (AllReadyH.cons rfl (fun K hK => ?_) AllReadyH.nil)
  go_simp
  refine (MN_a.out _).mono ?_
  rintro e w1 ⟨rfl, b1⟩
  have HB := bl_below (bl_drew (bl0 _)) b1
  refine hK.out _ _ (skeep KC HB) (fun hHeld => ?_)
  clear hK K
  clear b1
  try simp only [Act.put, pw]
  refine wtk 6 24 (.int .i64 (ka : Int)) rfl (by kernel_rfl) (fun _ _ _ h => h) (by rfl) (fun x hSw => by obtain ⟨⟨d0, d1, d2, d3, d4⟩, _⟩ := id hSw; (go_simp) <;> first | decide | exact IntWalk.i64_in _ (by omega) | (push_cast; exact IntWalk.i64_in _ (by omega))) (by assumption) ?_
  try simp only [Act.put, pw]
  refine wtk 7 25 (.int .i64 (ka : Int)) rfl (by kernel_rfl) (fun _ _ _ h => h) (by rfl) (fun x hSw => by obtain ⟨⟨d0, d1, d2, d3, d4⟩, _⟩ := id hSw; (go_simp) <;> first | decide | exact IntWalk.i64_in _ (by omega) | (push_cast; exact IntWalk.i64_in _ (by omega))) (by assumption) ?_
  try simp only [Act.put, pw]
  refine wtk 8 5 (.int .i64 (ka : Int)) rfl (by kernel_rfl) (fun _ _ _ h => h) (by rfl) (fun x hSw => by obtain ⟨⟨d0, d1, d2, d3, d4⟩, _⟩ := id hSw; (go_simp) <;> first | decide | exact IntWalk.i64_in _ (by omega) | (push_cast; exact IntWalk.i64_in _ (by omega))) (by assumption) ?_
  try simp only [Act.put, pw]
  refine wpAnyH_done (by kernel_rfl) ?_ _
  have R1 := Lib.hid (rangeAt_block R1.out (HB.out.block g hgu))
  have hg1 := Nat.lt_of_lt_of_le hgu HB.out.size
  have B1 := Lib.hid (BU.out.trans (HB.out.mono hbu))
  have hb1 := B1.out.size
  clear hHeld KC HB NA BU hgu hbu
  go_wp2_with fail
  rw [rounds_succ]
  go_wp2_with fail
  refine bodyPost_ret (v := .int .i64 ((0 + ka : Nat) : Int)) (by simp [results, Tryz.results239, go_sem]) rfl ⟨rfl, B1.out⟩
set_option maxRecDepth 100000 in
set_option maxHeartbeats 1000000 in
theorem of_2 {w : World} {g cap : Nat} {a b : Tk} {na ca da nb cb db : Nat} (hg : g < w.heap.size) (hc : 2 ≤ cap) (hr : w.rangeAt g 0 (tc a ++ tc b)) (ho_a : a.ok) (hn_a : a.t = na) (hp_a : 0 < na) (hc_a : a.c = ca) (hcl_a : ca ≤ 10) (hd_a : a.d = da) (ho_b : b.ok) (hn_b : b.t = nb) (hp_b : 0 < nb) (hc_b : b.c = cb) (hcl_b : cb ≤ 10) (hd_b : b.d = db) (X : Nat) (hX : X ≤ 100000) :
    Calls Tryz.prog 239 #[.slice (some ⟨g, 0, none⟩) 2 cap, .int .i64 X] w fun e w' => e = .returned (.int .i64 (((0 + ca * manyF da na X) + cb * manyF db nb X) : Nat)) ∧ Below w.heap.size w w' := by
  have hS : Sx tc w (.slice (some ⟨g, 0, none⟩) 2 cap) [a, b] := ⟨_, cap, rfl, .inr ⟨g, rfl⟩, fun _ => ⟨g, rfl, hg, hc, by simpa using hr⟩⟩
  have HM := Lib.hid (dmay_any hS (by simp) (by simp ; exact ⟨ho_a, ho_b⟩) X (by omega) (by omega))
  clear hS
  have R00 := Lib.hid hr
  clear hr
  have hm_a : manyF da na X ≤ 100001 := by
    unfold manyF
    split
    · omega
    · have := Nat.div_le_self ((X : Int).toNat - da) na
      omega
  have MN_a := Lib.hid (show ∀ u : World, Calls Tryz.prog 253 #[.agg #[.int .i64 a.id, .int .i64 ca, .int .i64 da, .int .i64 na, .int .i64 a.m], .int .i64 X] u fun e w' => e = .returned (.int .i64 (manyF da na X)) ∧ Below u.heap.size u w' from fun u => many_any (w := u) (X : Int) (by omega) (by omega) hp_a)
  have hkl_a : ca * manyF da na X ≤ 10 * 100001 := Nat.mul_le_mul hcl_a hm_a
  have hk_a : (ca : Int) * ((manyF da na X : Nat) : Int) = ((ca * manyF da na X : Nat) : Int) := by push_cast; rfl
  have hm_b : manyF db nb X ≤ 100001 := by
    unfold manyF
    split
    · omega
    · have := Nat.div_le_self ((X : Int).toNat - db) nb
      omega
  have MN_b := Lib.hid (show ∀ u : World, Calls Tryz.prog 253 #[.agg #[.int .i64 b.id, .int .i64 cb, .int .i64 db, .int .i64 nb, .int .i64 b.m], .int .i64 X] u fun e w' => e = .returned (.int .i64 (manyF db nb X)) ∧ Below u.heap.size u w' from fun u => many_any (w := u) (X : Int) (by omega) (by omega) hp_b)
  have hkl_b : cb * manyF db nb X ≤ 10 * 100001 := Nat.mul_le_mul hcl_b hm_b
  have hk_b : (cb : Int) * ((manyF db nb X : Nat) : Int) = ((cb * manyF db nb X : Nat) : Int) := by push_cast; rfl
  generalize manyF da na X = ea at *
  generalize ca * ea = ka at *
  generalize manyF db nb X = eb at *
  generalize cb * eb = kb at *
  go_enter Tryz.func239, Tryz.ntmps239
  go_wp2_with fail
  refine HM.out.mono ?_
  rintro e w0 ⟨rfl, b0⟩
  have R0 := Lib.hid (rangeAt_block R00.out (b0.block g hg))
  have hg0 := Nat.lt_of_lt_of_le hg b0.size
  have hb0 := b0.size
  have B0 := Lib.hid b0
  clear b0 HM
  go_wp2_with fail
  refine wp_loop_rounds 3 ?_
  rw [rounds_succ]
  have q0 := R0.out 0 _ rfl
  have q1 := R0.out 1 _ rfl
  have q2 := R0.out 2 _ rfl
  have q3 := R0.out 3 _ rfl
  have q4 := R0.out 4 _ rfl
  simp only [Nat.zero_add, hn_a, hc_a, hd_a] at q0 q1 q2 q3 q4
  have hgn : g ≠ w0.heap.size := by omega
  have bs := (Below.refl w0.heap.size w0).alloc (Nat.le_refl _) (.cells #[.int .i64 a.id, .int .i64 ca, .int .i64 da, .int .i64 na, .int .i64 a.m] 32)
  have NA := Lib.hid (Bx.new w0 [.int .i64 a.id, .int .i64 ca, .int .i64 da, .int .i64 na, .int .i64 a.m] 32)
  have BS := Lib.hid bs
  clear bs
  go_wp2_with fail
  have R1 := Lib.hid (rangeAt_block R0.out (BS.out.block g hg0))
  have hgu := Nat.lt_of_lt_of_le hg0 BS.out.size
  have BU := Lib.hid (B0.out.trans (BS.out.mono hb0))
  have hbu := BU.out.size
  clear q0 q1 q2 q3 q4 BS hgn
  generalize w0.alloc (.cells #[.int .i64 a.id, .int .i64 ca, .int .i64 da, .int .i64 na, .int .i64 a.m] 32) = u0 at *
  have KC : Hid (∀ y, Hid (Below u0.heap.size u0 y) → (y.cell? ⟨w0.heap.size, 0, none⟩ = some (.int .i64 a.id) ∧ y.cell? ⟨w0.heap.size, 1, none⟩ = some (.int .i64 ca) ∧ y.cell? ⟨w0.heap.size, 2, none⟩ = some (.int .i64 da) ∧ y.cell? ⟨w0.heap.size, 3, none⟩ = some (.int .i64 na) ∧ y.cell? ⟨w0.heap.size, 4, none⟩ = some (.int .i64 a.m))) := fun y h => ⟨(NA.out.bl h).cell 0 rfl, (NA.out.bl h).cell 1 rfl, (NA.out.bl h).cell 2 rfl, (NA.out.bl h).cell 3 rfl, (NA.out.bl h).cell 4 rfl⟩
  refine wp_region_held_drew (S := fun y => (y.cell? ⟨w0.heap.size, 0, none⟩ = some (.int .i64 a.id) ∧ y.cell? ⟨w0.heap.size, 1, none⟩ = some (.int .i64 ca) ∧ y.cell? ⟨w0.heap.size, 2, none⟩ = some (.int .i64 da) ∧ y.cell? ⟨w0.heap.size, 3, none⟩ = some (.int .i64 na) ∧ y.cell? ⟨w0.heap.size, 4, none⟩ = some (.int .i64 a.m)) ∧ Hid (Below u0.heap.size u0 y)) (by kernel_rfl) (skeep KC (bl_drew (bl0 _))) (fun hHeld => ?_)
  refine wtk 0 18 (.int .i64 0) rfl (by kernel_rfl) (fun _ _ _ h => h) (by rfl) (fun x hSw => by obtain ⟨⟨d0, d1, d2, d3, d4⟩, _⟩ := id hSw; (go_simp) <;> first | decide | exact IntWalk.i64_in _ (by omega) | (push_cast; exact IntWalk.i64_in _ (by omega))) (by assumption) ?_
  try simp only [Act.put, pw]
  refine wtk 1 19 (.pointer (some ⟨w0.heap.size, 1, none⟩)) rfl (by kernel_rfl) (fun _ _ _ h => h) (by rfl) (fun x hSw => by obtain ⟨⟨d0, d1, d2, d3, d4⟩, _⟩ := id hSw; (go_simp) <;> first | decide | exact IntWalk.i64_in _ (by omega) | (push_cast; exact IntWalk.i64_in _ (by omega))) (by assumption) ?_
  try simp only [Act.put, pw]
  refine wtk 2 20 (.int .i64 ca) rfl (by kernel_rfl) (fun _ _ _ h => h) (by rfl) (fun x hSw => by obtain ⟨⟨d0, d1, d2, d3, d4⟩, _⟩ := id hSw; (go_simp) <;> first | decide | exact IntWalk.i64_in _ (by omega) | (push_cast; exact IntWalk.i64_in _ (by omega))) (by assumption) ?_
  try simp only [Act.put, pw]
  refine wtk 3 21 (.agg #[.int .i64 a.id, .int .i64 ca, .int .i64 da, .int .i64 na, .int .i64 a.m]) rfl (by kernel_rfl) (fun _ _ _ h => h) (by rfl) (fun x hSw => by obtain ⟨⟨d0, d1, d2, d3, d4⟩, _⟩ := id hSw; (go_simp) <;> first | decide | exact IntWalk.i64_in _ (by omega) | (push_cast; exact IntWalk.i64_in _ (by omega))) (by assumption) ?_
  try simp only [Act.put, pw]
  refine wtk 4 22 (.int .i64 X) rfl (by kernel_rfl) (fun _ _ _ h => h) (by rfl) (fun x hSw => by obtain ⟨⟨d0, d1, d2, d3, d4⟩, _⟩ := id hSw; (go_simp) <;> first | decide | exact IntWalk.i64_in _ (by omega) | (push_cast; exact IntWalk.i64_in _ (by omega))) (by assumption) ?_
  try simp only [Act.put, pw]
  refine wpAnyH_ready (rs := [5]) (by kernel_rfl) (by simp) (AllReadyH.cons rfl (fun K hK => ?_) AllReadyH.nil)
  go_simp
  refine (MN_a.out _).mono ?_
  rintro e w1 ⟨rfl, b1⟩
  have HB := bl_below (bl_drew (bl0 _)) b1
  refine hK.out _ _ (skeep KC HB) (fun hHeld => ?_)
  clear hK K
  clear b1
  try simp only [Act.put, pw]
  refine wtk 6 24 (.int .i64 (ka : Int)) rfl (by kernel_rfl) (fun _ _ _ h => h) (by rfl) (fun x hSw => by obtain ⟨⟨d0, d1, d2, d3, d4⟩, _⟩ := id hSw; (go_simp) <;> first | decide | exact IntWalk.i64_in _ (by omega) | (push_cast; exact IntWalk.i64_in _ (by omega))) (by assumption) ?_
  try simp only [Act.put, pw]
  refine wtk 7 25 (.int .i64 (ka : Int)) rfl (by kernel_rfl) (fun _ _ _ h => h) (by rfl) (fun x hSw => by obtain ⟨⟨d0, d1, d2, d3, d4⟩, _⟩ := id hSw; (go_simp) <;> first | decide | exact IntWalk.i64_in _ (by omega) | (push_cast; exact IntWalk.i64_in _ (by omega))) (by assumption) ?_
  try simp only [Act.put, pw]
  refine wtk 8 5 (.int .i64 (ka : Int)) rfl (by kernel_rfl) (fun _ _ _ h => h) (by rfl) (fun x hSw => by obtain ⟨⟨d0, d1, d2, d3, d4⟩, _⟩ := id hSw; (go_simp) <;> first | decide | exact IntWalk.i64_in _ (by omega) | (push_cast; exact IntWalk.i64_in _ (by omega))) (by assumption) ?_
  try simp only [Act.put, pw]
  refine wpAnyH_done (by kernel_rfl) ?_ _
  have R1 := Lib.hid (rangeAt_block R1.out (HB.out.block g hgu))
  have hg1 := Nat.lt_of_lt_of_le hgu HB.out.size
  have B1 := Lib.hid (BU.out.trans (HB.out.mono hbu))
  have hb1 := B1.out.size
  clear hHeld KC HB NA BU hgu hbu
  go_wp2_with fail
  rw [rounds_succ]
  have q0 := R1.out 5 _ rfl
  have q1 := R1.out 6 _ rfl
  have q2 := R1.out 7 _ rfl
  have q3 := R1.out 8 _ rfl
  have q4 := R1.out 9 _ rfl
  simp only [Nat.zero_add, hn_b, hc_b, hd_b] at q0 q1 q2 q3 q4
  have hgn : g ≠ w1.heap.size := by omega
  have bs := (Below.refl w1.heap.size w1).alloc (Nat.le_refl _) (.cells #[.int .i64 b.id, .int .i64 cb, .int .i64 db, .int .i64 nb, .int .i64 b.m] 32)
  have NA := Lib.hid (Bx.new w1 [.int .i64 b.id, .int .i64 cb, .int .i64 db, .int .i64 nb, .int .i64 b.m] 32)
  have BS := Lib.hid bs
  clear bs
  go_wp2_with fail
  have R2 := Lib.hid (rangeAt_block R1.out (BS.out.block g hg1))
  have hgu := Nat.lt_of_lt_of_le hg1 BS.out.size
  have BU := Lib.hid (B1.out.trans (BS.out.mono hb1))
  have hbu := BU.out.size
  clear q0 q1 q2 q3 q4 BS hgn
  generalize w1.alloc (.cells #[.int .i64 b.id, .int .i64 cb, .int .i64 db, .int .i64 nb, .int .i64 b.m] 32) = u1 at *
  have KC : Hid (∀ y, Hid (Below u1.heap.size u1 y) → (y.cell? ⟨w1.heap.size, 0, none⟩ = some (.int .i64 b.id) ∧ y.cell? ⟨w1.heap.size, 1, none⟩ = some (.int .i64 cb) ∧ y.cell? ⟨w1.heap.size, 2, none⟩ = some (.int .i64 db) ∧ y.cell? ⟨w1.heap.size, 3, none⟩ = some (.int .i64 nb) ∧ y.cell? ⟨w1.heap.size, 4, none⟩ = some (.int .i64 b.m))) := fun y h => ⟨(NA.out.bl h).cell 0 rfl, (NA.out.bl h).cell 1 rfl, (NA.out.bl h).cell 2 rfl, (NA.out.bl h).cell 3 rfl, (NA.out.bl h).cell 4 rfl⟩
  refine wp_region_held_drew (S := fun y => (y.cell? ⟨w1.heap.size, 0, none⟩ = some (.int .i64 b.id) ∧ y.cell? ⟨w1.heap.size, 1, none⟩ = some (.int .i64 cb) ∧ y.cell? ⟨w1.heap.size, 2, none⟩ = some (.int .i64 db) ∧ y.cell? ⟨w1.heap.size, 3, none⟩ = some (.int .i64 nb) ∧ y.cell? ⟨w1.heap.size, 4, none⟩ = some (.int .i64 b.m)) ∧ Hid (Below u1.heap.size u1 y)) (by kernel_rfl) (skeep KC (bl_drew (bl0 _))) (fun hHeld => ?_)
  refine wtk 0 18 (.int .i64 (ka : Int)) rfl (by kernel_rfl) (fun _ _ _ h => h) (by rfl) (fun x hSw => by obtain ⟨⟨d0, d1, d2, d3, d4⟩, _⟩ := id hSw; (go_simp) <;> first | decide | exact IntWalk.i64_in _ (by omega) | (push_cast; exact IntWalk.i64_in _ (by omega))) (by assumption) ?_
  try simp only [Act.put, pw]
  refine wtk 1 19 (.pointer (some ⟨w1.heap.size, 1, none⟩)) rfl (by kernel_rfl) (fun _ _ _ h => h) (by rfl) (fun x hSw => by obtain ⟨⟨d0, d1, d2, d3, d4⟩, _⟩ := id hSw; (go_simp) <;> first | decide | exact IntWalk.i64_in _ (by omega) | (push_cast; exact IntWalk.i64_in _ (by omega))) (by assumption) ?_
  try simp only [Act.put, pw]
  refine wtk 2 20 (.int .i64 cb) rfl (by kernel_rfl) (fun _ _ _ h => h) (by rfl) (fun x hSw => by obtain ⟨⟨d0, d1, d2, d3, d4⟩, _⟩ := id hSw; (go_simp) <;> first | decide | exact IntWalk.i64_in _ (by omega) | (push_cast; exact IntWalk.i64_in _ (by omega))) (by assumption) ?_
  try simp only [Act.put, pw]
  refine wtk 3 21 (.agg #[.int .i64 b.id, .int .i64 cb, .int .i64 db, .int .i64 nb, .int .i64 b.m]) rfl (by kernel_rfl) (fun _ _ _ h => h) (by rfl) (fun x hSw => by obtain ⟨⟨d0, d1, d2, d3, d4⟩, _⟩ := id hSw; (go_simp) <;> first | decide | exact IntWalk.i64_in _ (by omega) | (push_cast; exact IntWalk.i64_in _ (by omega))) (by assumption) ?_
  try simp only [Act.put, pw]
  refine wtk 4 22 (.int .i64 X) rfl (by kernel_rfl) (fun _ _ _ h => h) (by rfl) (fun x hSw => by obtain ⟨⟨d0, d1, d2, d3, d4⟩, _⟩ := id hSw; (go_simp) <;> first | decide | exact IntWalk.i64_in _ (by omega) | (push_cast; exact IntWalk.i64_in _ (by omega))) (by assumption) ?_
  try simp only [Act.put, pw]
  refine wpAnyH_ready (rs := [5]) (by kernel_rfl) (by simp) (AllReadyH.cons rfl (fun K hK => ?_) AllReadyH.nil)
  go_simp
  refine (MN_b.out _).mono ?_
  rintro e w2 ⟨rfl, b1⟩
  have HB := bl_below (bl_drew (bl0 _)) b1
  refine hK.out _ _ (skeep KC HB) (fun hHeld => ?_)
  clear hK K
  clear b1
  try simp only [Act.put, pw]
  refine wtk 6 24 (.int .i64 (kb : Int)) rfl (by kernel_rfl) (fun _ _ _ h => h) (by rfl) (fun x hSw => by obtain ⟨⟨d0, d1, d2, d3, d4⟩, _⟩ := id hSw; (go_simp) <;> first | decide | exact IntWalk.i64_in _ (by omega) | (push_cast; exact IntWalk.i64_in _ (by omega))) (by assumption) ?_
  try simp only [Act.put, pw]
  refine wtk 7 25 (.int .i64 ((ka + kb : Nat) : Int)) rfl (by kernel_rfl) (fun _ _ _ h => h) (by rfl) (fun x hSw => by obtain ⟨⟨d0, d1, d2, d3, d4⟩, _⟩ := id hSw; (go_simp) <;> first | decide | exact IntWalk.i64_in _ (by omega) | (push_cast; exact IntWalk.i64_in _ (by omega))) (by assumption) ?_
  try simp only [Act.put, pw]
  refine wtk 8 5 (.int .i64 ((ka + kb : Nat) : Int)) rfl (by kernel_rfl) (fun _ _ _ h => h) (by rfl) (fun x hSw => by obtain ⟨⟨d0, d1, d2, d3, d4⟩, _⟩ := id hSw; (go_simp) <;> first | decide | exact IntWalk.i64_in _ (by omega) | (push_cast; exact IntWalk.i64_in _ (by omega))) (by assumption) ?_
  try simp only [Act.put, pw]
  refine wpAnyH_done (by kernel_rfl) ?_ _
  have R2 := Lib.hid (rangeAt_block R2.out (HB.out.block g hgu))
  have hg2 := Nat.lt_of_lt_of_le hgu HB.out.size
  have B2 := Lib.hid (BU.out.trans (HB.out.mono hbu))
  have hb2 := B2.out.size
  clear hHeld KC HB NA BU hgu hbu
  go_wp2_with fail
  rw [rounds_succ]
  go_wp2_with fail
  refine bodyPost_ret (v := .int .i64 ((0 + ka + kb : Nat) : Int)) (by simp [results, Tryz.results239, go_sem]) rfl ⟨rfl, B2.out⟩
end Go.Proofs.YtoichcickcgbgaaGreatDoor
