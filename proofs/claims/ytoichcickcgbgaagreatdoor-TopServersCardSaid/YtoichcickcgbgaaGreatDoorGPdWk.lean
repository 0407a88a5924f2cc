/-
  The period of some tasks.
  The load of some tasks.
  Whether tasks load more than there is.
  The work released ahead of a time.
-/
import Derived.Test.YtoichcickcgbgaaGreatDoorGLayPe
namespace Go.Proofs.YtoichcickcgbgaaGreatDoor
open Go.RowKit
attribute [local go_sem] Oper.semAt_some
theorem lcm1_le (m n : Nat) : lcm1 m n ≤ m * n := Nat.mul_le_mul_left _ (Nat.div_le_self _ _)
theorem lcm1_pos {m n : Nat} (hm : 0 < m) (hn : 0 < n) : 0 < lcm1 m n := Nat.mul_pos hm (Nat.div_pos (Nat.le_of_dvd hn (Nat.gcd_dvd_right m n)) (Nat.gcd_pos_of_pos_left _ hm))
set_option maxRecDepth 100000 in
set_option maxHeartbeats 1000000 in
theorem period_0 {w : World} {oa : Option Addr} {cap : Nat} (ha : oa = none ∨ ∃ g, oa = some ⟨g, 0, none⟩) :
    Calls Tryz.prog 270 #[.slice oa 0 cap] w fun e w' => e = .returned (.tuple #[.int .i64 (1 : Nat), .int .i64 0]) ∧ Below w.heap.size w w' := by
  have hS : Sx tc w (.slice oa 0 cap) [] := ⟨oa, cap, rfl, ha, fun h => absurd rfl h⟩
  have HROW := Lib.hid (row_any hS (by simp) (by simp))
  have hmf : ∀ (fn : Fn) (first cap : Array Value) (w : World), (Instr.makeFunc fn first cap).run Tryz.prog w = .ok (.func fn first cap) w := fun _ _ _ _ => rfl
  clear hS
  go_enter Tryz.func270, Tryz.ntmps270
  go_wp2_with fail
  go_step3
  go_wp2_with fail
  refine HROW.out.mono ?_
  rintro e wr ⟨rfl, br⟩
  have hzr := br.size
  have BR := Lib.hid br
  clear br HROW
  go_wp2_with fail
  have M0 : Hid (Bx (wr.alloc (.cells #[.int .i64 1] 2)) wr.heap.size 2 [.int .i64 (1 : Nat)]) := Bx.new wr [.int .i64 1] 2
  have B0 := Lib.hid (BR.out.alloc hzr (.cells #[.int .i64 1] 2))
  have hb0 := B0.out.size
  have hwz : wr.heap.size < (wr.alloc (.cells #[.int .i64 1] 2)).heap.size := by rw [World.size_alloc]; omega
  generalize wr.alloc (.cells #[.int .i64 1] 2) = w0 at *
  go_step3
  go_wp2_with fail
  refine wp_loop_rounds 1 ?_
  rw [rounds_succ]
  have z0 := M0.out.cell 0 rfl
  go_wp2_with fail
  rw [Exit.noGoto_ret]
  refine bodyPost_ret (v := .tuple #[.int .i64 (1 : Nat), .int .i64 0]) (by simp [results, Tryz.results270, go_sem]) rfl ⟨rfl, B0.out⟩
set_option maxRecDepth 100000 in
set_option maxHeartbeats 1000000 in
theorem period_1 {w : World} {g cap : Nat} {a : Tk} {na : Nat} (hg : g < w.heap.size) (hc : 1 ≤ cap) (hr : w.rangeAt g 0 (tc a)) (ho_a : a.ok) (hn_a : a.t = na) (hp_a : 0 < na) (hl_a : na ≤ 10) :
    Calls Tryz.prog 270 #[.slice (some ⟨g, 0, none⟩) 1 cap] w fun e w' => e = .returned (.tuple #[.int .i64 ((lcm1 1 na) : Nat), .int .i64 0]) ∧ Below w.heap.size w w' := by
  have hS : Sx tc w (.slice (some ⟨g, 0, none⟩) 1 cap) [a] := ⟨_, cap, rfl, .inr ⟨g, rfl⟩, fun _ => ⟨g, rfl, hg, hc, by simpa using hr⟩⟩
  have HROW := Lib.hid (row_any hS (by simp) (by simp ; exact ho_a))
  have hmf : ∀ (fn : Fn) (first cap : Array Value) (w : World), (Instr.makeFunc fn first cap).run Tryz.prog w = .ok (.func fn first cap) w := fun _ _ _ _ => rfl
  clear hS
  have R00 := Lib.hid hr
  clear hr
  go_enter Tryz.func270, Tryz.ntmps270
  go_wp2_with fail
  go_step3
  go_wp2_with fail
  refine HROW.out.mono ?_
  rintro e wr ⟨rfl, br⟩
  have RR := Lib.hid (rangeAt_block R00.out (br.block g hg))
  have hgr := Nat.lt_of_lt_of_le hg br.size
  have hzr := br.size
  have BR := Lib.hid br
  clear br HROW
  go_wp2_with fail
  have M0 : Hid (Bx (wr.alloc (.cells #[.int .i64 1] 2)) wr.heap.size 2 [.int .i64 (1 : Nat)]) := Bx.new wr [.int .i64 1] 2
  have B0 := Lib.hid (BR.out.alloc hzr (.cells #[.int .i64 1] 2))
  have hb0 := B0.out.size
  have hwz : wr.heap.size < (wr.alloc (.cells #[.int .i64 1] 2)).heap.size := by rw [World.size_alloc]; omega
  have R0 := Lib.hid (rangeAt_block RR.out (((Below.refl wr.heap.size wr).alloc (Nat.le_refl _) (.cells #[.int .i64 1] 2)).block g hgr))
  have hg0 : g < (wr.alloc (.cells #[.int .i64 1] 2)).heap.size := by omega
  have hgc : g ≠ wr.heap.size := by omega
  generalize wr.alloc (.cells #[.int .i64 1] 2) = w0 at *
  go_step3
  go_wp2_with fail
  refine wp_loop_rounds 2 ?_
  rw [rounds_succ]
  have q0 := R0.out 0 _ rfl
  have q1 := R0.out 1 _ rfl
  have q2 := R0.out 2 _ rfl
  have q3 := R0.out 3 _ rfl
  have q4 := R0.out 4 _ rfl
  simp only [Nat.zero_add, hn_a] at q0 q1 q2 q3 q4
  have hgn : g ≠ w0.heap.size := by omega
  have bs := (Below.refl w0.heap.size w0).alloc (Nat.le_refl _) (.cells #[.int .i64 a.id, .int .i64 a.c, .int .i64 a.d, .int .i64 na, .int .i64 a.m] 32)
  have MA := Lib.hid (M0.out.below bs)
  have BS := Lib.hid bs
  have hsa := World.size_alloc w0 (.cells #[.int .i64 a.id, .int .i64 a.c, .int .i64 a.d, .int .i64 na, .int .i64 a.m] 32)
  clear bs
  go_wp2_with fail
  have hlc : lcm1 1 na ≤ 100 := Nat.le_trans (lcm1_le _ _) (by omega)
  refine (times_any (m := 1) (n := na) MA.out (by omega) (by omega) hp_a (by omega)).mono ?_
  rintro e w1 ⟨rfl, m1, t1⟩
  have hdt : decide (lcm1 1 na ≤ 1048576) = true := by simp; omega
  rw [hdt]
  have M1 := Lib.hid m1
  have hsz := t1.size
  have R1 := Lib.hid (rangeAt_block (rangeAt_block R0.out (BS.out.block g hg0)) (t1.block g (by omega) (by omega)))
  have hg1 : g < w1.heap.size := by omega
  have B1 : Hid (Below w.heap.size w w1) := t1.to (B0.out.alloc hb0 (.cells #[.int .i64 a.id, .int .i64 a.c, .int .i64 a.d, .int .i64 na, .int .i64 a.m] 32)) (by omega) (fun k hk => by omega)
  have hb1 := B1.out.size
  clear q0 q1 q2 q3 q4 m1 t1 MA BS hgn hdt hlc hsz hsa
  go_wp2_with fail
  rw [rounds_succ]
  have z0 := M1.out.cell 0 rfl
  go_wp2_with fail
  rw [Exit.noGoto_ret]
  refine bodyPost_ret (v := .tuple #[.int .i64 ((lcm1 1 na) : Nat), .int .i64 0]) (by simp [results, Tryz.results270, go_sem]) rfl ⟨rfl, B1.out⟩
set_option maxRecDepth 100000 in
set_option maxHeartbeats 1000000 in
theorem period_2 {w : World} {g cap : Nat} {a b : Tk} {na nb : Nat} (hg : g < w.heap.size) (hc : 2 ≤ cap) (hr : w.rangeAt g 0 (tc a ++ tc b)) (ho_a : a.ok) (hn_a : a.t = na) (hp_a : 0 < na) (hl_a : na ≤ 10) (ho_b : b.ok) (hn_b : b.t = nb) (hp_b : 0 < nb) (hl_b : nb ≤ 10) :
    Calls Tryz.prog 270 #[.slice (some ⟨g, 0, none⟩) 2 cap] w fun e w' => e = .returned (.tuple #[.int .i64 ((lcm1 (lcm1 1 na) nb) : Nat), .int .i64 0]) ∧ Below w.heap.size w w' := by
  have hS : Sx tc w (.slice (some ⟨g, 0, none⟩) 2 cap) [a, b] := ⟨_, cap, rfl, .inr ⟨g, rfl⟩, fun _ => ⟨g, rfl, hg, hc, by simpa using hr⟩⟩
  have HROW := Lib.hid (row_any hS (by simp) (by simp ; exact ⟨ho_a, ho_b⟩))
  have hmf : ∀ (fn : Fn) (first cap : Array Value) (w : World), (Instr.makeFunc fn first cap).run Tryz.prog w = .ok (.func fn first cap) w := fun _ _ _ _ => rfl
  clear hS
  have R00 := Lib.hid hr
  clear hr
  go_enter Tryz.func270, Tryz.ntmps270
  go_wp2_with fail
  go_step3
  go_wp2_with fail
  refine HROW.out.mono ?_
  rintro e wr ⟨rfl, br⟩
  have RR := Lib.hid (rangeAt_block R00.out (br.block g hg))
  have hgr := Nat.lt_of_lt_of_le hg br.size
  have hzr := br.size
  have BR := Lib.hid br
  clear br HROW
  go_wp2_with fail
  have M0 : Hid (Bx (wr.alloc (.cells #[.int .i64 1] 2)) wr.heap.size 2 [.int .i64 (1 : Nat)]) := Bx.new wr [.int .i64 1] 2
  have B0 := Lib.hid (BR.out.alloc hzr (.cells #[.int .i64 1] 2))
  have hb0 := B0.out.size
  have hwz : wr.heap.size < (wr.alloc (.cells #[.int .i64 1] 2)).heap.size := by rw [World.size_alloc]; omega
  have R0 := Lib.hid (rangeAt_block RR.out (((Below.refl wr.heap.size wr).alloc (Nat.le_refl _) (.cells #[.int .i64 1] 2)).block g hgr))
  have hg0 : g < (wr.alloc (.cells #[.int .i64 1] 2)).heap.size := by omega
  have hgc : g ≠ wr.heap.size := by omega
  generalize wr.alloc (.cells #[.int .i64 1] 2) = w0 at *
  go_step3
  go_wp2_with fail
  refine wp_loop_rounds 3 ?_
  rw [rounds_succ]
  have q0 := R0.out 0 _ rfl
  have q1 := R0.out 1 _ rfl
  have q2 := R0.out 2 _ rfl
  have q3 := R0.out 3 _ rfl
  have q4 := R0.out 4 _ rfl
  simp only [Nat.zero_add, hn_a] at q0 q1 q2 q3 q4
  have hgn : g ≠ w0.heap.size := by omega
  have bs := (Below.refl w0.heap.size w0).alloc (Nat.le_refl _) (.cells #[.int .i64 a.id, .int .i64 a.c, .int .i64 a.d, .int .i64 na, .int .i64 a.m] 32)
  have MA := Lib.hid (M0.out.below bs)
  have BS := Lib.hid bs
  have hsa := World.size_alloc w0 (.cells #[.int .i64 a.id, .int .i64 a.c, .int .i64 a.d, .int .i64 na, .int .i64 a.m] 32)
  clear bs
  go_wp2_with fail
  have hlc : lcm1 1 na ≤ 100 := Nat.le_trans (lcm1_le _ _) (by omega)
  refine (times_any (m := 1) (n := na) MA.out (by omega) (by omega) hp_a (by omega)).mono ?_
  rintro e w1 ⟨rfl, m1, t1⟩
  have hdt : decide (lcm1 1 na ≤ 1048576) = true := by simp; omega
  rw [hdt]
  have M1 := Lib.hid m1
  have hsz := t1.size
  have R1 := Lib.hid (rangeAt_block (rangeAt_block R0.out (BS.out.block g hg0)) (t1.block g (by omega) (by omega)))
  have hg1 : g < w1.heap.size := by omega
  have B1 : Hid (Below w.heap.size w w1) := t1.to (B0.out.alloc hb0 (.cells #[.int .i64 a.id, .int .i64 a.c, .int .i64 a.d, .int .i64 na, .int .i64 a.m] 32)) (by omega) (fun k hk => by omega)
  have hb1 := B1.out.size
  clear q0 q1 q2 q3 q4 m1 t1 MA BS hgn hdt hlc hsz hsa
  go_wp2_with fail
  rw [rounds_succ]
  have q0 := R1.out 5 _ rfl
  have q1 := R1.out 6 _ rfl
  have q2 := R1.out 7 _ rfl
  have q3 := R1.out 8 _ rfl
  have q4 := R1.out 9 _ rfl
  simp only [Nat.zero_add, hn_b] at q0 q1 q2 q3 q4
  have hgn : g ≠ w1.heap.size := by omega
  have bs := (Below.refl w1.heap.size w1).alloc (Nat.le_refl _) (.cells #[.int .i64 b.id, .int .i64 b.c, .int .i64 b.d, .int .i64 nb, .int .i64 b.m] 32)
  have MA := Lib.hid (M1.out.below bs)
  have BS := Lib.hid bs
  have hsa := World.size_alloc w1 (.cells #[.int .i64 b.id, .int .i64 b.c, .int .i64 b.d, .int .i64 nb, .int .i64 b.m] 32)
  clear bs
  go_wp2_with fail
  have hlc : lcm1 (lcm1 1 na) nb ≤ 100 := Nat.le_trans (lcm1_le _ _) (Nat.le_trans (Nat.mul_le_mul (lcm1_le _ _) hl_b) (by omega))
  refine (times_any (m := (lcm1 1 na)) (n := nb) MA.out (lcm1_pos (by omega) hp_a) (Nat.le_trans (lcm1_le _ _) (by omega)) hp_b (by omega)).mono ?_
  rintro e w2 ⟨rfl, m1, t1⟩
  have hdt : decide (lcm1 (lcm1 1 na) nb ≤ 1048576) = true := by simp; omega
  rw [hdt]
  have M2 := Lib.hid m1
  have hsz := t1.size
  have R2 := Lib.hid (rangeAt_block (rangeAt_block R1.out (BS.out.block g hg1)) (t1.block g (by omega) (by omega)))
  have hg2 : g < w2.heap.size := by omega
  have B2 : Hid (Below w.heap.size w w2) := t1.to (B1.out.alloc hb1 (.cells #[.int .i64 b.id, .int .i64 b.c, .int .i64 b.d, .int .i64 nb, .int .i64 b.m] 32)) (by omega) (fun k hk => by omega)
  have hb2 := B2.out.size
  clear q0 q1 q2 q3 q4 m1 t1 MA BS hgn hdt hlc hsz hsa
  go_wp2_with fail
  rw [rounds_succ]
  have z0 := M2.out.cell 0 rfl
  go_wp2_with fail
  rw [Exit.noGoto_ret]
  refine bodyPost_ret (v := .tuple #[.int .i64 ((lcm1 (lcm1 1 na) nb) : Nat), .int .i64 0]) (by simp [results, Tryz.results270, go_sem]) rfl ⟨rfl, B2.out⟩
end Go.Proofs.YtoichcickcgbgaaGreatDoor
namespace Go.Proofs.YtoichcickcgbgaaGreatDoor
open Go.RowKit
attribute [local go_sem] Oper.semAt_some
set_option maxRecDepth 100000 in
set_option maxHeartbeats 1000000 in
theorem load_0 {w : World} {oa : Option Addr} {cap : Nat} (ha : oa = none ∨ ∃ g, oa = some ⟨g, 0, none⟩) :
    Calls Tryz.prog 259 #[.slice oa 0 cap] w fun e w' => e = .returned (.tuple #[.int .i64 (0 : Nat), .int .i64 (1 : Nat), .int .i64 0]) ∧ Below w.heap.size w w' := by
  have HP := Lib.hid (period_0 (w := w) (cap := cap) ha)
  go_enter Tryz.func259, Tryz.ntmps259
  go_wp2_with fail
  refine HP.out.mono ?_
  rintro e w0 ⟨rfl, b0⟩
  have hb0 := b0.size
  have B0 := Lib.hid b0
  clear b0 HP
  go_wp2_with fail
  refine wp_loop_rounds 1 ?_
  rw [rounds_succ]
  go_wp2_with fail
  refine bodyPost_ret (v := .tuple #[.int .i64 (0 : Nat), .int .i64 (1 : Nat), .int .i64 0]) (by simp [results, Tryz.results259, go_sem]) rfl ⟨rfl, B0.out⟩
set_option maxRecDepth 100000 in
set_option maxHeartbeats 1000000 in
theorem load_1 {w : World} {g cap : Nat} {a : Tk} {na ca : Nat} (hg : g < w.heap.size) (hc : 1 ≤ cap) (hr : w.rangeAt g 0 (tc a)) (ho_a : a.ok) (hn_a : a.t = na) (hp_a : 0 < na) (hl_a : na ≤ 10) (hc_a : a.c = ca) (hcl_a : ca ≤ 10) :
    Calls Tryz.prog 259 #[.slice (some ⟨g, 0, none⟩) 1 cap] w fun e w' => e = .returned (.tuple #[.int .i64 ((0 + ca * ((lcm1 1 na) / na)) : Nat), .int .i64 ((lcm1 1 na) : Nat), .int .i64 0]) ∧ Below w.heap.size w w' := by
  have HP := Lib.hid (period_1 hg hc hr ho_a hn_a hp_a hl_a)
  have hm100 : (lcm1 1 na) ≤ 100 := Nat.le_trans (lcm1_le _ _) (by omega)
  have hd_a : (lcm1 1 na) / na ≤ 100 := Nat.le_trans (Nat.div_le_self _ _) hm100
  have R00 := Lib.hid hr
  clear hr
  generalize (lcm1 1 na) = P at *
  have ht_a : ((P : Nat) : Int).tdiv (na : Int) = ((P / na : Nat) : Int) := tdiv_nat _ _
  have hz_a : ¬ ((na : Int) = 0) := by omega
  have hk_a : (ca : Int) * ((P / na : Nat) : Int) = ((ca * (P / na) : Nat) : Int) := by push_cast; rfl
  have hkl_a : ca * (P / na) ≤ 1000 := Nat.mul_le_mul hcl_a hd_a
  generalize P / na = da at *
  generalize ca * da = ka at *
  have hw1_a : IntKind.i64.wrap (da : Int) = (da : Int) := IntWalk.i64_in _ (by omega)
  go_enter Tryz.func259, Tryz.ntmps259
  go_wp2_with fail
  refine HP.out.mono ?_
  rintro e w0 ⟨rfl, b0⟩
  have R0 := Lib.hid (rangeAt_block R00.out (b0.block g hg))
  have hg0 := Nat.lt_of_lt_of_le hg b0.size
  have hb0 := b0.size
  have B0 := Lib.hid b0
  clear b0 HP
  go_wp2_with fail
  refine wp_loop_rounds 2 ?_
  rw [rounds_succ]
  have q0 := R0.out 0 _ rfl
  have q1 := R0.out 1 _ rfl
  have q2 := R0.out 2 _ rfl
  have q3 := R0.out 3 _ rfl
  have q4 := R0.out 4 _ rfl
  simp only [Nat.zero_add, hn_a, hc_a] at q0 q1 q2 q3 q4
  have hgn : g ≠ w0.heap.size := by omega
  have bs := ((Below.refl w0.heap.size w0).alloc (Nat.le_refl _) (.cells #[.int .i64 a.id, .int .i64 ca, .int .i64 a.d, .int .i64 na, .int .i64 a.m] 32)).drew
  have NA := Bx.new w0 [.int .i64 a.id, .int .i64 ca, .int .i64 a.d, .int .i64 na, .int .i64 a.m] 32
  have r1 := NA.cell 1 rfl
  have r3 := NA.cell 3 rfl
  go_wp2_with fail
  go_region
  go_wp2_with fail
  have R1 := Lib.hid (rangeAt_block R0.out (bs.block g hg0))
  have hg1 := Nat.lt_of_lt_of_le hg0 bs.size
  have B1 := Lib.hid (B0.out.trans (bs.mono hb0))
  have hb1 := B1.out.size
  clear q0 q1 q2 q3 q4 r1 r3 NA bs hgn
  generalize (w0.alloc (.cells #[.int .i64 a.id, .int .i64 ca, .int .i64 a.d, .int .i64 na, .int .i64 a.m] 32)).drew = w1 at *
  rw [rounds_succ]
  go_wp2_with fail
  refine bodyPost_ret (v := .tuple #[.int .i64 ((0 + ka : Nat) : Int), .int .i64 P, .int .i64 0]) (by simp [results, Tryz.results259, go_sem]) rfl ⟨rfl, B1.out⟩
set_option maxRecDepth 100000 in
set_option maxHeartbeats 1000000 in
theorem load_2 {w : World} {g cap : Nat} {a b : Tk} {na ca nb cb : Nat} (hg : g < w.heap.size) (hc : 2 ≤ cap) (hr : w.rangeAt g 0 (tc a ++ tc b)) (ho_a : a.ok) (hn_a : a.t = na) (hp_a : 0 < na) (hl_a : na ≤ 10) (hc_a : a.c = ca) (hcl_a : ca ≤ 10) (ho_b : b.ok) (hn_b : b.t = nb) (hp_b : 0 < nb) (hl_b : nb ≤ 10) (hc_b : b.c = cb) (hcl_b : cb ≤ 10) :
    Calls Tryz.prog 259 #[.slice (some ⟨g, 0, none⟩) 2 cap] w fun e w' => e = .returned (.tuple #[.int .i64 (((0 + ca * ((lcm1 (lcm1 1 na) nb) / na)) + cb * ((lcm1 (lcm1 1 na) nb) / nb)) : Nat), .int .i64 ((lcm1 (lcm1 1 na) nb) : Nat), .int .i64 0]) ∧ Below w.heap.size w w' := by
  have HP := Lib.hid (period_2 hg hc hr ho_a hn_a hp_a hl_a ho_b hn_b hp_b hl_b)
  have hm100 : (lcm1 (lcm1 1 na) nb) ≤ 100 := Nat.le_trans (lcm1_le _ _) (Nat.le_trans (Nat.mul_le_mul (lcm1_le _ _) hl_b) (by omega))
  have hd_a : (lcm1 (lcm1 1 na) nb) / na ≤ 100 := Nat.le_trans (Nat.div_le_self _ _) hm100
  have hd_b : (lcm1 (lcm1 1 na) nb) / nb ≤ 100 := Nat.le_trans (Nat.div_le_self _ _) hm100
  have R00 := Lib.hid hr
  clear hr
  generalize (lcm1 (lcm1 1 na) nb) = P at *
  have ht_a : ((P : Nat) : Int).tdiv (na : Int) = ((P / na : Nat) : Int) := tdiv_nat _ _
  have hz_a : ¬ ((na : Int) = 0) := by omega
  have hk_a : (ca : Int) * ((P / na : Nat) : Int) = ((ca * (P / na) : Nat) : Int) := by push_cast; rfl
  have hkl_a : ca * (P / na) ≤ 1000 := Nat.mul_le_mul hcl_a hd_a
  have ht_b : ((P : Nat) : Int).tdiv (nb : Int) = ((P / nb : Nat) : Int) := tdiv_nat _ _
  have hz_b : ¬ ((nb : Int) = 0) := by omega
  have hk_b : (cb : Int) * ((P / nb : Nat) : Int) = ((cb * (P / nb) : Nat) : Int) := by push_cast; rfl
  have hkl_b : cb * (P / nb) ≤ 1000 := Nat.mul_le_mul hcl_b hd_b
  generalize P / na = da at *
  generalize ca * da = ka at *
  have hw1_a : IntKind.i64.wrap (da : Int) = (da : Int) := IntWalk.i64_in _ (by omega)
  generalize P / nb = db at *
  generalize cb * db = kb at *
  have hw1_b : IntKind.i64.wrap (db : Int) = (db : Int) := IntWalk.i64_in _ (by omega)
  go_enter Tryz.func259, Tryz.ntmps259
  go_wp2_with fail
  refine HP.out.mono ?_
  rintro e w0 ⟨rfl, b0⟩
  have R0 := Lib.hid (rangeAt_block R00.out (b0.block g hg))
  have hg0 := Nat.lt_of_lt_of_le hg b0.size
  have hb0 := b0.size
  have B0 := Lib.hid b0
  clear b0 HP
  go_wp2_with fail
  refine wp_loop_rounds 3 ?_
  rw [rounds_succ]
  have q0 := R0.out 0 _ rfl
  have q1 := R0.out 1 _ rfl
  have q2 := R0.out 2 _ rfl
  have q3 := R0.out 3 _ rfl
  have q4 := R0.out 4 _ rfl
  simp only [Nat.zero_add, hn_a, hc_a] at q0 q1 q2 q3 q4
  have hgn : g ≠ w0.heap.size := by omega
  have bs := ((Below.refl w0.heap.size w0).alloc (Nat.le_refl _) (.cells #[.int .i64 a.id, .int .i64 ca, .int .i64 a.d, .int .i64 na, .int .i64 a.m] 32)).drew
  have NA := Bx.new w0 [.int .i64 a.id, .int .i64 ca, .int .i64 a.d, .int .i64 na, .int .i64 a.m] 32
  have r1 := NA.cell 1 rfl
  have r3 := NA.cell 3 rfl
  go_wp2_with fail
  go_region
  go_wp2_with fail
  have R1 := Lib.hid (rangeAt_block R0.out (bs.block g hg0))
  have hg1 := Nat.lt_of_lt_of_le hg0 bs.size
  have B1 := Lib.hid (B0.out.trans (bs.mono hb0))
  have hb1 := B1.out.size
  clear q0 q1 q2 q3 q4 r1 r3 NA bs hgn
  generalize (w0.alloc (.cells #[.int .i64 a.id, .int .i64 ca, .int .i64 a.d, .int .i64 na, .int .i64 a.m] 32)).drew = w1 at *
  rw [rounds_succ]
  have q0 := R1.out 5 _ rfl
  have q1 := R1.out 6 _ rfl
  have q2 := R1.out 7 _ rfl
  have q3 := R1.out 8 _ rfl
  have q4 := R1.out 9 _ rfl
  simp only [Nat.zero_add, hn_b, hc_b] at q0 q1 q2 q3 q4
  have hgn : g ≠ w1.heap.size := by omega
  have bs := ((Below.refl w1.heap.size w1).alloc (Nat.le_refl _) (.cells #[.int .i64 b.id, .int .i64 cb, .int .i64 b.d, .int .i64 nb, .int .i64 b.m] 32)).drew
  have NA := Bx.new w1 [.int .i64 b.id, .int .i64 cb, .int .i64 b.d, .int .i64 nb, .int .i64 b.m] 32
  have r1 := NA.cell 1 rfl
  have r3 := NA.cell 3 rfl
  go_wp2_with fail
  go_region
  go_wp2_with fail
  have R2 := Lib.hid (rangeAt_block R1.out (bs.block g hg1))
  have hg2 := Nat.lt_of_lt_of_le hg1 bs.size
  have B2 := Lib.hid (B1.out.trans (bs.mono hb1))
  have hb2 := B2.out.size
  clear q0 q1 q2 q3 q4 r1 r3 NA bs hgn
  generalize (w1.alloc (.cells #[.int .i64 b.id, .int .i64 cb, .int .i64 b.d, .int .i64 nb, .int .i64 b.m] 32)).drew = w2 at *
  rw [rounds_succ]
  go_wp2_with fail
  refine bodyPost_ret (v := .tuple #[.int .i64 ((0 + ka + kb : Nat) : Int), .int .i64 P, .int .i64 0]) (by simp [results, Tryz.results259, go_sem]) rfl ⟨rfl, B2.out⟩
end Go.Proofs.YtoichcickcgbgaaGreatDoor
namespace Go.Proofs.YtoichcickcgbgaaGreatDoor
open Go.RowKit
attribute [local go_sem] Oper.semAt_some
section
variable {w : World} {v : Value} {N P : Int}
set_option maxRecDepth 100000 in
theorem over_of (h : Calls Tryz.prog 259 #[v] w fun e w' => e = .returned (.tuple #[.int .i64 N, .int .i64 P, .int .i64 0]) ∧ Below w.heap.size w w') :
    Calls Tryz.prog 248 #[v] w fun e w' => e = .returned (.tuple #[.bool (decide (P < N)), .int .i64 0]) ∧ Below w.heap.size w w' := by
  have H := Lib.hid h
  clear h
  go_enter Tryz.func248, Tryz.ntmps248
  go_wp2_with fail
  refine H.out.mono ?_
  rintro e w1 ⟨rfl, b1⟩
  have B1 := Lib.hid b1
  clear b1
  go_wp2_with fail
  go_ret2
  exact ⟨rfl, B1.out⟩
set_option maxRecDepth 100000 in
theorem right_of (h : Calls Tryz.prog 259 #[v] w fun e w' => e = .returned (.tuple #[.int .i64 N, .int .i64 P, .int .i64 0]) ∧ Below w.heap.size w w') :
    Calls Tryz.prog 234 #[v] w fun e w' => e = .returned (.int .i64 (if P < N then 17 else 0)) ∧ Below w.heap.size w w' := by
  have H := Lib.hid (over_of h)
  clear h
  by_cases hl : P < N
  · have hd : decide (P < N) = true := by simpa using hl
    rw [if_pos hl]
    rw [hd] at H
    clear hl hd
    go_enter Tryz.func234, Tryz.ntmps234
    go_wp2_with fail
    refine H.out.mono ?_
    rintro e w1 ⟨rfl, b1⟩
    have B1 := Lib.hid b1
    clear b1
    go_wp2_with fail
    go_ret
    exact ⟨rfl, B1.out⟩
  · have hd : decide (P < N) = false := by simpa using hl
    rw [if_neg hl]
    rw [hd] at H
    clear hl hd
    go_enter Tryz.func234, Tryz.ntmps234
    go_wp2_with fail
    refine H.out.mono ?_
    rintro e w1 ⟨rfl, b1⟩
    have B1 := Lib.hid b1
    clear b1
    go_wp2_with fail
    go_ret
    exact ⟨rfl, B1.out⟩
end
end Go.Proofs.YtoichcickcgbgaaGreatDoor
namespace Go.Proofs.YtoichcickcgbgaaGreatDoor
open Go.RowKit
attribute [local go_sem] Oper.semAt_some
set_option maxRecDepth 100000 in
theorem bmay_any {w : World} {v : Value} {ts : List Tk} (h : Sx tc w v ts) (hn : ts.length ≤ 16) (hok : ∀ t ∈ ts, t.ok) (x : Int) (h0 : 0 ≤ x) (h1 : x ≤ 1099511627776) :
    Calls Tryz.prog 260 #[v, .int .i64 x] w fun e w' => e = .returned (.bool true) ∧ Below w.heap.size w w' := by
  have H := Lib.hid (row_any h hn hok)
  have g0 : decide (x ≥ 0) = true := by simpa using h0
  have g1 : decide (x ≤ 1099511627776) = true := by simpa using h1
  clear h
  go_enter Tryz.func260, Tryz.ntmps260
  go_wp2_with fail
  refine H.out.mono ?_
  rintro e w1 ⟨rfl, b1⟩
  have B1 := Lib.hid b1
  clear b1
  go_wp2_with fail
  go_ret
  exact ⟨rfl, B1.out⟩
set_option maxRecDepth 100000 in
set_option maxHeartbeats 1000000 in
theorem work_1 {w : World} {g cap : Nat} {a : Tk} {na ca : Nat} (hg : g < w.heap.size) (hc : 1 ≤ cap) (hr : w.rangeAt g 0 (tc a)) (ho_a : a.ok) (hn_a : a.t = na) (hp_a : 0 < na) (hl_a : na ≤ 10) (hc_a : a.c = ca) (hcl_a : ca ≤ 10) (X : Nat) (hX : X ≤ 100000) :
    Calls Tryz.prog 250 #[.slice (some ⟨g, 0, none⟩) 1 cap, .int .i64 X] w fun e w' => e = .returned (.int .i64 ((0 + ca * ((X + na - 1) / na)) : Nat)) ∧ Below w.heap.size w w' := by
  have hS : Sx tc w (.slice (some ⟨g, 0, none⟩) 1 cap) [a] := ⟨_, cap, rfl, .inr ⟨g, rfl⟩, fun _ => ⟨g, rfl, hg, hc, by simpa using hr⟩⟩
  have HM := Lib.hid (bmay_any hS (by simp) (by simp ; exact ho_a) X (by omega) (by omega))
  clear hS
  have R00 := Lib.hid hr
  clear hr
  have hd_a : (X + na - 1) / na ≤ 100020 := Nat.le_trans (Nat.div_le_self _ _) (by omega)
  have ht_a : ((X : Int) + (na : Int) - 1).tdiv (na : Int) = (((X + na - 1) / na : Nat) : Int) := by
    rw [show (X : Int) + (na : Int) - 1 = ((X + na - 1 : Nat) : Int) by omega]; exact tdiv_nat _ _
  have hz_a : ¬ ((na : Int) = 0) := by omega
  have hk_a : (ca : Int) * (((X + na - 1) / na : Nat) : Int) = ((ca * ((X + na - 1) / na) : Nat) : Int) := by push_cast; rfl
  have hkl_a : ca * ((X + na - 1) / na) ≤ 10 * 100020 := Nat.mul_le_mul hcl_a hd_a
  generalize (X + na - 1) / na = da at *
  generalize ca * da = ka at *
  have hw1_a : IntKind.i64.wrap (da : Int) = (da : Int) := IntWalk.i64_in _ (by omega)
  go_enter Tryz.func250, Tryz.ntmps250
  go_wp2_with fail
  refine HM.out.mono ?_
  rintro e w0 ⟨rfl, b0⟩
  have R0 := Lib.hid (rangeAt_block R00.out (b0.block g hg))
  have hg0 := Nat.lt_of_lt_of_le hg b0.size
  have hb0 := b0.size
  have B0 := Lib.hid b0
  clear b0 HM
  go_wp2_with fail
  refine wp_loop_rounds 2 ?_
  rw [rounds_succ]
  have q0 := R0.out 0 _ rfl
  have q1 := R0.out 1 _ rfl
  have q2 := R0.out 2 _ rfl
  have q3 := R0.out 3 _ rfl
  have q4 := R0.out 4 _ rfl
  simp only [Nat.zero_add, hn_a, hc_a] at q0 q1 q2 q3 q4
  have hgn : g ≠ w0.heap.size := by omega
  have bs := ((Below.refl w0.heap.size w0).alloc (Nat.le_refl _) (.cells #[.int .i64 a.id, .int .i64 ca, .int .i64 a.d, .int .i64 na, .int .i64 a.m] 32)).drew
  have NA := Bx.new w0 [.int .i64 a.id, .int .i64 ca, .int .i64 a.d, .int .i64 na, .int .i64 a.m] 32
  have r1 := NA.cell 1 rfl
  have r3 := NA.cell 3 rfl
  go_wp2_with fail
  go_region
  go_wp2_with fail
  have R1 := Lib.hid (rangeAt_block R0.out (bs.block g hg0))
  have hg1 := Nat.lt_of_lt_of_le hg0 bs.size
  have B1 := Lib.hid (B0.out.trans (bs.mono hb0))
  have hb1 := B1.out.size
  clear q0 q1 q2 q3 q4 r1 r3 NA bs hgn
  generalize (w0.alloc (.cells #[.int .i64 a.id, .int .i64 ca, .int .i64 a.d, .int .i64 na, .int .i64 a.m] 32)).drew = w1 at *
  rw [rounds_succ]
  go_wp2_with fail
  refine bodyPost_ret (v := .int .i64 ((0 + ka : Nat) : Int)) (by simp [results, Tryz.results250, go_sem]) rfl ⟨rfl, B1.out⟩
set_option maxRecDepth 100000 in
set_option maxHeartbeats 1000000 in
theorem work_2 {w : World} {g cap : Nat} {a b : Tk} {na ca nb cb : Nat} (hg : g < w.heap.size) (hc : 2 ≤ cap) (hr : w.rangeAt g 0 (tc a ++ tc b)) (ho_a : a.ok) (hn_a : a.t = na) (hp_a : 0 < na) (hl_a : na ≤ 10) (hc_a : a.c = ca) (hcl_a : ca ≤ 10) (ho_b : b.ok) (hn_b : b.t = nb) (hp_b : 0 < nb) (hl_b : nb ≤ 10) (hc_b : b.c = cb) (hcl_b : cb ≤ 10) (X : Nat) (hX : X ≤ 100000) :
    Calls Tryz.prog 250 #[.slice (some ⟨g, 0, none⟩) 2 cap, .int .i64 X] w fun e w' => e = .returned (.int .i64 (((0 + ca * ((X + na - 1) / na)) + cb * ((X + nb - 1) / nb)) : Nat)) ∧ Below w.heap.size w w' := by
  have hS : Sx tc w (.slice (some ⟨g, 0, none⟩) 2 cap) [a, b] := ⟨_, cap, rfl, .inr ⟨g, rfl⟩, fun _ => ⟨g, rfl, hg, hc, by simpa using hr⟩⟩
  have HM := Lib.hid (bmay_any hS (by simp) (by simp ; exact ⟨ho_a, ho_b⟩) X (by omega) (by omega))
  clear hS
  have R00 := Lib.hid hr
  clear hr
  have hd_a : (X + na - 1) / na ≤ 100020 := Nat.le_trans (Nat.div_le_self _ _) (by omega)
  have ht_a : ((X : Int) + (na : Int) - 1).tdiv (na : Int) = (((X + na - 1) / na : Nat) : Int) := by
    rw [show (X : Int) + (na : Int) - 1 = ((X + na - 1 : Nat) : Int) by omega]; exact tdiv_nat _ _
  have hz_a : ¬ ((na : Int) = 0) := by omega
  have hk_a : (ca : Int) * (((X + na - 1) / na : Nat) : Int) = ((ca * ((X + na - 1) / na) : Nat) : Int) := by push_cast; rfl
  have hkl_a : ca * ((X + na - 1) / na) ≤ 10 * 100020 := Nat.mul_le_mul hcl_a hd_a
  have hd_b : (X + nb - 1) / nb ≤ 100020 := Nat.le_trans (Nat.div_le_self _ _) (by omega)
  have ht_b : ((X : Int) + (nb : Int) - 1).tdiv (nb : Int) = (((X + nb - 1) / nb : Nat) : Int) := by
    rw [show (X : Int) + (nb : Int) - 1 = ((X + nb - 1 : Nat) : Int) by omega]; exact tdiv_nat _ _
  have hz_b : ¬ ((nb : Int) = 0) := by omega
  have hk_b : (cb : Int) * (((X + nb - 1) / nb : Nat) : Int) = ((cb * ((X + nb - 1) / nb) : Nat) : Int) := by push_cast; rfl
  have hkl_b : cb * ((X + nb - 1) / nb) ≤ 10 * 100020 := Nat.mul_le_mul hcl_b hd_b
  generalize (X + na - 1) / na = da at *
  generalize ca * da = ka at *
  have hw1_a : IntKind.i64.wrap (da : Int) = (da : Int) := IntWalk.i64_in _ (by omega)
  generalize (X + nb - 1) / nb = db at *
  generalize cb * db = kb at *
  have hw1_b : IntKind.i64.wrap (db : Int) = (db : Int) := IntWalk.i64_in _ (by omega)
  go_enter Tryz.func250, Tryz.ntmps250
  go_wp2_with fail
  refine HM.out.mono ?_
  rintro e w0 ⟨rfl, b0⟩
  have R0 := Lib.hid (rangeAt_block R00.out (b0.block g hg))
  have hg0 := Nat.lt_of_lt_of_le hg b0.size
  have hb0 := b0.size
  have B0 := Lib.hid b0
  clear b0 HM
  go_wp2_with fail
  refine wp_loop_rounds 3 ?_
  rw [rounds_succ]
  have q0 := R0.out 0 _ rfl
  have q1 := R0.out 1 _ rfl
  have q2 := R0.out 2 _ rfl
  have q3 := R0.out 3 _ rfl
  have q4 := R0.out 4 _ rfl
  simp only [Nat.zero_add, hn_a, hc_a] at q0 q1 q2 q3 q4
  have hgn : g ≠ w0.heap.size := by omega
  have bs := ((Below.refl w0.heap.size w0).alloc (Nat.le_refl _) (.cells #[.int .i64 a.id, .int .i64 ca, .int .i64 a.d, .int .i64 na, .int .i64 a.m] 32)).drew
  have NA := Bx.new w0 [.int .i64 a.id, .int .i64 ca, .int .i64 a.d, .int .i64 na, .int .i64 a.m] 32
  have r1 := NA.cell 1 rfl
  have r3 := NA.cell 3 rfl
  go_wp2_with fail
  go_region
  go_wp2_with fail
  have R1 := Lib.hid (rangeAt_block R0.out (bs.block g hg0))
  have hg1 := Nat.lt_of_lt_of_le hg0 bs.size
  have B1 := Lib.hid (B0.out.trans (bs.mono hb0))
  have hb1 := B1.out.size
  clear q0 q1 q2 q3 q4 r1 r3 NA bs hgn
  generalize (w0.alloc (.cells #[.int .i64 a.id, .int .i64 ca, .int .i64 a.d, .int .i64 na, .int .i64 a.m] 32)).drew = w1 at *
  rw [rounds_succ]
  have q0 := R1.out 5 _ rfl
  have q1 := R1.out 6 _ rfl
  have q2 := R1.out 7 _ rfl
  have q3 := R1.out 8 _ rfl
  have q4 := R1.out 9 _ rfl
  simp only [Nat.zero_add, hn_b, hc_b] at q0 q1 q2 q3 q4
  have hgn : g ≠ w1.heap.size := by omega
  have bs := ((Below.refl w1.heap.size w1).alloc (Nat.le_refl _) (.cells #[.int .i64 b.id, .int .i64 cb, .int .i64 b.d, .int .i64 nb, .int .i64 b.m] 32)).drew
  have NA := Bx.new w1 [.int .i64 b.id, .int .i64 cb, .int .i64 b.d, .int .i64 nb, .int .i64 b.m] 32
  have r1 := NA.cell 1 rfl
  have r3 := NA.cell 3 rfl
  go_wp2_with fail
  go_region
  go_wp2_with fail
  have R2 := Lib.hid (rangeAt_block R1.out (bs.block g hg1))
  have hg2 := Nat.lt_of_lt_of_le hg1 bs.size
  have B2 := Lib.hid (B1.out.trans (bs.mono hb1))
  have hb2 := B2.out.size
  clear q0 q1 q2 q3 q4 r1 r3 NA bs hgn
  generalize (w1.alloc (.cells #[.int .i64 b.id, .int .i64 cb, .int .i64 b.d, .int .i64 nb, .int .i64 b.m] 32)).drew = w2 at *
  rw [rounds_succ]
  go_wp2_with fail
  refine bodyPost_ret (v := .int .i64 ((0 + ka + kb : Nat) : Int)) (by simp [results, Tryz.results250, go_sem]) rfl ⟨rfl, B2.out⟩
end Go.Proofs.YtoichcickcgbgaaGreatDoor
