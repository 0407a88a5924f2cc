/-
  A table that an op has admitted a task to.
  table.Apply of an op that admits.
  judge.May: the set with one row more, or an error.
-/
import Derived.Test.YtoichcickcgbgaaGreatDoorGJdOp
namespace Go.Proofs.YtoichcickcgbgaaGreatDoor
open Go.RowKit
attribute [local go_sem] Oper.semAt_some
set_option maxRecDepth 100000 in
set_option maxHeartbeats 1000000 in
theorem admits_0 {w : World} {x : Rk} :
    Calls Tryz.prog 130 #[.agg #[.slice none 0 0, .int .i64 0], av x] w fun e w' => ∃ v, e = .returned (.tuple #[.agg #[v, .int .i64 0], .int .i64 0]) ∧ Sx rc w' v [x] ∧ (∀ g, v.ownBlock = some g → w.heap.size ≤ g) ∧ Below w.heap.size w w' := by
  have hv : av x = .agg #[.int .i64 1, .int .i64 x.k.id, .int .i64 x.k.c, .int .i64 x.k.d, .int .i64 x.k.t, .int .i64 x.k.m, .bool x.s, .int .i64 0, .int .i64 0, .int .i64 0] := rfl
  rw [hv]
  clear hv
  have bb := (((Below.refl w.heap.size w).alloc (Nat.le_refl _) (.cells #[.slice none 0 0, .int .i64 0] 79)).alloc (by simp) (.cells #[.int .i64 1, .int .i64 x.k.id, .int .i64 x.k.c, .int .i64 x.k.d, .int .i64 x.k.t, .int .i64 x.k.m, .bool x.s, .int .i64 0, .int .i64 0, .int .i64 0] 43)).alloc (by simp; omega) (.cells #[.slice none 0 0, .int .i64 0] 79)
  have T0 := Lib.hid (((Bx.new w [.slice none 0 0, .int .i64 0] 79).more (.cells #[.int .i64 1, .int .i64 x.k.id, .int .i64 x.k.c, .int .i64 x.k.d, .int .i64 x.k.t, .int .i64 x.k.m, .bool x.s, .int .i64 0, .int .i64 0, .int .i64 0] 43)).more (.cells #[.slice none 0 0, .int .i64 0] 79))
  have A0 := Lib.hid ((Bx.new (w.alloc (.cells #[.slice none 0 0, .int .i64 0] 79)) [.int .i64 1, .int .i64 x.k.id, .int .i64 x.k.c, .int .i64 x.k.d, .int .i64 x.k.t, .int .i64 x.k.m, .bool x.s, .int .i64 0, .int .i64 0, .int .i64 0] 43).more (.cells #[.slice none 0 0, .int .i64 0] 79))
  have Z0 := Lib.hid (Bx.new ((w.alloc (.cells #[.slice none 0 0, .int .i64 0] 79)).alloc (.cells #[.int .i64 1, .int .i64 x.k.id, .int .i64 x.k.c, .int .i64 x.k.d, .int .i64 x.k.t, .int .i64 x.k.m, .bool x.s, .int .i64 0, .int .i64 0, .int .i64 0] 43)) [.slice none 0 0, .int .i64 0] 79)
  simp only [World.size_alloc] at A0 Z0
  have hz := bb.size
  have BB := Lib.hid bb
  clear bb
  go_enter Tryz.func130, Tryz.ntmps130
  go_wp2_with fail
  generalize ((w.alloc (.cells #[.slice none 0 0, .int .i64 0] 79)).alloc (.cells #[.int .i64 1, .int .i64 x.k.id, .int .i64 x.k.c, .int .i64 x.k.d, .int .i64 x.k.t, .int .i64 x.k.m, .bool x.s, .int .i64 0, .int .i64 0, .int .i64 0] 43)).alloc (.cells #[.slice none 0 0, .int .i64 0] 79) = w0 at *
  refine (at_any (rs := []) (v := .slice none 0 0) (Sx.nil) (by simp) x.k.id).mono ?_
  rintro e w1 ⟨⟨i, t, rfl, hit⟩, b1⟩
  obtain ⟨rfl, rfl⟩ := hit (by simp)
  have T1 := Lib.hid (T0.out.below b1)
  have A1 := Lib.hid (A0.out.below b1)
  have Z1 := Lib.hid (Z0.out.below b1)
  have BB1 := Lib.hid (BB.out.trans (b1.mono hz))
  have hz1 := b1.size
  clear b1
  have p0 := T1.out.cell 0 rfl
  have p1 := T1.out.cell 1 rfl
  have q1 := A1.out.cell 1 rfl
  have q2 := A1.out.cell 2 rfl
  have q3 := A1.out.cell 3 rfl
  have q4 := A1.out.cell 4 rfl
  have q5 := A1.out.cell 5 rfl
  have q6 := A1.out.cell 6 rfl
  go_wp2_with fail
  clear p0 p1 q1 q2 q3 q4 q5 q6
  have bn := (Below.refl w1.heap.size w1).alloc (Nat.le_refl _) (.cells #[.int .i64 x.k.id, .int .i64 x.k.c, .int .i64 x.k.d, .int .i64 x.k.t, .int .i64 x.k.m, .bool x.s] 37)
  have NX : Hid (Bx (w1.alloc (.cells #[.int .i64 x.k.id, .int .i64 x.k.c, .int .i64 x.k.d, .int .i64 x.k.t, .int .i64 x.k.m, .bool x.s] 37)) w1.heap.size 37 (rc x)) := Bx.new w1 [.int .i64 x.k.id, .int .i64 x.k.c, .int .i64 x.k.d, .int .i64 x.k.t, .int .i64 x.k.m, .bool x.s] 37
  have Z2 := Lib.hid (Z1.out.below bn)
  have BB2 := Lib.hid (BB1.out.trans (bn.mono (Nat.le_trans hz hz1)))
  have hz2 := bn.size
  clear bn
  generalize w1.alloc (.cells #[.int .i64 x.k.id, .int .i64 x.k.c, .int .i64 x.k.d, .int .i64 x.k.t, .int .i64 x.k.m, .bool x.s] 37) = w2 at *
  refine (with_0 NX.out.range NX.out.lt).mono ?_
  rintro e w3 ⟨v, rfl, hS, hf, b3⟩
  obtain ⟨k2, cp2, rfl, _⟩ := hS.one
  have Z3 := Lib.hid (Z2.out.below b3)
  have HS := Lib.hid hS
  have HF := Lib.hid hf
  have BB3 := Lib.hid (BB2.out.trans (b3.mono (Nat.le_trans (Nat.le_trans hz hz1) hz2)))
  have hz3 := b3.size
  clear hS hf b3
  have z0 := Z3.out.cell 0 rfl
  have z1 := Z3.out.cell 1 rfl
  have fz0 := Z3.out.free 0
  have fz1 := Z3.out.free 1
  go_wp2_with fail
  clear z0 z1 fz0 fz1
  have hZ := Z3.out
  have R1 := (hZ.set 0 (.slice (some ⟨k2, 0, none⟩) 1 cp2) [.slice (some ⟨k2, 0, none⟩) 1 cp2, .int .i64 0] rfl).set 1 (.int .i64 0) _ rfl
  have e0 := R1.cell 0 rfl
  have e1 := R1.cell 1 rfl
  have tt := (Turn.set (S := fun k => k = w.heap.size + 1 + 1) w3 (w.heap.size + 1 + 1) 0 (.slice (some ⟨k2, 0, none⟩) 1 cp2) rfl).trans (Turn.set (S := fun k => k = w.heap.size + 1 + 1) _ (w.heap.size + 1 + 1) 1 (.int .i64 0) rfl)
  have hz0 : w.heap.size + 3 ≤ w2.heap.size := by have := Z2.out.lt; omega
  refine bodyPost_ret (v := .tuple #[.agg #[.slice (some ⟨k2, 0, none⟩) 1 cp2, .int .i64 0], .int .i64 0]) (by simp [results, Tryz.results130, go_sem, e0, e1]) rfl ⟨_, rfl, HS.out.turn tt fun k hk hl => ?_, fun k hk => ?_, tt.to BB3.out (by omega) fun k hk => by omega⟩
  · have := HF.out k hk; omega
  · have := HF.out k hk; omega
set_option maxRecDepth 100000 in
set_option maxHeartbeats 1000000 in
theorem admits_1 {w : World} {g cap : Nat} {a : Rk} {x : Rk} (hcap : 1 ≤ cap) (hra : w.rangeAt g 0 (rc a)) (hga : g < w.heap.size) (hlt : a.k.id < x.k.id) :
    Calls Tryz.prog 130 #[.agg #[.slice (some ⟨g, 0, none⟩) 1 cap, .int .i64 0], av x] w fun e w' => ∃ v, e = .returned (.tuple #[.agg #[v, .int .i64 0], .int .i64 0]) ∧ Sx rc w' v [a, x] ∧ (∀ g, v.ownBlock = some g → w.heap.size ≤ g) ∧ Below w.heap.size w w' := by
  have hv : av x = .agg #[.int .i64 1, .int .i64 x.k.id, .int .i64 x.k.c, .int .i64 x.k.d, .int .i64 x.k.t, .int .i64 x.k.m, .bool x.s, .int .i64 0, .int .i64 0, .int .i64 0] := rfl
  rw [hv]
  clear hv
  have bb := (((Below.refl w.heap.size w).alloc (Nat.le_refl _) (.cells #[.slice (some ⟨g, 0, none⟩) 1 cap, .int .i64 0] 79)).alloc (by simp) (.cells #[.int .i64 1, .int .i64 x.k.id, .int .i64 x.k.c, .int .i64 x.k.d, .int .i64 x.k.t, .int .i64 x.k.m, .bool x.s, .int .i64 0, .int .i64 0, .int .i64 0] 43)).alloc (by simp; omega) (.cells #[.slice none 0 0, .int .i64 0] 79)
  have T0 := Lib.hid (((Bx.new w [.slice (some ⟨g, 0, none⟩) 1 cap, .int .i64 0] 79).more (.cells #[.int .i64 1, .int .i64 x.k.id, .int .i64 x.k.c, .int .i64 x.k.d, .int .i64 x.k.t, .int .i64 x.k.m, .bool x.s, .int .i64 0, .int .i64 0, .int .i64 0] 43)).more (.cells #[.slice none 0 0, .int .i64 0] 79))
  have A0 := Lib.hid ((Bx.new (w.alloc (.cells #[.slice (some ⟨g, 0, none⟩) 1 cap, .int .i64 0] 79)) [.int .i64 1, .int .i64 x.k.id, .int .i64 x.k.c, .int .i64 x.k.d, .int .i64 x.k.t, .int .i64 x.k.m, .bool x.s, .int .i64 0, .int .i64 0, .int .i64 0] 43).more (.cells #[.slice none 0 0, .int .i64 0] 79))
  have Z0 := Lib.hid (Bx.new ((w.alloc (.cells #[.slice (some ⟨g, 0, none⟩) 1 cap, .int .i64 0] 79)).alloc (.cells #[.int .i64 1, .int .i64 x.k.id, .int .i64 x.k.c, .int .i64 x.k.d, .int .i64 x.k.t, .int .i64 x.k.m, .bool x.s, .int .i64 0, .int .i64 0, .int .i64 0] 43)) [.slice none 0 0, .int .i64 0] 79)
  simp only [World.size_alloc] at A0 Z0
  have hz := bb.size
  have HA0 := Lib.hid (rangeAt_block hra (bb.block g hga))
  have hga0 := Nat.lt_of_lt_of_le hga bb.size
  clear hra
  have BB := Lib.hid bb
  clear bb
  go_enter Tryz.func130, Tryz.ntmps130
  go_wp2_with fail
  generalize ((w.alloc (.cells #[.slice (some ⟨g, 0, none⟩) 1 cap, .int .i64 0] 79)).alloc (.cells #[.int .i64 1, .int .i64 x.k.id, .int .i64 x.k.c, .int .i64 x.k.d, .int .i64 x.k.t, .int .i64 x.k.m, .bool x.s, .int .i64 0, .int .i64 0, .int .i64 0] 43)).alloc (.cells #[.slice none 0 0, .int .i64 0] 79) = w0 at *
  refine (at_any (rs := [a]) (v := .slice (some ⟨g, 0, none⟩) 1 cap) (⟨_, cap, rfl, .inr ⟨g, rfl⟩, fun _ => ⟨g, rfl, hga0, hcap, by simpa using HA0.out⟩⟩) (by simp) x.k.id).mono ?_
  rintro e w1 ⟨⟨i, t, rfl, hit⟩, b1⟩
  obtain ⟨rfl, rfl⟩ := hit (by simp; exact hlt)
  have T1 := Lib.hid (T0.out.below b1)
  have A1 := Lib.hid (A0.out.below b1)
  have Z1 := Lib.hid (Z0.out.below b1)
  have BB1 := Lib.hid (BB.out.trans (b1.mono hz))
  have hz1 := b1.size
  have HA1 := Lib.hid (rangeAt_block HA0.out (b1.block g hga0))
  have hga1 := Nat.lt_of_lt_of_le hga0 b1.size
  clear b1
  have p0 := T1.out.cell 0 rfl
  have p1 := T1.out.cell 1 rfl
  have q1 := A1.out.cell 1 rfl
  have q2 := A1.out.cell 2 rfl
  have q3 := A1.out.cell 3 rfl
  have q4 := A1.out.cell 4 rfl
  have q5 := A1.out.cell 5 rfl
  have q6 := A1.out.cell 6 rfl
  go_wp2_with fail
  clear p0 p1 q1 q2 q3 q4 q5 q6
  have bn := (Below.refl w1.heap.size w1).alloc (Nat.le_refl _) (.cells #[.int .i64 x.k.id, .int .i64 x.k.c, .int .i64 x.k.d, .int .i64 x.k.t, .int .i64 x.k.m, .bool x.s] 37)
  have NX : Hid (Bx (w1.alloc (.cells #[.int .i64 x.k.id, .int .i64 x.k.c, .int .i64 x.k.d, .int .i64 x.k.t, .int .i64 x.k.m, .bool x.s] 37)) w1.heap.size 37 (rc x)) := Bx.new w1 [.int .i64 x.k.id, .int .i64 x.k.c, .int .i64 x.k.d, .int .i64 x.k.t, .int .i64 x.k.m, .bool x.s] 37
  have Z2 := Lib.hid (Z1.out.below bn)
  have BB2 := Lib.hid (BB1.out.trans (bn.mono (Nat.le_trans hz hz1)))
  have hz2 := bn.size
  have HA2 := Lib.hid (rangeAt_block HA1.out (bn.block g hga1))
  have hga2 := Nat.lt_of_lt_of_le hga1 bn.size
  clear bn
  generalize w1.alloc (.cells #[.int .i64 x.k.id, .int .i64 x.k.c, .int .i64 x.k.d, .int .i64 x.k.t, .int .i64 x.k.m, .bool x.s] 37) = w2 at *
  refine (with_1 hcap HA2.out hga2 NX.out.range NX.out.lt).mono ?_
  rintro e w3 ⟨v, rfl, hS, hf, b3⟩
  obtain ⟨k2, cp2, rfl, _⟩ := hS.two
  have Z3 := Lib.hid (Z2.out.below b3)
  have HS := Lib.hid hS
  have HF := Lib.hid hf
  have BB3 := Lib.hid (BB2.out.trans (b3.mono (Nat.le_trans (Nat.le_trans hz hz1) hz2)))
  have hz3 := b3.size
  clear hS hf b3
  have z0 := Z3.out.cell 0 rfl
  have z1 := Z3.out.cell 1 rfl
  have fz0 := Z3.out.free 0
  have fz1 := Z3.out.free 1
  go_wp2_with fail
  clear z0 z1 fz0 fz1
  have hZ := Z3.out
  have R1 := (hZ.set 0 (.slice (some ⟨k2, 0, none⟩) 2 cp2) [.slice (some ⟨k2, 0, none⟩) 2 cp2, .int .i64 0] rfl).set 1 (.int .i64 0) _ rfl
  have e0 := R1.cell 0 rfl
  have e1 := R1.cell 1 rfl
  have tt := (Turn.set (S := fun k => k = w.heap.size + 1 + 1) w3 (w.heap.size + 1 + 1) 0 (.slice (some ⟨k2, 0, none⟩) 2 cp2) rfl).trans (Turn.set (S := fun k => k = w.heap.size + 1 + 1) _ (w.heap.size + 1 + 1) 1 (.int .i64 0) rfl)
  have hz0 : w.heap.size + 3 ≤ w2.heap.size := by have := Z2.out.lt; omega
  refine bodyPost_ret (v := .tuple #[.agg #[.slice (some ⟨k2, 0, none⟩) 2 cp2, .int .i64 0], .int .i64 0]) (by simp [results, Tryz.results130, go_sem, e0, e1]) rfl ⟨_, rfl, HS.out.turn tt fun k hk hl => ?_, fun k hk => ?_, tt.to BB3.out (by omega) fun k hk => by omega⟩
  · have := HF.out k hk; omega
  · have := HF.out k hk; omega
end Go.Proofs.YtoichcickcgbgaaGreatDoor
namespace Go.Proofs.YtoichcickcgbgaaGreatDoor
open Go.RowKit
attribute [local go_sem] Oper.semAt_some
set_option maxRecDepth 100000 in
set_option maxHeartbeats 1000000 in
theorem apply_0 {w : World} {x : Rk} (hx : Gk x) :
    Calls Tryz.prog 88 #[.agg #[.slice none 0 0, .int .i64 0], av x] w fun e w' => ∃ v, e = .returned (.tuple #[.agg #[v, .int .i64 0], .int .i64 0]) ∧ Sx rc w' v [x] ∧ (∀ g, v.ownBlock = some g → w.heap.size ≤ g) ∧ Below w.heap.size w w' := by
  have hv : av x = .agg #[.int .i64 1, .int .i64 x.k.id, .int .i64 x.k.c, .int .i64 x.k.d, .int .i64 x.k.t, .int .i64 x.k.m, .bool x.s, .int .i64 0, .int .i64 0, .int .i64 0] := rfl
  rw [hv]
  clear hv
  have bb := (((Below.refl w.heap.size w).alloc (Nat.le_refl _) (.cells #[.slice none 0 0, .int .i64 0] 79)).alloc (by simp) (.cells #[.int .i64 1, .int .i64 x.k.id, .int .i64 x.k.c, .int .i64 x.k.d, .int .i64 x.k.t, .int .i64 x.k.m, .bool x.s, .int .i64 0, .int .i64 0, .int .i64 0] 43)).alloc (by simp; omega) (.cells #[.slice none 0 0, .int .i64 0] 79)
  have T0 := Lib.hid (((Bx.new w [.slice none 0 0, .int .i64 0] 79).more (.cells #[.int .i64 1, .int .i64 x.k.id, .int .i64 x.k.c, .int .i64 x.k.d, .int .i64 x.k.t, .int .i64 x.k.m, .bool x.s, .int .i64 0, .int .i64 0, .int .i64 0] 43)).more (.cells #[.slice none 0 0, .int .i64 0] 79))
  have A0 := Lib.hid ((Bx.new (w.alloc (.cells #[.slice none 0 0, .int .i64 0] 79)) [.int .i64 1, .int .i64 x.k.id, .int .i64 x.k.c, .int .i64 x.k.d, .int .i64 x.k.t, .int .i64 x.k.m, .bool x.s, .int .i64 0, .int .i64 0, .int .i64 0] 43).more (.cells #[.slice none 0 0, .int .i64 0] 79))
  have Z0 := Lib.hid (Bx.new ((w.alloc (.cells #[.slice none 0 0, .int .i64 0] 79)).alloc (.cells #[.int .i64 1, .int .i64 x.k.id, .int .i64 x.k.c, .int .i64 x.k.d, .int .i64 x.k.t, .int .i64 x.k.m, .bool x.s, .int .i64 0, .int .i64 0, .int .i64 0] 43)) [.slice none 0 0, .int .i64 0] 79)
  simp only [World.size_alloc] at A0 Z0
  have hz := bb.size
  have BB0 := Lib.hid bb
  clear bb
  go_enter Tryz.func88, Tryz.ntmps88
  go_wp2_with fail
  generalize ((w.alloc (.cells #[.slice none 0 0, .int .i64 0] 79)).alloc (.cells #[.int .i64 1, .int .i64 x.k.id, .int .i64 x.k.c, .int .i64 x.k.d, .int .i64 x.k.t, .int .i64 x.k.m, .bool x.s, .int .i64 0, .int .i64 0, .int .i64 0] 43)).alloc (.cells #[.slice none 0 0, .int .i64 0] 79) = w0 at *
  have hz0 : w.heap.size + 3 ≤ w0.heap.size := by have := Z0.out.lt; omega
  refine (tchk_0 _ none 0).mono ?_
  rintro e w1 ⟨rfl, b1⟩
  have T1 := Lib.hid (T0.out.below b1)
  have A1 := Lib.hid (A0.out.below b1)
  have Z1 := Lib.hid (Z0.out.below b1)
  have BB1 := Lib.hid (BB0.out.trans (b1.mono (by omega)))
  have hz1 : w.heap.size + 3 ≤ w1.heap.size := by have := b1.size; omega
  clear b1 T0 A0 Z0 BB0
  have q0 := A1.out.cell 0 rfl
  have q1 := A1.out.cell 1 rfl
  have q2 := A1.out.cell 2 rfl
  have q3 := A1.out.cell 3 rfl
  have q4 := A1.out.cell 4 rfl
  have q5 := A1.out.cell 5 rfl
  have q6 := A1.out.cell 6 rfl
  have q7 := A1.out.cell 7 rfl
  have q8 := A1.out.cell 8 rfl
  have q9 := A1.out.cell 9 rfl
  go_wp2_with fail
  clear q0 q1 q2 q3 q4 q5 q6 q7 q8 q9
  refine (ochk_any x hx _).mono ?_
  rintro e w2 ⟨rfl, b2⟩
  have T2 := Lib.hid (T1.out.below b2)
  have A2 := Lib.hid (A1.out.below b2)
  have Z2 := Lib.hid (Z1.out.below b2)
  have BB2 := Lib.hid (BB1.out.trans (b2.mono (by omega)))
  have hz2 : w.heap.size + 3 ≤ w2.heap.size := by have := b2.size; omega
  clear b2 T1 A1 Z1 BB1
  have p0 := T2.out.cell 0 rfl
  have p1 := T2.out.cell 1 rfl
  have q7 := A2.out.cell 7 rfl
  go_wp2_with fail
  clear p0 p1 q7
  refine (at_any (rs := []) (v := .slice none 0 0) (Sx.nil) (by simp) 0).mono ?_
  rintro e w3 ⟨⟨i, t, rfl, _⟩, b3⟩
  have T3 := Lib.hid (T2.out.below b3)
  have A3 := Lib.hid (A2.out.below b3)
  have Z3 := Lib.hid (Z2.out.below b3)
  have BB3 := Lib.hid (BB2.out.trans (b3.mono (by omega)))
  have hz3 : w.heap.size + 3 ≤ w3.heap.size := by have := b3.size; omega
  clear b3 T2 A2 Z2 BB2
  have p0 := T3.out.cell 0 rfl
  have p1 := T3.out.cell 1 rfl
  have q0 := A3.out.cell 0 rfl
  have q1 := A3.out.cell 1 rfl
  have q2 := A3.out.cell 2 rfl
  have q3 := A3.out.cell 3 rfl
  have q4 := A3.out.cell 4 rfl
  have q5 := A3.out.cell 5 rfl
  have q6 := A3.out.cell 6 rfl
  have q7 := A3.out.cell 7 rfl
  have q8 := A3.out.cell 8 rfl
  have q9 := A3.out.cell 9 rfl
  go_wp2_with fail
  clear p0 p1 q0 q1 q2 q3 q4 q5 q6 q7 q8 q9
  refine (admits_0).mono ?_
  rintro e w4 ⟨v, rfl, hS, hf, b4⟩
  obtain ⟨k2, cp2, rfl, _⟩ := hS.one
  have Z4 := Lib.hid (Z3.out.below b4)
  have HS := Lib.hid hS
  have HF := Lib.hid hf
  have BB4 := Lib.hid (BB3.out.trans (b4.mono (by omega)))
  have hz4 := b4.size
  clear hS hf b4
  have z0 := Z4.out.cell 0 rfl
  have z1 := Z4.out.cell 1 rfl
  have fz0 := Z4.out.free 0
  have fz1 := Z4.out.free 1
  go_wp2_with fail
  clear z0 z1 fz0 fz1
  have hZ := Z4.out
  have R1 := (hZ.set 0 (.slice (some ⟨k2, 0, none⟩) 1 cp2) [.slice (some ⟨k2, 0, none⟩) 1 cp2, .int .i64 0] rfl).set 1 (.int .i64 0) _ rfl
  have e0 := R1.cell 0 rfl
  have e1 := R1.cell 1 rfl
  have tt := (Turn.set (S := fun k => k = w.heap.size + 1 + 1) w4 (w.heap.size + 1 + 1) 0 (.slice (some ⟨k2, 0, none⟩) 1 cp2) rfl).trans (Turn.set (S := fun k => k = w.heap.size + 1 + 1) _ (w.heap.size + 1 + 1) 1 (.int .i64 0) rfl)
  refine bodyPost_ret (v := .tuple #[.agg #[.slice (some ⟨k2, 0, none⟩) 1 cp2, .int .i64 0], .int .i64 0]) (by simp [results, Tryz.results88, go_sem, e0, e1]) rfl ⟨_, rfl, HS.out.turn tt fun k hk hl => ?_, fun k hk => ?_, tt.to BB4.out (by omega) fun k hk => by omega⟩
  · have := HF.out k hk; omega
  · have := HF.out k hk; omega
set_option maxRecDepth 100000 in
set_option maxHeartbeats 1000000 in
theorem apply_1 {w : World} {g cap : Nat} {a : Rk} {x : Rk} (hcap : 1 ≤ cap) (hra : w.rangeAt g 0 (rc a)) (hga : g < w.heap.size) (hlt : a.k.id < x.k.id) (hsa : a.s = true) (hka : Gk a) (hx : Gk x) :
    Calls Tryz.prog 88 #[.agg #[.slice (some ⟨g, 0, none⟩) 1 cap, .int .i64 0], av x] w fun e w' => ∃ v, e = .returned (.tuple #[.agg #[v, .int .i64 0], .int .i64 0]) ∧ Sx rc w' v [a, x] ∧ (∀ g, v.ownBlock = some g → w.heap.size ≤ g) ∧ Below w.heap.size w w' := by
  have hv : av x = .agg #[.int .i64 1, .int .i64 x.k.id, .int .i64 x.k.c, .int .i64 x.k.d, .int .i64 x.k.t, .int .i64 x.k.m, .bool x.s, .int .i64 0, .int .i64 0, .int .i64 0] := rfl
  rw [hv]
  clear hv
  have bb := (((Below.refl w.heap.size w).alloc (Nat.le_refl _) (.cells #[.slice (some ⟨g, 0, none⟩) 1 cap, .int .i64 0] 79)).alloc (by simp) (.cells #[.int .i64 1, .int .i64 x.k.id, .int .i64 x.k.c, .int .i64 x.k.d, .int .i64 x.k.t, .int .i64 x.k.m, .bool x.s, .int .i64 0, .int .i64 0, .int .i64 0] 43)).alloc (by simp; omega) (.cells #[.slice none 0 0, .int .i64 0] 79)
  have T0 := Lib.hid (((Bx.new w [.slice (some ⟨g, 0, none⟩) 1 cap, .int .i64 0] 79).more (.cells #[.int .i64 1, .int .i64 x.k.id, .int .i64 x.k.c, .int .i64 x.k.d, .int .i64 x.k.t, .int .i64 x.k.m, .bool x.s, .int .i64 0, .int .i64 0, .int .i64 0] 43)).more (.cells #[.slice none 0 0, .int .i64 0] 79))
  have A0 := Lib.hid ((Bx.new (w.alloc (.cells #[.slice (some ⟨g, 0, none⟩) 1 cap, .int .i64 0] 79)) [.int .i64 1, .int .i64 x.k.id, .int .i64 x.k.c, .int .i64 x.k.d, .int .i64 x.k.t, .int .i64 x.k.m, .bool x.s, .int .i64 0, .int .i64 0, .int .i64 0] 43).more (.cells #[.slice none 0 0, .int .i64 0] 79))
  have Z0 := Lib.hid (Bx.new ((w.alloc (.cells #[.slice (some ⟨g, 0, none⟩) 1 cap, .int .i64 0] 79)).alloc (.cells #[.int .i64 1, .int .i64 x.k.id, .int .i64 x.k.c, .int .i64 x.k.d, .int .i64 x.k.t, .int .i64 x.k.m, .bool x.s, .int .i64 0, .int .i64 0, .int .i64 0] 43)) [.slice none 0 0, .int .i64 0] 79)
  simp only [World.size_alloc] at A0 Z0
  have hz := bb.size
  have HA0 := Lib.hid (rangeAt_block hra (bb.block g hga))
  have hga0 := Nat.lt_of_lt_of_le hga bb.size
  clear hra
  have BB0 := Lib.hid bb
  clear bb
  go_enter Tryz.func88, Tryz.ntmps88
  go_wp2_with fail
  generalize ((w.alloc (.cells #[.slice (some ⟨g, 0, none⟩) 1 cap, .int .i64 0] 79)).alloc (.cells #[.int .i64 1, .int .i64 x.k.id, .int .i64 x.k.c, .int .i64 x.k.d, .int .i64 x.k.t, .int .i64 x.k.m, .bool x.s, .int .i64 0, .int .i64 0, .int .i64 0] 43)).alloc (.cells #[.slice none 0 0, .int .i64 0] 79) = w0 at *
  have hz0 : w.heap.size + 3 ≤ w0.heap.size := by have := Z0.out.lt; omega
  refine (tchk_1t hga0 HA0.out hsa hka.1 hka.2).mono ?_
  rintro e w1 ⟨rfl, b1⟩
  have T1 := Lib.hid (T0.out.below b1)
  have A1 := Lib.hid (A0.out.below b1)
  have Z1 := Lib.hid (Z0.out.below b1)
  have BB1 := Lib.hid (BB0.out.trans (b1.mono (by omega)))
  have hz1 : w.heap.size + 3 ≤ w1.heap.size := by have := b1.size; omega
  have HA1 := Lib.hid (rangeAt_block HA0.out (b1.block g hga0))
  have hga1 := Nat.lt_of_lt_of_le hga0 b1.size
  clear b1 T0 A0 Z0 BB0 HA0
  have q0 := A1.out.cell 0 rfl
  have q1 := A1.out.cell 1 rfl
  have q2 := A1.out.cell 2 rfl
  have q3 := A1.out.cell 3 rfl
  have q4 := A1.out.cell 4 rfl
  have q5 := A1.out.cell 5 rfl
  have q6 := A1.out.cell 6 rfl
  have q7 := A1.out.cell 7 rfl
  have q8 := A1.out.cell 8 rfl
  have q9 := A1.out.cell 9 rfl
  go_wp2_with fail
  clear q0 q1 q2 q3 q4 q5 q6 q7 q8 q9
  refine (ochk_any x hx _).mono ?_
  rintro e w2 ⟨rfl, b2⟩
  have T2 := Lib.hid (T1.out.below b2)
  have A2 := Lib.hid (A1.out.below b2)
  have Z2 := Lib.hid (Z1.out.below b2)
  have BB2 := Lib.hid (BB1.out.trans (b2.mono (by omega)))
  have hz2 : w.heap.size + 3 ≤ w2.heap.size := by have := b2.size; omega
  have HA2 := Lib.hid (rangeAt_block HA1.out (b2.block g hga1))
  have hga2 := Nat.lt_of_lt_of_le hga1 b2.size
  clear b2 T1 A1 Z1 BB1 HA1
  have p0 := T2.out.cell 0 rfl
  have p1 := T2.out.cell 1 rfl
  have q7 := A2.out.cell 7 rfl
  go_wp2_with fail
  clear p0 p1 q7
  refine (at_any (rs := [a]) (v := .slice (some ⟨g, 0, none⟩) 1 cap) (⟨_, cap, rfl, .inr ⟨g, rfl⟩, fun _ => ⟨g, rfl, hga2, hcap, by simpa using HA2.out⟩⟩) (by simp) 0).mono ?_
  rintro e w3 ⟨⟨i, t, rfl, _⟩, b3⟩
  have T3 := Lib.hid (T2.out.below b3)
  have A3 := Lib.hid (A2.out.below b3)
  have Z3 := Lib.hid (Z2.out.below b3)
  have BB3 := Lib.hid (BB2.out.trans (b3.mono (by omega)))
  have hz3 : w.heap.size + 3 ≤ w3.heap.size := by have := b3.size; omega
  have HA3 := Lib.hid (rangeAt_block HA2.out (b3.block g hga2))
  have hga3 := Nat.lt_of_lt_of_le hga2 b3.size
  clear b3 T2 A2 Z2 BB2 HA2
  have p0 := T3.out.cell 0 rfl
  have p1 := T3.out.cell 1 rfl
  have q0 := A3.out.cell 0 rfl
  have q1 := A3.out.cell 1 rfl
  have q2 := A3.out.cell 2 rfl
  have q3 := A3.out.cell 3 rfl
  have q4 := A3.out.cell 4 rfl
  have q5 := A3.out.cell 5 rfl
  have q6 := A3.out.cell 6 rfl
  have q7 := A3.out.cell 7 rfl
  have q8 := A3.out.cell 8 rfl
  have q9 := A3.out.cell 9 rfl
  go_wp2_with fail
  clear p0 p1 q0 q1 q2 q3 q4 q5 q6 q7 q8 q9
  refine (admits_1 hcap HA3.out hga3 hlt).mono ?_
  rintro e w4 ⟨v, rfl, hS, hf, b4⟩
  obtain ⟨k2, cp2, rfl, _⟩ := hS.two
  have Z4 := Lib.hid (Z3.out.below b4)
  have HS := Lib.hid hS
  have HF := Lib.hid hf
  have BB4 := Lib.hid (BB3.out.trans (b4.mono (by omega)))
  have hz4 := b4.size
  clear hS hf b4
  have z0 := Z4.out.cell 0 rfl
  have z1 := Z4.out.cell 1 rfl
  have fz0 := Z4.out.free 0
  have fz1 := Z4.out.free 1
  go_wp2_with fail
  clear z0 z1 fz0 fz1
  have hZ := Z4.out
  have R1 := (hZ.set 0 (.slice (some ⟨k2, 0, none⟩) 2 cp2) [.slice (some ⟨k2, 0, none⟩) 2 cp2, .int .i64 0] rfl).set 1 (.int .i64 0) _ rfl
  have e0 := R1.cell 0 rfl
  have e1 := R1.cell 1 rfl
  have tt := (Turn.set (S := fun k => k = w.heap.size + 1 + 1) w4 (w.heap.size + 1 + 1) 0 (.slice (some ⟨k2, 0, none⟩) 2 cp2) rfl).trans (Turn.set (S := fun k => k = w.heap.size + 1 + 1) _ (w.heap.size + 1 + 1) 1 (.int .i64 0) rfl)
  refine bodyPost_ret (v := .tuple #[.agg #[.slice (some ⟨k2, 0, none⟩) 2 cp2, .int .i64 0], .int .i64 0]) (by simp [results, Tryz.results88, go_sem, e0, e1]) rfl ⟨_, rfl, HS.out.turn tt fun k hk hl => ?_, fun k hk => ?_, tt.to BB4.out (by omega) fun k hk => by omega⟩
  · have := HF.out k hk; omega
  · have := HF.out k hk; omega
end Go.Proofs.YtoichcickcgbgaaGreatDoor
namespace Go.Proofs.YtoichcickcgbgaaGreatDoor
open Go.RowKit
attribute [local go_sem] Oper.semAt_some
/-- A slice's value of rows; no rows: nil. -/
def Vr (w : World) (v : Value) (rs : List Rk) : Prop := Sx rc w v rs ∧ (rs = [] → v = .slice none 0 0)
theorem Vr.below {w w' : World} {v : Value} {rs : List Rk} (h : Vr w v rs) (b : Below w.heap.size w w') : Vr w' v rs := ⟨h.1.below b, h.2⟩
theorem Vr.turn {S : Nat → Prop} {w w' : World} {v : Value} {rs : List Rk} (h : Vr w v rs) (t : Turn S w w') (hS : rs ≠ [] → ∀ g, v.ownBlock = some g → ¬ S g) : Vr w' v rs := ⟨h.1.turnN t hS, h.2⟩
theorem Rws.gk {rs : List Rk} (h : Rws rs) {r : Rk} (hr : r ∈ rs) : Gk r := ⟨h.kok hr, h.srv r hr⟩
/-- One row fewer. -/
theorem Rws.ahead {rs : List Rk} {x : Rk} (h : Rws (rs ++ [x])) : rs = [] ∨ ∃ a, rs = [a] ∧ a.s = true ∧ a.k.id < x.k.id := by
  rcases rs with _ | ⟨a, _ | ⟨b, l⟩⟩
  · exact .inl rfl
  · obtain ⟨h1, _, h3⟩ := h.two a x rfl
    exact .inr ⟨a, rfl, h1, h3⟩
  · have := h.len
    simp at this
theorem apply_any {w : World} {v : Value} {rs : List Rk} {x : Rk} (h : Vr w v rs) (hk : Rws (rs ++ [x])) :
    Calls Tryz.prog 88 #[.agg #[v, .int .i64 0], av x] w fun e w' => ∃ v', e = .returned (.tuple #[.agg #[v', .int .i64 0], .int .i64 0]) ∧ Vr w' v' (rs ++ [x]) ∧ (∀ g, v'.ownBlock = some g → w.heap.size ≤ g) ∧ Below w.heap.size w w' := by
  rcases hk.ahead with rfl | ⟨a, rfl, hs, hid⟩
  · rw [h.2 rfl]
    refine (apply_0 (hk.gk (by simp))).mono ?_
    rintro e w' ⟨v', rfl, hx, ho, hb⟩
    exact ⟨v', rfl, ⟨hx, fun h => by simp at h⟩, ho, hb⟩
  · obtain ⟨g, cap, rfl, hg, hc, hr⟩ := h.1.one
    refine (apply_1 hc hr hg hid hs (hk.gk (by simp)) (hk.gk (by simp))).mono ?_
    rintro e w' ⟨v', rfl, hx, ho, hb⟩
    exact ⟨v', rfl, ⟨hx, fun h => by simp at h⟩, ho, hb⟩
set_option maxRecDepth 100000 in
set_option maxHeartbeats 1000000 in
theorem may_any {w : World} {v : Value} {rs : List Rk} {x : Rk} (h : Vr w v rs) (hk : Rws (rs ++ [x])) :
    Calls Tryz.prog 91 #[.agg #[v, .int .i64 0], av x, .slice none 0 0] w fun e w' => ∃ (er : Int) (oc : Option Addr) (nc cc : Nat), e = .returned (.tuple #[.agg #[.slice oc nc cc, .int .i64 0], .int .i64 er]) ∧ (er = 0 → Vr w' (.slice oc nc cc) (rs ++ [x]) ∧ ∀ g, Value.ownBlock (.slice oc nc cc) = some g → w.heap.size ≤ g) ∧ (rs = [] → er = 0) ∧ Below w.heap.size w w' := by
  have hv : av x = .agg #[.int .i64 1, .int .i64 x.k.id, .int .i64 x.k.c, .int .i64 x.k.d, .int .i64 x.k.t, .int .i64 x.k.m, .bool x.s, .int .i64 0, .int .i64 0, .int .i64 0] := rfl
  have hb0 := (((Below.refl w.heap.size w).alloc (Nat.le_refl _) (.cells #[v, .int .i64 0] 79)).alloc (by simp) (.cells #[.int .i64 1, .int .i64 x.k.id, .int .i64 x.k.c, .int .i64 x.k.d, .int .i64 x.k.t, .int .i64 x.k.m, .bool x.s, .int .i64 0, .int .i64 0, .int .i64 0] 43)).alloc (by simp; omega) (.cells #[.slice none 0 0, .int .i64 0] 79)
  have HZ := Lib.hid (Bx.new ((w.alloc (.cells #[v, .int .i64 0] 79)).alloc (.cells #[.int .i64 1, .int .i64 x.k.id, .int .i64 x.k.c, .int .i64 x.k.d, .int .i64 x.k.t, .int .i64 x.k.m, .bool x.s, .int .i64 0, .int .i64 0, .int .i64 0] 43)) [.slice none 0 0, .int .i64 0] 79)
  simp only [World.size_alloc] at HZ
  have HX := Lib.hid (h.below hb0)
  have HB := Lib.hid hb0
  have HC := Lib.hid (apply_any HX.out hk)
  obtain ⟨⟨oa, cap, rfl, -, -⟩, -⟩ := h
  rw [hv] at HC ⊢
  clear hb0 hv
  go_enter Tryz.func91, Tryz.ntmps91
  go_wp2_with fail
  refine HC.out.mono ?_
  rintro e w1 ⟨v1, rfl, hV, ho, b1⟩
  have hsz := HB.out.size
  have HV := Lib.hid hV
  have HO : Hid (∀ g, v1.ownBlock = some g → w.heap.size + 3 ≤ g) := fun g hg => by have := ho g hg; simpa using this
  have HZ1 := Lib.hid (HZ.out.below b1)
  have HB1 := Lib.hid (HB.out.trans (b1.mono hsz))
  have hz1 : w.heap.size + 1 + 1 < w1.heap.size := HZ1.out.lt
  clear hV ho b1 HX HB HZ HC hsz
  obtain ⟨oa1, cap1, hv1, -, -⟩ := id HV.out.1
  subst hv1
  generalize hn : (rs ++ [x]).length = n at *
  have hb2 := (Below.refl w1.heap.size w1).alloc (Nat.le_refl _) (.cells #[.slice oa1 n cap1, .int .i64 0] 79)
  have HT2 := Lib.hid (Bx.new w1 [.slice oa1 n cap1, .int .i64 0] 79)
  have HV2 := Lib.hid (HV.out.below hb2)
  have HZ2 := Lib.hid (HZ1.out.below hb2)
  have HB2 := Lib.hid (HB1.out.trans (hb2.mono HB1.out.size))
  have HW := Lib.hid (with_any HV2.out.1 hk (by simp))
  have HL := Lib.hid hn
  clear hb2 HV HZ1 HB1 hn
  go_wp2_with fail
  refine HW.out.mono ?_
  rintro e w2 ⟨er, rfl, her, b2⟩
  have HE := Lib.hid her
  have hT3 := HT2.out.below b2
  have HV3 := Lib.hid (HV2.out.below b2)
  have hZ3 := HZ2.out.below b2
  have HB3 := Lib.hid (HB2.out.trans (b2.mono HB2.out.size))
  have c0 := hT3.cell 0 rfl
  have c1 := hT3.cell 1 rfl
  have z0 := hZ3.cell 0 rfl
  have z1 := hZ3.cell 1 rfl
  have f0 := hZ3.free 0
  have f1 := hZ3.free 1
  clear her b2 HT2 HV2 HZ2 HB2 HW hT3
  by_cases he : er = 0
  · subst he
    go_wp2_with fail
    have s1 := Bx.set (Bx.set (w := w2) hZ3 0 (.slice oa1 n cap1) _ rfl) 1 (.int .i64 0) [.slice oa1 n cap1, .int .i64 0] rfl
    have e0 := s1.cell 0 rfl
    have e1 := s1.cell 1 rfl
    have t := (Turn.set (S := fun k => k = w.heap.size + 1 + 1) w2 (w.heap.size + 1 + 1) 0 (.slice oa1 n cap1) rfl).trans (Turn.set _ _ 1 (.int .i64 0) rfl)
    refine bodyPost_ret (v := .tuple #[.agg #[.slice oa1 n cap1, .int .i64 0], .int .i64 0]) (by simp [results, Tryz.results91, go_sem, e0, e1]) rfl ?_
    refine ⟨0, _, _, _, rfl, fun _ => ⟨HV3.out.turn t (fun _ g hg h => by have := HO.out g hg; omega), fun g hg => by have := HO.out g hg; omega⟩, fun _ => rfl, Turn.to HB3.out t HB3.out.size (fun k hk => by omega)⟩
  · have hd : (er == 0) = false := by simpa using he
    have hd2 : (er != 0) = true := by simpa using he
    go_wp2_with fail
    have s1 := Bx.set (Bx.set (w := w2) hZ3 0 (.slice none 0 0) _ rfl) 1 (.int .i64 0) [.slice none 0 0, .int .i64 0] rfl
    have e0 := s1.cell 0 rfl
    have e1 := s1.cell 1 rfl
    have t := (Turn.set (S := fun k => k = w.heap.size + 1 + 1) w2 (w.heap.size + 1 + 1) 0 (.slice none 0 0) rfl).trans (Turn.set _ _ 1 (.int .i64 0) rfl)
    refine bodyPost_ret (v := .tuple #[.agg #[.slice none 0 0, .int .i64 0], .int .i64 er]) (by simp [results, Tryz.results91, go_sem, e0, e1]) rfl ?_
    refine ⟨er, _, _, _, rfl, fun h => absurd h he, fun h => ?_, Turn.to HB3.out t HB3.out.size (fun k hk => by omega)⟩
    subst h
    exact HE.out (by simp)
end Go.Proofs.YtoichcickcgbgaaGreatDoor
