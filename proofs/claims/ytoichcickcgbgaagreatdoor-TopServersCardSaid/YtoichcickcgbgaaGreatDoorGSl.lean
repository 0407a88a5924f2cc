/-
  Two slots of an empty disk: New, Room, the iterator over a slot's sectors.
-/
import Derived.Test.YtoichcickcgbgaaGreatDoorGGtRa
import Derived.Test.YtoichcickcgbgaaGreatDoorGFmFk
import Derived.RangeFuncBound
import Derived.Shelf.Abstract
import Derived.Shelf.RegionOpen
import Derived.OwnWalkIn
import Derived.TacticsInMore
import Derived.LoopNIn
import Derived.LoopIn
import Derived.IntWalk
namespace Go.Proofs.YtoichcickcgbgaaGreatDoor
open Go.RowKit Disk
attribute [local go_sem] Oper.semAt_some
section
variable {w : World} {F : Nat → Prop} {b n : Nat} {S : List (List UInt8)} {O : List (Nat × List UInt8)} {r : Int}
/-- Two slots of nine sectors. -/
def Sb (w : World) (p b : Nat) (rd : Bool) (nw ls : Int) : Prop := Bx w p 185 [.pointer (some ⟨b, 0, none⟩), .int .i64 0, .int .i64 9, .bool rd, .int .u64 nw, .int .i64 ls]
set_option maxRecDepth 100000 in
theorem sl_new (h : Du w F b n S O r) (hn : 18 ≤ n) (hn2 : n ≤ 1024) :
    Calls Tryz.prog 70 #[.pointer (some ⟨b, 0, none⟩), .int .i64 0, .int .i64 9] w fun e w' => e = .returned (.pointer (some ⟨w.heap.size, 0, none⟩)) ∧ Sb w' w.heap.size b false 0 (-1) ∧ Below w.heap.size w w' := by
  have HD := Lib.hid h
  clear h
  have h1 : decide ((0 : Int) > (n : Int) - 18) = false := by simp; omega
  have h2 : decide ((n : Int) - 18 < 0) = false := by simp; omega
  go_enter Tryz.func70, Tryz.ntmps70
  go_wp2_with (go_at_call 72; refine (du_len HD.out).mono ?_; rintro e w' ⟨rfl, rfl⟩)
  go_ret
  exact ⟨rfl, heap_alloc_new _ _, (Below.refl _ _).alloc (Nat.le_refl _) _⟩
theorem room_any {p : Nat} {rd : Bool} {nw ls : Int} (h : Sb w p b rd nw ls) : Calls Tryz.prog 74 #[.pointer (some ⟨p, 0, none⟩)] w fun e w' => e = .returned (.int .i64 387) ∧ w = w' := by
  have c2 := Bx.cell h 2 rfl
  go_enter Tryz.func74, Tryz.ntmps74
  go_wp2
  go_ret
  exact ⟨rfl, rfl⟩
set_option maxRecDepth 100000 in
theorem sectors_any (p : Nat) (i : Int) (w : World) : Calls Tryz.prog 106 #[.pointer (some ⟨p, 0, none⟩), .int .i64 i] w fun e w' => e = .returned (.func (.func 153) #[] #[.pointer (some ⟨w.heap.size, 0, none⟩), .pointer (some ⟨w.heap.size + 1, 0, none⟩)]) ∧
    Bx w' w.heap.size 124 [.pointer (some ⟨p, 0, none⟩)] ∧ Bx w' (w.heap.size + 1) 3 [.int .i64 i] ∧ Below w.heap.size w w' ∧ w'.heap.size = w.heap.size + 2 := by
  go_enter Tryz.func106, Tryz.ntmps106
  go_wp2
  go_ret
  exact ⟨rfl, (Bx.new _ [.pointer (some ⟨p, 0, none⟩)] 124).more _, (by have := Bx.new (w.alloc (.cells #[.pointer (some ⟨p, 0, none⟩)] 124)) [.int .i64 i] 3; rwa [World.size_alloc] at this), ((Below.refl _ _).alloc (Nat.le_refl _) _).alloc (by simp) _, by simp⟩
end
/-- What a round over sectors keeps. -/
def Kq (F : Nat → Prop) (p bp bq : Nat) (W W' : World) : Prop := W.heap.size ≤ W'.heap.size ∧ ∀ k, k < W.heap.size → (F k ∨ k = p ∨ k = bp ∨ k = bq) → W'.heap[k]? = W.heap[k]?
theorem Kq.trans {F : Nat → Prop} {p bp bq : Nat} {A B C : World} (h : Kq F p bp bq A B) (k : Kq F p bp bq B C) : Kq F p bp bq A C := ⟨Nat.le_trans h.1 k.1, fun i hi hs => (k.2 i (Nat.lt_of_lt_of_le hi h.1) hs).trans (h.2 i hi hs)⟩
/-- A sector of zeros, as it is read. -/
def Z0 : ByteArray := ⟨(List.replicate 64 (0 : UInt8)).toArray⟩
theorem Z0.zs : Zs Z0 := ⟨by simp [Z0, ByteArray.size], fun k h => (show (List.replicate 64 (0 : UInt8)).toArray[k]'(by simpa [Z0, ByteArray.size] using h) = 0 by rw [List.getElem_toArray, List.getElem_replicate])⟩
/-- What the iterator reads. -/
def Sq (p b bp bq : Nat) (i : Int) (x : World) : Prop := x.cell? ⟨bp, 0, none⟩ = some (.pointer (some ⟨p, 0, none⟩)) ∧ x.cell? ⟨p, 0, none⟩ = some (.pointer (some ⟨b, 0, none⟩)) ∧ x.cell? ⟨p, 1, none⟩ = some (.int .i64 0) ∧ x.cell? ⟨p, 2, none⟩ = some (.int .i64 9) ∧ x.cell? ⟨bq, 0, none⟩ = some (.int .i64 i)
theorem Sq.keep {p b bp bq : Nat} {i : Int} {x y : World} (h : Sq p b bp bq i x) (e : ∀ k, k = p ∨ k = bp ∨ k = bq → y.heap[k]? = x.heap[k]?) : Sq p b bp bq i y :=
  ⟨(World.cell?_of_block (e bp (by simp))).trans h.1, (World.cell?_of_block (e p (by simp))).trans h.2.1, (World.cell?_of_block (e p (by simp))).trans h.2.2.1, (World.cell?_of_block (e p (by simp))).trans h.2.2.2.1, (World.cell?_of_block (e bq (by simp))).trans h.2.2.2.2⟩
theorem read_zs {W : World} {F : Nat → Prop} {b n : Nat} {r : Int} (h : Du W F b n (zs n) [] r) (k : Nat) (hk : k < n) (hr : r < 1000000) (v : Int) (hv : (k : Int) = v) :
    Calls Tryz.prog 154 #[.pointer (some ⟨b, 0, none⟩), .int .i64 v] W fun e w' => e = .returned (.tuple #[.string Z0, .int .i64 0]) ∧ Du w' F b n (zs n) [] (r + 1) ∧ Turn F W w' := by
  subst hv
  exact du_read h k hk hr Z0 (by simp [Z0, zs, hk])
set_option maxRecDepth 100000 in
set_option maxHeartbeats 2000000 in
theorem seq_0 (nn : Nat) {w0 : World} {F : Nat → Prop} {p b bp bq n : Nat} {r : Int} (hs : Sq p b bp bq 0 w0) (hlt : p < w0.heap.size ∧ bp < w0.heap.size ∧ bq < w0.heap.size) (hD : Du w0 F b n (zs n) [] r) (hF : ¬ F p ∧ ¬ F bp ∧ ¬ F bq) (hn : 18 ≤ n) (hr : r + 9 ≤ 1000000) :
    SeqT nn Tryz.prog 153 #[.pointer (some ⟨bp, 0, none⟩), .pointer (some ⟨bq, 0, none⟩)] (fun _ : Unit => #[.string Z0, .int .i64 0]) F (Kq F p bp bq) (fun pre _ => pre.length < 9) (fun xs W => xs.length = 9 ∧ Du W F b n (zs n) [] (r + 9)) (fun _ _ => True) w0 := by
  intro l J Jx W hK hJ hJx hY h0
  dsimp only at hY
  have hs' := hs.keep (y := W) (fun k hk => hK.2 k (by rcases hk with rfl | rfl | rfl <;> first | exact hlt.1 | exact hlt.2.1 | exact hlt.2.2) (.inr hk))
  have hD' := hD.keep (w' := W) (fun k hk hf => hK.2 k hk (.inl hf))
  have hlt' : p < W.heap.size ∧ bp < W.heap.size ∧ bq < W.heap.size := ⟨Nat.lt_of_lt_of_le hlt.1 hK.1, Nat.lt_of_lt_of_le hlt.2.1 hK.1, Nat.lt_of_lt_of_le hlt.2.2 hK.1⟩
  have HY := Lib.hid hY
  have HJ := Lib.hid hJ
  have HF := Lib.hid hF
  clear hs hD hK hlt hY hJ hF hJx
  obtain ⟨d1, d2, d3, d4, d5⟩ := id hs'
  have HS' := Lib.hid hs'
  clear hs'
  refine callsIn_of_wp Tryz.func153 rfl trivial ?_ rfl
  simp only [Tryz.ntmps153, List.size_toArray, List.length_cons, List.length_nil, Nat.reduceAdd, Nat.reduceSub, Array.replicate_succ, Array.replicate_zero, List.push_toArray, List.append_toArray, List.nil_append, List.cons_append]
  gi_wp2
  gi_loopw [9] (fun i wr => ∃ (j : Nat) (pre : List Unit), j ≤ 9 ∧ i = .int .i64 j ∧ Hid (pre.length = j) ∧ Hid (J pre wr) ∧ Hid (Sq p b bp bq 0 wr) ∧ Hid (Du wr F b n (zs n) [] (r + j)) ∧ Hid (p < wr.heap.size ∧ bp < wr.heap.size ∧ bq < wr.heap.size)) (fun i _ => 9 - (intOf i).toNat)
  case atStart => exact ⟨0, [], by omega, rfl, rfl, h0, HS', by show Du _ _ _ _ _ _ _; simpa using hD', hlt'⟩
  case round =>
    clear d1 d2 d3 d4 d5 hD' hlt'
    obtain ⟨j, pre, hj, rfl, hp, hJr, hSr, hDr, hl⟩ := hrel
    by_cases hlt : j < 9
    · have hdj : decide ((j : Int) < 9) = true := by simp; omega
      obtain ⟨d1, d2, d3, d4, d5⟩ := id hSr.out
      gi_wp2
      refine startW (S := Sq p b bp bq 0) (by kernel_rfl) (hSr.out.keep fun _ _ => rfl) (fun hHeld => ?_)
      clear d1 d2 d3 d4 d5
      refine takeW (fun _ => trivial) (by kernel_rfl) (i := 0) (oi := ⟨some 12, _, _, _, _, _⟩) (v := .func (.yield l) #[] #[]) rfl (by kernel_rfl) (by kernel_rfl) (by kernel_rfl) (fun _ _ _ h => h) (Or.inl ⟨by rfl, fun x hSw => by obtain ⟨d1, d2, d3, d4, d5⟩ := id hSw; (go_simp) <;> first | decide | exact IntWalk.i64_in _ (by omega)⟩) (by assumption) ?_
      try simp only [Act.put, pw]
      refine takeW (fun _ => trivial) (by kernel_rfl) (i := 1) (oi := ⟨some 13, _, _, _, _, _⟩) (v := .pointer (some ⟨p, 0, none⟩)) rfl (by kernel_rfl) (by kernel_rfl) (by kernel_rfl) (fun _ _ _ h => h) (Or.inl ⟨by rfl, fun x hSw => by obtain ⟨d1, d2, d3, d4, d5⟩ := id hSw; (go_simp) <;> first | decide | exact IntWalk.i64_in _ (by omega)⟩) (by assumption) ?_
      try simp only [Act.put, pw]
      refine takeW (fun _ => trivial) (by kernel_rfl) (i := 2) (oi := ⟨some 14, _, _, _, _, _⟩) (v := .pointer (some ⟨p, 0, none⟩)) rfl (by kernel_rfl) (by kernel_rfl) (by kernel_rfl) (fun _ _ _ h => h) (Or.inl ⟨by rfl, fun x hSw => by obtain ⟨d1, d2, d3, d4, d5⟩ := id hSw; (go_simp) <;> first | decide | exact IntWalk.i64_in _ (by omega)⟩) (by assumption) ?_
      try simp only [Act.put, pw]
      refine takeW (fun _ => trivial) (by kernel_rfl) (i := 3) (oi := ⟨some 15, _, _, _, _, _⟩) (v := .pointer (some ⟨p, 0, none⟩)) rfl (by kernel_rfl) (by kernel_rfl) (by kernel_rfl) (fun _ _ _ h => h) (Or.inl ⟨by rfl, fun x hSw => by obtain ⟨d1, d2, d3, d4, d5⟩ := id hSw; (go_simp) <;> first | decide | exact IntWalk.i64_in _ (by omega)⟩) (by assumption) ?_
      try simp only [Act.put, pw]
      refine takeW (fun _ => trivial) (by kernel_rfl) (i := 4) (oi := ⟨some 16, _, _, _, _, _⟩) (v := .pointer (some ⟨b, 0, none⟩)) rfl (by kernel_rfl) (by kernel_rfl) (by kernel_rfl) (fun _ _ _ h => h) (Or.inl ⟨by rfl, fun x hSw => by obtain ⟨d1, d2, d3, d4, d5⟩ := id hSw; (go_simp) <;> first | decide | exact IntWalk.i64_in _ (by omega)⟩) (by assumption) ?_
      try simp only [Act.put, pw]
      refine takeW (fun _ => trivial) (by kernel_rfl) (i := 5) (oi := ⟨some 17, _, _, _, _, _⟩) (v := .pointer (some ⟨p, 0, none⟩)) rfl (by kernel_rfl) (by kernel_rfl) (by kernel_rfl) (fun _ _ _ h => h) (Or.inl ⟨by rfl, fun x hSw => by obtain ⟨d1, d2, d3, d4, d5⟩ := id hSw; (go_simp) <;> first | decide | exact IntWalk.i64_in _ (by omega)⟩) (by assumption) ?_
      try simp only [Act.put, pw]
      refine takeW (fun _ => trivial) (by kernel_rfl) (i := 6) (oi := ⟨some 18, _, _, _, _, _⟩) (v := .pointer (some ⟨p, 0, none⟩)) rfl (by kernel_rfl) (by kernel_rfl) (by kernel_rfl) (fun _ _ _ h => h) (Or.inl ⟨by rfl, fun x hSw => by obtain ⟨d1, d2, d3, d4, d5⟩ := id hSw; (go_simp) <;> first | decide | exact IntWalk.i64_in _ (by omega)⟩) (by assumption) ?_
      try simp only [Act.put, pw]
      refine takeW (fun _ => trivial) (by kernel_rfl) (i := 7) (oi := ⟨some 19, _, _, _, _, _⟩) (v := .pointer (some ⟨p, 1, none⟩)) rfl (by kernel_rfl) (by kernel_rfl) (by kernel_rfl) (fun _ _ _ h => h) (Or.inl ⟨by rfl, fun x hSw => by obtain ⟨d1, d2, d3, d4, d5⟩ := id hSw; (go_simp) <;> first | decide | exact IntWalk.i64_in _ (by omega)⟩) (by assumption) ?_
      try simp only [Act.put, pw]
      refine takeW (fun _ => trivial) (by kernel_rfl) (i := 8) (oi := ⟨some 20, _, _, _, _, _⟩) (v := .int .i64 0) rfl (by kernel_rfl) (by kernel_rfl) (by kernel_rfl) (fun _ _ _ h => h) (Or.inl ⟨by rfl, fun x hSw => by obtain ⟨d1, d2, d3, d4, d5⟩ := id hSw; (go_simp) <;> first | decide | exact IntWalk.i64_in _ (by omega)⟩) (by assumption) ?_
      try simp only [Act.put, pw]
      refine takeW (fun _ => trivial) (by kernel_rfl) (i := 9) (oi := ⟨some 21, _, _, _, _, _⟩) (v := .int .i64 0) rfl (by kernel_rfl) (by kernel_rfl) (by kernel_rfl) (fun _ _ _ h => h) (Or.inl ⟨by rfl, fun x hSw => by obtain ⟨d1, d2, d3, d4, d5⟩ := id hSw; (go_simp) <;> first | decide | exact IntWalk.i64_in _ (by omega)⟩) (by assumption) ?_
      try simp only [Act.put, pw]
      refine takeW (fun _ => trivial) (by kernel_rfl) (i := 10) (oi := ⟨some 22, _, _, _, _, _⟩) (v := .pointer (some ⟨p, 0, none⟩)) rfl (by kernel_rfl) (by kernel_rfl) (by kernel_rfl) (fun _ _ _ h => h) (Or.inl ⟨by rfl, fun x hSw => by obtain ⟨d1, d2, d3, d4, d5⟩ := id hSw; (go_simp) <;> first | decide | exact IntWalk.i64_in _ (by omega)⟩) (by assumption) ?_
      try simp only [Act.put, pw]
      refine takeW (fun _ => trivial) (by kernel_rfl) (i := 11) (oi := ⟨some 23, _, _, _, _, _⟩) (v := .pointer (some ⟨p, 0, none⟩)) rfl (by kernel_rfl) (by kernel_rfl) (by kernel_rfl) (fun _ _ _ h => h) (Or.inl ⟨by rfl, fun x hSw => by obtain ⟨d1, d2, d3, d4, d5⟩ := id hSw; (go_simp) <;> first | decide | exact IntWalk.i64_in _ (by omega)⟩) (by assumption) ?_
      try simp only [Act.put, pw]
      refine takeW (fun _ => trivial) (by kernel_rfl) (i := 12) (oi := ⟨some 24, _, _, _, _, _⟩) (v := .pointer (some ⟨p, 2, none⟩)) rfl (by kernel_rfl) (by kernel_rfl) (by kernel_rfl) (fun _ _ _ h => h) (Or.inl ⟨by rfl, fun x hSw => by obtain ⟨d1, d2, d3, d4, d5⟩ := id hSw; (go_simp) <;> first | decide | exact IntWalk.i64_in _ (by omega)⟩) (by assumption) ?_
      try simp only [Act.put, pw]
      refine takeW (fun _ => trivial) (by kernel_rfl) (i := 13) (oi := ⟨some 25, _, _, _, _, _⟩) (v := .int .i64 9) rfl (by kernel_rfl) (by kernel_rfl) (by kernel_rfl) (fun _ _ _ h => h) (Or.inl ⟨by rfl, fun x hSw => by obtain ⟨d1, d2, d3, d4, d5⟩ := id hSw; (go_simp) <;> first | decide | exact IntWalk.i64_in _ (by omega)⟩) (by assumption) ?_
      try simp only [Act.put, pw]
      refine takeW (fun _ => trivial) (by kernel_rfl) (i := 14) (oi := ⟨some 26, _, _, _, _, _⟩) (v := .int .i64 0) rfl (by kernel_rfl) (by kernel_rfl) (by kernel_rfl) (fun _ _ _ h => h) (Or.inl ⟨by rfl, fun x hSw => by obtain ⟨d1, d2, d3, d4, d5⟩ := id hSw; (go_simp) <;> first | decide | exact IntWalk.i64_in _ (by omega)⟩) (by assumption) ?_
      try simp only [Act.put, pw]
      refine takeW (fun _ => trivial) (by kernel_rfl) (i := 15) (oi := ⟨some 27, _, _, _, _, _⟩) (v := .int .i64 0) rfl (by kernel_rfl) (by kernel_rfl) (by kernel_rfl) (fun _ _ _ h => h) (Or.inl ⟨by rfl, fun x hSw => by obtain ⟨d1, d2, d3, d4, d5⟩ := id hSw; (go_simp) <;> first | decide | exact IntWalk.i64_in _ (by omega)⟩) (by assumption) ?_
      try simp only [Act.put, pw]
      refine takeW (fun _ => trivial) (by kernel_rfl) (i := 16) (oi := ⟨some 28, _, _, _, _, _⟩) (v := .int .i64 (j : Int)) rfl (by kernel_rfl) (by kernel_rfl) (by kernel_rfl) (fun _ _ _ h => h) (Or.inl ⟨by rfl, fun x hSw => by obtain ⟨d1, d2, d3, d4, d5⟩ := id hSw; (go_simp) <;> first | decide | exact IntWalk.i64_in _ (by omega)⟩) (by assumption) ?_
      try simp only [Act.put, pw]
      refine takeW (fun _ => trivial) (by kernel_rfl) (i := 17) (oi := ⟨some 29, _, _, _, _, _⟩) (v := .int .i64 (j : Int)) rfl (by kernel_rfl) (by kernel_rfl) (by kernel_rfl) (fun _ _ _ h => h) (Or.inl ⟨by rfl, fun x hSw => by obtain ⟨d1, d2, d3, d4, d5⟩ := id hSw; (go_simp) <;> first | decide | exact IntWalk.i64_in _ (by omega)⟩) (by assumption) ?_
      try simp only [Act.put, pw]
      refine oneW (i := 18) (by kernel_rfl) rfl (fun K hK => ?_)
      go_simp
      refine ⟨trivial, fun h => (by simp [Fence.wide] at h), (callsIn_wide.2 (read_zs (W := wr.drew) (hDr.out.keep fun _ _ _ => rfl) (0 + j) (by omega) (by omega) _ (by omega))).mono ?_⟩
      rintro e w2 ⟨rfl, hD2, hT2⟩
      have hS2 : Sq p b bp bq 0 w2 := hSr.out.keep fun k hk => by
        have hkl : k < wr.heap.size := by rcases hk with rfl | rfl | rfl <;> first | exact hl.out.1 | exact hl.out.2.1 | exact hl.out.2.2
        have hkF : ¬ F k := by rcases hk with rfl | rfl | rfl <;> first | exact HF.out.1 | exact HF.out.2.1 | exact HF.out.2.2
        exact hT2.block k hkl hkF
      have hJ2 : Hid (J pre w2) := HJ.out pre wr w2 hJr.out ⟨hT2.os, hT2.tape, hT2.output, hT2.size, hT2.block⟩
      have hl2 : Hid (p < w2.heap.size ∧ bp < w2.heap.size ∧ bq < w2.heap.size) := ⟨Nat.lt_of_lt_of_le hl.out.1 hT2.size, Nat.lt_of_lt_of_le hl.out.2.1 hT2.size, Nat.lt_of_lt_of_le hl.out.2.2 hT2.size⟩
      have HD2 := Lib.hid hD2
      have HS2 := Lib.hid hS2
      refine hK.out _ _ hS2 (fun hHeld => ?_)
      clear hK K hD2 hT2 hHeld hS2
      have hS2 := HS2.out
      try simp only [Act.put, pw]
      refine takeW (fun _ => trivial) (by kernel_rfl) (i := 19) (oi := ⟨some 31, _, _, _, _, _⟩) (v := .string Z0) rfl (by kernel_rfl) (by kernel_rfl) (by kernel_rfl) (fun _ _ _ h => h) (Or.inl ⟨by rfl, fun x hSw => by go_simp⟩) (by assumption) ?_
      try simp only [Act.put, pw]
      refine takeW (fun _ => trivial) (by kernel_rfl) (i := 20) (oi := ⟨some 32, _, _, _, _, _⟩) (v := .int .i64 0) rfl (by kernel_rfl) (by kernel_rfl) (by kernel_rfl) (fun _ _ _ h => h) (Or.inl ⟨by rfl, fun x hSw => by go_simp⟩) (by assumption) ?_
      try simp only [Act.put, pw]
      obtain ⟨fn, tmps, assign, body, hy, hR⟩ := HY.out pre () w2 hJ2.out (by rw [hp.out]; exact hlt)
      refine oneW (i := 21) (by kernel_rfl) rfl (fun K hK => ?_)
      go_simp
      refine ⟨fun h => (by simp [Fence.wide] at h), RoundIn.mono hR ?_⟩
      clear hR hy
      rintro e w3 (⟨rfl, hJ3, hk3⟩ | ⟨rfl, hJ3, hk3⟩)
      all_goals
        have hS3 : Sq p b bp bq 0 w3 := HS2.out.keep fun k hk => hk3.2 k (by rcases hk with rfl | rfl | rfl <;> first | exact hl2.out.1 | exact hl2.out.2.1 | exact hl2.out.2.2) (.inr hk)
        have HS3 := Lib.hid hS3
        have HD3 := Lib.hid (HD2.out.keep (w' := w3) fun k hk hf => hk3.2 k hk (.inl hf))
        have hl3 : Hid (p < w3.heap.size ∧ bp < w3.heap.size ∧ bq < w3.heap.size) := ⟨Nat.lt_of_lt_of_le hl2.out.1 hk3.1, Nat.lt_of_lt_of_le hl2.out.2.1 hk3.1, Nat.lt_of_lt_of_le hl2.out.2.2 hk3.1⟩
        refine hK.out _ _ hS3 (fun hHeld => ?_)
        clear hK K hHeld hk3 hS2
        try simp only [Act.put, pw]
      · refine takeW (fun _ => trivial) (by kernel_rfl) (i := 22) (oi := ⟨some 34, _, _, _, _, _⟩) (v := .bool false) rfl (by kernel_rfl) (by kernel_rfl) (by kernel_rfl) (fun _ _ _ h => h) (Or.inl ⟨by rfl, fun x hSw => by go_simp⟩) (by assumption) ?_
        try simp only [Act.put, pw]
        refine endW (by kernel_rfl) ?_ _
        clear hS3
        gi_wp2
        go_roundw
        case rel => exact ⟨j + 1, pre ++ [()], by omega, by go_num, (by show _ = _; rw [List.length_append, hp.out]; rfl), hJ3, HS3, (by show Du _ _ _ _ _ _ _; have := HD3.out; rwa [show r + (j : Int) + 1 = r + ((j + 1 : Nat) : Int) by omega] at this), hl3⟩
        case measure => simp [intOf]; omega
      · refine takeW (fun _ => trivial) (by kernel_rfl) (i := 22) (oi := ⟨some 34, _, _, _, _, _⟩) (v := .bool true) rfl (by kernel_rfl) (by kernel_rfl) (by kernel_rfl) (fun _ _ _ h => h) (Or.inl ⟨by rfl, fun x hSw => by go_simp⟩) (by assumption) ?_
        try simp only [Act.put, pw]
        refine endW (by kernel_rfl) ?_ _
        clear hS3
        gi_wp2
        refine bodyPost_ret (results_none rfl _ _ _) rfl ?_
        exact ⟨⟨_, rfl⟩, .inr ⟨_, trivial, hJ3⟩⟩
    · obtain rfl : j = 9 := by omega
      gi_wp2
      go_end0
      exact ⟨⟨_, rfl⟩, .inl ⟨pre, ⟨hp.out, hDr.out⟩, hJr.out⟩⟩
set_option maxRecDepth 100000 in
set_option maxHeartbeats 2000000 in
theorem seq_1 (nn : Nat) {w0 : World} {F : Nat → Prop} {p b bp bq n : Nat} {r : Int} (hs : Sq p b bp bq 1 w0) (hlt : p < w0.heap.size ∧ bp < w0.heap.size ∧ bq < w0.heap.size) (hD : Du w0 F b n (zs n) [] r) (hF : ¬ F p ∧ ¬ F bp ∧ ¬ F bq) (hn : 18 ≤ n) (hr : r + 9 ≤ 1000000) :
    SeqT nn Tryz.prog 153 #[.pointer (some ⟨bp, 0, none⟩), .pointer (some ⟨bq, 0, none⟩)] (fun _ : Unit => #[.string Z0, .int .i64 0]) F (Kq F p bp bq) (fun pre _ => pre.length < 9) (fun xs W => xs.length = 9 ∧ Du W F b n (zs n) [] (r + 9)) (fun _ _ => True) w0 := by
  intro l J Jx W hK hJ hJx hY h0
  dsimp only at hY
  have hs' := hs.keep (y := W) (fun k hk => hK.2 k (by rcases hk with rfl | rfl | rfl <;> first | exact hlt.1 | exact hlt.2.1 | exact hlt.2.2) (.inr hk))
  have hD' := hD.keep (w' := W) (fun k hk hf => hK.2 k hk (.inl hf))
  have hlt' : p < W.heap.size ∧ bp < W.heap.size ∧ bq < W.heap.size := ⟨Nat.lt_of_lt_of_le hlt.1 hK.1, Nat.lt_of_lt_of_le hlt.2.1 hK.1, Nat.lt_of_lt_of_le hlt.2.2 hK.1⟩
  have HY := Lib.hid hY
  have HJ := Lib.hid hJ
  have HF := Lib.hid hF
  clear hs hD hK hlt hY hJ hF hJx
  obtain ⟨d1, d2, d3, d4, d5⟩ := id hs'
  have HS' := Lib.hid hs'
  clear hs'
  refine callsIn_of_wp Tryz.func153 rfl trivial ?_ rfl
  simp only [Tryz.ntmps153, List.size_toArray, List.length_cons, List.length_nil, Nat.reduceAdd, Nat.reduceSub, Array.replicate_succ, Array.replicate_zero, List.push_toArray, List.append_toArray, List.nil_append, List.cons_append]
  gi_wp2
  gi_loopw [9] (fun i wr => ∃ (j : Nat) (pre : List Unit), j ≤ 9 ∧ i = .int .i64 j ∧ Hid (pre.length = j) ∧ Hid (J pre wr) ∧ Hid (Sq p b bp bq 1 wr) ∧ Hid (Du wr F b n (zs n) [] (r + j)) ∧ Hid (p < wr.heap.size ∧ bp < wr.heap.size ∧ bq < wr.heap.size)) (fun i _ => 9 - (intOf i).toNat)
  case atStart => exact ⟨0, [], by omega, rfl, rfl, h0, HS', by show Du _ _ _ _ _ _ _; simpa using hD', hlt'⟩
  case round =>
    clear d1 d2 d3 d4 d5 hD' hlt'
    obtain ⟨j, pre, hj, rfl, hp, hJr, hSr, hDr, hl⟩ := hrel
    by_cases hlt : j < 9
    · have hdj : decide ((j : Int) < 9) = true := by simp; omega
      obtain ⟨d1, d2, d3, d4, d5⟩ := id hSr.out
      gi_wp2
      refine startW (S := Sq p b bp bq 1) (by kernel_rfl) (hSr.out.keep fun _ _ => rfl) (fun hHeld => ?_)
      clear d1 d2 d3 d4 d5
      refine takeW (fun _ => trivial) (by kernel_rfl) (i := 0) (oi := ⟨some 12, _, _, _, _, _⟩) (v := .func (.yield l) #[] #[]) rfl (by kernel_rfl) (by kernel_rfl) (by kernel_rfl) (fun _ _ _ h => h) (Or.inl ⟨by rfl, fun x hSw => by obtain ⟨d1, d2, d3, d4, d5⟩ := id hSw; (go_simp) <;> first | decide | exact IntWalk.i64_in _ (by omega)⟩) (by assumption) ?_
      try simp only [Act.put, pw]
      refine takeW (fun _ => trivial) (by kernel_rfl) (i := 1) (oi := ⟨some 13, _, _, _, _, _⟩) (v := .pointer (some ⟨p, 0, none⟩)) rfl (by kernel_rfl) (by kernel_rfl) (by kernel_rfl) (fun _ _ _ h => h) (Or.inl ⟨by rfl, fun x hSw => by obtain ⟨d1, d2, d3, d4, d5⟩ := id hSw; (go_simp) <;> first | decide | exact IntWalk.i64_in _ (by omega)⟩) (by assumption) ?_
      try simp only [Act.put, pw]
      refine takeW (fun _ => trivial) (by kernel_rfl) (i := 2) (oi := ⟨some 14, _, _, _, _, _⟩) (v := .pointer (some ⟨p, 0, none⟩)) rfl (by kernel_rfl) (by kernel_rfl) (by kernel_rfl) (fun _ _ _ h => h) (Or.inl ⟨by rfl, fun x hSw => by obtain ⟨d1, d2, d3, d4, d5⟩ := id hSw; (go_simp) <;> first | decide | exact IntWalk.i64_in _ (by omega)⟩) (by assumption) ?_
      try simp only [Act.put, pw]
      refine takeW (fun _ => trivial) (by kernel_rfl) (i := 3) (oi := ⟨some 15, _, _, _, _, _⟩) (v := .pointer (some ⟨p, 0, none⟩)) rfl (by kernel_rfl) (by kernel_rfl) (by kernel_rfl) (fun _ _ _ h => h) (Or.inl ⟨by rfl, fun x hSw => by obtain ⟨d1, d2, d3, d4, d5⟩ := id hSw; (go_simp) <;> first | decide | exact IntWalk.i64_in _ (by omega)⟩) (by assumption) ?_
      try simp only [Act.put, pw]
      refine takeW (fun _ => trivial) (by kernel_rfl) (i := 4) (oi := ⟨some 16, _, _, _, _, _⟩) (v := .pointer (some ⟨b, 0, none⟩)) rfl (by kernel_rfl) (by kernel_rfl) (by kernel_rfl) (fun _ _ _ h => h) (Or.inl ⟨by rfl, fun x hSw => by obtain ⟨d1, d2, d3, d4, d5⟩ := id hSw; (go_simp) <;> first | decide | exact IntWalk.i64_in _ (by omega)⟩) (by assumption) ?_
      try simp only [Act.put, pw]
      refine takeW (fun _ => trivial) (by kernel_rfl) (i := 5) (oi := ⟨some 17, _, _, _, _, _⟩) (v := .pointer (some ⟨p, 0, none⟩)) rfl (by kernel_rfl) (by kernel_rfl) (by kernel_rfl) (fun _ _ _ h => h) (Or.inl ⟨by rfl, fun x hSw => by obtain ⟨d1, d2, d3, d4, d5⟩ := id hSw; (go_simp) <;> first | decide | exact IntWalk.i64_in _ (by omega)⟩) (by assumption) ?_
      try simp only [Act.put, pw]
      refine takeW (fun _ => trivial) (by kernel_rfl) (i := 6) (oi := ⟨some 18, _, _, _, _, _⟩) (v := .pointer (some ⟨p, 0, none⟩)) rfl (by kernel_rfl) (by kernel_rfl) (by kernel_rfl) (fun _ _ _ h => h) (Or.inl ⟨by rfl, fun x hSw => by obtain ⟨d1, d2, d3, d4, d5⟩ := id hSw; (go_simp) <;> first | decide | exact IntWalk.i64_in _ (by omega)⟩) (by assumption) ?_
      try simp only [Act.put, pw]
      refine takeW (fun _ => trivial) (by kernel_rfl) (i := 7) (oi := ⟨some 19, _, _, _, _, _⟩) (v := .pointer (some ⟨p, 1, none⟩)) rfl (by kernel_rfl) (by kernel_rfl) (by kernel_rfl) (fun _ _ _ h => h) (Or.inl ⟨by rfl, fun x hSw => by obtain ⟨d1, d2, d3, d4, d5⟩ := id hSw; (go_simp) <;> first | decide | exact IntWalk.i64_in _ (by omega)⟩) (by assumption) ?_
      try simp only [Act.put, pw]
      refine takeW (fun _ => trivial) (by kernel_rfl) (i := 8) (oi := ⟨some 20, _, _, _, _, _⟩) (v := .int .i64 0) rfl (by kernel_rfl) (by kernel_rfl) (by kernel_rfl) (fun _ _ _ h => h) (Or.inl ⟨by rfl, fun x hSw => by obtain ⟨d1, d2, d3, d4, d5⟩ := id hSw; (go_simp) <;> first | decide | exact IntWalk.i64_in _ (by omega)⟩) (by assumption) ?_
      try simp only [Act.put, pw]
      refine takeW (fun _ => trivial) (by kernel_rfl) (i := 9) (oi := ⟨some 21, _, _, _, _, _⟩) (v := .int .i64 1) rfl (by kernel_rfl) (by kernel_rfl) (by kernel_rfl) (fun _ _ _ h => h) (Or.inl ⟨by rfl, fun x hSw => by obtain ⟨d1, d2, d3, d4, d5⟩ := id hSw; (go_simp) <;> first | decide | exact IntWalk.i64_in _ (by omega)⟩) (by assumption) ?_
      try simp only [Act.put, pw]
      refine takeW (fun _ => trivial) (by kernel_rfl) (i := 10) (oi := ⟨some 22, _, _, _, _, _⟩) (v := .pointer (some ⟨p, 0, none⟩)) rfl (by kernel_rfl) (by kernel_rfl) (by kernel_rfl) (fun _ _ _ h => h) (Or.inl ⟨by rfl, fun x hSw => by obtain ⟨d1, d2, d3, d4, d5⟩ := id hSw; (go_simp) <;> first | decide | exact IntWalk.i64_in _ (by omega)⟩) (by assumption) ?_
      try simp only [Act.put, pw]
      refine takeW (fun _ => trivial) (by kernel_rfl) (i := 11) (oi := ⟨some 23, _, _, _, _, _⟩) (v := .pointer (some ⟨p, 0, none⟩)) rfl (by kernel_rfl) (by kernel_rfl) (by kernel_rfl) (fun _ _ _ h => h) (Or.inl ⟨by rfl, fun x hSw => by obtain ⟨d1, d2, d3, d4, d5⟩ := id hSw; (go_simp) <;> first | decide | exact IntWalk.i64_in _ (by omega)⟩) (by assumption) ?_
      try simp only [Act.put, pw]
      refine takeW (fun _ => trivial) (by kernel_rfl) (i := 12) (oi := ⟨some 24, _, _, _, _, _⟩) (v := .pointer (some ⟨p, 2, none⟩)) rfl (by kernel_rfl) (by kernel_rfl) (by kernel_rfl) (fun _ _ _ h => h) (Or.inl ⟨by rfl, fun x hSw => by obtain ⟨d1, d2, d3, d4, d5⟩ := id hSw; (go_simp) <;> first | decide | exact IntWalk.i64_in _ (by omega)⟩) (by assumption) ?_
      try simp only [Act.put, pw]
      refine takeW (fun _ => trivial) (by kernel_rfl) (i := 13) (oi := ⟨some 25, _, _, _, _, _⟩) (v := .int .i64 9) rfl (by kernel_rfl) (by kernel_rfl) (by kernel_rfl) (fun _ _ _ h => h) (Or.inl ⟨by rfl, fun x hSw => by obtain ⟨d1, d2, d3, d4, d5⟩ := id hSw; (go_simp) <;> first | decide | exact IntWalk.i64_in _ (by omega)⟩) (by assumption) ?_
      try simp only [Act.put, pw]
      refine takeW (fun _ => trivial) (by kernel_rfl) (i := 14) (oi := ⟨some 26, _, _, _, _, _⟩) (v := .int .i64 9) rfl (by kernel_rfl) (by kernel_rfl) (by kernel_rfl) (fun _ _ _ h => h) (Or.inl ⟨by rfl, fun x hSw => by obtain ⟨d1, d2, d3, d4, d5⟩ := id hSw; (go_simp) <;> first | decide | exact IntWalk.i64_in _ (by omega)⟩) (by assumption) ?_
      try simp only [Act.put, pw]
      refine takeW (fun _ => trivial) (by kernel_rfl) (i := 15) (oi := ⟨some 27, _, _, _, _, _⟩) (v := .int .i64 9) rfl (by kernel_rfl) (by kernel_rfl) (by kernel_rfl) (fun _ _ _ h => h) (Or.inl ⟨by rfl, fun x hSw => by obtain ⟨d1, d2, d3, d4, d5⟩ := id hSw; (go_simp) <;> first | decide | exact IntWalk.i64_in _ (by omega)⟩) (by assumption) ?_
      try simp only [Act.put, pw]
      refine takeW (fun _ => trivial) (by kernel_rfl) (i := 16) (oi := ⟨some 28, _, _, _, _, _⟩) (v := .int .i64 (j : Int)) rfl (by kernel_rfl) (by kernel_rfl) (by kernel_rfl) (fun _ _ _ h => h) (Or.inl ⟨by rfl, fun x hSw => by obtain ⟨d1, d2, d3, d4, d5⟩ := id hSw; (go_simp) <;> first | decide | exact IntWalk.i64_in _ (by omega)⟩) (by assumption) ?_
      try simp only [Act.put, pw]
      refine takeW (fun _ => trivial) (by kernel_rfl) (i := 17) (oi := ⟨some 29, _, _, _, _, _⟩) (v := .int .i64 (9 + (j : Int))) rfl (by kernel_rfl) (by kernel_rfl) (by kernel_rfl) (fun _ _ _ h => h) (Or.inl ⟨by rfl, fun x hSw => by obtain ⟨d1, d2, d3, d4, d5⟩ := id hSw; (go_simp) <;> first | decide | exact IntWalk.i64_in _ (by omega)⟩) (by assumption) ?_
      try simp only [Act.put, pw]
      refine oneW (i := 18) (by kernel_rfl) rfl (fun K hK => ?_)
      go_simp
      refine ⟨trivial, fun h => (by simp [Fence.wide] at h), (callsIn_wide.2 (read_zs (W := wr.drew) (hDr.out.keep fun _ _ _ => rfl) (9 + j) (by omega) (by omega) _ (by omega))).mono ?_⟩
      rintro e w2 ⟨rfl, hD2, hT2⟩
      have hS2 : Sq p b bp bq 1 w2 := hSr.out.keep fun k hk => by
        have hkl : k < wr.heap.size := by rcases hk with rfl | rfl | rfl <;> first | exact hl.out.1 | exact hl.out.2.1 | exact hl.out.2.2
        have hkF : ¬ F k := by rcases hk with rfl | rfl | rfl <;> first | exact HF.out.1 | exact HF.out.2.1 | exact HF.out.2.2
        exact hT2.block k hkl hkF
      have hJ2 : Hid (J pre w2) := HJ.out pre wr w2 hJr.out ⟨hT2.os, hT2.tape, hT2.output, hT2.size, hT2.block⟩
      have hl2 : Hid (p < w2.heap.size ∧ bp < w2.heap.size ∧ bq < w2.heap.size) := ⟨Nat.lt_of_lt_of_le hl.out.1 hT2.size, Nat.lt_of_lt_of_le hl.out.2.1 hT2.size, Nat.lt_of_lt_of_le hl.out.2.2 hT2.size⟩
      have HD2 := Lib.hid hD2
      have HS2 := Lib.hid hS2
      refine hK.out _ _ hS2 (fun hHeld => ?_)
      clear hK K hD2 hT2 hHeld hS2
      have hS2 := HS2.out
      try simp only [Act.put, pw]
      refine takeW (fun _ => trivial) (by kernel_rfl) (i := 19) (oi := ⟨some 31, _, _, _, _, _⟩) (v := .string Z0) rfl (by kernel_rfl) (by kernel_rfl) (by kernel_rfl) (fun _ _ _ h => h) (Or.inl ⟨by rfl, fun x hSw => by go_simp⟩) (by assumption) ?_
      try simp only [Act.put, pw]
      refine takeW (fun _ => trivial) (by kernel_rfl) (i := 20) (oi := ⟨some 32, _, _, _, _, _⟩) (v := .int .i64 0) rfl (by kernel_rfl) (by kernel_rfl) (by kernel_rfl) (fun _ _ _ h => h) (Or.inl ⟨by rfl, fun x hSw => by go_simp⟩) (by assumption) ?_
      try simp only [Act.put, pw]
      obtain ⟨fn, tmps, assign, body, hy, hR⟩ := HY.out pre () w2 hJ2.out (by rw [hp.out]; exact hlt)
      refine oneW (i := 21) (by kernel_rfl) rfl (fun K hK => ?_)
      go_simp
      refine ⟨fun h => (by simp [Fence.wide] at h), RoundIn.mono hR ?_⟩
      clear hR hy
      rintro e w3 (⟨rfl, hJ3, hk3⟩ | ⟨rfl, hJ3, hk3⟩)
      all_goals
        have hS3 : Sq p b bp bq 1 w3 := HS2.out.keep fun k hk => hk3.2 k (by rcases hk with rfl | rfl | rfl <;> first | exact hl2.out.1 | exact hl2.out.2.1 | exact hl2.out.2.2) (.inr hk)
        have HS3 := Lib.hid hS3
        have HD3 := Lib.hid (HD2.out.keep (w' := w3) fun k hk hf => hk3.2 k hk (.inl hf))
        have hl3 : Hid (p < w3.heap.size ∧ bp < w3.heap.size ∧ bq < w3.heap.size) := ⟨Nat.lt_of_lt_of_le hl2.out.1 hk3.1, Nat.lt_of_lt_of_le hl2.out.2.1 hk3.1, Nat.lt_of_lt_of_le hl2.out.2.2 hk3.1⟩
        refine hK.out _ _ hS3 (fun hHeld => ?_)
        clear hK K hHeld hk3 hS2
        try simp only [Act.put, pw]
      · refine takeW (fun _ => trivial) (by kernel_rfl) (i := 22) (oi := ⟨some 34, _, _, _, _, _⟩) (v := .bool false) rfl (by kernel_rfl) (by kernel_rfl) (by kernel_rfl) (fun _ _ _ h => h) (Or.inl ⟨by rfl, fun x hSw => by go_simp⟩) (by assumption) ?_
        try simp only [Act.put, pw]
        refine endW (by kernel_rfl) ?_ _
        clear hS3
        gi_wp2
        go_roundw
        case rel => exact ⟨j + 1, pre ++ [()], by omega, by go_num, (by show _ = _; rw [List.length_append, hp.out]; rfl), hJ3, HS3, (by show Du _ _ _ _ _ _ _; have := HD3.out; rwa [show r + (j : Int) + 1 = r + ((j + 1 : Nat) : Int) by omega] at this), hl3⟩
        case measure => simp [intOf]; omega
      · refine takeW (fun _ => trivial) (by kernel_rfl) (i := 22) (oi := ⟨some 34, _, _, _, _, _⟩) (v := .bool true) rfl (by kernel_rfl) (by kernel_rfl) (by kernel_rfl) (fun _ _ _ h => h) (Or.inl ⟨by rfl, fun x hSw => by go_simp⟩) (by assumption) ?_
        try simp only [Act.put, pw]
        refine endW (by kernel_rfl) ?_ _
        clear hS3
        gi_wp2
        refine bodyPost_ret (results_none rfl _ _ _) rfl ?_
        exact ⟨⟨_, rfl⟩, .inr ⟨_, trivial, hJ3⟩⟩
    · obtain rfl : j = 9 := by omega
      gi_wp2
      go_end0
      exact ⟨⟨_, rfl⟩, .inl ⟨pre, ⟨hp.out, hDr.out⟩, hJr.out⟩⟩
end Go.Proofs.YtoichcickcgbgaaGreatDoor
