/-
  The registry: made of an empty disk; its set; an op's bytes written.
  registry: an op is written, and done.
-/
import Derived.Test.YtoichcickcgbgaaGreatDoorGOb
import Derived.Test.YtoichcickcgbgaaGreatDoorGWaJa
import Derived.Test.YtoichcickcgbgaaGreatDoorGGoGn
namespace Go.Proofs.YtoichcickcgbgaaGreatDoor
open Go.RowKit Disk
attribute [local go_sem] Oper.semAt_some
set_option maxRecDepth 100000 in
set_option maxHeartbeats 1000000 in
theorem tbytes_nil (w : World) :
    Calls Tryz.prog 18 #[.agg #[.slice none 0 0, .int .i64 0]] w fun e w' => (∃ s : ByteArray, s.size ≤ 14 ∧ e = .returned (.tuple #[.string s, .int .i64 0])) ∧ Below w.heap.size w w' := by
  have bb := (Below.refl w.heap.size w).alloc (Nat.le_refl _) (.cells #[.slice none 0 0, .int .i64 0] 79)
  have R0 := Lib.hid (Bx.new w [.slice none 0 0, .int .i64 0] 79)
  have BB := Lib.hid bb
  have hz := bb.size
  have hz0 := World.size_alloc w (.cells #[.slice none 0 0, .int .i64 0] 79)
  clear bb
  go_enter Tryz.func18, Tryz.ntmps18
  go_wp2_with fail
  generalize w.alloc (.cells #[.slice none 0 0, .int .i64 0] 79) = w0 at *
  refine (tchk_0 _ none 0).mono ?_
  rintro e w1 ⟨rfl, b1⟩
  have R1 := Lib.hid (R0.out.below b1)
  have BB1 := Lib.hid (BB.out.trans (b1.mono hz))
  have hz1 := b1.size
  clear b1
  go_wp2_with fail
  have W2 := Lib.hid (Wq.new w1)
  have R2 := Lib.hid (R1.out.more (.cells #[.pointer none, .slice none 0 0] 111))
  have BB2 := Lib.hid (BB1.out.alloc (Nat.le_trans hz hz1) (.cells #[.pointer none, .slice none 0 0] 111))
  have hz2 := World.size_alloc w1 (.cells #[.pointer none, .slice none 0 0] 111)
  generalize w1.alloc (.cells #[.pointer none, .slice none 0 0] 111) = w2 at *
  have HT0 : Hid (Turn (fun k => k = w1.heap.size) w2 w2.drew) := (Turn.refl _ _).drew
  have HW0 : Hid (Wq (Upb (fun k => k = w1.heap.size) w2 w2.drew) w1.heap.size [] w2.drew) := (W2.out.keep fun _ _ _ => rfl).mono fun k hk => .inl hk
  have hnF : ¬ w.heap.size = w1.heap.size := by omega
  have KC : Hid (∀ y, Hid (Turn (fun k => k = w1.heap.size) w2 y) → (y.cell? ⟨w.heap.size, 0, none⟩ = some (.slice none 0 0) ∧ y.cell? ⟨w.heap.size, 1, none⟩ = some (.int .i64 0))) := fun y h => ⟨(R2.out.turn h.out hnF).cell 0 rfl, (R2.out.turn h.out hnF).cell 1 rfl⟩
  refine wp_region_held_drew (S := fun y => (y.cell? ⟨w.heap.size, 0, none⟩ = some (.slice none 0 0) ∧ y.cell? ⟨w.heap.size, 1, none⟩ = some (.int .i64 0)) ∧ Hid (Turn (fun k => k = w1.heap.size) w2 y)) (by kernel_rfl) (tkeep KC HT0) (fun hHeld => ?_)
  refine wtk 0 13 (.pointer (some ⟨w1.heap.size, 0, none⟩)) rfl (by kernel_rfl) (fun _ _ _ h => h) (by rfl) (fun x hSw => by obtain ⟨⟨d0, d1⟩, _⟩ := id hSw; (go_simp) <;> first | decide | simp) (by assumption) ?_
  try simp only [Act.put, pw]
  refine wtk 1 14 (.pointer (some ⟨w.heap.size, 1, none⟩)) rfl (by kernel_rfl) (fun _ _ _ h => h) (by rfl) (fun x hSw => by obtain ⟨⟨d0, d1⟩, _⟩ := id hSw; (go_simp) <;> first | decide | simp) (by assumption) ?_
  try simp only [Act.put, pw]
  refine wtk 2 15 (.int .i64 0) rfl (by kernel_rfl) (fun _ _ _ h => h) (by rfl) (fun x hSw => by obtain ⟨⟨d0, d1⟩, _⟩ := id hSw; (go_simp) <;> first | decide | simp) (by assumption) ?_
  try simp only [Act.put, pw]
  refine wtk 4 17 (.pointer (some ⟨w.heap.size, 0, none⟩)) rfl (by kernel_rfl) (fun _ _ _ h => h) (by rfl) (fun x hSw => by obtain ⟨⟨d0, d1⟩, _⟩ := id hSw; (go_simp) <;> first | decide | simp) (by assumption) ?_
  try simp only [Act.put, pw]
  refine wtk 5 18 (.slice none 0 0) rfl (by kernel_rfl) (fun _ _ _ h => h) (by rfl) (fun x hSw => by obtain ⟨⟨d0, d1⟩, _⟩ := id hSw; (go_simp) <;> first | decide | simp) (by assumption) ?_
  try simp only [Act.put, pw]
  refine wtk 6 19 (.int .i64 0) rfl (by kernel_rfl) (fun _ _ _ h => h) (by rfl) (fun x hSw => by obtain ⟨⟨d0, d1⟩, _⟩ := id hSw; (go_simp) <;> first | decide | simp) (by assumption) ?_
  try simp only [Act.put, pw]
  refine wpAnyH_ready (rs := [3]) (by kernel_rfl) (by simp) (AllReadyH.cons rfl (fun K hK => ?_) AllReadyH.nil)
  go_simp
  refine (qint_at (w := w2.drew) HW0.out (by decide) 0 (by omega) (by omega)).mono ?_
  rintro e y1 ⟨rfl, h1, t1⟩
  obtain ⟨h2, t2⟩ := qstep HT0.out h1 t1
  have HW1 := Lib.hid h2
  have HT1 := Lib.hid t2
  refine hK.out _ _ (tkeep KC HT1) (fun hHeld => ?_)
  clear hK K
  clear h1 t1 h2 t2
  try simp only [Act.put, pw]
  refine wpAnyH_ready (rs := [7]) (by kernel_rfl) (by simp) (AllReadyH.cons rfl (fun K hK => ?_) AllReadyH.nil)
  go_simp
  refine (qint_at (w := y1) HW1.out (by decide) 0 (by omega) (by omega)).mono ?_
  rintro e y2 ⟨rfl, h1, t1⟩
  obtain ⟨h2, t2⟩ := qstep HT1.out h1 t1
  have HW2 := Lib.hid h2
  have HT2 := Lib.hid t2
  refine hK.out _ _ (tkeep KC HT2) (fun hHeld => ?_)
  clear hK K
  clear h1 t1 h2 t2
  try simp only [Act.put, pw]
  refine wpAnyH_done (by kernel_rfl) ?_ _
  clear hHeld
  obtain ⟨d0, d1⟩ := KC.out _ HT2
  clear KC
  have hWt := Lib.hid (HW2.out.wt (B := w1.heap.size) fun k hk => by
    rcases hk with rfl | hk
    · exact Nat.le_refl _
    · have := hk.1; omega)
  have hne : [] ++ numB (0 : Int).toNat ++ numB (0 : Int).toNat ≠ [] := by simp [numB]
  go_wp2_with fail
  refine wp_loop_rounds 1 ?_
  rw [rounds_succ]
  go_wp2_with fail
  refine (wstr_any hWt.out hne).mono ?_
  rintro e y4 ⟨rfl, b4⟩
  go_wp2_with fail
  refine bodyPost_ret (v := .tuple #[.string ⟨([] ++ numB (0 : Int).toNat ++ numB (0 : Int).toNat).toArray⟩, .int .i64 0]) (by simp [results, Tryz.results18, go_sem]) rfl ⟨⟨_, ?_, rfl⟩, wbytes_end HT2.out BB2.out (Nat.le_trans hz hz1) (by omega) b4⟩
  simp [ByteArray.size, numB]
section
variable {w : World} {F G : Nat → Prop} {b n q j k : Nat} {r : Int} {v : Value}
theorem Jr.keep {w' : World} (h : Jr w G j n k r) (hs : w.heap.size ≤ w'.heap.size) (e : ∀ i, i < w.heap.size → G i → w'.heap[i]? = w.heap[i]?) : Jr w' G j n k r := by
  obtain ⟨p, l, b, F, S, hJ, hL, hD, hGj, hGl, hF⟩ := h
  exact ⟨p, l, b, F, S, hJ.keep (e j hJ.lt hGj), Bx.keep hL (e l (Bx.lt hL) hGl), hD.keep fun i hi hf => e i hi (hF i hf).1, hGj, hGl, fun i hf => ⟨(hF i hf).1, Nat.lt_of_lt_of_le (hF i hf).2.1 hs, (hF i hf).2.2⟩⟩
theorem Jr.mono {G' : Nat → Prop} (h : Jr w G j n k r) (hG : ∀ i, i < w.heap.size → G i → G' i) : Jr w G' j n k r := by
  obtain ⟨p, l, b, F, S, hJ, hL, hD, hGj, hGl, hF⟩ := h
  exact ⟨p, l, b, F, S, hJ, hL, hD, hG _ hJ.lt hGj, hG _ (Bx.lt hL) hGl, fun i hf => ⟨hG i (hF i hf).2.1 (hF i hf).1, (hF i hf).2⟩⟩
theorem Jr.below {w' : World} (h : Jr w G j n k r) (hb : Below w.heap.size w w') : Jr w' G j n k r := h.keep hb.size fun i hi _ => hb.block i hi
theorem Jr.turn {S : Nat → Prop} {w' : World} (h : Jr w G j n k r) (t : Turn S w w') (hS : ∀ i, i < w.heap.size → G i → ¬ S i) : Jr w' G j n k r := h.keep t.size fun i hi hg => t.block i hi (hS i hi hg)
theorem Jr.lt (h : Jr w G j n k r) : j < w.heap.size ∧ G j := by
  obtain ⟨p, l, b, F, S, hJ, hL, hD, hGj, hGl, hF⟩ := h
  exact ⟨hJ.lt, hGj⟩
set_option maxRecDepth 100000 in
theorem rg_format (hD : Du w F b n (zs n) [] r) (hF : ∀ k, F k → k < w.heap.size) (hn : 19 ≤ n) (hn2 : n ≤ 1024) (hr : r + 18 ≤ 1000000) :
    Calls Tryz.prog 9 #[.pointer (some ⟨b, 0, none⟩), .int .i64 9] w fun e w' => ∃ q j, e = .returned (.tuple #[.pointer (some ⟨q, 0, none⟩), .int .i64 0]) ∧ w.heap.size ≤ q ∧ Bx w' q 86 [.pointer (some ⟨j, 0, none⟩), .slice none 0 0, .int .i64 0] ∧ (∃ G, Jr w' G j n 0 (r + 18) ∧ ∀ i, G i → (F i ∨ w.heap.size ≤ i) ∧ i ≠ q ∧ i < w'.heap.size) ∧ Turn F w w' := by
  have HD := Lib.hid hD
  have HF := Lib.hid hF
  clear hD hF
  go_enter Tryz.func9, Tryz.ntmps9
  go_wp2_with fail
  refine (tbytes_nil _).mono ?_
  rintro e w1 ⟨⟨s, hs, rfl⟩, b1⟩
  have hz1 := b1.size
  have HD1 : Hid (Du w1 F b n (zs n) [] r) := HD.out.below b1
  have T1 : Hid (Turn F w w1) := Turn.below b1
  clear b1 HD
  go_wp2_with fail
  refine (jo_format HD1.out (fun k h => by have := HF.out k h; omega) hn hn2 hr s (by omega)).mono ?_
  rintro e w2 ⟨j, rfl, hj, j2, t2⟩
  have J2 := Lib.hid j2
  have T2 : Hid (Turn F w w2) := T1.out.trans t2
  have hz2 := t2.size
  clear j2 t2 HD1
  go_wp2_with fail
  have hB := Bx.new w2 [.pointer (some ⟨j, 0, none⟩), .slice none 0 0, .int .i64 0] 86
  refine bodyPost_ret (v := .tuple #[.pointer (some ⟨w2.heap.size, 0, none⟩), .int .i64 0]) (by simp [results, Tryz.results9, go_sem]) rfl ⟨w2.heap.size, j, rfl, by omega, hB, ⟨Upb F w1 w2, J2.out.below ((Below.refl _ _).alloc (Nat.le_refl _) _), fun i hi => ?_⟩, T2.out.alloc _⟩
  rw [World.size_alloc]
  rcases hi with hi | hi
  · have := HF.out i hi
    exact ⟨.inl hi, by omega, by omega⟩
  · exact ⟨.inr (by omega), by omega, by omega⟩
set_option maxRecDepth 100000 in
theorem rg_good {ta : Value} (hB : Bx w q 86 [.pointer (some ⟨j, 0, none⟩), ta, .int .i64 0]) (hJ : Jr w G j n k r) : Calls Tryz.prog 90 #[.pointer (some ⟨q, 0, none⟩)] w fun e w' => e = .returned (.bool true) ∧ w = w' := by
  have c0 := hB.cell 0 rfl
  have HJ := Lib.hid hJ
  clear hB hJ
  go_enter Tryz.func90, Tryz.ntmps90
  go_wp2_with fail
  refine (jo_good HJ.out).mono ?_
  rintro e w1 ⟨rfl, rfl⟩
  go_wp2_with fail
  go_ret
  exact ⟨rfl, rfl⟩
end
end Go.Proofs.YtoichcickcgbgaaGreatDoor
namespace Go.Proofs.YtoichcickcgbgaaGreatDoor
open Go.RowKit
attribute [local go_sem] Oper.semAt_some
set_option maxRecDepth 100000 in
set_option maxHeartbeats 1000000 in
theorem writes_any {w : World} {G : Nat → Prop} {j n k : Nat} {r : Int} {x : Rk} (hx : Gk x) (hlo : Lo x) (h : Jr w G j n k r) (hk : 18 + k < n) (hn : n ≤ 1024) :
    Calls Tryz.prog 92 #[av x, .func (.func 93) #[.pointer (some ⟨j, 0, none⟩)] #[]] w fun e w' => e = .returned (.int .i64 0) ∧ (∃ w1, Below w.heap.size w w1 ∧ w1.heap.size ≤ w'.heap.size ∧ Jr w' (Upb G w1 w') j n (k + 1) r) ∧ Turn G w w' := by
  have hv : av x = .agg #[.int .i64 1, .int .i64 x.k.id, .int .i64 x.k.c, .int .i64 x.k.d, .int .i64 x.k.t, .int .i64 x.k.m, .bool x.s, .int .i64 0, .int .i64 0, .int .i64 0] := rfl
  have HC := Lib.hid (fun u => bytes_any x hx hlo u)
  rw [hv] at HC ⊢
  clear hv
  have bX := (Below.refl w.heap.size w).alloc (Nat.le_refl _) (.cells #[.int .i64 1, .int .i64 x.k.id, .int .i64 x.k.c, .int .i64 x.k.d, .int .i64 x.k.t, .int .i64 x.k.m, .bool x.s, .int .i64 0, .int .i64 0, .int .i64 0] 43)
  have HJ := Lib.hid (h.below bX)
  have HB := Lib.hid bX
  clear bX h
  go_enter Tryz.func92, Tryz.ntmps92
  go_wp2_with fail
  refine (HC.out _).mono ?_
  rintro e w1 ⟨⟨s, hs, rfl⟩, b1⟩
  have HJ1 := Lib.hid (HJ.out.below b1)
  have HB1 := Lib.hid (HB.out.trans (b1.mono HB.out.size))
  clear b1 HB HJ HC
  go_wp2_with fail
  refine (jo_append HJ1.out hk hn s (by omega)).mono ?_
  rintro e w2 ⟨rfl, hJ2, t2⟩
  have HJ2 := Lib.hid hJ2
  have HT2 := Lib.hid t2
  clear hJ2 t2
  go_wp2_with fail
  go_ret
  exact ⟨rfl, ⟨w1, HB1.out, HT2.out.size, HJ2.out⟩, (Turn.below HB1.out).trans HT2.out⟩
end Go.Proofs.YtoichcickcgbgaaGreatDoor
