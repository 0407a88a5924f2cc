/-
  qpa.Modes: four answers; of fewer than two tasks: all fit.
-/
import Derived.Test.YtoichcickcgbgaaGreatDoorGTaIn
namespace Go.Proofs.YtoichcickcgbgaaGreatDoor
open Go.RowKit
attribute [local go_sem] Oper.semAt_some
theorem Sx.turnN {α : Type} {f : α → List Value} {S : Nat → Prop} {w w' : World} {v : Value} {xs : List α} (h : Sx f w v xs) (t : Turn S w w') (hS : xs ≠ [] → ∀ g, v.ownBlock = some g → ¬ S g) : Sx f w' v xs := by
  by_cases hne : xs = []
  · subst hne
    obtain ⟨oa, cap, hv, ha, _⟩ := h
    exact ⟨oa, cap, hv, ha, fun h => absurd rfl h⟩
  · exact h.turn t fun g hg _ => hS hne g hg
theorem Sx.lt {α : Type} {f : α → List Value} {w : World} {v : Value} {xs : List α} (h : Sx f w v xs) (hne : xs ≠ []) {g : Nat} (hg : v.ownBlock = some g) : g < w.heap.size := by
  obtain ⟨oa, cap, rfl, ha, h⟩ := h
  obtain ⟨b, rfl, hb, _⟩ := h hne
  have : b = g := by simpa [Value.ownBlock] using hg
  omega
theorem tkp {F : Nat → Prop} {w : World} {C : World → Prop} (K : Hid (∀ x, Hid (Turn F w x) → C x)) {x : World} (h : Hid (Turn F w x)) : C x ∧ Hid (Turn F w x) := ⟨K.out x h, h⟩
theorem setz {A B : Prop} {k : Nat} {es : List Int} {er : Int} (h : A) (hz : A → ∀ x ∈ es, x = 0) (he : B → er = 0) (hb : A → B) : ∀ x ∈ es.set k er, x = 0 := by
  intro x hx
  rcases List.mem_or_eq_of_mem_set hx with h1 | rfl
  · exact hz h x h1
  · exact he (hb h)
/-- Answers as cells. -/
def eis (es : List Int) : List Value := es.map fun x => .int .i64 x
set_option maxRecDepth 100000 in
set_option maxHeartbeats 1000000 in
theorem modes_any {w : World} {v : Value} {ts : List Tk} (h : Sx tc w v ts) (hk : Tks ts) (hm : ∀ j, j < 4 → (∀ x ∈ ts, outM j x = false) ∨ ∃ a, ts = [a] ∧ outM j a = true) :
    Calls Tryz.prog 172 #[v] w fun e w' => ∃ es : List Int, e = .returned (.agg (eis es).toArray) ∧ es.length = 4 ∧ (ts.length ≠ 2 → ∀ x ∈ es, x = 0) ∧ Below w.heap.size w w' := by
  have hb0 : Below w.heap.size w ((w.alloc (.cells #[.int .i64 0, .int .i64 0, .int .i64 0, .int .i64 0] 305)).alloc (.cells #[.int .i64 0, .int .i64 0, .int .i64 0, .int .i64 0] 305)) := ((Below.refl _ _).alloc (Nat.le_refl _) _).alloc (by simp) _
  have hR : Bx ((w.alloc (.cells #[.int .i64 0, .int .i64 0, .int .i64 0, .int .i64 0] 305)).alloc (.cells #[.int .i64 0, .int .i64 0, .int .i64 0, .int .i64 0] 305)) w.heap.size 305 [.int .i64 0, .int .i64 0, .int .i64 0, .int .i64 0] := (Bx.new w [.int .i64 0, .int .i64 0, .int .i64 0, .int .i64 0] 305).more _
  have hO : Bx ((w.alloc (.cells #[.int .i64 0, .int .i64 0, .int .i64 0, .int .i64 0] 305)).alloc (.cells #[.int .i64 0, .int .i64 0, .int .i64 0, .int .i64 0] 305)) (w.heap.size + 1) 305 (eis [0, 0, 0, 0]) := by
    have := Bx.new (w.alloc (.cells #[.int .i64 0, .int .i64 0, .int .i64 0, .int .i64 0] 305)) [.int .i64 0, .int .i64 0, .int .i64 0, .int .i64 0] 305
    rwa [World.size_alloc] at this
  have HX := Lib.hid (h.below hb0)
  have HB := Lib.hid hb0
  have HR := Lib.hid hR
  have HO := Lib.hid hO
  have HM := Lib.hid hm
  have HN := Lib.hid (fun (hne : ts ≠ []) g (hg : v.ownBlock = some g) => h.lt hne hg)
  obtain ⟨oa, cap, rfl, -, -⟩ := h
  clear hb0 hR hO hm
  go_enter Tryz.func172, Tryz.ntmps172
  go_wp2_with fail
  go_loopw [5] (fun i wr => ∃ (k : Nat) (es : List Int), k ≤ 4 ∧ i = .int .i64 k ∧ Hid (es.length = 4) ∧ Hid (ts.length ≠ 2 → ∀ x ∈ es, x = 0) ∧ Hid (Bx wr (w.heap.size + 1) 305 (eis es)) ∧ Hid (Bx wr w.heap.size 305 [.int .i64 0, .int .i64 0, .int .i64 0, .int .i64 0]) ∧ Hid (Sx tc wr (.slice oa ts.length cap) ts) ∧ Hid (Below w.heap.size w wr)) (fun i _ => 4 - (intOf i).toNat)
  case atStart => exact ⟨0, [0, 0, 0, 0], by omega, rfl, Lib.hid (rfl : [(0 : Int), 0, 0, 0].length = 4), fun _ => by simp, HO, HR, HX, HB⟩
  case round =>
    obtain ⟨k, es, hk4, rfl, hl, hz, hO, hR, hX, hB⟩ := hrel
    clear HX HB HR HO
    by_cases hlt : k < 4
    · have hd : decide ((k : Int) < 4) = true := by simp; omega
      have hbw := hB.out.size
      have hOw := hO.out.lt
      obtain ⟨u0, hu0⟩ : ∃ u0, es[k]? = some u0 := ⟨es[k]'(by have := hl.out; omega), List.getElem?_eq_getElem _⟩
      have cO := hO.out.cell k (v := .int .i64 u0) (by simp [eis, hu0])
      have fO := hO.out.free k
      have hne : w.heap.size + 1 ≠ wr.heap.size := by omega
      go_wp2_with fail
      clear cO fO hd
      have hOA : Bx ((wr.setCell ⟨w.heap.size + 1, k, none⟩ (.int .i64 1)).alloc (.cells #[.int .i64 k] 3)) (w.heap.size + 1) 305 (eis (es.set k 1)) := Bx.more (Bx.set hO.out k (.int .i64 1) _ (by simp [eis, List.map_set])) _
      have hRA : Bx ((wr.setCell ⟨w.heap.size + 1, k, none⟩ (.int .i64 1)).alloc (.cells #[.int .i64 k] 3)) w.heap.size 305 [.int .i64 0, .int .i64 0, .int .i64 0, .int .i64 0] := (hR.out.keep (heap_setCell_other wr ⟨w.heap.size + 1, k, none⟩ _ (.int .i64 1) (show w.heap.size ≠ w.heap.size + 1 by omega))).more _
      have hMA : Bx ((wr.setCell ⟨w.heap.size + 1, k, none⟩ (.int .i64 1)).alloc (.cells #[.int .i64 k] 3)) wr.heap.size 3 [.int .i64 k] := by
        have := Bx.new (wr.setCell ⟨w.heap.size + 1, k, none⟩ (.int .i64 1)) [.int .i64 k] 3
        simpa [World.setCell] using this
      have hBA : Below w.heap.size w ((wr.setCell ⟨w.heap.size + 1, k, none⟩ (.int .i64 1)).alloc (.cells #[.int .i64 k] 3)) := (bset hB.out hB.out.size (w.heap.size + 1) k (.int .i64 1) (by omega)).alloc (by simp [World.setCell]; exact hB.out.size) _
      have hXA : Sx tc ((wr.setCell ⟨w.heap.size + 1, k, none⟩ (.int .i64 1)).alloc (.cells #[.int .i64 k] 3)) (.slice oa ts.length cap) ts := (hX.out.turnN (Turn.set (S := fun b => b = w.heap.size + 1) wr (w.heap.size + 1) k (.int .i64 1) rfl) (fun hne g hg => by have := HN.out hne g hg; omega)).below ((Below.refl _ _).alloc (Nat.le_refl _) _)
      have hsA : wr.heap.size < ((wr.setCell ⟨w.heap.size + 1, k, none⟩ (.int .i64 1)).alloc (.cells #[.int .i64 k] 3)).heap.size := hMA.lt
      generalize (wr.setCell ⟨w.heap.size + 1, k, none⟩ (.int .i64 1)).alloc (.cells #[.int .i64 k] 3) = uA at *
      refine (row_any hXA (by have := hk.len; omega) (fun t ht => (hk.ok t ht).1)).mono ?_
      rintro e u1 ⟨rfl, b1⟩
      have HO1 := Lib.hid (hOA.below b1)
      have HR1 := Lib.hid (hRA.below b1)
      have HM1 := Lib.hid (hMA.below b1)
      have HB1 := Lib.hid (hBA.trans (b1.mono hBA.size))
      have HX1 := Lib.hid (hXA.below b1)
      have hm1 : wr.heap.size < u1.heap.size := Nat.lt_of_lt_of_le hsA b1.size
      clear hOA hRA hMA hBA hXA hsA b1 hO hR hX hB
      go_wp2_with fail
      have HC := Lib.hid (fun u (b : Turn (fun b => b = w.heap.size + 1) u1 u) => tclone_fs (HX1.out.turnN b (fun hne g hg => by have := HN.out hne g hg; omega)) (by have := hk.len; omega))
      have KC : Hid (∀ y, Hid (Turn (fun b => b = w.heap.size + 1) u1 y) → y.cell? ⟨wr.heap.size, 0, none⟩ = some (.int .i64 k)) := fun y h => (HM1.out.turn h.out (by omega)).cell 0 rfl
      have B1 : Hid (Below u1.heap.size u1 u1.drew) := bl_drew (bl0 _)
      refine wp_region_held_drew (S := fun y => y.cell? ⟨wr.heap.size, 0, none⟩ = some (.int .i64 k) ∧ Hid (Turn (fun b => b = w.heap.size + 1) u1 y)) (by kernel_rfl) (tkp KC (Turn.below B1.out)) (fun hHeld => ?_)
      refine wtk 0 12 (.int .i64 (k : Int)) rfl (by kernel_rfl) (fun _ _ _ h => h) (by rfl) (fun x hSw => by obtain ⟨d0, _⟩ := id hSw; (go_simp) <;> first | decide | omega | exact IntWalk.i64_in _ (by omega)) (by assumption) ?_
      try simp only [Act.put, pw]
      refine wtk 1 13 (.slice oa ts.length cap) rfl (by kernel_rfl) (fun _ _ _ h => h) (by rfl) (fun x hSw => by obtain ⟨d0, _⟩ := id hSw; (go_simp) <;> first | decide | omega | exact IntWalk.i64_in _ (by omega)) (by assumption) ?_
      try simp only [Act.put, pw]
      refine wtk 3 15 (.func (.func 208) #[] #[.pointer (some ⟨wr.heap.size, 0, none⟩)]) rfl (by kernel_rfl) (fun _ _ _ h => h) (by rfl) (fun x hSw => by obtain ⟨d0, _⟩ := id hSw; (go_simp) <;> first | decide | omega | exact IntWalk.i64_in _ (by omega)) (by assumption) ?_
      try simp only [Act.put, pw]
      refine wpAnyH_ready (rs := [2]) (by kernel_rfl) (by simp) (AllReadyH.cons rfl (fun K hK => ?_) AllReadyH.nil)
      go_simp
      refine (HC.out _ (Turn.below B1.out)).mono ?_
      rintro e w2 ⟨v2, rfl, hF, b2⟩
      have B2 := bl_below B1 b2
      refine hK.out _ _ (tkp KC (Turn.below B2.out)) (fun hHeld => ?_)
      clear hK K
      have HF := Lib.hid hF
      clear b2 hF HC B1
      try simp only [Act.put, pw]
      refine wpAnyH_ready (rs := [4]) (by kernel_rfl) (by simp) (AllReadyH.cons rfl (fun K hK => ?_) AllReadyH.nil)
      go_simp
      have hw2 : wr.heap.size < w2.heap.size := Nat.lt_of_lt_of_le hm1 B2.out.size
      refine (del_any HF.out.sx HF.out.fz hk (outM k) 208 #[.pointer (some ⟨wr.heap.size, 0, none⟩)] (enters_of Tryz.func208 (by kernel_rfl) rfl) (fun W x hb => (modes_pred hlt (Nat.lt_of_lt_of_le hw2 hb.size) ((World.cell?_of_block (hb.block _ hw2)).trans (KC.out w2 (Turn.below B2.out))) x).mono fun e w' h => ⟨h.1, hb.trans (h.2.mono hb.size)⟩) (HM.out k hlt)).mono ?_
      rintro e w3 ⟨v3, ts3, rfl, hs3, ho3, hk3, hl3, -, t3⟩
      have B3 : Hid (Below u1.heap.size u1 w3) := Turn.to B2.out t3 B2.out.size (fun i h => by have := HF.out.own i h; have e : u1.drew.heap.size = u1.heap.size := rfl; omega)
      refine hK.out _ _ (tkp KC (Turn.below B3.out)) (fun hHeld => ?_)
      clear hK K
      have HS3 := Lib.hid hs3
      have HK3 := Lib.hid hk3
      have HL3 := Lib.hid hl3
      clear t3 hs3 hk3 hl3 ho3 B2 HF hw2
      try simp only [Act.put, pw]
      refine wpAnyH_ready (rs := [5]) (by kernel_rfl) (by simp) (AllReadyH.cons rfl (fun K hK => ?_) AllReadyH.nil)
      go_simp
      refine (test_any HS3.out HK3.out).mono ?_
      rintro e w4 ⟨er, rfl, her, b4⟩
      have B4 := bl_below B3 b4
      refine hK.out _ _ (tkp KC (Turn.below B4.out)) (fun hHeld => ?_)
      clear hK K
      have HER := Lib.hid her
      have HO4 : Hid (Bx w4 (w.heap.size + 1) 305 (eis (es.set k 1))) := HO1.out.below B4.out
      clear b4 B3 her HS3
      have cO := HO4.out.cell k (v := .int .i64 1) (by have h := hl.out; show (List.map _ _)[k]? = _; rw [List.getElem?_map, List.getElem?_set_self (by omega)]; rfl)
      have fO := HO4.out.free k
      try simp only [Act.put, pw]
      refine wtk 6 18 (.pointer (some ⟨w.heap.size + 1, k, none⟩)) rfl (by kernel_rfl) (fun _ _ _ h => h) (by rfl) (fun x hSw => by obtain ⟨d0, _⟩ := id hSw; (go_simp) <;> first | decide | omega | exact IntWalk.i64_in _ (by omega)) (by assumption) ?_
      try simp only [Act.put, pw]
      refine wpAnyH_ready (rs := [7]) (by kernel_rfl) (by simp) (AllReadyH.cons rfl (fun K hK => ?_) AllReadyH.nil)
      go_simp
      have T5 : Hid (Turn (fun b => b = w.heap.size + 1) u1 (w4.setCell ⟨w.heap.size + 1, k, none⟩ (.int .i64 er))) := (Turn.below B4.out).trans (Turn.set _ _ _ _ rfl)
      refine hK.out _ _ (tkp KC T5) (fun hHeld => ?_)
      clear hK K
      clear cO fO
      try simp only [Act.put, pw]
      refine wpAnyH_done (by kernel_rfl) ?_ _
      have HO5 := Lib.hid (Bx.set HO4.out k (.int .i64 er) (eis (es.set k er)) (by simp [eis, List.map_set]))
      have HR5 := Lib.hid (HR1.out.turn T5.out (by omega))
      have HX5 := Lib.hid (HX1.out.turnN T5.out (fun hne g hg => by have := HN.out hne g hg; omega))
      have HB5 := Lib.hid (Turn.to HB1.out T5.out HB1.out.size (fun i h => by omega))
      clear HO4 HR1 HX1 HB1 KC HM1 T5
      go_wp2_with fail
      go_roundw
      case rel => exact ⟨k + 1, es.set k er, by omega, by go_num, by show _ = _; rw [List.length_set]; exact hl.out, fun h2 => setz h2 hz.out HER.out HL3.out, HO5, HR5, HX5, HB5⟩
      case measure => simp [intOf]; omega
    · obtain rfl : k = 4 := by omega
      obtain ⟨x0, x1, x2, x3, rfl⟩ : ∃ a b c d, es = [a, b, c, d] := by
        have := hl.out
        match es, this with
        | [a, b, c, d], _ => exact ⟨a, b, c, d, rfl⟩
      have c0 := hO.out.cell 0 rfl
      have c1 := hO.out.cell 1 rfl
      have c2 := hO.out.cell 2 rfl
      have c3 := hO.out.cell 3 rfl
      have r0 := hR.out.cell 0 rfl
      have r1 := hR.out.cell 1 rfl
      have r2 := hR.out.cell 2 rfl
      have r3 := hR.out.cell 3 rfl
      have f0 := hR.out.free 0
      have f1 := hR.out.free 1
      have f2 := hR.out.free 2
      have f3 := hR.out.free 3
      go_wp2_with fail
      have s0 := Bx.set (w := wr) hR.out 0 (.int .i64 x0) _ rfl
      have s1 := Bx.set (w := _) s0 1 (.int .i64 x1) _ rfl
      have s2 := Bx.set (w := _) s1 2 (.int .i64 x2) _ rfl
      have s3 := Bx.set (w := _) s2 3 (.int .i64 x3) _ rfl
      have e0 := s3.cell 0 rfl
      have e1 := s3.cell 1 rfl
      have e2 := s3.cell 2 rfl
      have e3 := s3.cell 3 rfl
      have hB4 := bset (bset (bset (bset hB.out hB.out.size w.heap.size 0 (.int .i64 x0) (Nat.le_refl _)) (by simp [World.setCell]; exact hB.out.size) w.heap.size 1 (.int .i64 x1) (Nat.le_refl _)) (by simp [World.setCell]; exact hB.out.size) w.heap.size 2 (.int .i64 x2) (Nat.le_refl _)) (by simp [World.setCell]; exact hB.out.size) w.heap.size 3 (.int .i64 x3) (Nat.le_refl _)
      refine bodyPost_ret (v := .agg #[.int .i64 x0, .int .i64 x1, .int .i64 x2, .int .i64 x3]) (by simp [results, Tryz.results172, go_sem, e0, e1, e2, e3]) rfl ?_
      exact ⟨[x0, x1, x2, x3], rfl, rfl, hz.out, hB4⟩
end Go.Proofs.YtoichcickcgbgaaGreatDoor
