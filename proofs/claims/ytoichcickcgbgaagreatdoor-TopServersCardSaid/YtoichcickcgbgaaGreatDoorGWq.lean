/-
  The writer, with the blocks that are its own.
-/
import Derived.Test.YtoichcickcgbgaaGreatDoorGJdOp
import Derived.Maps.AppendAt
namespace Go.Proofs.YtoichcickcgbgaaGreatDoor
open Go.RowKit
attribute [local go_sem] Oper.semAt_some
/-- A writer at b that has the bytes l; its blocks lie in F. -/
def Wq (F : Nat → Prop) (b : Nat) (l : List UInt8) (w : World) : Prop :=
  F b ∧ ∃ p v, (p = .pointer none ∨ p = .pointer (some ⟨b, 0, none⟩)) ∧ Bx w b 111 [p, v] ∧ w.ownsRow 0 5 1 v l.length (Lib.byteCells l) ∧ v.ownBlock ≠ some b ∧ ∀ k, v.ownBlock = some k → F k
theorem Wq.new (w : World) : Wq (fun k => k = w.heap.size) w.heap.size [] (w.alloc (.cells #[.pointer none, .slice none 0 0] 111)) :=
  ⟨rfl, _, _, .inl rfl, Bx.new _ _ _, ⟨rfl, .inl ⟨rfl, rfl⟩⟩, by simp [Value.ownBlock], fun k h => by simp [Value.ownBlock] at h⟩
theorem own_block {W W' : World} {base : Nat} {e : TypeId} {size : Nat} {v : Value} {k : Nat} {xs : List Value} (h : W.ownsRow base e size v k xs) (hk : ∀ g, v.ownBlock = some g → W'.heap[g]? = W.heap[g]?) : W'.ownsRow base e size v k xs := by
  refine ⟨h.1, h.2.imp id ?_⟩
  rintro ⟨g, cap, cur, rfl, h1, h2, h3⟩
  exact ⟨g, cap, cur, rfl, h1, (hk g rfl).trans h2, h3⟩
theorem Wq.keep {F : Nat → Prop} {b : Nat} {l : List UInt8} {w w' : World} (h : Wq F b l w) (e : ∀ k, F k → k < w.heap.size → w'.heap[k]? = w.heap[k]?) : Wq F b l w' := by
  obtain ⟨h0, p, v, hp, hb, ho, hn, hF⟩ := h
  refine ⟨h0, p, v, hp, hb.keep (e b h0 hb.lt), own_block ho fun g hg => e g (hF g hg) ?_, hn, hF⟩
  rcases ho.2 with ⟨rfl, _⟩ | ⟨g', cap, cur, rfl, _, h2, _⟩
  · simp [Value.ownBlock] at hg
  · have : g' = g := by simpa [Value.ownBlock] using hg
    subst this
    exact (Array.getElem?_eq_some_iff.1 h2).1
theorem Wq.mono {F F' : Nat → Prop} {b : Nat} {l : List UInt8} {w : World} (h : Wq F b l w) (hF : ∀ k, F k → F' k) : Wq F' b l w := by
  obtain ⟨h0, p, v, hp, hb, ho, hn, h1⟩ := h
  exact ⟨hF _ h0, p, v, hp, hb, ho, hn, fun k hk => hF k (h1 k hk)⟩
theorem Wq.wt {F : Nat → Prop} {B b : Nat} {l : List UInt8} {w : World} (h : Wq F b l w) (hB : ∀ k, F k → B ≤ k) : Wt B b l w := by
  obtain ⟨h0, p, v, hp, hb, ho, hn, h1⟩ := h
  have ho' : w.ownsRow B 5 1 v (Lib.byteCells l).length (Lib.byteCells l) := by
    rw [Lib.byteCells_length]
    refine ⟨ho.1, ho.2.imp id ?_⟩
    rintro ⟨g, cap, cur, rfl, _, h3⟩
    exact ⟨g, cap, cur, rfl, hB g (h1 g rfl), h3⟩
  rcases hp with rfl | rfl
  · exact .inl ⟨hB b h0, v, hb, ho', hn⟩
  · exact .inr ⟨hB b h0, v, hb, ho', hn⟩
theorem Turn.up {F : Nat → Prop} {w w1 w2 : World} (h : Turn F w w1) (k : Turn (Upb F w w1) w1 w2) : Turn F w w2 := h.then k fun i hi hu => hu.elim id fun h' => by omega
theorem Upb.up {F : Nat → Prop} {w w1 w2 : World} (h : w.heap.size ≤ w1.heap.size) (h' : w1.heap.size ≤ w2.heap.size) (k : Nat) (hk : Upb (Upb F w w1) w1 w2 k) : Upb F w w2 k := by
  rcases hk with (hk | hk) | hk
  · exact .inl hk
  · exact .inr ⟨hk.1, by omega⟩
  · exact .inr ⟨by omega, hk.2⟩
set_option maxRecDepth 100000 in
set_option maxHeartbeats 1000000 in
theorem wq_tail {F : Nat → Prop} {b : Nat} {l : List UInt8} {w : World} (c : UInt8) {v : Value} (h0 : F b) (hb : Bx w b 111 [.pointer (some ⟨b, 0, none⟩), v]) (hn : v.ownBlock ≠ some b) (hF : ∀ k, v.ownBlock = some k → F k) {w2 : World} {v' : Value}
    (ho' : w2.ownsRow 0 5 1 v' (l.length + 1) (Lib.byteCells l ++ [.int .u8 c.toNat])) (hg : (w.alloc (.cells #[.int .u8 c.toNat] 5)).grownBy w2 v.ownBlock) (hat : v'.ownBlock = v.ownBlock ∨ v'.ownBlock = some (w.alloc (.cells #[.int .u8 c.toNat] 5)).heap.size) (hlt : ∀ g, v'.ownBlock = some g → g < w2.heap.size) :
    Wq (Upb F w (w2.setCell ⟨b, 1, none⟩ v')) b (l ++ [c]) (w2.setCell ⟨b, 1, none⟩ v') ∧ Turn F w (w2.setCell ⟨b, 1, none⟩ v') := by
  have hbl := hb.lt
  have hz := World.size_alloc w (.cells #[.int .u8 c.toNat] 5)
  have hsz := hg.size
  have hb2 : Bx w2 b 111 [.pointer (some ⟨b, 0, none⟩), v] := (hb.more _).keep (hg.block b (by omega) (fun e => hn e.symm))
  have hsc : (w2.setCell ⟨b, 1, none⟩ v').heap.size = w2.heap.size := by simp [World.setCell]
  have hn' : v'.ownBlock ≠ some b := by
    rcases hat with h | h
    · rw [h]; exact hn
    · rw [h]; intro e; cases e; omega
  refine ⟨⟨.inl h0, _, v', .inr rfl, hb2.set 1 _ _ rfl, ?_, hn', fun k hk => ?_⟩, ?_⟩
  · rw [List.length_append, Lib.byteCells_append]
    exact own_block ho' fun g hg' => heap_setCell_other _ _ _ _ (fun e => by subst e; exact hn' hg')
  · rcases hat with h | h
    · exact .inl (hF k (h ▸ hk))
    · rw [h] at hk
      cases hk
      exact .inr ⟨by omega, by rw [hsc]; exact hlt _ h⟩
  · have t1 : Turn F w w2 := (Turn.below (S := F) ((Below.refl w.heap.size w).alloc (Nat.le_refl _) (.cells #[.int .u8 c.toNat] 5))).trans (Turn.grown hg fun j hj _ => hF j hj)
    exact t1.then (Turn.set (S := fun k => k = b) w2 b 1 v' rfl) fun i _ e => e ▸ h0
theorem cc_all {b : Nat} {w : World} {p v : Value} (hp : p = .pointer none ∨ p = .pointer (some ⟨b, 0, none⟩)) (hb : Bx w b 111 [p, v]) :
    Calls Tryz.prog 152 #[.pointer (some ⟨b, 0, none⟩)] w fun e w' => e = .returned (.tuple #[]) ∧ Bx w' b 111 [.pointer (some ⟨b, 0, none⟩), v] ∧ Turn (fun k => k = b) w w' := by
  rcases hp with rfl | rfl
  · refine (cc_fresh (.inr rfl) b w (hb.cell 0 rfl) (by unfold Bx at hb; simp [World.shape?, hb]) (hb.free 0)).mono ?_
    rintro e w' ⟨rfl, rfl⟩
    exact ⟨rfl, hb.set 0 _ _ rfl, Turn.set (S := fun k => k = b) w b 0 _ rfl⟩
  · refine (cc_used b w (hb.cell 0 rfl)).mono ?_
    rintro e w' ⟨rfl, rfl⟩
    exact ⟨rfl, hb, Turn.refl _ _⟩
set_option maxRecDepth 100000 in
set_option maxHeartbeats 1000000 in
theorem wq_byte {F : Nat → Prop} {b : Nat} {l : List UInt8} {w : World} (h : Wq F b l w) (hl : l.length ≤ 900) (c : UInt8) :
    Calls Tryz.prog 105 #[.pointer (some ⟨b, 0, none⟩), .int .u8 c.toNat] w fun e w' => e = .returned .nilIface ∧ Wq (Upb F w w') b (l ++ [c]) w' ∧ Turn F w w' := by
  obtain ⟨i0, hi, hz0, hz1, hz2⟩ := info_parts info5
  obtain ⟨h0, p, v, hp, hb, ho, hn, hF⟩ := h
  have HB := Lib.hid hb
  have HO := Lib.hid ho
  have HN := Lib.hid hn
  have HF := Lib.hid hF
  have HP := Lib.hid hp
  clear hb ho hn hF hp
  go_enter Tryz.func105, Tryz.ntmps105
  go_wp2_with fail
  refine (cc_all HP.out HB.out).mono ?_
  rintro e w1 ⟨rfl, hb1, t1⟩
  have hown : w1.ownsRow 0 5 1 v l.length (Lib.byteCells l) := own_block HO.out fun g hg => t1.block g (by
    rcases HO.out.2 with ⟨h2, _⟩ | ⟨g', cap, cur, h2, _, h3, _⟩
    · rw [h2] at hg; simp [Value.ownBlock] at hg
    · rw [h2] at hg
      have : g' = g := by simpa [Value.ownBlock] using hg
      subst this
      exact (Array.getElem?_eq_some_iff.1 h3).1) (fun e => by subst e; exact HN.out hg)
  have c1 := hb1.cell 1 rfl
  have B1 := Lib.hid hb1
  have T1 := Lib.hid t1
  clear hb1 t1
  go_wp2_with (at_builtin; go_loud (refine wpList_append_own_at _ rfl _ _ 105 rfl 0 5 i0 (.int .u8 0) 1 1 Tryz.underlying105 hi hz0 hz1 hz2 rfl (by decide) _ _ _ rfl (hown.alloc _) ⟨w1.heap.size, 0, none⟩ 1 1 [.int .u8 c.toNat] rfl rfl (cell_one_new _ _ _) (by simp [Value.oneCell']) (by unfold maxLen; omega) (by omega) (by simp) ?_))
  intro v' w2 hown' hgrow _ hat
  have hb2 : Bx w2 b 111 [.pointer (some ⟨b, 0, none⟩), v] := (B1.out.more _).keep (hgrow.block b (by have := B1.out.lt; simp; omega) (fun e => HN.out e.symm))
  have hlt : ∀ g, v'.ownBlock = some g → g < w2.heap.size := fun g hg => by
    rcases hown'.2 with ⟨h2, _⟩ | ⟨g', cap, cur, h2, _, h3, _⟩
    · rw [h2] at hg; simp [Value.ownBlock] at hg
    · rw [h2] at hg
      have : g' = g := by simpa [Value.ownBlock] using hg
      subst this
      exact (Array.getElem?_eq_some_iff.1 h3).1
  obtain ⟨r1, r2⟩ := wq_tail c h0 B1.out HN.out HF.out hown' hgrow (by rw [World.size_alloc]; exact hat) hlt
  have R1 := Lib.hid r1
  have R2 := Lib.hid r2
  have d1 := hb2.cell 1 rfl
  have g1 := hb2.free 1
  clear c1 r1 r2 hat hgrow hlt hb2
  obtain ⟨g', cap', rfl⟩ := ownsRow_succ hown'
  go_wp2
  go_ret
  have tt : Turn F w (w2.setCell ⟨b, 1, none⟩ (.slice (some ⟨g', 0, none⟩) (l.length + 1) cap')) := (T1.out.wide fun k _ hk => hk ▸ h0).trans R2.out
  refine ⟨rfl, R1.out.mono fun k hk => ?_, tt⟩
  rcases hk with hk | hk
  · exact .inl hk
  · exact .inr ⟨Nat.le_trans T1.out.size hk.1, hk.2⟩
set_option maxRecDepth 100000 in
theorem qput_any {F : Nat → Prop} {b : Nat} {l : List UInt8} {w : World} (h : Wq F b l w) (hl : l.length ≤ 900) (c : UInt8) (v : Int) (hv : v = c.toNat) :
    Calls Tryz.prog 68 #[.pointer (some ⟨b, 0, none⟩), .int .u8 v] w fun e w' => (∃ v, e = .returned v) ∧ Wq (Upb F w w') b (l ++ [c]) w' ∧ Turn F w w' := by
  subst hv
  have H := Lib.hid h
  clear h
  go_enter Tryz.func68, Tryz.ntmps68
  go_wp2_with fail
  refine (wq_byte H.out hl c).mono ?_
  rintro e w' ⟨rfl, h1, h2⟩
  have H1 := Lib.hid h1
  clear h1
  go_wp2_with fail
  go_end0
  exact ⟨⟨_, rfl⟩, H1.out, h2⟩
set_option maxRecDepth 100000 in
set_option maxHeartbeats 1000000 in
theorem qnum_any {F : Nat → Prop} {b : Nat} {l : List UInt8} {w : World} (h : Wq F b l w) (hl : l.length ≤ 800) (x : Nat) (hx : x < 256) :
    Calls Tryz.prog 36 #[.pointer (some ⟨b, 0, none⟩), .int .u64 x] w fun e w' => e = .returned (.pointer (some ⟨b, 0, none⟩)) ∧ Wq (Upb F w w') b (l ++ numB x) w' ∧ Turn F w w' := by
  have H := Lib.hid h
  clear h
  have hxm : (x : Int) % 256 = x := by omega
  go_enter Tryz.func36, Tryz.ntmps36
  go_wp2_with fail
  refine (size_any x hx _).mono ?_
  rintro e w' ⟨rfl, rfl⟩
  by_cases h0 : x = 0
  · subst h0
    simp only [if_true]
    go_wp2_with fail
    refine (qput_any H.out (by omega) 0 _ (by rfl)).mono ?_
    rintro e w1 ⟨⟨v, rfl⟩, h1, b1⟩
    have H1 := Lib.hid h1
    clear h1
    go_wp2_with fail
    refine wp_loop_rounds 1 ?_
    rw [rounds_succ]
    go_wp2_with fail
    go_ret
    exact ⟨rfl, H1.out, b1⟩
  · simp only [h0, if_false]
    go_wp2_with fail
    refine (qput_any H.out (by omega) 1 _ (by rfl)).mono ?_
    rintro e w1 ⟨⟨v, rfl⟩, h1, b1⟩
    have H1 := Lib.hid h1
    have hz1 := b1.size
    clear h1
    go_wp2_with fail
    refine wp_loop_rounds 2 ?_
    rw [rounds_succ]
    go_wp2_with fail
    refine wp_region_held_drew (S := fun _ => True) (by kernel_rfl) (trivial) (fun hHeld => ?_)
    refine wtk 0 21 (.pointer (some ⟨b, 0, none⟩)) rfl (by kernel_rfl) (fun _ _ _ h => h) (by rfl) (fun x hSw => by (go_simp) <;> first | decide | exact IntWalk.i64_in _ (by omega) | exact IntWalk.u8_in _ (by omega)) (by assumption) ?_
    try simp only [Act.put, pw]
    refine wtk 1 22 (.pointer (some ⟨b, 0, none⟩)) rfl (by kernel_rfl) (fun _ _ _ h => h) (by rfl) (fun x hSw => by (go_simp) <;> first | decide | exact IntWalk.i64_in _ (by omega) | exact IntWalk.u8_in _ (by omega)) (by assumption) ?_
    try simp only [Act.put, pw]
    refine wtk 2 23 (.pointer (some ⟨b, 0, none⟩)) rfl (by kernel_rfl) (fun _ _ _ h => h) (by rfl) (fun x hSw => by (go_simp) <;> first | decide | exact IntWalk.i64_in _ (by omega) | exact IntWalk.u8_in _ (by omega)) (by assumption) ?_
    try simp only [Act.put, pw]
    refine wtk 3 24 (.int .u64 x) rfl (by kernel_rfl) (fun _ _ _ h => h) (by rfl) (fun x hSw => by (go_simp) <;> first | decide | exact IntWalk.i64_in _ (by omega) | exact IntWalk.u8_in _ (by omega)) (by assumption) ?_
    try simp only [Act.put, pw]
    refine wtk 4 25 (.int .i64 1) rfl (by kernel_rfl) (fun _ _ _ h => h) (by rfl) (fun x hSw => by (go_simp) <;> first | decide | exact IntWalk.i64_in _ (by omega) | exact IntWalk.u8_in _ (by omega)) (by assumption) ?_
    try simp only [Act.put, pw]
    refine wtk 5 26 (.int .i64 0) rfl (by kernel_rfl) (fun _ _ _ h => h) (by rfl) (fun x hSw => by (go_simp) <;> first | decide | exact IntWalk.i64_in _ (by omega) | exact IntWalk.u8_in _ (by omega)) (by assumption) ?_
    try simp only [Act.put, pw]
    refine wtk 6 27 (.int .i64 0) rfl (by kernel_rfl) (fun _ _ _ h => h) (by rfl) (fun x hSw => by (go_simp) <;> first | decide | exact IntWalk.i64_in _ (by omega) | exact IntWalk.u8_in _ (by omega)) (by assumption) ?_
    try simp only [Act.put, pw]
    refine wtk 7 28 (.int .i64 0) rfl (by kernel_rfl) (fun _ _ _ h => h) (by rfl) (fun x hSw => by (go_simp) <;> first | decide | exact IntWalk.i64_in _ (by omega) | exact IntWalk.u8_in _ (by omega)) (by assumption) ?_
    try simp only [Act.put, pw]
    refine wtk 8 29 (.int .i64 0) rfl (by kernel_rfl) (fun _ _ _ h => h) (by rfl) (fun x hSw => by (go_simp) <;> first | decide | exact IntWalk.i64_in _ (by omega) | exact IntWalk.u8_in _ (by omega)) (by assumption) ?_
    try simp only [Act.put, pw]
    refine wtk 9 30 (.int .u64 x) rfl (by kernel_rfl) (fun _ _ _ h => h) (by rfl) (fun x hSw => by (go_simp) <;> first | decide | exact IntWalk.i64_in _ (by omega) | exact IntWalk.u8_in _ (by omega)) (by assumption) ?_
    try simp only [Act.put, pw]
    refine wtk 10 31 (.int .u8 x) rfl (by kernel_rfl) (fun _ _ _ h => h) (by rfl) (fun x hSw => by (go_simp) <;> first | decide | exact IntWalk.i64_in _ (by omega) | exact IntWalk.u8_in _ (by omega)) (by assumption) ?_
    try simp only [Act.put, pw]
    refine wpAnyH_ready (rs := [11]) (by kernel_rfl) (by simp) (AllReadyH.cons rfl (fun K hK => ?_) AllReadyH.nil)
    go_simp
    refine (qput_any (w := w1.drew) (H1.out.keep (w' := w1.drew) fun _ _ _ => rfl) (by simp; omega) (UInt8.ofNat x) _ (by simp; omega)).mono ?_
    rintro e w2 ⟨⟨v, rfl⟩, h2, b2⟩
    have H2 := Lib.hid h2
    clear h2
    refine hK.out _ _ trivial (fun hHeld => ?_)
    clear hK K
    try simp only [Act.put, pw]
    refine wpAnyH_done (by kernel_rfl) ?_ _
    go_wp2_with fail
    rw [rounds_succ]
    go_wp2_with fail
    go_ret
    have b2' : Turn (Upb F w w1) w1 w2 := ⟨b2.os, b2.tape, b2.output, b2.size, b2.block⟩
    refine ⟨rfl, ?_, b1.up b2'⟩
    have := H2.out.mono (Upb.up b1.size b2'.size)
    rw [List.append_assoc] at this
    unfold numB
    rw [if_neg h0]
    exact this
set_option maxRecDepth 100000 in
theorem qint_any {F : Nat → Prop} {b : Nat} {l : List UInt8} {w : World} (h : Wq F b l w) (hl : l.length ≤ 800) (x : Nat) (hx : x < 256) :
    Calls Tryz.prog 35 #[.pointer (some ⟨b, 0, none⟩), .int .i64 x] w fun e w' => e = .returned (.pointer (some ⟨b, 0, none⟩)) ∧ Wq (Upb F w w') b (l ++ numB x) w' ∧ Turn F w w' := by
  have H := Lib.hid h
  clear h
  have hm : max (x : Int) 0 = x := by omega
  have hm2 : (x : Int) % 18446744073709551616 = x := by omega
  go_enter Tryz.func35, Tryz.ntmps35
  go_wp2_with fail
  refine (qnum_any H.out hl x hx).mono ?_
  rintro e w' ⟨rfl, h1, b1⟩
  have H1 := Lib.hid h1
  clear h1
  go_wp2_with fail
  go_ret
  exact ⟨rfl, H1.out, b1⟩
set_option maxRecDepth 100000 in
theorem qflag_any {F : Nat → Prop} {b : Nat} {l : List UInt8} {w : World} (h : Wq F b l w) (hl : l.length ≤ 800) (t : Bool) :
    Calls Tryz.prog 37 #[.pointer (some ⟨b, 0, none⟩), .bool t] w fun e w' => e = .returned (.pointer (some ⟨b, 0, none⟩)) ∧ Wq (Upb F w w') b (l ++ numB t.toNat) w' ∧ Turn F w w' := by
  have H := Lib.hid h
  clear h
  go_enter Tryz.func37, Tryz.ntmps37
  cases t
  · go_wp2_with fail
    refine (qnum_any H.out hl 0 (by omega)).mono ?_
    rintro e w' ⟨rfl, h1, b1⟩
    have H1 := Lib.hid h1
    clear h1
    go_wp2_with fail
    go_ret
    exact ⟨rfl, H1.out, b1⟩
  · go_wp2_with fail
    refine (qnum_any H.out hl 1 (by omega)).mono ?_
    rintro e w' ⟨rfl, h1, b1⟩
    have H1 := Lib.hid h1
    clear h1
    go_wp2_with fail
    go_ret
    exact ⟨rfl, H1.out, b1⟩
end Go.Proofs.YtoichcickcgbgaaGreatDoor
