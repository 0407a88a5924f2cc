/-
  qpa.path: the times that are looked at, as an iterator.
  qpa.Test: some answer; of fewer than two tasks: they fit.
  slices.Grow at this program's own numbers (printed by lay-plain.mjs).
  Room for rows and tasks; the place of a number.
-/
import Derived.Test.YtoichcickcgbgaaGreatDoorGBsBu
import Derived.Shelf.Spec.SlicesGrow
import Derived.Test.YtoichcickcgbgaaGreatDoorRows
import Derived.RangeFuncBox
namespace Go.Proofs.YtoichcickcgbgaaGreatDoor
open Go.RowKit
attribute [local go_sem] Oper.semAt_some
attribute [local go_sem] run_store_func
set_option maxRecDepth 100000 in
theorem least_none {w : World} {v : Value} (h : Sx tc w v []) : Calls Tryz.prog 237 #[v] w fun e w' => e = .returned (.int .i64 0) ∧ Below w.heap.size w w' := by
  have HR := Lib.hid (row_any h (by simp) (by simp))
  obtain ⟨oa, cap, rfl, ha, _⟩ := h
  go_enter Tryz.func237, Tryz.ntmps237
  go_wp2_with fail
  refine HR.out.mono ?_
  rintro e w0 ⟨rfl, b0⟩
  have B0 := Lib.hid b0
  clear b0
  go_wp2_with fail
  go_ret
  exact ⟨rfl, B0.out⟩
theorem least_any {w : World} {v : Value} {ts : List Tk} (h : Sx tc w v ts) (hk : Tks ts) : Calls Tryz.prog 237 #[v] w fun e w' => ∃ L : Int, e = .returned (.int .i64 L) ∧ 0 ≤ L ∧ Below w.heap.size w w' := by
  by_cases hne : ts = []
  · subst hne
    exact (least_none h).mono fun _ _ h => ⟨_, h.1, by omega, h.2⟩
  rcases one_two hk hne with ⟨a, rfl⟩ | ⟨a, b, rfl⟩
  · obtain ⟨g, cap, rfl, hg, hc, hr⟩ := h.one
    have ha := Tk.nums (hk.ok a (by simp))
    exact (least_1 hg hc hr (hk.ok a (by simp)).1 ha.2.2.1 ha.1).mono fun _ _ h => ⟨_, h.1, by omega, h.2⟩
  · obtain ⟨g, cap, rfl, hg, hc, hr⟩ := h.two
    have ha := Tk.nums (hk.ok a (by simp))
    have hb := Tk.nums (hk.ok b (by simp))
    exact (least_2 hg hc hr (hk.ok a (by simp)).1 ha.2.2.1 ha.1 (hk.ok b (by simp)).1 hb.2.2.1 hb.1).mono fun _ _ h => ⟨_, h.1, by omega, h.2⟩
/-- Of fewer than two tasks no deadline lies ahead of the length. -/
theorem bef_len {ts : List Tk} (hk : Tks ts) {E : Nat} {er : Int} (h : LenOk ts E er) (hb : 0 < befA ts E) : ts.length = 2 := by
  by_cases hne : ts = []
  · subst hne
    exact absurd hb (by simp [befA])
  rcases one_two hk hne with ⟨a, rfl⟩ | ⟨a, b, rfl⟩
  · obtain ⟨rfl, _⟩ := h.2.2 a rfl
    rw [befA_one hk] at hb
    omega
  · rfl
theorem befA_zero (ts : List Tk) (hk : Tks ts) : befA ts 0 = 0 := by
  have h0 : ∀ d t : Nat, manyF d t (((0 : Nat) : Int) - 1) = 0 := fun d t => by unfold manyF; rw [if_pos (by omega)]
  by_cases hne : ts = []
  · subst hne; rfl
  rcases one_two hk hne with ⟨a, rfl⟩ | ⟨a, b, rfl⟩ <;> simp only [befA, List.foldl, befF, h0, if_true]
/-- What rounds over the times keep. -/
def Kv (o : Option Nat) (bv : Nat) (A B : World) : Prop := A.heap.size ≤ B.heap.size ∧ ∀ k, k < A.heap.size → (k = bv ∨ o = some k) → B.heap[k]? = A.heap[k]?
theorem Kv.trans {o : Option Nat} {bv : Nat} {A B C : World} (h : Kv o bv A B) (k : Kv o bv B C) : Kv o bv A C := ⟨Nat.le_trans h.1 k.1, fun i hi hs => (k.2 i (Nat.lt_of_lt_of_le hi h.1) hs).trans (h.2 i hi hs)⟩
/-- The iterator's own: the box of the tasks, the tasks. -/
def Pth (v : Value) (bv : Nat) (ts : List Tk) (W : World) : Prop := Bx W bv 161 [v] ∧ Sx tc W v ts
theorem Pth.below {v : Value} {bv : Nat} {ts : List Tk} {A B : World} (h : Pth v bv ts A) (b : Below A.heap.size A B) : Pth v bv ts B := ⟨h.1.below b, h.2.below b⟩
theorem Pth.kv {v : Value} {bv : Nat} {ts : List Tk} {o : Option Nat} {A B : World} (h : Pth v bv ts A) (ho : ts ≠ [] → v.ownBlock = o) (k : Kv o bv A B) : Pth v bv ts B := by
  refine ⟨h.1.keep (k.2 _ h.1.lt (.inl rfl)), ?_⟩
  by_cases hne : ts = []
  · subst hne
    obtain ⟨oa, cap, hv, ha, _⟩ := h.2
    exact ⟨oa, cap, hv, ha, fun h => absurd rfl h⟩
  · exact h.2.keep k.1 fun g hg hl => k.2 g hl (.inr ((ho hne).symm.trans hg))
set_option maxRecDepth 100000 in
set_option maxHeartbeats 1000000 in
theorem seq_path (nn : Nat) {w0 : World} {v : Value} {ts : List Tk} {bv : Nat} {o : Option Nat} (hP : Pth v bv ts w0) (hk : Tks ts) (ho : ts ≠ [] → v.ownBlock = o) :
    SeqT nn Tryz.prog 236 #[.pointer (some ⟨bv, 0, none⟩)] (fun p : Nat × Nat => #[.int .i64 p.1, .int .i64 p.2]) (fun _ => False) (Kv o bv) (fun _ _ => ts.length = 2) (fun xs _ => ts.length ≠ 2 → xs = []) (fun _ _ => True) w0 := by
  intro l J Jx W hK hJ hJx hY h0
  dsimp only at hY
  have HY := Lib.hid hY
  have HJ := Lib.hid (fun xs A B (h : J xs A) (b : Below A.heap.size A B) => hJ xs A B h (Turn.below b))
  have HP := Lib.hid (hP.kv ho hK)
  clear hP hK hY hJ hJx
  have c0 := HP.out.1.cell 0 rfl
  have HL := Lib.hid (length_any HP.out.2 hk)
  refine callsIn_of_wp Tryz.func236 rfl trivial ?_ rfl
  simp only [Tryz.ntmps236, List.size_toArray, List.length_cons, List.length_nil, Nat.reduceAdd, Nat.reduceSub, Array.replicate_succ, Array.replicate_zero, List.push_toArray, List.append_toArray, List.nil_append, List.cons_append]
  gi_wp2
  refine ⟨trivial, fun h => (by simp [Fence.wide] at h), (callsIn_wide.2 HL.out).mono ?_⟩
  rintro e w1 ⟨E, er, rfl, hE, b1⟩
  have HP1 := Lib.hid (HP.out.below b1)
  have h1 := HJ.out _ _ _ h0 b1
  have HE := Lib.hid hE
  clear b1 h0 HP HL c0 hE
  have c0 := HP1.out.1.cell 0 rfl
  have HL := Lib.hid (least_any HP1.out.2 hk)
  gi_wp2
  refine ⟨trivial, fun h => (by simp [Fence.wide] at h), (callsIn_wide.2 HL.out).mono ?_⟩
  rintro e w2 ⟨L, rfl, hL0, b2⟩
  have HP2 := Lib.hid (HP1.out.below b2)
  have h2 := HJ.out _ _ _ h1 b2
  clear b2 h1 HP1 HL c0
  have c0 := HP2.out.1.cell 0 rfl
  have HL := Lib.hid (before_any HP2.out.2 hk E (by have := HE.out.1; omega))
  gi_wp2
  refine ⟨trivial, fun h => (by simp [Fence.wide] at h), (callsIn_wide.2 HL.out).mono ?_⟩
  rintro e w3 ⟨rfl, b3⟩
  have HP3 := Lib.hid (HP2.out.below b3)
  have h3 := HJ.out _ _ _ h2 b3
  clear b3 h2 HP2 HL c0
  have c0 := HP3.out.1.cell 0 rfl
  have hlt : befA ts E ≤ 100 := by
    have := HE.out.1
    by_cases h : 0 < E
    · have := befA_lt hk h; omega
    · obtain rfl : E = 0 := by omega
      rw [befA_zero ts hk]
      omega
  gi_wp2
  gi_loopw [6, 7] (fun x is wr => ∃ (n : Nat) (b : Bool) (pre : List (Nat × Nat)), x = .int .i64 n ∧ is = .bool b ∧ n ≤ 100 ∧ (b = true → 0 < n ∧ ts.length = 2) ∧ Hid (J pre wr) ∧ Hid (Pth v bv ts wr) ∧ Hid (ts.length ≠ 2 → pre = [])) (fun x _ _ => (intOf x).toNat)
  case atStart => exact ⟨_, _, [], rfl, rfl, hlt, fun h => by have h := of_decide_eq_true h; exact ⟨h, bef_len hk HE.out h⟩, h3, HP3, fun _ => rfl⟩
  case round =>
    clear c0 hlt
    obtain ⟨n, b, pre, rfl, rfl, hn, hb, hJr, hPr, hpre⟩ := hrel
    cases b
    · gi_wp2
      go_end0
      exact ⟨⟨_, rfl⟩, .inl ⟨_, hpre.out, hJr.out⟩⟩
    · obtain ⟨hn0, h2⟩ := hb rfl
      have hne : ts ≠ [] := fun e => by rw [e] at h2; cases h2
      have c0 := hPr.out.1.cell 0 rfl
      have HL := Lib.hid (ofs_any hPr.out.2 hk hne n (by omega))
      gi_wp2
      refine ⟨trivial, fun h => (by simp [Fence.wide] at h), (callsIn_wide.2 HL.out).mono ?_⟩
      rintro e w4 ⟨rfl, b4⟩
      have HP4 := Lib.hid (hPr.out.below b4)
      have HJ4 := Lib.hid (HJ.out _ _ _ hJr.out b4)
      clear b4 HL c0 hJr hPr
      gi_wp2
      obtain ⟨fn, tmps, assign, body, hy, hR⟩ := HY.out pre (n, ofF ts n) w4 HJ4.out h2
      rw [hy]
      refine ⟨fun h => (by simp [Fence.wide] at h), RoundIn.mono hR ?_⟩
      clear hR hy
      rintro e w5 (⟨rfl, hJ5, hk5⟩ | ⟨rfl, hJ5, hk5⟩)
      · have HP5 := Lib.hid (HP4.out.kv ho hk5)
        have HJ5 := Lib.hid hJ5
        clear hJ5 hk5 HP4 HJ4
        by_cases hw : ofF ts n > n
        · have hd : decide (((ofF ts n : Nat) : Int) > (n : Int)) = true := by simp; omega
          gi_wp2
          refine bodyPost_ret (results_none rfl _ _ _) rfl ?_
          exact ⟨⟨_, rfl⟩, .inl ⟨_, fun h => absurd h2 h, HJ5.out⟩⟩
        · have hd : decide (((ofF ts n : Nat) : Int) > (n : Int)) = false := by simp; omega
          by_cases hw2 : ((ofF ts n : Nat) : Int) ≤ L
          · have hd2 : decide (((ofF ts n : Nat) : Int) ≤ L) = true := by simpa using hw2
            gi_wp2
            refine bodyPost_ret (results_none rfl _ _ _) rfl ?_
            exact ⟨⟨_, rfl⟩, .inl ⟨_, fun h => absurd h2 h, HJ5.out⟩⟩
          · have hd2 : decide (((ofF ts n : Nat) : Int) ≤ L) = false := by simpa using hw2
            by_cases hw3 : ofF ts n < n
            · have hd3 : decide (((ofF ts n : Nat) : Int) < (n : Int)) = true := by simp; omega
              gi_wp2
              go_roundw
              case rel => exact ⟨_, true, _, rfl, rfl, by omega, fun _ => ⟨by omega, h2⟩, HJ5, HP5, fun h => absurd h2 h⟩
              case measure => simp [intOf]; omega
            · have hd3 : decide (((ofF ts n : Nat) : Int) < (n : Int)) = false := by simp; omega
              have c0 := HP5.out.1.cell 0 rfl
              have HL := Lib.hid (before_any HP5.out.2 hk n (by omega))
              gi_wp2
              refine ⟨trivial, fun h => (by simp [Fence.wide] at h), (callsIn_wide.2 HL.out).mono ?_⟩
              rintro e w6 ⟨rfl, b6⟩
              have HP6 := Lib.hid (HP5.out.below b6)
              have HJ6 := Lib.hid (HJ.out _ _ _ HJ5.out b6)
              have hbl := befA_lt hk hn0
              clear b6 HL c0 HJ5 HP5
              gi_wp2
              go_roundw
              case rel => exact ⟨_, _, _, rfl, rfl, by omega, fun h => ⟨of_decide_eq_true h, h2⟩, HJ6, HP6, fun h => absurd h2 h⟩
              case measure => simp [intOf]; omega
      · gi_wp2
        refine bodyPost_ret (results_none rfl _ _ _) rfl ?_
        exact ⟨⟨_, rfl⟩, .inr ⟨_, trivial, hJ5⟩⟩
end Go.Proofs.YtoichcickcgbgaaGreatDoor
namespace Go.Proofs.YtoichcickcgbgaaGreatDoor
open Go.RowKit
attribute [local go_sem] Oper.semAt_some
attribute [local go_sem] run_store_func
set_option maxRecDepth 100000 in
theorem path_any (w : World) (oa : Option Addr) (n cap : Nat) : Calls Tryz.prog 226 #[.slice oa n cap] w fun e w' => e = .returned (.func (.func 236) #[] #[.pointer (some ⟨w.heap.size, 0, none⟩)]) ∧ Bx w' w.heap.size 161 [.slice oa n cap] ∧ Below w.heap.size w w' := by
  go_enter Tryz.func226, Tryz.ntmps226
  go_wp2
  go_ret
  exact ⟨rfl, Bx.new w [.slice oa n cap] 161, (Below.refl _ _).alloc (Nat.le_refl _) _⟩
set_option maxRecDepth 100000 in
set_option maxHeartbeats 1000000 in
theorem test_any {w : World} {v : Value} {ts : List Tk} (h : Sx tc w v ts) (hk : Tks ts) :
    Calls Tryz.prog 206 #[v] w fun e w' => ∃ er : Int, e = .returned (.int .i64 er) ∧ (ts.length ≠ 2 → er = 0) ∧ Below w.heap.size w w' := by
  have HR := Lib.hid (length_any h hk)
  have HX := Lib.hid h
  clear h
  obtain ⟨oa, cap, hv, -, -⟩ := HX.out
  subst hv
  refine (callsIn_wide (n := 3)).1 ?_
  refine callsIn_of_wp_marks Tryz.func206 rfl trivial ?_ rfl
  simp only [Tryz.ntmps206, List.size_toArray, List.length_cons, List.length_nil, Nat.reduceAdd, Nat.reduceSub, Array.replicate_succ, Array.replicate_zero, List.push_toArray, List.append_toArray, List.nil_append, List.cons_append]
  refine wpIn_wide.2 ?_
  go_wp2_with fail
  go_step3
  go_wp2_with fail
  refine HR.out.mono ?_
  rintro e w0 ⟨E, er, rfl, hE, b0⟩
  have HX0 := Lib.hid (HX.out.below b0)
  have HB0 := Lib.hid b0
  have her : Hid (ts.length ≠ 2 → er = 0) := fun hl => by
    by_cases hne : ts = []
    · exact (hE.2.1 hne).2
    rcases one_two hk hne with ⟨a, rfl⟩ | ⟨a, b, rfl⟩
    · exact (hE.2.2 a rfl).2
    · exact absurd rfl hl
  clear b0 HR hE HX
  by_cases he : er = 0
  · subst he
    have hw0 := HB0.out.size
    have HF := Lib.hid (Bx.new w0 [.bool true] 4)
    have HBA := Lib.hid (HB0.out.alloc HB0.out.size (.cells #[.bool true] 4))
    have HXA := Lib.hid (HX0.out.below ((Below.refl w0.heap.size w0).alloc (Nat.le_refl _) (.cells #[.bool true] 4)))
    have hsA2 : w0.heap.size < (w0.alloc (.cells #[.bool true] 4)).heap.size := by simp
    have hgo' : ∀ g, ts ≠ [] → Value.ownBlock (.slice oa ts.length cap) = some g → g < w0.heap.size := by
      intro k hne e
      obtain ⟨oa', cap', e1, -, h2⟩ := HX0.out
      obtain ⟨g, rfl, hg, -⟩ := h2 hne
      cases e1
      have : g = k := by simpa [Value.ownBlock] using e
      omega
    obtain ⟨o, ho, hgo⟩ : ∃ o : Option Nat, (ts ≠ [] → Value.ownBlock (.slice oa ts.length cap) = o) ∧ ∀ g, o = some g → g < w0.heap.size := by
      by_cases hne : ts = []
      · exact ⟨none, fun h => absurd hne h, fun g h => by cases h⟩
      · exact ⟨_, fun _ => rfl, fun g h => hgo' g hne h⟩
    clear hgo'
    go_wp2_with fail
    go_step3
    go_wp2_with fail
    refine (path_any _ _ _ _).mono ?_
    rintro e w1 ⟨rfl, hV1, b1⟩
    have HF1 : Hid (Bx w1 w0.heap.size 4 [.bool true]) := HF.out.below b1
    generalize (w0.alloc (.cells #[.bool true] 4)) = wA at *
    have HP1 : Hid (Pth (.slice oa ts.length cap) wA.heap.size ts w1) := ⟨hV1, HXA.out.below b1⟩
    have HB1 := Lib.hid (HBA.out.trans (b1.mono HBA.out.size))
    have hsz1 := hV1.lt
    have HSEQ := Lib.hid (seq_path 2 HP1.out hk ho)
    clear b1 hV1 HF HX0 HB0 HXA HBA
    go_wp2_with fail
    refine (wpIn_wide (n := 3)).1 ?_
    refine range_law (gf := 236) (lb := #[.pointer (some ⟨wA.heap.size, 0, none⟩)]) rfl (enters_of Tryz.func236 (by kernel_rfl) rfl) (fun _ => rfl)
      HSEQ.out ⟨Nat.le_refl _, fun _ _ _ => rfl⟩ (fun k hk => hk.elim) (fun h k => h.trans k)
      ?hKb (fun xs A B h t => h) (fun _ _ _ h _ => h)
      (fun pre W => ∃ b : Bool, Bx W w0.heap.size 4 [.bool b] ∧ Below w.heap.size w W ∧ (pre = [] → b = true)) (fun c _ W => c = .exit 0 ∧ ts.length = 2 ∧ ∃ b : Bool, Bx W w0.heap.size 4 [.bool b] ∧ Below w.heap.size w W)
      ?hI ?hIx ⟨true, HF1.out, HB1.out, fun _ => rfl⟩
      (fun x => { tmps := #[.slice oa ts.length cap, undef, .int .i64 0, .int .i64 E, .int .i64 0, .pointer (some ⟨w0.heap.size, 0, none⟩), .int .i64 x.1, .int .i64 x.2, .tuple #[.int .i64 E, .int .i64 0], .slice oa ts.length cap, .tuple #[.int .i64 E, .int .i64 0], .int .i64 E, .int .i64 0, .int .i64 0, .bool false, undef, .slice oa ts.length cap, .func (.func 236) #[] #[.pointer (some ⟨wA.heap.size, 0, none⟩)], .int .i64 x.1, .int .i64 x.2, undef, undef, undef, undef, undef, undef, undef], defers := [] }) ?assign ?body ?done ?stop
    case assign =>
      intro l x W K hK
      gi_wp2
      exact hK
    case hKb =>
      intro A B _ t
      refine ⟨t.size, fun k hk hs => t.block k hk ?_⟩
      rcases hs with rfl | hs
      · omega
      · have := hgo _ hs
        omega
    case hI =>
      rintro xs A B ⟨b, h1, h2, h3⟩ t
      have t := t.wide (S' := fun k => w1.heap.size ≤ k) (by rintro k _ (h | h | h); exact h.elim; omega; omega)
      refine ⟨b, h1.turn t (by omega), Turn.to h2 t h2.size (fun k hk => ?_), h3⟩
      have := HB1.out.size
      omega
    case hIx =>
      rintro c xs A B ⟨h0, h4, b, h1, h2⟩ t
      have t := t.wide (S' := fun k => w1.heap.size ≤ k) (by rintro k _ (h | h | h); exact h.elim; omega; omega)
      refine ⟨h0, h4, b, h1.turn t (by omega), Turn.to h2 t h2.size (fun k hk => ?_)⟩
      have := HB1.out.size
      omega
    case body =>
      rintro l pre ⟨x1, x2⟩ W ⟨b, hE, hB, hb⟩ hx hsW hnc
      have c0 := hE.cell 0 rfl
      have f0 := hE.free 0
      have HE := Lib.hid hE
      have HB := Lib.hid hB
      clear hE hB hnc
      by_cases hl : x2 ≤ x1
      · have hd : decide ((x2 : Int) ≤ (x1 : Int)) = true := by simp; omega
        gi_wp2
        refine ⟨⟨heap_setCell_other _ _ _ _ (show w1.heap.size ≠ w0.heap.size by omega), heap_setCell_other _ _ _ _ (show w1.heap.size + 1 ≠ w0.heap.size by omega)⟩, ⟨by simp [World.setCell], fun k hk hs => heap_setCell_other _ _ _ _ (show k ≠ w0.heap.size from ?_)⟩, true, Bx.set HE.out 0 _ _ rfl, bset HB.out HB.out.size _ _ _ hw0, fun _ => rfl⟩
        rcases hs with rfl | hs
        · omega
        · have := hgo _ hs
          omega
      · have hd : decide ((x2 : Int) ≤ (x1 : Int)) = false := by simp; omega
        gi_wp2
        refine ⟨⟨heap_setCell_other _ _ _ _ (show w1.heap.size ≠ w0.heap.size by omega), heap_setCell_other _ _ _ _ (show w1.heap.size + 1 ≠ w0.heap.size by omega)⟩, ⟨by simp [World.setCell], fun k hk hs => heap_setCell_other _ _ _ _ (show k ≠ w0.heap.size from ?_)⟩, rfl, hx, false, Bx.set HE.out 0 _ _ rfl, bset HB.out HB.out.size _ _ _ hw0⟩
        rcases hs with rfl | hs
        · omega
        · have := hgo _ hs
          omega
    case done =>
      rintro xs W hxs ⟨b, hE, hB, hb⟩ hK
      have c0 := hE.cell 0 rfl
      cases b
      · go_wp2_with fail
        rw [Exit.noGoto_ret]
        refine ⟨by simp, .inl ⟨_, _, rfl, run_takeDeferred hK, ?_⟩⟩
        refine ⟨.int .i64 17, by simp [results, Tryz.results206, go_sem], _, rfl, fun h => absurd (hb (hxs h)) (by decide), ?_⟩
        exact Turn.to hB (shut_turn (S := fun k => k = w1.heap.size) W w1.heap.size _ rfl) hB.size (fun k e => by have := HB1.out.size; omega)
      · go_wp2_with fail
        refine ⟨by simp, .inl ⟨_, _, rfl, run_takeDeferred hK, ?_⟩⟩
        refine ⟨.int .i64 0, by simp [results, Tryz.results206, go_sem], _, rfl, fun _ => rfl, ?_⟩
        exact Turn.to hB (shut_turn (S := fun k => k = w1.heap.size) W w1.heap.size _ rfl) hB.size (fun k e => by have := HB1.out.size; omega)
    case stop =>
      rintro c pre W - ⟨rfl, h2, b, hE, hB⟩ hK
      have c0 := hE.cell 0 rfl
      cases b
      · refine wpIn_wide.2 ?_
        go_wp2_with fail
        rw [Exit.noGoto_ret]
        refine ⟨by simp, .inl ⟨_, _, rfl, run_takeDeferred hK, ?_⟩⟩
        refine ⟨.int .i64 17, by simp [results, Tryz.results206, go_sem], _, rfl, fun h => absurd h2 h, ?_⟩
        exact Turn.to hB (shut_turn (S := fun k => k = w1.heap.size) W w1.heap.size _ rfl) hB.size (fun k e => by have := HB1.out.size; omega)
      · refine wpIn_wide.2 ?_
        go_wp2_with fail
        rw [Exit.noGoto_ret]
        refine ⟨by simp, .inl ⟨_, _, rfl, run_takeDeferred hK, ?_⟩⟩
        refine ⟨.int .i64 0, by simp [results, Tryz.results206, go_sem], _, rfl, fun _ => rfl, ?_⟩
        exact Turn.to hB (shut_turn (S := fun k => k = w1.heap.size) W w1.heap.size _ rfl) hB.size (fun k e => by have := HB1.out.size; omega)
  · have hd : (er != 0) = true := by simpa using he
    go_wp2_with fail
    refine ⟨.int .i64 er, by simp [results, Tryz.results206, go_sem], _, rfl, her.out, HB0.out⟩
end Go.Proofs.YtoichcickcgbgaaGreatDoor
namespace Go.Proofs.YtoichcickcgbgaaGreatDoor.Sh
open Go.Shelf
def growRow_ren : Go.Shelf.Ren := ⟨fun | 4 => 209 | n => n, fun | 22 => 77 | 25 => 37 | 3 => 3 | 4 => 4 | 9 => 9 | 20 => 20 | 0 => 0 | n => n, fun | n => n⟩
theorem growRow : Go.Proofs.Lays8.n4 Tryz.prog growRow_ren := {
  mixed := by kernel_rfl
  f4 := ⟨Tryz.f209.name, by decide, Tryz.func209.trans (congrArg some (by kernel_rfl))⟩
  t0 := Tryz.underlying0
  a0 := Tryz.isAgg0
  z0 := Tryz.sizeOf0
  v0 := Tryz.zeroValue0
  t3 := Tryz.underlying3
  a3 := Tryz.isAgg3
  z3 := Tryz.sizeOf3
  v3 := Tryz.zeroValue3
  t4 := Tryz.underlying4
  a4 := Tryz.isAgg4
  z4 := Tryz.sizeOf4
  v4 := Tryz.zeroValue4
  t9 := Tryz.underlying9
  a9 := Tryz.isAgg9
  z9 := Tryz.sizeOf9
  v9 := Tryz.zeroValue9
  t20 := Tryz.underlying20
  a20 := Tryz.isAgg20
  z20 := Tryz.sizeOf20
  v20 := Tryz.zeroValue20
  t22 := Tryz.underlying77
  a22 := Tryz.isAgg77
  z22 := Tryz.sizeOf77
  v22 := Tryz.zeroValue77 }
def growTask_ren : Go.Shelf.Ren := ⟨fun | 4 => 227 | n => n, fun | 22 => 161 | 25 => 32 | 3 => 3 | 4 => 4 | 9 => 9 | 20 => 20 | 0 => 0 | n => n, fun | n => n⟩
theorem growTask : Go.Proofs.Lays8.n4 Tryz.prog growTask_ren := {
  mixed := by kernel_rfl
  f4 := ⟨Tryz.f227.name, by decide, Tryz.func227.trans (congrArg some (by kernel_rfl))⟩
  t0 := Tryz.underlying0
  a0 := Tryz.isAgg0
  z0 := Tryz.sizeOf0
  v0 := Tryz.zeroValue0
  t3 := Tryz.underlying3
  a3 := Tryz.isAgg3
  z3 := Tryz.sizeOf3
  v3 := Tryz.zeroValue3
  t4 := Tryz.underlying4
  a4 := Tryz.isAgg4
  z4 := Tryz.sizeOf4
  v4 := Tryz.zeroValue4
  t9 := Tryz.underlying9
  a9 := Tryz.isAgg9
  z9 := Tryz.sizeOf9
  v9 := Tryz.zeroValue9
  t20 := Tryz.underlying20
  a20 := Tryz.isAgg20
  z20 := Tryz.sizeOf20
  v20 := Tryz.zeroValue20
  t22 := Tryz.underlying161
  a22 := Tryz.isAgg161
  z22 := Tryz.sizeOf161
  v22 := Tryz.zeroValue161 }
end Go.Proofs.YtoichcickcgbgaaGreatDoor.Sh
namespace Go.Proofs.YtoichcickcgbgaaGreatDoor
open Go.RowKit
attribute [local go_sem] Oper.semAt_some
theorem own_cap {w : World} {B : Nat} {e : TypeId} {size n : Nat} {oa : Option Addr} {m cap : Nat} {xs : List Value} (h : w.ownsRow B e size (.slice oa m cap) n xs) : n ≤ cap := by
  rcases h.2 with ⟨h, h0⟩ | ⟨g, cap', cur, h, _, _, h1, _⟩
  · omega
  · cases h; exact h1
theorem range_add {w : World} {h : Nat} {l : List Value} (hr : w.rangeAt h 0 l) : ∀ j u, l[j]? = some u → w.cell? ((⟨h, 0, none⟩ : Addr).add j) = some u := fun j u hj => by
  have := hr j u hj
  by_cases h0 : j = 0
  · subst h0; simpa [Addr.add] using this
  · simpa [Addr.add, h0] using this
/-- An own slice of 0 rows with room for n. -/
theorem grow_row (n : Nat) (h0 : 0 < n) (hn : n ≤ 1000) (w : World) :
    Calls Tryz.prog 209 #[.slice none 0 0, .int .i64 n] w fun e w' => ∃ v, e = .returned v ∧ w'.ownsRow w.heap.size 37 6 v 0 [] ∧ v ≠ .slice none 0 0 ∧ Below w.heap.size w w' := by
  obtain ⟨i0, hi, hz0, hz1, hz2⟩ := info_parts info37
  refine (Any8.slices_Grow_grow Sh.growRow i0 _ hi hz0 (by rw [hz1]; decide) none 0 0 n [] w (by omega) (by omega) (by rw [hz2]; omega) (by omega) (by simp) (fun _ => rfl) (fun a h => by cases h)).mono ?_
  rintro e w' ⟨rfl, rfl⟩
  refine ⟨_, rfl, ⟨rfl, .inr ⟨w.heap.size, _, _, rfl, Nat.le_refl _, World.alloc_heap_new _ _, Nat.zero_le _, ?_, ?_, by simp⟩⟩, by simp, ((Below.refl _ _).drew).alloc (Nat.le_refl _) _⟩
  · exact grownCap_le_maxLen _ _ _ _ (by unfold maxLen; omega)
  · have := grownCap_ge w (0 + n) 0 37
    show (_ : Array Value).size = grownCap w (0 + n) 0 37 * 6
    change 0 + n ≤ grownCap w (0 + n) 0 37 at this
    rw [Array.size_append, Array.size_append, size_zeroCells, size_zeroCells]
    show 0 + (0 + n - 0) * 6 + (grownCap w (0 + n) 0 37 - (0 + n)) * 6 = _
    generalize grownCap w (0 + n) 0 37 = c at *
    omega
set_option maxRecDepth 100000 in
theorem cmp_row (x : Rk) (y : Int) (w : World) :
    Calls Tryz.prog 178 #[rv x, .int .i64 y] w fun e w' => e = .returned (.int .i64 (Lib.compareInt x.k.id y)) ∧ Below w.heap.size w w' := by
  have hv : rv x = .agg #[.int .i64 x.k.id, .int .i64 x.k.c, .int .i64 x.k.d, .int .i64 x.k.t, .int .i64 x.k.m, .bool x.s] := rfl
  rw [hv]
  clear hv
  go_enter Tryz.func178, Tryz.ntmps178
  go_wp2_with fail
  refine (Sh.cmp_Compare_int _ _ _).mono ?_
  rintro e w' ⟨rfl, rfl⟩
  go_wp2_with fail
  go_ret
  exact ⟨rfl, (Below.refl _ _).alloc (Nat.le_refl _) _⟩
set_option maxRecDepth 100000 in
theorem bs_0 (oa : Option Addr) (cap : Nat) (y : Int) (w : World) :
    Calls Tryz.prog 177 #[.slice oa 0 cap, .int .i64 y, .func (.func 178) #[] #[]] w fun e w' => e = .returned (.tuple #[.int .i64 0, .bool false]) ∧ w = w' := by
  go_enter Tryz.func177, Tryz.ntmps177
  go_wp2_with fail
  refine wp_loop_rounds 1 ?_
  rw [rounds_succ]
  go_wp2_with fail
  go_ret2
  exact ⟨rfl, rfl⟩
set_option maxRecDepth 100000 in
theorem bs_less {w : World} {g cap : Nat} {a : Rk} (hr : w.rangeAt g 0 (rc a)) (y : Int) (h : a.k.id < y) :
    Calls Tryz.prog 177 #[.slice (some ⟨g, 0, none⟩) 1 cap, .int .i64 y, .func (.func 178) #[] #[]] w fun e w' => e = .returned (.tuple #[.int .i64 1, .bool false]) ∧ Below w.heap.size w w' := by
  have hc : Lib.compareInt a.k.id y = -1 := by simp [Lib.compareInt]; omega
  have q0 := hr 0 _ rfl
  have q1 := hr 1 _ rfl
  have q2 := hr 2 _ rfl
  have q3 := hr 3 _ rfl
  have q4 := hr 4 _ rfl
  have q5 := hr 5 _ rfl
  simp only [Nat.zero_add] at q0 q1 q2 q3 q4 q5
  clear hr
  go_enter Tryz.func177, Tryz.ntmps177
  go_wp2_with fail
  refine wp_loop_rounds 2 ?_
  rw [rounds_succ]
  go_wp2_with fail
  refine (cmp_row a y _).mono ?_
  rintro e w1 ⟨rfl, b1⟩
  rw [hc]
  have B1 := Lib.hid b1
  clear q0 q1 q2 q3 q4 q5 b1
  go_wp2_with fail
  rw [rounds_succ]
  go_wp2_with fail
  go_ret2
  exact ⟨rfl, B1.out⟩
set_option maxRecDepth 100000 in
theorem bs_not {w : World} {g cap : Nat} {a : Rk} (hr : w.rangeAt g 0 (rc a)) (hg : g < w.heap.size) (y : Int) (h : ¬ a.k.id < y) :
    Calls Tryz.prog 177 #[.slice (some ⟨g, 0, none⟩) 1 cap, .int .i64 y, .func (.func 178) #[] #[]] w fun e w' => e = .returned (.tuple #[.int .i64 0, .bool (decide (a.k.id = y))]) ∧ Below w.heap.size w w' := by
  have q0 := hr 0 _ rfl
  have q1 := hr 1 _ rfl
  have q2 := hr 2 _ rfl
  have q3 := hr 3 _ rfl
  have q4 := hr 4 _ rfl
  have q5 := hr 5 _ rfl
  simp only [Nat.zero_add] at q0 q1 q2 q3 q4 q5
  have HR := Lib.hid hr
  clear hr
  have hc : (Lib.compareInt a.k.id y = 0 ∧ decide (a.k.id = y) = true) ∨ (Lib.compareInt a.k.id y = 1 ∧ decide (a.k.id = y) = false) := by
    rcases Int.lt_or_eq_of_le (Int.not_lt.1 h) with h' | h'
    · right; simp [Lib.compareInt]; omega
    · left; simp [Lib.compareInt]; omega
  go_enter Tryz.func177, Tryz.ntmps177
  go_wp2_with fail
  refine wp_loop_rounds 2 ?_
  rw [rounds_succ]
  go_wp2_with fail
  refine (cmp_row a y _).mono ?_
  rintro e w1 ⟨rfl, b1⟩
  have hr1 := rangeAt_block HR.out (b1.block g hg)
  have B1 := Lib.hid b1
  clear q0 q1 q2 q3 q4 q5 b1
  have q0 := hr1 0 _ rfl
  have q1 := hr1 1 _ rfl
  have q2 := hr1 2 _ rfl
  have q3 := hr1 3 _ rfl
  have q4 := hr1 4 _ rfl
  have q5 := hr1 5 _ rfl
  simp only [Nat.zero_add] at q0 q1 q2 q3 q4 q5
  clear hr1
  rcases hc with ⟨h1, h2⟩ | ⟨h1, h2⟩
  all_goals
    rw [h1]
    go_wp2_with fail
    rw [rounds_succ]
    go_wp2_with fail
    refine (cmp_row a y _).mono ?_
    rintro e w2 ⟨rfl, b2⟩
    rw [h1]
    have B2 := Lib.hid (B1.out.trans (b2.mono B1.out.size))
    clear q0 q1 q2 q3 q4 q5 b2
    go_wp2_with fail
    go_ret2
    exact ⟨by rw [h2]; rfl, B2.out⟩
set_option maxRecDepth 100000 in
/-- A place, of a table of one row at most. -/
theorem at_any {w : World} {v : Value} {rs : List Rk} (h : Sx rc w v rs) (hn : rs.length ≤ 1) (y : Int) :
    Calls Tryz.prog 129 #[.agg #[v, .int .i64 0], .int .i64 y] w fun e w' => (∃ i t, e = .returned (.tuple #[.int .i64 i, .bool t]) ∧ (rs.all (fun r => r.k.id < y) → i = rs.length ∧ t = false)) ∧ Below w.heap.size w w' := by
  match rs, h, hn with
  | [], h, _ =>
    obtain ⟨oa, cap, rfl, ha⟩ := h.none
    go_enter Tryz.func129, Tryz.ntmps129
    go_wp2_with fail
    refine (bs_0 oa cap y _).mono ?_
    rintro e w1 ⟨rfl, rfl⟩
    go_wp2_with fail
    go_ret2
    exact ⟨⟨0, false, rfl, fun _ => ⟨rfl, rfl⟩⟩, (Below.refl _ _).alloc (Nat.le_refl _) _⟩
  | [a], h, _ =>
    obtain ⟨g, cap, rfl, hg, hc, hr⟩ := h.one
    have bb := (Below.refl w.heap.size w).alloc (Nat.le_refl _) (.cells #[.slice (some ⟨g, 0, none⟩) 1 cap, .int .i64 0] 79)
    have hr0 := Lib.hid (rangeAt_block hr (bb.block g hg))
    have hg0 := Nat.lt_of_lt_of_le hg bb.size
    have hz := bb.size
    have BB := Lib.hid bb
    clear bb hr h
    go_enter Tryz.func129, Tryz.ntmps129
    go_wp2_with fail
    by_cases hl : a.k.id < y
    · refine (bs_less hr0.out y hl).mono ?_
      rintro e w1 ⟨rfl, b1⟩
      have B1 := Lib.hid b1
      clear b1 hr0
      go_wp2_with fail
      go_ret2
      exact ⟨⟨1, false, rfl, fun _ => ⟨rfl, rfl⟩⟩, BB.out.trans (B1.out.mono hz)⟩
    · refine (bs_not hr0.out hg0 y hl).mono ?_
      rintro e w1 ⟨rfl, b1⟩
      have B1 := Lib.hid b1
      clear b1 hr0
      go_wp2_with fail
      go_ret2
      exact ⟨⟨0, _, rfl, fun h => absurd (by simpa using h) (by omega)⟩, BB.out.trans (B1.out.mono hz)⟩
  | _ :: _ :: _, _, h => exact absurd h (by simp)
set_option maxRecDepth 100000 in
set_option maxHeartbeats 1000000 in
theorem concat_1 {w : World} {s h : Nat} {x : Rk} (h0 : w.cell? ⟨s, 0, none⟩ = some (.slice none 0 0)) (h1 : w.cell? ⟨s, 1, none⟩ = some (.slice (some ⟨h, 0, none⟩) 1 1)) (h2 : w.cell? ⟨s, 2, none⟩ = some (.slice none 0 0)) (hs : s < w.heap.size) (hr : w.rangeAt h 0 (rc x)) (hh : h < w.heap.size) :
    Calls Tryz.prog 179 #[.slice (some ⟨s, 0, none⟩) 3 3] w fun e w' => ∃ v, e = .returned v ∧ Sx rc w' v [x] ∧ (∀ g, v.ownBlock = some g → w.heap.size ≤ g) ∧ Below w.heap.size w w' := by
  have HR := Lib.hid hr
  have Hs := Lib.hid (show ∀ x, Below w.heap.size w x → x.cell? ⟨s, 0, none⟩ = some (.slice none 0 0) ∧ x.cell? ⟨s, 1, none⟩ = some (.slice (some ⟨h, 0, none⟩) 1 1) ∧ x.cell? ⟨s, 2, none⟩ = some (.slice none 0 0) from fun x hx => ⟨(World.cell?_of_block (hx.block s hs)).trans h0, (World.cell?_of_block (hx.block s hs)).trans h1, (World.cell?_of_block (hx.block s hs)).trans h2⟩)
  clear hr
  go_enter Tryz.func179, Tryz.ntmps179
  go_wp2_with fail
  refine wp_loop_rounds 4 ?_
  rw [rounds_succ]
  go_wp2_with fail
  rw [rounds_succ]
  go_wp2_with fail
  rw [rounds_succ]
  go_wp2_with fail
  rw [rounds_succ]
  go_wp2_with fail
  refine (grow_row 1 (by omega) (by omega) _).mono ?_
  rintro e w1 ⟨v, rfl, ho, hne, b1⟩
  obtain ⟨h0, h1, h2⟩ := Hs.out w1 b1
  obtain ⟨k, cp, rfl⟩ : ∃ k cp, v = .slice (some ⟨k, 0, none⟩) 0 cp := by
    rcases ho.2 with ⟨h, _⟩ | ⟨g, cap, cur, h, _⟩
    · exact absurd h hne
    · exact ⟨g, cap, h⟩
  have q := rangeAt_block HR.out (b1.block h hh)
  have Q := Lib.hid q
  have B1 := Lib.hid b1
  have HO := Lib.hid ho
  clear hne b1 ho q
  go_wp2_with fail
  refine wp_loop_rounds 4 ?_
  rw [rounds_succ]
  go_wp2_with fail
  rw [rounds_succ]
  obtain ⟨i0, hi, hz0, hz1, hz2⟩ := info_parts info37
  go_wp2_with (at_builtin; go_loud (refine wpList_append_own _ rfl _ _ 77 rfl w.heap.size 37 i0 _ 6 48 Tryz.underlying77 hi hz0 hz1 hz2 rfl (by decide) _ 0 [] rfl HO.out ⟨h, 0, none⟩ 1 1 (rc x) rfl rfl (range_add Q.out) (by simpa using rc_one [x]) (by unfold maxLen; omega) (by omega) B1.out.size ?_))
  intro v2 w2 ho2 hg2 _
  have b2 : Below w.heap.size w w2 := B1.out.grown hg2 B1.out.size fun j hj => by
    have : k = j := by simpa [Value.ownBlock] using hj
    exact this ▸ own_fresh HO.out k rfl
  obtain ⟨k2, cp2, rfl⟩ := ownsRow_succ ho2
  have hc2 := own_cap ho2
  have hc3 : 1 ≤ cp2 := by omega
  obtain ⟨h0, h1, h2⟩ := Hs.out w2 b2
  have B2 := Lib.hid b2
  have HO2 := Lib.hid ho2
  clear b2 ho2 hg2
  go_wp2_with fail
  rw [rounds_succ]
  go_wp2_with fail
  rw [rounds_succ]
  go_wp2_with fail
  go_ret
  exact ⟨_, rfl, Sx.of_own (f := rc) (xs := [x]) (by simpa using HO2.out) rfl, own_fresh HO2.out, B2.out⟩
end Go.Proofs.YtoichcickcgbgaaGreatDoor
