/-
  TopServers: what is asked, and where it lies.
-/
import Derived.Test.YtoichcickcgbgaaGreatDoorGTnTr
import Derived.RegionTactic
import Derived.ChangeAlike
import Derived.BigQuiet
namespace Go.Proofs.YtoichcickcgbgaaGreatDoor
open Go.RowKit
attribute [local go_sem] Oper.semAt_some
attribute [local go_sem] run_store_func
set_option linter.unusedSimpArgs false in
set_option maxRecDepth 100000 in
set_option maxHeartbeats 8000000 in
theorem top_any (w : World) (p0 p1 p2 p3 q0 q1 : Int) (a0 : Option Addr) (len0 cap0 : Nat) (h0 : len0 ≤ 9223372036854775807 ∧ SeenI w a0 len0) :
    Calls Tryz.prog 3 #[.agg #[.int .i64 p0, .int .i64 p1, .int .i64 p2, .int .i64 p3], .slice a0 len0 cap0, .agg #[.int .i64 q0, .int .i64 q1]] w fun e w' => e = .returned (.bool true) ∧ Below w.heap.size w w' := by
  have HN := Lib.hid (fun (y : World) => cnew_any 34 (by decide) (by decide) y)
  simp only [show ((34 : Nat) : Int) = 34 from rfl] at HN
  have b0 := ((Below.refl w.heap.size w).alloc (Nat.le_refl _) (.cells #[.int .i64 p0, .int .i64 p1, .int .i64 p2, .int .i64 p3] 23)).alloc (by simp) (.cells #[.int .i64 q0, .int .i64 q1] 22)
  have HP := Lib.hid ((Bx.new w [.int .i64 p0, .int .i64 p1, .int .i64 p2, .int .i64 p3] 23).more (.cells #[.int .i64 q0, .int .i64 q1] 22))
  have hz := Bx.new (w.alloc (.cells #[.int .i64 p0, .int .i64 p1, .int .i64 p2, .int .i64 p3] 23)) [.int .i64 q0, .int .i64 q1] 22
  simp only [World.size_alloc] at hz
  have HQ := Lib.hid hz
  have HB0 := Lib.hid b0
  clear hz b0
  go_enter Tryz.func3, Tryz.ntmps3
  go_wp2_with fail
  generalize (w.alloc (.cells #[.int .i64 p0, .int .i64 p1, .int .i64 p2, .int .i64 p3] 23)).alloc (.cells #[.int .i64 q0, .int .i64 q1] 22) = u0 at *
  refine (awake_any _).mono ?_
  rintro e w1 ⟨rfl, b1⟩
  have HP1 := Lib.hid (HP.out.below b1)
  have HQ1 := Lib.hid (HQ.out.below b1)
  have HB1 := Lib.hid (HB0.out.trans (b1.mono HB0.out.size))
  clear b1 HP HQ HB0
  go_wp2_with fail
  refine (config_15 _).mono ?_
  rintro e w2 ⟨rfl, b2⟩
  have HP2 := Lib.hid (HP1.out.below b2)
  have HQ2 := Lib.hid (HQ1.out.below b2)
  have HB2 := Lib.hid (HB1.out.trans (b2.mono HB1.out.size))
  clear b2 HP1 HQ1 HB1
  go_wp2_with fail
  refine (HN.out _).mono ?_
  rintro e w3 ⟨col, K, rfl, hc, hcol, b3⟩
  have HP3 := Lib.hid (HP2.out.below b3)
  have HQ3 := Lib.hid (HQ2.out.below b3)
  have HB3 := Lib.hid (HB2.out.trans (b3.mono HB2.out.size))
  have hq2 := HQ2.out.lt
  have HCO : Hid (∀ i, i ≤ w.heap.size + 1 → col i = 0) := fun i hi => hcol i (by omega)
  have hq3 := HQ3.out.lt
  have b4 := (Below.refl w3.heap.size w3).alloc (Nat.le_refl _) (.cells #[.int .i64 0, .int .i64 0, .int .i64 0, .int .i64 0, .int .i64 0, .int .i64 0, .int .i64 0, .int .i64 0, .int .i64 0, .int .i64 0] 33)
  have hnew4 := hc.new
  have HC4 := Lib.hid (hc.below b4)
  have HP4 := Lib.hid (HP3.out.below b4)
  have HQ4 := Lib.hid (HQ3.out.below b4)
  have HS4 := Lib.hid (Bx.new w3 [.int .i64 0, .int .i64 0, .int .i64 0, .int .i64 0, .int .i64 0, .int .i64 0, .int .i64 0, .int .i64 0, .int .i64 0, .int .i64 0] 33)
  have HB4 := Lib.hid (HB3.out.trans (b4.mono HB3.out.size))
  clear hc hcol b3 b4 HP2 HQ2 HB2 HP3 HQ3 HB3 HN
  go_wp2_with fail
  have hw3 : w.heap.size + 1 < w3.heap.size := hq3
  generalize hS : w3.heap.size = S at *
  generalize w3.alloc (.cells #[.int .i64 0, .int .i64 0, .int .i64 0, .int .i64 0, .int .i64 0, .int .i64 0, .int .i64 0, .int .i64 0, .int .i64 0, .int .i64 0] 33) = w4 at *
  go_loopw [10] (fun s10 wr => ∃ (k : Int) (col : Nat → Nat) (rs : List Rk) (l : List Value), s10 = .int .i64 k ∧ 0 ≤ k ∧ k ≤ 2 ∧ Hid (Ctl wr col K 34 0 rs (fun _ => none) [] 0) ∧ Hid (Bx wr S 33 l) ∧ Hid (Adm k rs l) ∧ Hid (col S = 0 ∧ ∀ i, i ≤ w.heap.size + 1 → col i = 0) ∧ Hid (Bx wr w.heap.size 23 [.int .i64 p0, .int .i64 p1, .int .i64 p2, .int .i64 p3]) ∧ Hid (Bx wr (w.heap.size + 1) 22 [.int .i64 q0, .int .i64 q1]) ∧ Hid (Below w.heap.size w wr)) (fun s10 _ => (2 - intOf s10).toNat)
  case atStart => exact ⟨0, col, [], _, rfl, by decide, by decide, HC4, HS4, .inl ⟨rfl, rfl, rfl⟩, ⟨hnew4, HCO.out⟩, HP4, HQ4, HB4⟩
  case round =>
    clear HC4 HS4 HP4 HQ4 HB4 hnew4 HCO
    obtain ⟨k, col, rs, l, rfl, hk0, hk2, HC, HS, HA, HCO, HP, HQ, HB⟩ := hrel
    rcases HA.out with ⟨rfl, rfl, rfl⟩ | ⟨rfl, c, t, hct, rfl, rfl⟩ | ⟨rfl, c, t, d, c2, t2, hct, hct2, rfl, hh⟩
    · obtain ⟨T, hT, hT2, hT9⟩ := tt_of p1
      obtain ⟨C, hC, hC1, hC2⟩ := cc_of p0 T hT2 hT9
      have HCT := Lib.hid (CT.mk hC1 hC2 hT2 hT9)
      have c1 := HP.out.cell 1 rfl
      have c0 := HP.out.cell 0 rfl
      go_upto_region 10 with fail
      rw [hT]
      go_upto_region 11 with fail
      rw [hC]
      have s0 := HS.out.cell 0 rfl
      have f0 := HS.out.free 0
      have s1 := HS.out.cell 1 rfl
      have f1 := HS.out.free 1
      have s2 := HS.out.cell 2 rfl
      have f2 := HS.out.free 2
      have s3 := HS.out.cell 3 rfl
      have f3 := HS.out.free 3
      have s4 := HS.out.cell 4 rfl
      have f4 := HS.out.free 4
      have g0 := Bx.set (w := wr) HS.out 0 (.int .i64 0) _ rfl
      have g1 := Bx.set (w := _) g0 1 (.int .i64 C) _ rfl
      have g2 := Bx.set (w := _) g1 2 (.int .i64 T) _ rfl
      have g3 := Bx.set (w := _) g2 3 (.int .i64 T) _ rfl
      have g4 := Bx.set (w := _) g3 4 (.int .i64 15) _ rfl
      have t0 := g4.cell 0 rfl
      have t1 := g4.cell 1 rfl
      have t2 := g4.cell 2 rfl
      have t3 := g4.cell 3 rfl
      have t4 := g4.cell 4 rfl
      have ts : Turn (fun i => i = S) wr (((((wr.setCell ⟨S, 0, none⟩ (.int .i64 0)).setCell ⟨S, 1, none⟩ (.int .i64 C)).setCell ⟨S, 2, none⟩ (.int .i64 T)).setCell ⟨S, 3, none⟩ (.int .i64 T)).setCell ⟨S, 4, none⟩ (.int .i64 15)) := (((((Turn.set (S := fun i => i = S) _ _ _ _ rfl).trans (Turn.set _ _ _ _ rfl)).trans (Turn.set _ _ _ _ rfl)).trans (Turn.set _ _ _ _ rfl)).trans (Turn.set _ _ _ _ rfl))
      have HS1 := Lib.hid g4
      have HC1 := Lib.hid (HC.out.away ts HCO.out.1 (fun l h => Bx.ne h HS.out (by decide) rfl))
      have HP1 := Lib.hid (HP.out.turn ts (by omega))
      have HQ1 := Lib.hid (HQ.out.turn ts (by omega))
      have HB1 := Lib.hid (((Turn.below HB.out).then (S := fun i => i = S) ts (fun i _ h => h)).fresh (fun i hi e => by omega))
      have hSl := g4.lt
      clear g0 g1 g2 g3 g4 ts
      go_upto_region 12 with fail
      generalize (((((wr.setCell ⟨S, 0, none⟩ (.int .i64 0)).setCell ⟨S, 1, none⟩ (.int .i64 C)).setCell ⟨S, 2, none⟩ (.int .i64 T)).setCell ⟨S, 3, none⟩ (.int .i64 T)).setCell ⟨S, 4, none⟩ (.int .i64 15)) = v1 at *
      have HO := Lib.hid (fun (y : World) (h : Ctl y col K 34 0 [] (fun _ => none) [] 0) => do_op h (x := xs 0 C T) (rws_1 HCT.out) (HCT.out.lo (.inl rfl)))
      simp only [xs] at HO
      clear s0 f0 s1 f1 s2 f2 s3 f3 s4 f4
      go_wp2_with fail
      refine (HO.out _ HC1.out).mono ?_
      rintro e v2 ⟨er, rfl, her, hc, t2⟩
      have bA := (Below.refl v2.heap.size v2).alloc (Nat.le_refl _) (.cells #[.int .i64 er, .slice none 0 0, .int .i64 0, .int .i64 0, .int .i64 0, .int .i64 0, .int .i64 0, .bool false, .int .i64 0, .int .i64 0, .slice none 0 0] 40)
      have HS2 := Lib.hid ((HS1.out.turn t2 (fun h => h HCO.out.1)).below bA)
      have HP2 := Lib.hid ((HP1.out.turn t2 (fun h => h (HCO.out.2 _ (by omega)))).below bA)
      have HQ2 := Lib.hid ((HQ1.out.turn t2 (fun h => h (HCO.out.2 _ (by omega)))).below bA)
      have hb2 := ((Turn.below HB1.out).then (S := fun i => w.heap.size ≤ i) t2 (fun i hi h => (h (HCO.out.2 _ (by omega))).elim)).fresh (fun i hi h => by omega)
      have HB2 := Lib.hid (hb2.trans (bA.mono hb2.size))
      have z0 := (Bx.new v2 [.int .i64 er, .slice none 0 0, .int .i64 0, .int .i64 0, .int .i64 0, .int .i64 0, .int .i64 0, .bool false, .int .i64 0, .int .i64 0, .slice none 0 0] 40).cell 0 rfl
      have HER := Lib.hid her
      clear t2 hb2 HS1 HP1 HQ1 HB1 HC1 her HO
      obtain ⟨rfl, col3, hc3, hcol3⟩ : er = 0 ∧ ∃ col', Ctl v2 col' K 34 0 [xs 0 C T] (fun _ => none) [] 0 ∧ ∀ i, i < v1.heap.size → col' i = col i := by
        rcases hc with ⟨h0, h⟩ | ⟨h0, _⟩
        · exact ⟨h0, h⟩
        · exact (h0 (by simpa using HER.out)).elim
      clear hc HER
      go_wp2_with fail
      have HC3 := Lib.hid (hc3.below bA)
      clear hc3 bA z0
      generalize v2.alloc (.cells #[.int .i64 0, .slice none 0 0, .int .i64 0, .int .i64 0, .int .i64 0, .int .i64 0, .int .i64 0, .bool false, .int .i64 0, .int .i64 0, .slice none 0 0] 40) = v3 at *
      go_roundw
      case rel => exact ⟨1, col3, _, _, by go_num, by decide, by decide, HC3, HS2, .inr (.inl ⟨rfl, C, T, HCT.out, rfl, rfl⟩), ⟨(hcol3 S hSl).trans HCO.out.1, fun i hi => (hcol3 i (by omega)).trans (HCO.out.2 i hi)⟩, HP2, HQ2, HB2⟩
      case measure => simp [intOf]
    · obtain ⟨T, hT, hT2, hT9⟩ := tt_of p3
      obtain ⟨C, hC, hC1, hC2⟩ := cc_of p2 T hT2 hT9
      have HCT := Lib.hid (CT.mk hC1 hC2 hT2 hT9)
      have c3 := HP.out.cell 3 rfl
      have c2 := HP.out.cell 2 rfl
      go_upto_region 10 with fail
      rw [hT]
      go_upto_region 11 with fail
      rw [hC]
      have s0 := HS.out.cell 5 rfl
      have f0 := HS.out.free 5
      have s1 := HS.out.cell 6 rfl
      have f1 := HS.out.free 6
      have s2 := HS.out.cell 7 rfl
      have f2 := HS.out.free 7
      have s3 := HS.out.cell 8 rfl
      have f3 := HS.out.free 8
      have s4 := HS.out.cell 9 rfl
      have f4 := HS.out.free 9
      have g0 := Bx.set (w := wr) HS.out 5 (.int .i64 1) _ rfl
      have g1 := Bx.set (w := _) g0 6 (.int .i64 C) _ rfl
      have g2 := Bx.set (w := _) g1 7 (.int .i64 T) _ rfl
      have g3 := Bx.set (w := _) g2 8 (.int .i64 T) _ rfl
      have g4 := Bx.set (w := _) g3 9 (.int .i64 15) _ rfl
      have t0 := g4.cell 5 rfl
      have t1 := g4.cell 6 rfl
      have t2 := g4.cell 7 rfl
      have t3 := g4.cell 8 rfl
      have t4 := g4.cell 9 rfl
      have ts : Turn (fun i => i = S) wr (((((wr.setCell ⟨S, 5, none⟩ (.int .i64 1)).setCell ⟨S, 6, none⟩ (.int .i64 C)).setCell ⟨S, 7, none⟩ (.int .i64 T)).setCell ⟨S, 8, none⟩ (.int .i64 T)).setCell ⟨S, 9, none⟩ (.int .i64 15)) := (((((Turn.set (S := fun i => i = S) _ _ _ _ rfl).trans (Turn.set _ _ _ _ rfl)).trans (Turn.set _ _ _ _ rfl)).trans (Turn.set _ _ _ _ rfl)).trans (Turn.set _ _ _ _ rfl))
      have HS1 := Lib.hid g4
      have HC1 := Lib.hid (HC.out.away ts HCO.out.1 (fun l h => Bx.ne h HS.out (by decide) rfl))
      have HP1 := Lib.hid (HP.out.turn ts (by omega))
      have HQ1 := Lib.hid (HQ.out.turn ts (by omega))
      have HB1 := Lib.hid (((Turn.below HB.out).then (S := fun i => i = S) ts (fun i _ h => h)).fresh (fun i hi e => by omega))
      have hSl := g4.lt
      clear g0 g1 g2 g3 g4 ts
      go_upto_region 12 with fail
      generalize (((((wr.setCell ⟨S, 5, none⟩ (.int .i64 1)).setCell ⟨S, 6, none⟩ (.int .i64 C)).setCell ⟨S, 7, none⟩ (.int .i64 T)).setCell ⟨S, 8, none⟩ (.int .i64 T)).setCell ⟨S, 9, none⟩ (.int .i64 15)) = v1 at *
      have HO := Lib.hid (fun (y : World) (h : Ctl y col K 34 0 [xs 0 c t] (fun _ => none) [] 0) => do_op h (x := xs 1 C T) (rws_2 hct HCT.out) (HCT.out.lo (.inr rfl)))
      simp only [xs] at HO
      clear s0 f0 s1 f1 s2 f2 s3 f3 s4 f4
      go_wp2_with fail
      refine (HO.out _ HC1.out).mono ?_
      rintro e v2 ⟨er, rfl, her, hc, t2⟩
      have bA := (Below.refl v2.heap.size v2).alloc (Nat.le_refl _) (.cells #[.int .i64 er, .slice none 0 0, .int .i64 0, .int .i64 0, .int .i64 0, .int .i64 0, .int .i64 0, .bool false, .int .i64 0, .int .i64 0, .slice none 0 0] 40)
      have HS2 := Lib.hid ((HS1.out.turn t2 (fun h => h HCO.out.1)).below bA)
      have HP2 := Lib.hid ((HP1.out.turn t2 (fun h => h (HCO.out.2 _ (by omega)))).below bA)
      have HQ2 := Lib.hid ((HQ1.out.turn t2 (fun h => h (HCO.out.2 _ (by omega)))).below bA)
      have hb2 := ((Turn.below HB1.out).then (S := fun i => w.heap.size ≤ i) t2 (fun i hi h => (h (HCO.out.2 _ (by omega))).elim)).fresh (fun i hi h => by omega)
      have HB2 := Lib.hid (hb2.trans (bA.mono hb2.size))
      have z0 := (Bx.new v2 [.int .i64 er, .slice none 0 0, .int .i64 0, .int .i64 0, .int .i64 0, .int .i64 0, .int .i64 0, .bool false, .int .i64 0, .int .i64 0, .slice none 0 0] 40).cell 0 rfl
      have HER := Lib.hid her
      clear t2 hb2 HS1 HP1 HQ1 HB1 HC1 her HO
      rcases hc with ⟨rfl, col3, hc3, hcol3⟩ | ⟨hne, hc3⟩
      · go_wp2_with fail
        have HC3 := Lib.hid (hc3.below bA)
        clear hc3 bA z0
        generalize v2.alloc (.cells #[.int .i64 0, .slice none 0 0, .int .i64 0, .int .i64 0, .int .i64 0, .int .i64 0, .int .i64 0, .bool false, .int .i64 0, .int .i64 0, .slice none 0 0] 40) = v3 at *
        go_roundw
        case rel => exact ⟨2, col3, _, _, by go_num, by decide, by decide, HC3, HS2, .inr (.inr ⟨rfl, c, t, C, C, T, hct, HCT.out, rfl, .inl ⟨rfl, rfl⟩⟩), ⟨(hcol3 S hSl).trans HCO.out.1, fun i hi => (hcol3 i (by omega)).trans (HCO.out.2 i hi)⟩, HP2, HQ2, HB2⟩
        case measure => simp [intOf]
      · have hb : (er != 0) = true := by simpa using hne
        have s6 := HS2.out.cell 6 rfl
        have f6 := HS2.out.free 6
        have HC3 := Lib.hid (hc3.below bA)
        clear hc3 bA
        go_upto_region 14 with fail
        generalize v2.alloc (.cells #[.int .i64 er, .slice none 0 0, .int .i64 0, .int .i64 0, .int .i64 0, .int .i64 0, .int .i64 0, .bool false, .int .i64 0, .int .i64 0, .slice none 0 0] 40) = v3 at *
        have ts : Turn (fun i => i = S) v3 (v3.setCell ⟨S, 6, none⟩ (.int .i64 0)) := Turn.set _ _ _ _ rfl
        have HS3 := Lib.hid (HS2.out.set 6 (.int .i64 0) _ rfl)
        have HC4 := Lib.hid (HC3.out.away ts HCO.out.1 (fun l h => Bx.ne h HS2.out (by decide) rfl))
        have HP3 := Lib.hid (HP2.out.turn ts (by omega))
        have HQ3 := Lib.hid (HQ2.out.turn ts (by omega))
        have HB3 := Lib.hid (((Turn.below HB2.out).then (S := fun i => i = S) ts (fun i _ h => h)).fresh (fun i hi e => by omega))
        clear ts HS2 HC3 HP2 HQ2 HB2 z0
        go_wp2_with fail
        go_roundw
        case rel => exact ⟨2, col, [xs 0 c t], _, by go_num, by decide, by decide, HC4, HS3, .inr (.inr ⟨rfl, c, t, 0, C, T, hct, HCT.out, rfl, .inr ⟨rfl, rfl⟩⟩), HCO, HP3, HQ3, HB3⟩
        case measure => simp [intOf]
    · have HBO := Lib.hid (both_of hct hct2 hh)
      have hR := HC.out.new
      have b5 := (Below.refl wr.heap.size wr).alloc (Nat.le_refl _) (.cells Tryz.zeroCells48 48)
      have HC5 := Lib.hid (HC.out.below b5)
      have HS5 := Lib.hid (HS.out.below b5)
      have HQ5 := Lib.hid (HQ.out.below b5)
      have HB5 := Lib.hid (HB.out.trans (b5.mono HB.out.size))
      have HR5 := Lib.hid (Rn.new wr)
      have HAX : Hid (Acc c t 0 (fun _ => 0) (fun _ => none) [] 0 ∧ Acc d t2 0 (fun _ => 0) (fun _ => none) [] 1) := ⟨Acc.start (F := fun _ => 0) (c := c) (T := t) (by have := hct.c0; omega) (by have := hct.t0; omega) rfl 0, Acc.start (F := fun _ => 0) (c := d) (T := t2) HBO.out.d0 (by have := hct2.t0; omega) rfl 1⟩
      have hSR : S < wr.heap.size := HS.out.lt
      have hsee := h0.2
      have hct2t := hct2.t0
      have hct2u := hct2.t1
      have hctt := hct.t0
      have hctu := hct.t1
      have hctc := hct.c0
      have hctd := hct.c1
      clear b5 HC HS HQ HB HP HA hh hct hct2
      go_wp2_with fail
      generalize hRb : wr.heap.size = R at *
      generalize wr.alloc (.cells Tryz.zeroCells48 48) = v0 at *
      clear hRb wr
      go_loopw [15, 16] (fun s15 s16 wr => ∃ (p : Nat) (gm : Int → Option (Int × Int)) (js : List Jb) (F : Nat → Int), s15 = .int .i64 p ∧ s16 = .int .i64 p ∧ p ≤ 100 ∧ p ≤ len0 ∧ Hid (Ctl wr col K 34 p rs gm js (10 * p)) ∧ Hid (JI js) ∧ Hid (Bx wr S 33 [.int .i64 0, .int .i64 c, .int .i64 t, .int .i64 t, .int .i64 15, .int .i64 1, .int .i64 d, .int .i64 t2, .int .i64 t2, .int .i64 15]) ∧ Hid (Rn wr R F) ∧ Hid (Acc c t p (fun k => F k) gm js 0 ∧ Acc d t2 p (fun k => F (101 + k)) gm js 1) ∧ Hid (Bx wr (w.heap.size + 1) 22 [.int .i64 q0, .int .i64 q1]) ∧ Hid (Below w.heap.size w wr)) (fun _ s16 _ => 100 - (intOf s16).toNat)
      case atStart => exact ⟨0, fun _ => none, [], fun _ => 0, rfl, rfl, by omega, by omega, HC5, JI.nil, HS5, HR5, HAX, HQ5, HB5⟩
      case round =>
        clear HC5 HS5 HQ5 HB5 HR5 HAX
        obtain ⟨p, gm, js, F, rfl, rfl, hp1, hp2, HC, HJ, HS, HR, HA, HQ, HB⟩ := hrel
        by_cases hlt : p < len0
        · by_cases hl1 : p < 100
          · have hd1 : decide ((p : Int) < (len0 : Int)) = true := by simp; omega
            have hd2 : decide ((p : Int) < 100) = true := by simp; omega
            go_wp2_with fail
            generalize hv1 : wr = v1 at *
            clear hv1 wr
            obtain ⟨b, off, rfl, hbl, x, hx, hxw⟩ := hsee p hlt
            go_loopw [17] (fun s17 wr => ∃ (i : Int), s17 = .int .i64 i ∧ 0 ≤ i ∧ i ≤ 2 ∧ Hid (Ctl wr col K 34 p rs gm js (10 * p + i.toNat)) ∧ Hid (Bx wr S 33 [.int .i64 0, .int .i64 c, .int .i64 t, .int .i64 t, .int .i64 15, .int .i64 1, .int .i64 d, .int .i64 t2, .int .i64 t2, .int .i64 15]) ∧ Hid (Rn wr R F) ∧ Hid (Bx wr (w.heap.size + 1) 22 [.int .i64 q0, .int .i64 q1]) ∧ Hid (Below w.heap.size w wr)) (fun s17 _ => (2 - intOf s17).toNat)
            case atStart => exact ⟨0, rfl, by decide, by decide, HC, HS, HR, HQ, HB⟩
            case round =>
              clear HC HS HR HQ HB
              obtain ⟨i, rfl, hi0, hi2, HC, HS, HR, HQ, HB⟩ := hrel
              have hcx : wr.cell? ⟨b, off + p, none⟩ = some (.int .i64 x) := (World.cell?_of_block (a := ⟨b, off + p, none⟩) (HB.out.block b hbl)).trans hx
              rcases (show i = 0 ∨ i = 1 ∨ i = 2 by omega) with rfl | rfl | rfl
              · obtain ⟨q, hq, hq0, hq15⟩ := and15 x
                have s1 := HS.out.cell 1 rfl
                go_upto_region 24 with fail
                try rw [hq]
                by_cases hc : c > 0 ∧ q > 0
                · have hdc : decide (c > 0) = true := by simpa using hc.1
                  have hdq : decide (q > 0) = true := by simpa using hc.2
                  go_wp2_with fail
                  refine (do_ask HC.out HBO.out.len (kk := ⟨0, c, t, t, 15⟩) (HBO.out.f0) (by decide) (by omega) (by omega) (by have : ((0 : Int)).toNat = 0 := rfl; omega)).mono ?_
                  rintro e v2 ⟨⟨y, rfl⟩, hc2, tt⟩
                  have HC2 := Lib.hid hc2
                  have HS2 := Lib.hid (HS.out.turn tt (fun h => h HCO.out.1))
                  have HR2 := Lib.hid (show Rn v2 R F from Bx.turn HR.out tt (fun h => h hR))
                  have HQ2 := Lib.hid (HQ.out.turn tt (fun h => h (HCO.out.2 _ (by omega))))
                  have HB2 := Lib.hid (((Turn.below HB.out).then (S := fun i => w.heap.size ≤ i) tt (fun i hi h => (h (HCO.out.2 _ (by omega))).elim)).fresh (fun i hi h => by omega))
                  clear hc2 tt HC HS HR HQ HB s1
                  go_wp2_with fail
                  go_roundw
                  case rel => exact ⟨1, by go_num, by decide, by decide, Lib.hid (HC2.out.more (by simp)), HS2, HR2, HQ2, HB2⟩
                  case measure => simp [intOf]
                · by_cases hc1 : c > 0
                  · have hdc : decide (c > 0) = true := by simpa using hc1
                    have hdq : decide (q > 0) = false := by simp; omega
                    go_wp2_with fail
                    go_roundw
                    case rel => exact ⟨1, by go_num, by decide, by decide, Lib.hid (HC.out.more (by simp)), HS, HR, HQ, HB⟩
                    case measure => simp [intOf]
                  · exact (hc1 (by omega)).elim
              · obtain ⟨q, hq, hq0, hq15⟩ := and15 (x / 16)
                have s1 := HS.out.cell 6 rfl
                go_upto_region 24 with fail
                try rw [hq]
                by_cases hc : d > 0 ∧ q > 0
                · have hdc : decide (d > 0) = true := by simpa using hc.1
                  have hdq : decide (q > 0) = true := by simpa using hc.2
                  go_wp2_with fail
                  refine (do_ask HC.out HBO.out.len (kk := ⟨1, c2, t2, t2, 15⟩) (HBO.out.f1 hc.1) (by decide) (by omega) (by omega) (by have : ((1 : Int)).toNat = 1 := rfl; omega)).mono ?_
                  rintro e v2 ⟨⟨y, rfl⟩, hc2, tt⟩
                  have HC2 := Lib.hid hc2
                  have HS2 := Lib.hid (HS.out.turn tt (fun h => h HCO.out.1))
                  have HR2 := Lib.hid (show Rn v2 R F from Bx.turn HR.out tt (fun h => h hR))
                  have HQ2 := Lib.hid (HQ.out.turn tt (fun h => h (HCO.out.2 _ (by omega))))
                  have HB2 := Lib.hid (((Turn.below HB.out).then (S := fun i => w.heap.size ≤ i) tt (fun i hi h => (h (HCO.out.2 _ (by omega))).elim)).fresh (fun i hi h => by omega))
                  clear hc2 tt HC HS HR HQ HB s1
                  go_wp2_with fail
                  go_roundw
                  case rel => exact ⟨2, by go_num, by decide, by decide, Lib.hid (HC2.out.more (by simp)), HS2, HR2, HQ2, HB2⟩
                  case measure => simp [intOf]
                · by_cases hc1 : d > 0
                  · have hdc : decide (d > 0) = true := by simpa using hc1
                    have hdq : decide (q > 0) = false := by simp; omega
                    go_wp2_with fail
                    go_roundw
                    case rel => exact ⟨2, by go_num, by decide, by decide, Lib.hid (HC.out.more (by simp)), HS, HR, HQ, HB⟩
                    case measure => simp [intOf]
                  · have hdc : decide (d > 0) = false := by simp; omega
                    go_wp2_with fail
                    go_roundw
                    case rel => exact ⟨2, by go_num, by decide, by decide, Lib.hid (HC.out.more (by simp)), HS, HR, HQ, HB⟩
                    case measure => simp [intOf]
              · go_wp2_with fail
                refine (do_tick HC.out HBO.out.len HBO.out.row HJ.out (by omega) (by omega) (by have : (2 : Int).toNat = 2 := rfl; omega)).mono ?_
                rintro e v2 ⟨ri, rb, gm2, js1, js2, v, rfl, ⟨g, cap, rfl, hg1, hg2, hg3, hg4⟩, hc2, hsv, hrun, tt⟩
                obtain ⟨m, hm⟩ : ∃ m : Nat, (p : Int) + 1 = (m : Int) := ⟨p + 1, rfl⟩
                have hm1 : (m : Int) - 1 = (p : Int) := by omega
                have hmi : (m : Int) < 101 := by omega
                have hpi : (p : Int) < 101 := by omega
                rw [hm] at hc2
                have bA := (Below.refl v2.heap.size v2).alloc (Nat.le_refl _) (.cells #[.int .i64 0, .slice (some ⟨g, 0, none⟩) 1 cap, .int .i64 0, .int .i64 0, .int .i64 0, .int .i64 0, .int .i64 0, .bool false, .int .i64 0, .int .i64 0, .slice none 0 0] 40)
                have hnR := hc2.new
                have HC2 := Lib.hid (hc2.below bA)
                have HS2 := Lib.hid ((HS.out.turn tt (fun h => h HCO.out.1)).below bA)
                have hrr : Rn v2 R F := Bx.turn HR.out tt (fun h => h hR)
                have HR2 := Lib.hid (show Rn (v2.alloc (.cells #[.int .i64 0, .slice (some ⟨g, 0, none⟩) 1 cap, .int .i64 0, .int .i64 0, .int .i64 0, .int .i64 0, .int .i64 0, .bool false, .int .i64 0, .int .i64 0, .slice none 0 0] 40)) R F from Bx.below hrr bA)
                have HQ2 := Lib.hid ((HQ.out.turn tt (fun h => h (HCO.out.2 _ (by omega)))).below bA)
                have hb2 := ((Turn.below HB.out).then (S := fun i => w.heap.size ≤ i) tt (fun i hi h => (h (HCO.out.2 _ (by omega))).elim)).fresh (fun i hi h => by omega)
                have HB2 := Lib.hid (hb2.trans (bA.mono hb2.size))
                have HSV := Lib.hid (HBO.out.sv _ _ _ _ _ hsv)
                have HRUN := Lib.hid hrun
                have HJ1 := Lib.hid (hsv.ji HBO.out.row HJ.out)
                have HJ2 := Lib.hid (hrun.ji HJ1.out)
                have HZ := Lib.hid (Bx.new v2 [.int .i64 0, .slice (some ⟨g, 0, none⟩) 1 cap, .int .i64 0, .int .i64 0, .int .i64 0, .int .i64 0, .int .i64 0, .bool false, .int .i64 0, .int .i64 0, .slice none 0 0] 40)
                have HG : Hid (R < g ∧ S < g ∧ g < v2.heap.size ∧ (v2.alloc (.cells #[.int .i64 0, .slice (some ⟨g, 0, none⟩) 1 cap, .int .i64 0, .int .i64 0, .int .i64 0, .int .i64 0, .int .i64 0, .bool false, .int .i64 0, .int .i64 0, .slice none 0 0] 40)).cell? ⟨g, 0, none⟩ = some (.int .i64 ri)) := ⟨by have := Bx.lt HR.out; omega, by have := HS.out.lt; omega, hg2, (World.cell?_of_block (a := ⟨g, 0, none⟩) (bA.block g hg2)).trans hg3⟩
                have hR2 : R < v2.heap.size := Bx.lt hrr
                have z1 := HZ.out.cell 1 rfl
                clear hc2 hsv hrun tt hrr hb2 bA hg1 hg2 hg3 hg4 HC HS HR HQ HB
                go_wp2_with fail
                generalize v2.alloc (.cells #[.int .i64 0, .slice (some ⟨g, 0, none⟩) 1 cap, .int .i64 0, .int .i64 0, .int .i64 0, .int .i64 0, .int .i64 0, .bool false, .int .i64 0, .int .i64 0, .slice none 0 0] 40) = v3 at *
                generalize hRP : v2.heap.size = RP at *
                clear hRP z1 v2
                go_loopw [20] (fun s20 wr => ∃ (i : Int) (F2 : Nat → Int), s20 = .int .i64 i ∧ 0 ≤ i ∧ i ≤ 2 ∧ Hid (Ctl wr col K 34 m rs gm2 js2 (10 * p + (2 : Int).toNat + 8)) ∧ Hid (Bx wr S 33 [.int .i64 0, .int .i64 c, .int .i64 t, .int .i64 t, .int .i64 15, .int .i64 1, .int .i64 d, .int .i64 t2, .int .i64 t2, .int .i64 15]) ∧ Hid (Rn wr R F2) ∧ Hid (Bx wr RP 40 [.int .i64 0, .slice (some ⟨g, 0, none⟩) 1 cap, .int .i64 0, .int .i64 0, .int .i64 0, .int .i64 0, .int .i64 0, .bool false, .int .i64 0, .int .i64 0, .slice none 0 0]) ∧ Hid (wr.cell? ⟨g, 0, none⟩ = some (.int .i64 ri)) ∧ Hid (Bx wr (w.heap.size + 1) 22 [.int .i64 q0, .int .i64 q1]) ∧ Hid (Below w.heap.size w wr) ∧ Hid (∀ k, k ≠ m → k ≠ 101 + m → F2 k = F k) ∧ Hid (0 < i → F2 m = F p + (if ri = 0 then 1 else 0)) ∧ Hid (1 < i → F2 (101 + m) = F (101 + p) + (if ri = 1 then 1 else 0))) (fun s20 _ => (2 - intOf s20).toNat)
                case atStart => exact ⟨0, F, rfl, by decide, by decide, HC2, HS2, HR2, HZ, HG.out.2.2.2, HQ2, HB2, fun _ _ _ => rfl, fun h => by omega, fun h => by omega⟩
                case round =>
                  have hgl := HG.out.1
                  have hgS := HG.out.2.1
                  have hgp := HG.out.2.2.1
                  clear HC2 HS2 HR2 HZ HG HQ2 HB2
                  obtain ⟨i, F2, rfl, hi0, hi2, HC, HS, HR, HZ, HG, HQ, HB, HF, HF0, HF1⟩ := hrel
                  rcases (show i = 0 ∨ i = 1 ∨ i = 2 by omega) with rfl | rfl | rfl
                  · have hFe : F2 (p) = F (p) := HF.out _ (by omega) (by omega)
                    have hFb : 0 ≤ F (p) ∧ F (p) ≤ (p : Int) := HA.out.1.ran p (Nat.le_refl _)
                    have HK := Lib.hid (Pk.mk HC.out HS.out HR.out HZ.out HG.out HQ.out HB.out)
                    have r1 := HR.out.cell (p) (by omega)
                    have r2 := HR.out.cell (m) (by omega)
                    have fr := HR.out.free (m)
                    rw [hFe] at r1
                    go_wp2_with fail
                    go_region
                    have HK1 := Lib.hid (HK.out.set hR hSR hR2 hgl hgp (by omega) (m) (F (p)))
                    obtain ⟨F3, hF3, hF3j⟩ : ∃ F3 : Nat → Int, (fun k => if k = m then F (p) else F2 k) = F3 ∧ F3 (m) = F (p) := ⟨_, rfl, by simp⟩
                    have hF3k : ∀ k, k ≠ m → F3 k = F2 k := fun k hk => by rw [← hF3]; simp only; rw [if_neg hk]
                    rw [hF3] at HK1
                    clear HC HS HR HZ HG HQ HB HK r1 r2 fr hF3
                    generalize (wr.setCell ⟨R, m, none⟩ (.int .i64 (F (p)))).drew = y1 at *
                    have z1 := HK1.out.z.cell 1 rfl
                    have g0 := HK1.out.g
                    have r2 := HK1.out.r.cell (m) (by omega)
                    have fr := HK1.out.r.free (m)
                    rw [hF3j] at r2
                    by_cases hri : ri = 0
                    · have hb : (ri == 0) = true := by simpa using hri
                      go_wp2_with fail
                      go_region
                      have HK2 := Lib.hid (HK1.out.set hR hSR hR2 hgl hgp (by omega) (m) (F (p) + 1))
                      obtain ⟨F4, hF4e, hF4j⟩ : ∃ F4 : Nat → Int, (fun k => if k = m then F (p) + 1 else F3 k) = F4 ∧ F4 (m) = F (p) + 1 := ⟨_, rfl, by simp⟩
                      have hF4 : ∀ k, k ≠ m → F4 k = F2 k := fun k hk => by rw [← hF4e]; simp only; rw [if_neg hk, hF3k k hk]
                      rw [hF4e] at HK2
                      clear HK1 z1 g0 r2 fr hF4e hb
                      generalize (y1.setCell ⟨R, m, none⟩ (.int .i64 (F (p) + 1))).drew = y2 at *
                      go_wp2_with fail
                      go_roundw
                      case rel => exact ⟨1, F4, by go_num, by decide, by decide, HK2.out.c, HK2.out.s, HK2.out.r, HK2.out.z, HK2.out.g, HK2.out.q, HK2.out.b, fun k h1 h2 => by rw [hF4 k (by omega)]; exact HF.out k h1 h2, fun _ => by rw [hF4j, if_pos hri], fun h => by omega⟩
                      case measure => simp [intOf]
                    · have hb : (ri == 0) = false := by simpa using hri
                      have hF4 := hF3k
                      go_wp2_with fail
                      go_roundw
                      case rel => exact ⟨1, F3, by go_num, by decide, by decide, HK1.out.c, HK1.out.s, HK1.out.r, HK1.out.z, HK1.out.g, HK1.out.q, HK1.out.b, fun k h1 h2 => by rw [hF4 k (by omega)]; exact HF.out k h1 h2, fun _ => by rw [hF3j, if_neg hri, Int.add_zero], fun h => by omega⟩
                      case measure => simp [intOf]
                  · have hFe : F2 (101 + p) = F (101 + p) := HF.out _ (by omega) (by omega)
                    have hFb : 0 ≤ F (101 + p) ∧ F (101 + p) ≤ (p : Int) := HA.out.2.ran p (Nat.le_refl _)
                    have HK := Lib.hid (Pk.mk HC.out HS.out HR.out HZ.out HG.out HQ.out HB.out)
                    have r1 := HR.out.cell (101 + p) (by omega)
                    have r2 := HR.out.cell (101 + m) (by omega)
                    have fr := HR.out.free (101 + m)
                    rw [hFe] at r1
                    go_wp2_with fail
                    go_region
                    have HK1 := Lib.hid (HK.out.set hR hSR hR2 hgl hgp (by omega) (101 + m) (F (101 + p)))
                    obtain ⟨F3, hF3, hF3j⟩ : ∃ F3 : Nat → Int, (fun k => if k = 101 + m then F (101 + p) else F2 k) = F3 ∧ F3 (101 + m) = F (101 + p) := ⟨_, rfl, by simp⟩
                    have hF3k : ∀ k, k ≠ 101 + m → F3 k = F2 k := fun k hk => by rw [← hF3]; simp only; rw [if_neg hk]
                    rw [hF3] at HK1
                    clear HC HS HR HZ HG HQ HB HK r1 r2 fr hF3
                    generalize (wr.setCell ⟨R, 101 + m, none⟩ (.int .i64 (F (101 + p)))).drew = y1 at *
                    have z1 := HK1.out.z.cell 1 rfl
                    have g0 := HK1.out.g
                    have r2 := HK1.out.r.cell (101 + m) (by omega)
                    have fr := HK1.out.r.free (101 + m)
                    rw [hF3j] at r2
                    by_cases hri : ri = 1
                    · have hb : (ri == 1) = true := by simpa using hri
                      go_wp2_with fail
                      go_region
                      have HK2 := Lib.hid (HK1.out.set hR hSR hR2 hgl hgp (by omega) (101 + m) (F (101 + p) + 1))
                      obtain ⟨F4, hF4e, hF4j⟩ : ∃ F4 : Nat → Int, (fun k => if k = 101 + m then F (101 + p) + 1 else F3 k) = F4 ∧ F4 (101 + m) = F (101 + p) + 1 := ⟨_, rfl, by simp⟩
                      have hF4 : ∀ k, k ≠ 101 + m → F4 k = F2 k := fun k hk => by rw [← hF4e]; simp only; rw [if_neg hk, hF3k k hk]
                      rw [hF4e] at HK2
                      clear HK1 z1 g0 r2 fr hF4e hb
                      generalize (y1.setCell ⟨R, 101 + m, none⟩ (.int .i64 (F (101 + p) + 1))).drew = y2 at *
                      go_wp2_with fail
                      go_roundw
                      case rel => exact ⟨2, F4, by go_num, by decide, by decide, HK2.out.c, HK2.out.s, HK2.out.r, HK2.out.z, HK2.out.g, HK2.out.q, HK2.out.b, fun k h1 h2 => by rw [hF4 k (by omega)]; exact HF.out k h1 h2, fun _ => by rw [hF4 m (by omega)]; exact HF0.out (by decide), fun _ => by rw [hF4j, if_pos hri]⟩
                      case measure => simp [intOf]
                    · have hb : (ri == 1) = false := by simpa using hri
                      have hF4 := hF3k
                      go_wp2_with fail
                      go_roundw
                      case rel => exact ⟨2, F3, by go_num, by decide, by decide, HK1.out.c, HK1.out.s, HK1.out.r, HK1.out.z, HK1.out.g, HK1.out.q, HK1.out.b, fun k h1 h2 => by rw [hF4 k (by omega)]; exact HF.out k h1 h2, fun _ => by rw [hF4 m (by omega)]; exact HF0.out (by decide), fun _ => by rw [hF3j, if_neg hri, Int.add_zero]⟩
                      case measure => simp [intOf]
                  · obtain rfl : m = p + 1 := by omega
                    have a0 := HA.out.1.step (by decide) HJ.out HJ1.out HJ2.out HSV.out.1 HRUN.out (F' := fun k => F2 k) (fun k hk => HF.out k (by omega) (by omega)) (HF0.out (by decide))
                    have a1 := HA.out.2.step (by decide) HJ.out HJ1.out HJ2.out HSV.out.2 HRUN.out (F' := fun k => F2 (101 + k)) (fun k hk => HF.out (101 + k) (by omega) (by omega)) (HF1.out (by decide))
                    have HAC := Lib.hid (And.intro a0 a1)
                    clear a0 a1 hm hm1
                    go_wp2_with fail
                    go_roundw
                    case rel => exact ⟨p + 1, gm2, js2, F2, rfl, rfl, by omega, by omega, Lib.hid (HC.out.more (by have : (2 : Int).toNat = 2 := rfl; omega)), HJ2, HS, HR, HAC, HQ, HB⟩
                    case measure =>
                      show 100 - (((p + 1 : Nat) : Int)).toNat < 100 - ((p : Nat) : Int).toNat
                      omega
          · have hd1 : decide ((p : Int) < (len0 : Int)) = true := by simp; omega
            have hd2 : decide ((p : Int) < 100) = false := by simp; omega
            obtain ⟨x1, hx1, hxa, hxb⟩ := rem_of q0 p
            obtain ⟨A, hA1, hA2⟩ := up_of x1 p hxa
            obtain ⟨x2, hx2, hxc, hxd⟩ := rem_of2 q1 p A hA2
            obtain ⟨Z, hZ1, hZ2⟩ := up_of2 x2 p A hA2 hxc
            obtain ⟨B, hB⟩ : ∃ B : Nat, (A : Int) + (Z : Int) = (B : Int) := ⟨A + Z, rfl⟩
            have hAB : A ≤ B := by omega
            have hBp : B ≤ p := by omega
            have c0 := HQ.out.cell 0 rfl
            have c1 := HQ.out.cell 1 rfl
            go_wp2_with fail
            generalize hv1 : wr = v1 at *
            clear hv1 wr
            clear c0 c1
            go_loopw [23] (fun s23 wr => ∃ (i : Int), s23 = .int .i64 i ∧ 0 ≤ i ∧ i ≤ 2 ∧ Hid (Bx wr S 33 [.int .i64 0, .int .i64 c, .int .i64 t, .int .i64 t, .int .i64 15, .int .i64 1, .int .i64 d, .int .i64 t2, .int .i64 t2, .int .i64 15]) ∧ Hid (Rn wr R F) ∧ Hid (Below w.heap.size w wr)) (fun s23 _ => (2 - intOf s23).toNat)
            case atStart => exact ⟨0, rfl, by decide, by decide, HS, HR, HB⟩
            case round =>
              clear HC HS HR HB
              obtain ⟨i, rfl, hi0, hi2, HS, HR, HB⟩ := hrel
              rcases (show i = 0 ∨ i = 1 ∨ i = 2 by omega) with rfl | rfl | rfl
              · obtain ⟨Q, hQ, hQ0, hQ1⟩ := quo_of A B t hAB (by omega) (by omega)
                obtain ⟨M, hM, hM0, hM1⟩ := mul_of c Q (by omega) (by omega) hQ0 hQ1
                have hlaw := HA.out.1.law hAB hBp
                have hb1 := HA.out.1.ran A (by omega)
                have hb2 := HA.out.1.ran B hBp
                have rA := HR.out.cell (A) (by omega)
                have rB := HR.out.cell (B) (by omega)
                have sC := HS.out.cell 1 rfl
                have sT := HS.out.cell 3 rfl
                have hle : F (B) - F (A) ≤ M := by
                  rw [← hM, ← hQ, Int.tdiv_eq_ediv_of_nonneg (by omega)]
                  exact hlaw
                have hdl : decide (F (B) - F (A) > M) = false := by simp; omega
                clear hlaw
                go_wp2_with fail
                go_region
                go_wp2_with fail
                go_region
                go_wp2_with fail
                go_roundw
                case rel => exact ⟨1, by go_num, by decide, by decide, HS, HR, Lib.hid (by first | exact HB.out.drew.drew | exact HB.out.drew | exact (HB.out.drewN _).drewN _ | exact HB.out)⟩
                case measure => simp [intOf]
              · obtain ⟨Q, hQ, hQ0, hQ1⟩ := quo_of A B t2 hAB (by omega) (by omega)
                obtain ⟨M, hM, hM0, hM1⟩ := mul_of d Q (HBO.out.d0) (HBO.out.d1) hQ0 hQ1
                have hlaw := HA.out.2.law hAB hBp
                have hb1 := HA.out.2.ran A (by omega)
                have hb2 := HA.out.2.ran B hBp
                have rA := HR.out.cell (101 + A) (by omega)
                have rB := HR.out.cell (101 + B) (by omega)
                have sC := HS.out.cell 6 rfl
                have sT := HS.out.cell 8 rfl
                have hle : F (101 + B) - F (101 + A) ≤ M := by
                  rw [← hM, ← hQ, Int.tdiv_eq_ediv_of_nonneg (by omega)]
                  exact hlaw
                have hdl : decide (F (101 + B) - F (101 + A) > M) = false := by simp; omega
                clear hlaw
                go_wp2_with fail
                go_region
                go_wp2_with fail
                go_region
                go_wp2_with fail
                go_roundw
                case rel => exact ⟨2, by go_num, by decide, by decide, HS, HR, Lib.hid (by first | exact HB.out.drew.drew | exact HB.out.drew | exact (HB.out.drewN _).drewN _ | exact HB.out)⟩
                case measure => simp [intOf]
              · go_wp2_with fail
                go_ret
                exact ⟨rfl, HB.out⟩
        · have hd1 : decide ((p : Int) < (len0 : Int)) = false := by simp; omega
          obtain ⟨x1, hx1, hxa, hxb⟩ := rem_of q0 p
          obtain ⟨A, hA1, hA2⟩ := up_of x1 p hxa
          obtain ⟨x2, hx2, hxc, hxd⟩ := rem_of2 q1 p A hA2
          obtain ⟨Z, hZ1, hZ2⟩ := up_of2 x2 p A hA2 hxc
          obtain ⟨B, hB⟩ : ∃ B : Nat, (A : Int) + (Z : Int) = (B : Int) := ⟨A + Z, rfl⟩
          have hAB : A ≤ B := by omega
          have hBp : B ≤ p := by omega
          have c0 := HQ.out.cell 0 rfl
          have c1 := HQ.out.cell 1 rfl
          go_wp2_with fail
          generalize hv1 : wr = v1 at *
          clear hv1 wr
          clear c0 c1
          go_loopw [23] (fun s23 wr => ∃ (i : Int), s23 = .int .i64 i ∧ 0 ≤ i ∧ i ≤ 2 ∧ Hid (Bx wr S 33 [.int .i64 0, .int .i64 c, .int .i64 t, .int .i64 t, .int .i64 15, .int .i64 1, .int .i64 d, .int .i64 t2, .int .i64 t2, .int .i64 15]) ∧ Hid (Rn wr R F) ∧ Hid (Below w.heap.size w wr)) (fun s23 _ => (2 - intOf s23).toNat)
          case atStart => exact ⟨0, rfl, by decide, by decide, HS, HR, HB⟩
          case round =>
            clear HC HS HR HB
            obtain ⟨i, rfl, hi0, hi2, HS, HR, HB⟩ := hrel
            rcases (show i = 0 ∨ i = 1 ∨ i = 2 by omega) with rfl | rfl | rfl
            · obtain ⟨Q, hQ, hQ0, hQ1⟩ := quo_of A B t hAB (by omega) (by omega)
              obtain ⟨M, hM, hM0, hM1⟩ := mul_of c Q (by omega) (by omega) hQ0 hQ1
              have hlaw := HA.out.1.law hAB hBp
              have hb1 := HA.out.1.ran A (by omega)
              have hb2 := HA.out.1.ran B hBp
              have rA := HR.out.cell (A) (by omega)
              have rB := HR.out.cell (B) (by omega)
              have sC := HS.out.cell 1 rfl
              have sT := HS.out.cell 3 rfl
              have hle : F (B) - F (A) ≤ M := by
                rw [← hM, ← hQ, Int.tdiv_eq_ediv_of_nonneg (by omega)]
                exact hlaw
              have hdl : decide (F (B) - F (A) > M) = false := by simp; omega
              clear hlaw
              go_wp2_with fail
              go_region
              go_wp2_with fail
              go_region
              go_wp2_with fail
              go_roundw
              case rel => exact ⟨1, by go_num, by decide, by decide, HS, HR, Lib.hid (by first | exact HB.out.drew.drew | exact HB.out.drew | exact (HB.out.drewN _).drewN _ | exact HB.out)⟩
              case measure => simp [intOf]
            · obtain ⟨Q, hQ, hQ0, hQ1⟩ := quo_of A B t2 hAB (by omega) (by omega)
              obtain ⟨M, hM, hM0, hM1⟩ := mul_of d Q (HBO.out.d0) (HBO.out.d1) hQ0 hQ1
              have hlaw := HA.out.2.law hAB hBp
              have hb1 := HA.out.2.ran A (by omega)
              have hb2 := HA.out.2.ran B hBp
              have rA := HR.out.cell (101 + A) (by omega)
              have rB := HR.out.cell (101 + B) (by omega)
              have sC := HS.out.cell 6 rfl
              have sT := HS.out.cell 8 rfl
              have hle : F (101 + B) - F (101 + A) ≤ M := by
                rw [← hM, ← hQ, Int.tdiv_eq_ediv_of_nonneg (by omega)]
                exact hlaw
              have hdl : decide (F (101 + B) - F (101 + A) > M) = false := by simp; omega
              clear hlaw
              go_wp2_with fail
              go_region
              go_wp2_with fail
              go_region
              go_wp2_with fail
              go_roundw
              case rel => exact ⟨2, by go_num, by decide, by decide, HS, HR, Lib.hid (by first | exact HB.out.drew.drew | exact HB.out.drew | exact (HB.out.drewN _).drewN _ | exact HB.out)⟩
              case measure => simp [intOf]
            · go_wp2_with fail
              go_ret
              exact ⟨rfl, HB.out⟩
end Go.Proofs.YtoichcickcgbgaaGreatDoor
