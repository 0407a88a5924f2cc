/-
  ServerPlays: for every list of steps the law answers true: a pool goes on, step by step, as the document's does. No condition.
-/
import Derived.Test.YtfjfnfipcajkkaaOx
import Derived.Deep.RegionHeld3
import Derived.Deep.DeepCutAuto
import Derived.Deep.CutBlock
import Derived.Deep.LoopGhost
import Derived.WalkKit
import Derived.ProofKit
import Derived.OpenShut
import Derived.ShutString
import Derived.ChangeOld
import Derived.Below
namespace Go.Proofs.Ytfjfnfipcajkkaa.serverPlays
open Go.ChangeShapes Go.WideShapes Go.ChangeAt Go.RowKit Go.Deep
open Go.ChangeMaps (open_string shut_string)
set_option linter.unusedVariables false

theorem own : ownKnob Try.prog.godebug = none := by kernel_rfl
theorem laidOut : laidOutB Try.prog = true := by kernel_rfl
theorem ok_zero : Ok (fun _ => 0) (fun _ => 0) ((0 : Nat) * 1099511627776) := ⟨fun _ _ => rfl, fun _ _ => rfl, fun _ => Int.le_refl _, fun _ => by omega, fun _ => Int.le_refl _, fun _ => by omega⟩
theorem cellAt {w : World} {b : Nat} {cs : Array Value} {t : TypeId} (h : w.heap[b]? = some (.cells cs t (0, 0))) (j : Nat) {v : Value} (hj : cs[j]? = some v) : w.cell? ⟨b, j, none⟩ = some v := by simp [World.cell?, h, hj]
theorem tcell {w w' : World} {S : Nat → Prop} (h : Turn S w w') {b o : Nat} {v : Value} (hlt : b < w.heap.size) (hS : ¬ S b) (hc : w.cell? ⟨b, o, none⟩ = some v) : w'.cell? ⟨b, o, none⟩ = some v :=
  (World.cell?_of_block (h.block b hlt hS)).trans hc

set_option maxRecDepth 100000 in
set_option maxHeartbeats 4000000 in
theorem core (w : World) (a0 : Option Addr) (len0 cap0 : Nat) (h0 : len0 ≤ 9223372036854775807 ∧ SeenO w a0 len0) :
    Calls Try.prog 5 #[.slice a0 len0 cap0] w fun e w' => e = .returned (.bool true) ∧ Below w.heap.size w w' := by
  obtain ⟨hm0, h0⟩ := h0
  have H0 := Lib.hid h0
  clear h0
  go_enter Try.func5, Try.ntmps5
  go_wp2_with fail
  refine (awake_any _).mono ?_
  rintro e w1 ⟨rfl, hb⟩
  go_wp2_with fail
  refine (newV _).mono ?_
  rintro e w2 ⟨rfl, hP2, hb2⟩
  have hl2 := hP2.lt
  have HO2 := Lib.hid ok_zero
  have HRN := Lib.hid (rf_new w2)
  generalize (fun _ : Int => (0 : Int)) = f0 at *
  go_wp2_with (refine wpList_build38 rfl rfl ?_; intro Z hZ)
  have hR3 := HRN.out Z hZ
  have hP3 := hP2.below ((Below.refl _ _).alloc (Nat.le_refl _) (Obj.cells Z.toArray 38))
  have hb3 := hb2.alloc hb2.size (Obj.cells Z.toArray 38)
  clear hP2 hb2 hZ HRN
  generalize w2.heap.size = G at *
  generalize w2.alloc (Obj.cells Z.toArray 38) = w3 at *
  go_loopg [6] 60 (fun g i wr => ∃ (k : Nat) (f t : Int → Int) (n : Nat), Pv wr (w1.heap.size + 2) w1.heap.size (w1.heap.size + 1) n f t ∧ Rf wr G f t ∧ Hid (Ok f t (k * 1099511627776)) ∧ Below w1.heap.size w1 wr ∧ n ≤ k ∧ k ≤ 60 ∧ k ≤ len0 ∧ g = 60 - k ∧ i = .int .i64 k)
  case atStart => exact ⟨0, f0, f0, 0, hP3, hR3, HO2, hb3, by omega, by omega, by omega, by omega, rfl⟩
  case round =>
    clear hP3 hR3 hb3
    obtain ⟨k, f, t, n, hPr, hRr, hOr, hbr, hnk, hk60, hkl, rfl, rfl⟩ := hrel
    by_cases hgo : k < len0 ∧ k < 60
    · obtain ⟨hlt, hlt60⟩ := hgo
      obtain ⟨b, off, rfl, hbw, K, I, F, N, hop, wi, wn⟩ := H0.out k hlt
      have hsz := hb.size
      have hcell : ∀ j v, w.cell? ⟨b, off + k * 4 + j, none⟩ = some v → wr.cell? ⟨b, off + k * 4 + j, none⟩ = some v := fun j v h =>
        (hbr.cell (p := ⟨b, off + k * 4 + j, none⟩) (by simp; omega)).trans ((hb.cell (p := ⟨b, off + k * 4 + j, none⟩) (by simpa using hbw)).trans h)
      have c0 := hcell 0 _ hop.1
      have c1 := hcell 1 _ hop.2.1
      have c2 := hcell 2 _ hop.2.2.1
      have c3 := hcell 3 _ hop.2.2.2
      rw [Nat.add_zero] at c0
      have WI := Lib.hid wi
      clear hop hcell wi wn
      go_upto_if 35 with fail
      go_cut [8] (fun s8 wx => wx = wr.alloc (.cells #[.int .i64 K, .int .i64 I, .bool F, .int .i64 N] 40) ∧ ∃ id : Int, s8 = .int .i64 id ∧ Hid ((Lit.int .i64 id).wf = true))
      case first =>
        obtain ⟨q, hq, hand⟩ := and7 I
        have hw7 : Hid ((Lit.int .i64 (q : Int)).wf = true) := by
          have h1 : IntKind.i64.min = -9223372036854775808 := by decide
          show (Lit.int .i64 (q : Int)).wf = true
          simp [Lit.wf]
          omega
        cases F
        · go_wp2_with fail
          go_meet
          exact ⟨rfl, _, rfl, (by show (Lit.int .i64 (bits .and .i64 I 7)).wf = true; rw [hand]; exact hw7.out)⟩
        · go_wp2_with fail
          go_meet
          exact ⟨rfl, _, rfl, WI⟩
      case rest =>
        obtain ⟨rfl, id, rfl, hid⟩ := hcut
        obtain ⟨q, hq, hand⟩ := and7 K
        have d0 : (wr.alloc (.cells #[.int .i64 K, .int .i64 I, .bool F, .int .i64 N] 40)).cell? ⟨wr.heap.size, 0, none⟩ = some (.int .i64 K) := cellAt (heap_alloc_new _ _) 0 rfl
        have d3 : (wr.alloc (.cells #[.int .i64 K, .int .i64 I, .bool F, .int .i64 N] 40)).cell? ⟨wr.heap.size, 3, none⟩ = some (.int .i64 N) := cellAt (heap_alloc_new _ _) 3 rfl
        have hP1 := hPr.below ((Below.refl _ _).alloc (Nat.le_refl _) (Obj.cells #[.int .i64 K, .int .i64 I, .bool F, .int .i64 N] 40))
        have hR1 := hRr.below ((Below.refl _ _).alloc (Nat.le_refl _) (Obj.cells #[.int .i64 K, .int .i64 I, .bool F, .int .i64 N] 40))
        have hb1 := hbr.alloc hbr.size (Obj.cells #[.int .i64 K, .int .i64 I, .bool F, .int .i64 N] 40)
        have HBO : Hid (wr.heap.size < (wr.alloc (.cells #[.int .i64 K, .int .i64 I, .bool F, .int .i64 N] 40)).heap.size) := by show _ < _; simp
        have hlr := hRr.lt
        have HN1 : Hid (¬ two w1.heap.size (w1.heap.size + 1) wr.heap.size) := by show ¬ two _ _ _; unfold two; omega
        have HN2 : Hid (wr.heap.size ≠ G) := by show wr.heap.size ≠ G; omega
        have HN3 : Hid (¬ two w1.heap.size (w1.heap.size + 1) G) := by show ¬ two _ _ _; unfold two; omega
        clear c0 c1 c2 c3 hbr hPr hRr hlr
        generalize wr.heap.size = bo at *
        generalize wr.alloc (.cells #[.int .i64 K, .int .i64 I, .bool F, .int .i64 N] 40) = wx at *
        go_upto_block 2 with fail
        go_cut [9] (fun s9 wy => s9 = .bool true ∧ ∃ (f' t' : Int → Int) (n' : Nat), Pv wy (w1.heap.size + 2) w1.heap.size (w1.heap.size + 1) n' f' t' ∧ Rf wy G f' t' ∧ Hid (Ok f' t' (((k + 1 : Nat) : Int) * 1099511627776)) ∧ Below w1.heap.size w1 wy ∧ n' ≤ k + 1)
        case first =>
          have hq8 : q = 4 ∨ q = 5 ∨ q = 6 ∨ q = 7 ∨ q ≤ 3 := by omega
          have hf0 := hOr.out.f0 id
          have hf1 := hOr.out.f1 id
          have ht0 := hOr.out.t0 id
          have ht1 := hOr.out.t1 id
          have hB2 : (k : Int) * 1099511627776 + 1099511627776 = ((k + 1 : Nat) : Int) * 1099511627776 := by omega
          have HB2 := Lib.hid hB2
          have HF0 := Lib.hid hf0
          have HF1 := Lib.hid hf1
          have HT0 := Lib.hid ht0
          have HT1 : Hid (t id ≤ 4611686018427387904) := by show t id ≤ _; omega
          clear hf0 hf1 ht0 ht1 hB2
          rcases hq8 with rfl | rfl | rfl | rfl | hq3
          · obtain ⟨r, hr⟩ : ∃ r, tk (f id) N = r := ⟨_, rfl⟩
            have HS := Lib.hid hr
            have HOK : Hid (Ok (upd f id (f id - r)) (upd t id (t id + r)) (((k + 1 : Nat) : Int) * 1099511627776)) := by
              have h9 := ok_take hOr.out hr
              rw [HB2.out] at h9
              exact h9
            clear hr
            have CA := Lib.hid (fun W (hPW : Pv W (w1.heap.size + 2) w1.heap.size (w1.heap.size + 1) n f t) => takeV hPW (by omega) id N hid.out HF0.out HF1.out HT0.out HT1.out r HS.out _ _ rfl rfl)
            have CB := Lib.hid (fun W (hRW : Rf W G f t) => rtakeU hRW hOr.out (by omega) id N r HS.out)
            have PD := Lib.hid (fun W (hB : Below wx.heap.size wx W) => hP1.below hB)
            go_wp2_with fail
            go_region_held3 (fun x => x.cell? ⟨bo, 3, none⟩ = some (.int .i64 N)) (first | assumption | exact tcell hT3 HBO.out HN1.out ‹_› | exact World.grownBy.cell hg4 ‹_› (fun e => HN2.out (Option.some.inj e))) (first
              | (go_at_call 9; refine (CA.out _ ?_).mono ?_; exact PD.out _ ⟨rfl, rfl, rfl, Nat.le_refl _, fun _ _ => rfl⟩; rintro e w3 ⟨rfl, hP3, hT3⟩)
              | (go_at_call 14; refine (CB.out _ (hR1.keep (hT3.block _ hR1.lt HN3.out))).mono ?_; rintro e w4 ⟨rfl, hR4, hg4⟩))
            all_goals
              go_wp2_with fail
              go_meet
              exact ⟨rfl, _, _, n + 1, hP3.kept hg4 (fun e => by have := Option.some.inj e; omega) (fun e => by have := Option.some.inj e; omega) (fun e => by have := Option.some.inj e; omega), hR4, HOK, (Turn.to hb1.drew hT3 (by have := hP1.lt; show w1.heap.size ≤ wx.heap.size; omega) (two_le (Nat.le_refl _) (Nat.le_succ _))).grown hg4 (by have := hP3.lt; omega) (fun j hj => by cases hj; omega), by omega⟩
          · obtain ⟨r, hr⟩ : ∃ r, tk (f id) N = r := ⟨_, rfl⟩
            have HS := Lib.hid hr
            have HOK : Hid (Ok (upd f id (f id - r)) (upd t id (t id + r)) (((k + 1 : Nat) : Int) * 1099511627776)) := by
              have h9 := ok_take hOr.out hr
              rw [HB2.out] at h9
              exact h9
            clear hr
            have CA := Lib.hid (fun W (hPW : Pv W (w1.heap.size + 2) w1.heap.size (w1.heap.size + 1) n f t) => takeV hPW (by omega) id N hid.out HF0.out HF1.out HT0.out HT1.out r HS.out _ _ rfl rfl)
            have CB := Lib.hid (fun W (hRW : Rf W G f t) => rtakeU hRW hOr.out (by omega) id N r HS.out)
            have PD := Lib.hid (fun W (hB : Below wx.heap.size wx W) => hP1.below hB)
            go_wp2_with fail
            go_region_held3 (fun x => x.cell? ⟨bo, 3, none⟩ = some (.int .i64 N)) (first | assumption | exact tcell hT3 HBO.out HN1.out ‹_› | exact World.grownBy.cell hg4 ‹_› (fun e => HN2.out (Option.some.inj e))) (first
              | (go_at_call 9; refine (CA.out _ ?_).mono ?_; exact PD.out _ ⟨rfl, rfl, rfl, Nat.le_refl _, fun _ _ => rfl⟩; rintro e w3 ⟨rfl, hP3, hT3⟩)
              | (go_at_call 14; refine (CB.out _ (hR1.keep (hT3.block _ hR1.lt HN3.out))).mono ?_; rintro e w4 ⟨rfl, hR4, hg4⟩))
            all_goals
              go_wp2_with fail
              go_meet
              exact ⟨rfl, _, _, n + 1, hP3.kept hg4 (fun e => by have := Option.some.inj e; omega) (fun e => by have := Option.some.inj e; omega) (fun e => by have := Option.some.inj e; omega), hR4, HOK, (Turn.to hb1.drew hT3 (by have := hP1.lt; show w1.heap.size ≤ wx.heap.size; omega) (two_le (Nat.le_refl _) (Nat.le_succ _))).grown hg4 (by have := hP3.lt; omega) (fun j hj => by cases hj; omega), by omega⟩
          · obtain ⟨r, hr⟩ : ∃ r, tk (f id) N = r := ⟨_, rfl⟩
            have HS := Lib.hid hr
            have HOK : Hid (Ok (upd f id (f id - r)) (upd t id (t id + r)) (((k + 1 : Nat) : Int) * 1099511627776)) := by
              have h9 := ok_take hOr.out hr
              rw [HB2.out] at h9
              exact h9
            clear hr
            have CA := Lib.hid (fun W (hPW : Pv W (w1.heap.size + 2) w1.heap.size (w1.heap.size + 1) n f t) => takeV hPW (by omega) id N hid.out HF0.out HF1.out HT0.out HT1.out r HS.out _ _ rfl rfl)
            have CB := Lib.hid (fun W (hRW : Rf W G f t) => rtakeU hRW hOr.out (by omega) id N r HS.out)
            have PD := Lib.hid (fun W (hB : Below wx.heap.size wx W) => hP1.below hB)
            go_wp2_with fail
            go_region_held3 (fun x => x.cell? ⟨bo, 3, none⟩ = some (.int .i64 N)) (first | assumption | exact tcell hT3 HBO.out HN1.out ‹_› | exact World.grownBy.cell hg4 ‹_› (fun e => HN2.out (Option.some.inj e))) (first
              | (go_at_call 9; refine (CA.out _ ?_).mono ?_; exact PD.out _ ⟨rfl, rfl, rfl, Nat.le_refl _, fun _ _ => rfl⟩; rintro e w3 ⟨rfl, hP3, hT3⟩)
              | (go_at_call 14; refine (CB.out _ (hR1.keep (hT3.block _ hR1.lt HN3.out))).mono ?_; rintro e w4 ⟨rfl, hR4, hg4⟩))
            all_goals
              go_wp2_with fail
              go_meet
              exact ⟨rfl, _, _, n + 1, hP3.kept hg4 (fun e => by have := Option.some.inj e; omega) (fun e => by have := Option.some.inj e; omega) (fun e => by have := Option.some.inj e; omega), hR4, HOK, (Turn.to hb1.drew hT3 (by have := hP1.lt; show w1.heap.size ≤ wx.heap.size; omega) (two_le (Nat.le_refl _) (Nat.le_succ _))).grown hg4 (by have := hP3.lt; omega) (fun j hj => by cases hj; omega), by omega⟩
          · obtain ⟨r, hr⟩ : ∃ r, f id = r := ⟨_, rfl⟩
            have HS := Lib.hid hr
            have HOK : Hid (Ok (upd f id 0) (upd t id 0) (((k + 1 : Nat) : Int) * 1099511627776)) := (ok_drop hOr.out (by omega) id).mono (by omega)
            clear hr
            go_wp2_with fail
            refine (dropV hP1 id hid.out r HS.out).mono ?_
            rintro e w3 ⟨rfl, hP3, hT3⟩
            go_wp2_with fail
            refine (rdropU (hR1.keep (hT3.block _ hR1.lt HN3.out)) hOr.out id r HS.out).mono ?_
            rintro e w4 ⟨rfl, hR4, hg4⟩
            all_goals
              go_wp2_with fail
              go_meet
              exact ⟨rfl, _, _, n, hP3.kept hg4 (fun e => by have := Option.some.inj e; omega) (fun e => by have := Option.some.inj e; omega) (fun e => by have := Option.some.inj e; omega), hR4, HOK, (Turn.to hb1 hT3 (by have := hP1.lt; show w1.heap.size ≤ wx.heap.size; omega) (two_le (Nat.le_refl _) (Nat.le_succ _))).grown hg4 (by have := hP3.lt; omega) (fun j hj => by cases hj; omega), by omega⟩
          · obtain ⟨⟨r, f'⟩, hr⟩ : ∃ r, askS f id N = r := ⟨_, rfl⟩
            have HS := Lib.hid hr
            have HOK : Hid (Ok f' t (((k + 1 : Nat) : Int) * 1099511627776)) := (ok_ask hOr.out hr).mono (by omega)
            have e4 : ((q : Int) == 4) = false := by rw [beq_eq_false_iff_ne]; omega
            have e5 : ((q : Int) == 5) = false := by rw [beq_eq_false_iff_ne]; omega
            have e6 : ((q : Int) == 6) = false := by rw [beq_eq_false_iff_ne]; omega
            have e7 : ((q : Int) == 7) = false := by rw [beq_eq_false_iff_ne]; omega
            clear hr
            have CA := Lib.hid (fun W (hPW : Pv W (w1.heap.size + 2) w1.heap.size (w1.heap.size + 1) n f t) => askU hPW hOr.out (by omega) id N r hid.out f' HS.out)
            have CB := Lib.hid (fun W (hRW : Rf W G f t) => raskU hRW hOr.out id N r f' HS.out)
            have PD := Lib.hid (fun W (hB : Below wx.heap.size wx W) => hP1.below hB)
            go_wp2_with fail
            go_region_held3 (fun x => x.cell? ⟨bo, 3, none⟩ = some (.int .i64 N)) (first | assumption | exact tcell hT3 HBO.out HN1.out ‹_› | exact World.grownBy.cell hg4 ‹_› (fun e => HN2.out (Option.some.inj e))) (first
              | (go_at_call 8; refine (CA.out _ ?_).mono ?_; exact PD.out _ ⟨rfl, rfl, rfl, Nat.le_refl _, fun _ _ => rfl⟩; rintro e w3 ⟨rfl, hP3, hT3⟩)
              | (go_at_call 16; refine (CB.out _ (hR1.keep (hT3.block _ hR1.lt HN3.out))).mono ?_; rintro e w4 ⟨rfl, hR4, hg4⟩))
            all_goals
              go_wp2_with fail
              go_meet
              exact ⟨rfl, _, _, n + 1, hP3.kept hg4 (fun e => by have := Option.some.inj e; omega) (fun e => by have := Option.some.inj e; omega) (fun e => by have := Option.some.inj e; omega), hR4, HOK, (Turn.to hb1.drew hT3 (by have := hP1.lt; show w1.heap.size ≤ wx.heap.size; omega) (two_le (Nat.le_refl _) (Nat.le_succ _))).grown hg4 (by have := hP3.lt; omega) (fun j hj => by cases hj; omega), by omega⟩
        case rest =>
          obtain ⟨rfl, f', t', n', hP4, hR4, hO4, hb4, hn4⟩ := hcut
          clear hP1 hR1 hb1 hOr d0 d3 HBO HN1 HN2
          go_wp2_with fail
          refine (waitV hP4 (by omega)).mono ?_
          rintro e w6 ⟨v1, L, rfl, hLp, hLm, hrow, hb6⟩
          have hLe : L = wl f' 1024 := rising_eq hLp (wl_sorted f' 1024) (fun x => by
            rw [hLm x, wl_mem]
            have h1 := hO4.out.f0 x
            constructor
            · intro h
              refine ⟨?_, by omega⟩
              by_cases hx : 0 ≤ x ∧ x ≤ 1023
              · omega
              · exact absurd (hO4.out.fo x hx) h
            · intro h
              omega)
          have hw1 := rw_of hrow
          have hlen := wl_len f' 1024
          rw [hLe] at hw1
          have hP6 := hP4.below hb6
          have hR6 := hR4.below hb6
          have hb6' := hb4.trans (hb6.mono (by have := hP4.lt; omega))
          clear hLp hLm hrow hLe hP4 hR4 hb4 hb6
          go_wp2_with fail
          refine (rwaitU hR6).mono ?_
          rintro e w7 ⟨v2, rfl, hrow2, hb7⟩
          have hw2 := rw_of hrow2
          have hw1' := hw1.below hb7
          have hP7 := hP6.below hb7
          have hR7 := hR6.below hb7
          have hb7' := hb6'.trans (hb7.mono (by have := hP6.lt; omega))
          clear hrow2 hw1 hP6 hR6 hb6' hb7
          go_wp2_with fail
          refine (sameU hw1' hw2 (by omega)).mono ?_
          rintro e w8 ⟨rfl, nq, rfl⟩
          have hP8 : Pv (w7.drewN nq) (w1.heap.size + 2) w1.heap.size (w1.heap.size + 1) n' f' t' := hP7.below ⟨rfl, rfl, rfl, Nat.le_refl _, fun _ _ => rfl⟩
          have hR8 : Rf (w7.drewN nq) G f' t' := hR7.keep rfl
          have hb8 : Below w1.heap.size w1 (w7.drewN nq) := hb7'.trans ⟨rfl, rfl, rfl, Nat.le_refl _, fun _ _ => rfl⟩
          generalize w7.drewN nq = w8 at *
          obtain ⟨Y, hY⟩ : ∃ Y, f' id = Y := ⟨_, rfl⟩
          obtain ⟨X, hX⟩ : ∃ X, t' id = X := ⟨_, rfl⟩
          have HY := Lib.hid hY
          have HX := Lib.hid hX
          clear hP7 hR7 hb7' hw1' hw2 hY hX hlen
          go_wp2_with fail
          refine (backV hP8 id hid.out Y HY.out).mono ?_
          rintro e wz ⟨rfl, rfl⟩
          go_wp2_with fail
          refine (backR hR8 hO4.out id Y HY.out).mono ?_
          rintro e wz ⟨rfl, rfl⟩
          go_wp2_with fail
          refine (takenV hP8 id hid.out X HX.out).mono ?_
          rintro e wz ⟨rfl, rfl⟩
          go_wp2_with fail
          refine (manyR hR8 hO4.out id X HX.out).mono ?_
          rintro e wz ⟨rfl, rfl⟩
          go_wp2_with fail
          go_roundg (60 - (k + 1))
          case measure => omega
          case rel => exact ⟨k + 1, f', t', n', hP8, hR8, hO4, hb8, by omega, by omega, by omega, by omega, by go_num⟩
    · have hcase : ¬ k < len0 ∨ k < len0 ∧ k = 60 := by omega
      rcases hcase with hnl | ⟨hlt, rfl⟩
      · go_wp2_with fail
        go_ret
        exact ⟨rfl, hb.trans (hbr.mono hb.size)⟩
      · go_wp2_with fail
        go_ret
        exact ⟨rfl, hb.trans (hbr.mono hb.size)⟩

/-! ### THE ROW's STEP -/
set_option maxRecDepth 100000 in
theorem lifted (os : Os) (started : os.Started) (H : Type) (enc : TypeId × Value → H) :
    ReturnsInHanded {} Try.checked os 5 .any (Rows.serverPlaysSpec.pre6 enc Try.prog Try.f5 Rows.serverPlaysRow.domain false) (Rows.serverPlaysSpec.post enc Try.prog Try.f5 false true false false) := by
  refine returnsInHanded_of_change (C := Try.checked) own started (by kernel_rfl) Try.func5
    (ChangeSpec.witness6 (enc := enc) (C := Try.checked) false ⟨#[], #[.slice none 0 0], []⟩ 8 (by kernel_rfl) (by kernel_rfl) (by kernel_rfl) (by kernel_rfl)) ?_
  intro W base args ds gs before hval0 hW hcnd _
  have hval : ∀ (j : Nat) t v, Try.f5.params[j]? = some t → args[j]? = some v → Value.okWide Try.prog W .any base t v := hval0
  have hW' := hW
  obtain ⟨p, q, hA0, hV, rfl, hfz, hnd⟩ := hW
  have hA : DataW.TrodAll enc Try.prog W 0 (fun _ => true) true Try.f5.params.toList args.toList ds p := hA0
  rw [Try.params5] at hA hval
  obtain ⟨v0, vs0, d0, ds0, p0, q0, hargs, rfl, rfl, h0, r0⟩ := trodAll_cons hA
  obtain ⟨rfl, rfl, rfl⟩ := trodAll_nil r0
  obtain rfl : args = #[v0] := by cases args; simp_all
  obtain ⟨rfl, rfl⟩ := trodVars_none hV
  obtain ⟨a0, len0, cap0, rfl⟩ := okWide_slice Try.underlying34 (hval 0 34 v0 rfl rfl)
  have k0 := h0
  have lt0 : ∀ x ∈ p0, x.block < W.heap.size := by obtain ⟨m, hm⟩ := k0; exact DataW.trod_lt m _ _ _ hm
  have w0 := open_ops h0
  clear hA0 hval0
  refine (core W a0 len0 cap0 w0).mono fun e W' ⟨he, bel⟩ => ?_
  subst he
  exact ⟨_, rfl, _, _, _, [], _, [], hW', trodAll_mk1 (shut_bool Try.underlying4 _), (trodAll_cons_mk (Below.trod laidOut (by kernel_rfl) (of_decide_eq_true (by kernel_rfl)) k0 bel lt0) trodAll_mk0), rfl, bel.frame _, fun h => by cases h⟩

theorem over : Rows.serverPlaysRow.holds Try.pinned (OpenSpec.ofChange Rows.serverPlaysSpec) :=
  OpenClaim.holds_of_wide 5 Try.f5 rfl rfl rfl rfl rfl rfl rfl ⟨rfl, rfl, rfl, rfl, rfl⟩ rfl rfl rfl rfl rfl (by kernel_rfl) Try.func5 (by kernel_rfl)
    (of_decide_eq_true (by kernel_rfl)) (by unfold Func.isWrapper; first | (rw [if_pos (by decide +kernel)]; kernel_rfl) | (rw [if_neg (by decide +kernel)]; exact ⟨rfl, rfl⟩))
    (fun os started H enc _ => lifted os started H enc)

/-- ████ THE STATEMENT ████ -/
theorem proved : Rows.ServerPlaysSaid := over
#print axioms proved
end Go.Proofs.Ytfjfnfipcajkkaa.serverPlays
