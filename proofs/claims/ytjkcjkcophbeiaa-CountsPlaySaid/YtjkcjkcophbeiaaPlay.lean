/-
  CountsPlay: for every list of steps the law answers true: counts go on, step by step, as the document's do. No condition.
-/
import Derived.Test.YtjkcjkcophbeiaaPl
import Derived.Deep.RegionWith
import Derived.Deep.RegionHeld3
import Derived.Deep.WholeRow
import Derived.Deep.Slices
import Derived.Deep.Fields
import Derived.Deep.DeepCutAuto
import Derived.Deep.CutBlock
import Derived.Deep.LoopGhost
import Derived.ChangeSame
import Derived.WalkKit
import Derived.ProofKit
import Derived.OpenShut
import Derived.ShutString
import Derived.ChangeOld
import Derived.Below
namespace Go.Proofs.Ytjkcjkcophbeiaa.countsPlay
open Go.ChangeShapes Go.WideShapes Go.ChangeAt Go.RowKit Go.Deep
open Go.ChangeMaps (open_string shut_string)
set_option linter.unusedVariables false

theorem own : ownKnob Try.prog.godebug = none := by kernel_rfl
theorem laidOut : laidOutB Try.prog = true := by kernel_rfl

theorem eight {l : List Int} (h : l.length = 8) : ∃ a b c d e f g i, l = [a, b, c, d, e, f, g, i] := by
  match l, h with
  | [a, b, c, d, e, f, g, i], _ => exact ⟨a, b, c, d, e, f, g, i, rfl⟩

theorem cellAt {w : World} {b : Nat} {cs : Array Value} {t : TypeId} (h : w.heap[b]? = some (.cells cs t (0, 0))) (j : Nat) {v : Value} (hj : cs[j]? = some v) : w.cell? ⟨b, j, none⟩ = some v := by simp [World.cell?, h, hj]

theorem ct8 {w : World} {b : Nat} {x0 x1 x2 x3 x4 x5 x6 x7 : Int} (h : Ct w b [x0, x1, x2, x3, x4, x5, x6, x7]) : w.cell? ⟨b, 0, none⟩ = some (.int .i64 x0) ∧ w.cell? ⟨b, 1, none⟩ = some (.int .i64 x1) ∧ w.cell? ⟨b, 2, none⟩ = some (.int .i64 x2) ∧ w.cell? ⟨b, 3, none⟩ = some (.int .i64 x3) ∧ w.cell? ⟨b, 4, none⟩ = some (.int .i64 x4) ∧ w.cell? ⟨b, 5, none⟩ = some (.int .i64 x5) ∧ w.cell? ⟨b, 6, none⟩ = some (.int .i64 x6) ∧ w.cell? ⟨b, 7, none⟩ = some (.int .i64 x7) :=
  ⟨h.cell (k := 0) (by omega), h.cell (k := 1) (by omega), h.cell (k := 2) (by omega), h.cell (k := 3) (by omega), h.cell (k := 4) (by omega), h.cell (k := 5) (by omega), h.cell (k := 6) (by omega), h.cell (k := 7) (by omega)⟩
theorem sumR {b : Nat} {l : List Int} {w : World} (hC : Ct w b l) {r : Int} (hr : tot l = r) :
    Calls Try.prog 19 #[.pointer (some ⟨b, 0, none⟩)] w fun e w' => e = .returned (.int .i64 r) ∧ Below w.heap.size w w' := by
  subst hr
  exact sumC hC

/-- What a step of the script holds, at off in block b. -/
def OpAt (w : World) (b off : Nat) (K O N : Int) (R S : Bool) : Prop :=
  w.cell? ⟨b, off, none⟩ = some (.int .i64 K) ∧ w.cell? ⟨b, off + 1, none⟩ = some (.int .i64 O) ∧ w.cell? ⟨b, off + 2, none⟩ = some (.int .i64 N) ∧ w.cell? ⟨b, off + 3, none⟩ = some (.bool R) ∧ w.cell? ⟨b, off + 4, none⟩ = some (.bool S)
theorem OpAt.keep {w w' : World} {b off : Nat} {K O N : Int} {R S : Bool} (h : OpAt w b off K O N R S) (e : w'.heap[b]? = w.heap[b]?) : OpAt w' b off K O N R S := by
  unfold OpAt World.cell? at *
  simpa [e] using h

set_option maxRecDepth 100000 in
set_option maxHeartbeats 4000000 in
theorem core (a0 : Option Addr) (len0 cap0 : Nat) (w : World) (hm : len0 ≤ 9223372036854775807)
    (h : len0 = 0 ∨ ∃ b off, a0 = some ⟨b, off, none⟩ ∧ b < w.heap.size ∧ ∀ k, k < len0 → ∃ K O N : Int, ∃ R S : Bool, OpAt w b (off + k * 5) K O N R S) :
    Calls Try.prog 4 #[.slice a0 len0 cap0] w fun e w' => e = .returned (.bool true) ∧ Below w.heap.size w w' := by
  rcases Nat.eq_zero_or_pos len0 with rfl | hpos
  · go_enter Try.func4, Try.ntmps4
    go_wp2_with (first | (go_at_call 7; refine (awake_any _).mono ?_; rintro e w1 ⟨rfl, hb⟩) | (go_at_call 11; refine (new_any _).mono ?_; rintro e w2 ⟨rfl, hC, hb2⟩))
    refine wp_loop_rounds 1 ?_
    rw [rounds_succ]
    go_wp2_with fail
    go_ret
    exact ⟨rfl, (hb.trans ((hb2.alloc (Nat.le_of_lt hC.lt) _).mono hb.size))⟩
  · obtain ⟨b, off, rfl, hbw, hrow⟩ : ∃ b off, a0 = some ⟨b, off, none⟩ ∧ b < w.heap.size ∧ ∀ k, k < len0 → ∃ K O N : Int, ∃ R S : Bool, OpAt w b (off + k * 5) K O N R S := by
      rcases h with h | h
      · omega
      · exact h
    clear hpos
    go_enter Try.func4, Try.ntmps4
    go_wp2_with (first | (go_at_call 7; refine (awake_any _).mono ?_; rintro e w1 ⟨rfl, hb⟩) | (go_at_call 11; refine (new_any _).mono ?_; rintro e w2 ⟨rfl, hC, hb2⟩))
    go_loopg [5, 6] 80 (fun g s5 i wr => ∃ (k b2 : Nat) (l : List Int), k ≤ 80 ∧ k ≤ len0 ∧ g = 80 - k ∧ i = .int .i64 k ∧ s5 = .pointer (some ⟨b2, 0, none⟩) ∧ Ct wr w1.heap.size l ∧ Ct wr b2 l ∧ w1.heap.size < b2 ∧ Below w1.heap.size w1 wr)
    case atStart => exact ⟨0, w2.heap.size, [0, 0, 0, 0, 0, 0, 0, 0], by omega, by omega, by omega, rfl, rfl, hC.keep (Below.heap_alloc _ _ _ hC.lt), ⟨_, heap_alloc_new _ _, rfl⟩, hC.lt, hb2.alloc (Nat.le_of_lt hC.lt) _⟩
    case round =>
      obtain ⟨k, b2, l, hk80, hk0, rfl, rfl, rfl, hCr, hR, hlt2, hbr⟩ := hrel
      by_cases hgo : k < len0 ∧ k < 80
      · obtain ⟨hlt0, h80⟩ := hgo
        obtain ⟨K, O, N, R, S, hop⟩ := hrow k hlt0
        have hsz := hb.size
        have hop1 : OpAt wr b (off + k * 5) K O N R S := hop.keep ((hbr.block b (by omega)).trans (hb.block b hbw))
        obtain ⟨c0, c1, c2, c3, c4⟩ := hop1
        have hr0 : -10 < O.tmod 10 := by obtain ⟨_, rfl, h0, _⟩ := tmod_in O 10 (by omega); exact h0
        have hr1 : O.tmod 10 < 10 := by obtain ⟨_, rfl, _, h1⟩ := tmod_in O 10 (by omega); exact h1
        clear hrow hop h
        go_upto_if 37 with fail
        go_cut [8] (fun s8 wx => wx = wr.alloc (.cells #[.int .i64 K, .int .i64 O, .int .i64 N, .bool R, .bool S] 43) ∧ ∃ of : Int, s8 = .int .i64 of)
        case first =>
          cases R
          all_goals
            go_wp2_with fail
            go_meet
            exact ⟨rfl, _, rfl⟩
        case rest =>
          obtain ⟨rfl, of, rfl⟩ := hcut
          obtain ⟨q, hq, hand⟩ := and7 K
          have d0 : (wr.alloc (.cells #[.int .i64 K, .int .i64 O, .int .i64 N, .bool R, .bool S] 43)).cell? ⟨wr.heap.size, 0, none⟩ = some (.int .i64 K) := cellAt (heap_alloc_new _ _) 0 rfl
          have d2 : (wr.alloc (.cells #[.int .i64 K, .int .i64 O, .int .i64 N, .bool R, .bool S] 43)).cell? ⟨wr.heap.size, 2, none⟩ = some (.int .i64 N) := cellAt (heap_alloc_new _ _) 2 rfl
          have d4 : (wr.alloc (.cells #[.int .i64 K, .int .i64 O, .int .i64 N, .bool R, .bool S] 43)).cell? ⟨wr.heap.size, 4, none⟩ = some (.bool S) := cellAt (heap_alloc_new _ _) 4 rfl
          have hC1 : Ct (wr.alloc (.cells #[.int .i64 K, .int .i64 O, .int .i64 N, .bool R, .bool S] 43)) w1.heap.size l := hCr.keep (Below.heap_alloc _ _ _ hCr.lt)
          have hR1 : Ct (wr.alloc (.cells #[.int .i64 K, .int .i64 O, .int .i64 N, .bool R, .bool S] 43)) b2 l := hR.keep (Below.heap_alloc _ _ _ hR.lt)
          have hb1 : Below w1.heap.size w1 (wr.alloc (.cells #[.int .i64 K, .int .i64 O, .int .i64 N, .bool R, .bool S] 43)) := hbr.alloc (Nat.le_of_lt hCr.lt) _
          have HN1 : Hid (wr.heap.size ≠ w1.heap.size) := by show wr.heap.size ≠ w1.heap.size; have := hCr.lt; omega
          have HN2 : Hid (wr.heap.size ≠ b2) := by show wr.heap.size ≠ b2; have := hR.lt; omega
          have HN3 : Hid (w1.heap.size ≠ b2) := by show w1.heap.size ≠ b2; omega
          clear c0 c1 c2 c3 c4 hbr hCr hR
          generalize wr.heap.size = bo at *
          generalize wr.alloc (.cells #[.int .i64 K, .int .i64 O, .int .i64 N, .bool R, .bool S] 43) = wx at *
          go_upto_block 2 with fail
          go_cut [5, 9] (fun s5 s9 wy => s9 = .bool true ∧ ∃ (b3 : Nat) (l' : List Int), s5 = .pointer (some ⟨b3, 0, none⟩) ∧ Ct wy w1.heap.size l' ∧ Ct wy b3 l' ∧ w1.heap.size < b3 ∧ Below w1.heap.size w1 wy)
          case first =>
            have hq8 : q = 3 ∨ q = 4 ∨ q = 5 ∨ q = 6 ∨ q = 7 ∨ q ≤ 2 := by omega
            rcases hq8 with rfl | rfl | rfl | rfl | rfl | hq2
            · obtain ⟨rr, hrr⟩ : ∃ r, gS l of = r := ⟨_, rfl⟩
              have HS := Lib.hid hrr
              clear hrr
              go_wp2_with (first | (go_at_call 9; refine (getU hC1 of rr HS.out).mono ?_; rintro e w3 ⟨rfl, rfl⟩) | (go_at_call 12; refine (rgetU hR1 of rr HS.out).mono ?_; rintro e w4 ⟨rfl, rfl⟩))
              go_meet
              exact ⟨rfl, b2, l, rfl, hC1, hR1, hlt2, hb1⟩
            · obtain ⟨⟨rr, l'⟩, hrr⟩ : ∃ r, sS l of N = r := ⟨_, rfl⟩
              have HS := Lib.hid hrr
              clear hrr
              go_wp2_with fail
              go_region_held3 (fun x => x.cell? ⟨bo, 2, none⟩ = some (.int .i64 N)) (first | assumption | exact World.grownBy.cell hg3 ‹_› (fun e => HN1.out (Option.some.inj e)) | exact World.grownBy.cell hg4 ‹_› (fun e => HN2.out (Option.some.inj e))) (first
                | (go_at_call 10; refine (swapU ?_ of N rr l' HS.out).mono ?_; exact hC1; rintro e w3 ⟨rfl, hC3, hg3⟩)
                | (go_at_call 13; refine (rswapU (hR1.keep (hg3.block _ hR1.lt (fun e => HN3.out (Option.some.inj e).symm))) of N rr l' HS.out).mono ?_; rintro e w4 ⟨rfl, hR4, hg4⟩))
              all_goals
                go_wp2_with fail
                go_meet
                exact ⟨rfl, b2, l', rfl, hC3.keep (hg4.block _ hC3.lt (fun e => HN3.out (Option.some.inj e))), hR4, hlt2, (below_of hb1.drew hg3 hC1.lt).grown hg4 (by have := hC3.lt; omega) (fun k hk => by cases hk; exact Nat.le_of_lt hlt2)⟩
            · obtain ⟨⟨rr, l'⟩, hrr⟩ : ∃ r, mS l of N = r := ⟨_, rfl⟩
              have HS := Lib.hid hrr
              clear hrr
              go_wp2_with fail
              go_region_held3 (fun x => x.cell? ⟨bo, 2, none⟩ = some (.int .i64 N)) (first | assumption | exact World.grownBy.cell hg3 ‹_› (fun e => HN1.out (Option.some.inj e)) | exact World.grownBy.cell hg4 ‹_› (fun e => HN2.out (Option.some.inj e))) (first
                | (go_at_call 8; refine (mostU ?_ of N rr l' HS.out).mono ?_; exact hC1; rintro e w3 ⟨rfl, hC3, hg3⟩)
                | (go_at_call 14; refine (rmostU (hR1.keep (hg3.block _ hR1.lt (fun e => HN3.out (Option.some.inj e).symm))) of N rr l' HS.out).mono ?_; rintro e w4 ⟨rfl, hR4, hg4⟩))
              all_goals
                go_wp2_with fail
                go_meet
                exact ⟨rfl, b2, l', rfl, hC3.keep (hg4.block _ hC3.lt (fun e => HN3.out (Option.some.inj e))), hR4, hlt2, (below_of hb1.drew hg3 hC1.lt).grown hg4 (by have := hC3.lt; omega) (fun k hk => by cases hk; exact Nat.le_of_lt hlt2)⟩
            · obtain ⟨⟨rr, l'⟩, hrr⟩ : ∃ r, mS l of N = r := ⟨_, rfl⟩
              have HS := Lib.hid hrr
              clear hrr
              go_wp2_with fail
              go_region_held3 (fun x => x.cell? ⟨bo, 2, none⟩ = some (.int .i64 N)) (first | assumption | exact World.grownBy.cell hg3 ‹_› (fun e => HN1.out (Option.some.inj e)) | exact World.grownBy.cell hg4 ‹_› (fun e => HN2.out (Option.some.inj e))) (first
                | (go_at_call 8; refine (mostU ?_ of N rr l' HS.out).mono ?_; exact hC1; rintro e w3 ⟨rfl, hC3, hg3⟩)
                | (go_at_call 14; refine (rmostU (hR1.keep (hg3.block _ hR1.lt (fun e => HN3.out (Option.some.inj e).symm))) of N rr l' HS.out).mono ?_; rintro e w4 ⟨rfl, hR4, hg4⟩))
              all_goals
                go_wp2_with fail
                go_meet
                exact ⟨rfl, b2, l', rfl, hC3.keep (hg4.block _ hC3.lt (fun e => HN3.out (Option.some.inj e))), hR4, hlt2, (below_of hb1.drew hg3 hC1.lt).grown hg4 (by have := hC3.lt; omega) (fun k hk => by cases hk; exact Nat.le_of_lt hlt2)⟩
            · cases S
              · go_wp2_with fail
                go_meet
                exact ⟨rfl, b2, l, rfl, hC1, hR1, hlt2, hb1⟩
              · go_wp2_with (go_at_call 15; refine (resetC hC1).mono ?_; rintro e w3 ⟨rfl, hC3, hg3⟩)
                go_meet
                exact ⟨rfl, w3.heap.size, _, rfl, hC3.keep (Below.heap_alloc _ _ _ hC3.lt), ⟨_, heap_alloc_new _ _, rfl⟩, hC3.lt, (below_of hb1 hg3 hC1.lt).alloc (Nat.le_of_lt hC3.lt) _⟩
            · obtain ⟨⟨rr, l'⟩, hrr⟩ : ∃ r, aS l of N = r := ⟨_, rfl⟩
              have HS := Lib.hid hrr
              have e3 : ((q : Int) == 3) = false := by rw [beq_eq_false_iff_ne]; omega
              have e4 : ((q : Int) == 4) = false := by rw [beq_eq_false_iff_ne]; omega
              have e5 : ((q : Int) == 5) = false := by rw [beq_eq_false_iff_ne]; omega
              have e6 : ((q : Int) == 6) = false := by rw [beq_eq_false_iff_ne]; omega
              have e7 : ((q : Int) == 7) = false := by rw [beq_eq_false_iff_ne]; omega
              clear hrr
              go_wp2_with fail
              go_region_held3 (fun x => x.cell? ⟨bo, 2, none⟩ = some (.int .i64 N)) (first | assumption | exact World.grownBy.cell hg3 ‹_› (fun e => HN1.out (Option.some.inj e)) | exact World.grownBy.cell hg4 ‹_› (fun e => HN2.out (Option.some.inj e))) (first
                | (go_at_call 16; refine (addU ?_ of N rr l' HS.out).mono ?_; exact hC1; rintro e w3 ⟨rfl, hC3, hg3⟩)
                | (go_at_call 17; refine (raddU (hR1.keep (hg3.block _ hR1.lt (fun e => HN3.out (Option.some.inj e).symm))) of N rr l' HS.out).mono ?_; rintro e w4 ⟨rfl, hR4, hg4⟩))
              all_goals
                go_wp2_with fail
                go_meet
                exact ⟨rfl, b2, l', rfl, hC3.keep (hg4.block _ hC3.lt (fun e => HN3.out (Option.some.inj e))), hR4, hlt2, (below_of hb1.drew hg3 hC1.lt).grown hg4 (by have := hC3.lt; omega) (fun k hk => by cases hk; exact Nat.le_of_lt hlt2)⟩
          case rest =>
            obtain ⟨rfl, b3, l', rfl, hC3, hR3, hlt3, hb3⟩ := hcut
            clear hC1 hR1 hb1 d0 d2 d4 HN1 HN2 HN3
            have hlen := Lib.hid hC3.len
            have heq := fun w => run_equalIn_arr (P := Try.prog) 9998 8 39 2 .i64 Try.underlying39 Try.underlying2 rfl l' hlen.out w
            obtain ⟨sm, hsm⟩ : ∃ s, tot l' = s := ⟨_, rfl⟩
            have HSM := Lib.hid hsm
            clear hsm
            obtain ⟨x0, x1, x2, x3, x4, x5, x6, x7, rfl⟩ := eight hlen.out
            have heq8 : ∀ w, (Op.equalIn 10000 39 (.agg #[.int .i64 x0, .int .i64 x1, .int .i64 x2, .int .i64 x3, .int .i64 x4, .int .i64 x5, .int .i64 x6, .int .i64 x7]) (.agg #[.int .i64 x0, .int .i64 x1, .int .i64 x2, .int .i64 x3, .int .i64 x4, .int .i64 x5, .int .i64 x6, .int .i64 x7])).run Try.prog w = .ok true w := fun w => heq w
            clear heq
            have hsum : tot [x0, x1, x2, x3, x4, x5, x6, x7] = sm := HSM.out
            have HS2 := Lib.hid hsum
            clear hsum
            go_wp2_with fail
            have hC3' : Ct wc.drew w1.heap.size [x0, x1, x2, x3, x4, x5, x6, x7] := hC3
            have hR3' : Ct wc.drew b3 [x0, x1, x2, x3, x4, x5, x6, x7] := hR3
            have hb3' : Below w1.heap.size w1 wc.drew := hb3.drew
            go_region_held3 (fun x => x.cell? ⟨b3, 0, none⟩ = some (.int .i64 x0) ∧ x.cell? ⟨b3, 1, none⟩ = some (.int .i64 x1) ∧ x.cell? ⟨b3, 2, none⟩ = some (.int .i64 x2) ∧ x.cell? ⟨b3, 3, none⟩ = some (.int .i64 x3) ∧ x.cell? ⟨b3, 4, none⟩ = some (.int .i64 x4) ∧ x.cell? ⟨b3, 5, none⟩ = some (.int .i64 x5) ∧ x.cell? ⟨b3, 6, none⟩ = some (.int .i64 x6) ∧ x.cell? ⟨b3, 7, none⟩ = some (.int .i64 x7)) (first | assumption | exact ct8 hR5 | exact ct8 hR4 | exact ct8 hR3') (first
              | (go_at_call 18; refine (allC hC3').mono ?_; rintro e w4 ⟨rfl, hb4⟩; have hC4 := hC3'.keep (hb4.block _ hC3'.lt); have hR4 := hR3'.keep (hb4.block _ hR3'.lt); have hbb4 := hb3'.trans (hb4.mono (Nat.le_of_lt hC3'.lt)); clear hb4)
              | (go_at_call 19; refine (sumR hC4 HS2.out).mono ?_; rintro e w5 ⟨rfl, hb5⟩; have hC5 := hC4.keep (hb5.block _ hC4.lt); have hR5 := hR4.keep (hb5.block _ hR4.lt); have hbb5 := hbb4.trans (hb5.mono (Nat.le_of_lt hC4.lt)); clear hb5)
              | (go_at_call 20; refine (rsumC hR5 sm HS2.out).mono ?_; rintro e w6 ⟨rfl, rfl⟩))
            all_goals
              go_wp2_with fail
              go_roundg (80 - (k + 1))
              case measure => omega
              case rel => exact ⟨k + 1, b3, _, by omega, by omega, rfl, by go_num, rfl, hC5, hR5, hlt3, hbb5⟩
      · have hw6 : k < len0 ∧ ¬ k < 80 ∨ ¬ k < len0 := by omega
        clear hgo hrow
        rcases hw6 with ⟨h1, h2⟩ | h1
        all_goals
          go_wp2_with fail
          go_ret
          exact ⟨rfl, hb.trans (hbr.mono hb.size)⟩
end Go.Proofs.Ytjkcjkcophbeiaa.countsPlay
