/-
  DiskPlays: for every number and every list of steps the law answers true: a disk goes on, step by step, as the document's does. No condition.
-/
import Derived.Test.YtaccmeffcjfeeaaDd
import Derived.Deep.QuietTactic
import Derived.BigQuiet
import Derived.Deep.RegionHeld3
import Derived.Deep.DeepCutAuto
import Derived.Deep.CutBlock
import Derived.Deep.LoopGhost
import Derived.WalkKit
import Derived.ProofKit
import Derived.OpenShut
import Derived.ShutString
import Derived.ChangeOld
import Derived.Below
namespace Go.Proofs.Ytaccmeffcjfeeaa.diskPlays
open Go.ChangeShapes Go.WideShapes Go.ChangeAt Go.RowKit Go.Deep
open Go.ChangeMaps (open_string shut_string)
set_option linter.unusedVariables false

theorem own : ownKnob Try.prog.godebug = none := by kernel_rfl
theorem laidOut : laidOutB Try.prog = true := by kernel_rfl
theorem and7 (n : Int) : ∃ q : Nat, q < 8 ∧ bits .and .i64 n 7 = (q : Int) :=
  ⟨(n % 8).toNat, by omega, by have : bits .and .i64 n 7 = n % 8 := i64_mask n 3 8 rfl (by omega) (by decide); rw [this]; omega⟩
theorem below_cell {w w' : World} {b o : Nat} {v : Value} (hb : Below w.heap.size w w') (h : w.cell? ⟨b, o, none⟩ = some v) : w'.cell? ⟨b, o, none⟩ = some v := by
  have hl : b < w.heap.size := by simpa using block_lt_of_cell h
  exact (hb.cell (p := ⟨b, o, none⟩) (by simpa using hl)).trans h
theorem fates_moved {w w' : World} {la : Option Addr} {G : List (Int × Int)} {b s len : Nat} {oa : Option Addr} (h : Fates w la G) (hM : Moved w w' b s oa) (hl : G.length = len) (hfar : 0 < len → ∀ c off, la = some ⟨c, off, none⟩ → c ≠ b ∧ c ≠ s ∧ (Value.slice oa 0 0).ownBlock ≠ some c) : Fates w' la G := by
  intro i hi
  obtain ⟨c, off, ha, h0, h1⟩ := h i hi
  obtain ⟨n1, n2, n3⟩ := hfar (by omega) c off ha
  have hcw : c < w.heap.size := by simpa using block_lt_of_cell h0
  exact ⟨c, off, ha, (World.cell?_of_block (a := ⟨c, off + i * 2, none⟩) (hM.block c hcw n1 n2 n3)).trans h0, (World.cell?_of_block (a := ⟨c, off + i * 2 + 1, none⟩) (hM.block c hcw n1 n2 n3)).trans h1⟩
/-- Both disks, side by side. -/
structure Bi (w0 w : World) (B b s R M : Nat) (S : List (List UInt8)) (O : List (Nat × List UInt8)) (m : Nat) (oa : Option Addr) (cap : Nat) (f r : Int) (vS vO : Value) : Prop where
  d : Dk w b s M S O m oa cap f r
  k : Rk w R S O vS vO f r
  bel : Below B w0 w
  own : ∀ g, ob oa = some g → B ≤ g
  bs : B ≤ b ∧ B ≤ s ∧ b < R ∧ s < R
theorem Bi.below {w0 w w' : World} {B b s R M : Nat} {S : List (List UInt8)} {O : List (Nat × List UInt8)} {m : Nat} {oa : Option Addr} {cap : Nat} {f r : Int} {vS vO : Value} (h : Bi w0 w B b s R M S O m oa cap f r vS vO) (hb : Below w.heap.size w w') : Bi w0 w' B b s R M S O m oa cap f r vS vO :=
  ⟨h.d.below hb, h.k.below hb, h.bel.trans (hb.mono (by have := h.k.lt; have := h.bs; omega)), h.own, h.bs⟩
/-- Both do a step: first the code's, then the document's. -/
theorem Bi.step {w0 w w1 w2 : World} {B b s R M : Nat} {S S' : List (List UInt8)} {O O' : List (Nat × List UInt8)} {m m' : Nat} {oa oa' : Option Addr} {cap cap' : Nat} {f f' r r' : Int} {vS vO vS' vO' : Value}
    (h : Bi w0 w B b s R M S O m oa cap f r vS vO) (hB : B ≤ w0.heap.size) (d1 : Dk w1 b s M S' O' m' oa' cap' f' r') (m1 : Moved w w1 b s oa) (hf : ∀ g, ob oa' = some g → ob oa = some g ∨ w.heap.size ≤ g)
    (k1 : Rk w1 R S O vS vO f r) (k2 : Rk w2 R S' O' vS' vO' f' r') (m2 : Mv w1 w2 R vS vO) : Bi w0 w2 B b s R M S' O' m' oa' cap' f' r' vS' vO' := by
  obtain ⟨h1, h2, h3, h4⟩ := h.bs
  have hlt := h.k.lt
  have hsz := m1.size
  have hb1 := below_moved h.bel hB m1 h1 h2 h.own
  exact ⟨d1.mv k1 m2 h3 h4, k2, below_mv hb1 k1 m2 (by omega) (by omega), fun g hg => by
    rcases hf g hg with h9 | h9
    · exact h.own g h9
    · omega, h.bs⟩

set_option maxRecDepth 100000 in
set_option maxHeartbeats 4000000 in
theorem core (w : World) (a0 : Int) (_w0 : (Lit.int .i64 a0).wf = true) (a1 : Option Addr) (len1 cap1 : Nat) (h1 : len1 ≤ 9223372036854775807 ∧ SeenO w a1 len1) :
    Calls Try.prog 7 #[.int .i64 a0, .slice a1 len1 cap1] w fun e w' => e = .returned (.bool true) ∧ Below w.heap.size w w' := by
  obtain ⟨hm1, h1⟩ := h1
  have H1 := Lib.hid h1
  have he := rest_eq a0 6 (by omega)
  have hl := rest_lt a0 6 (by omega)
  obtain ⟨M, hM⟩ : ∃ M : Nat, 1 + (restN a0 6 : Int) = (M : Int) := ⟨1 + restN a0 6, by omega⟩
  have HE : Hid ((a0.tmod 6 + 6) % 6 = (restN a0 6 : Int)) := he
  have HM := Lib.hid hM
  have hM1 : 1 ≤ M ∧ M ≤ 6 := by omega
  obtain ⟨hM1, hM6⟩ := hM1
  have HT : Hid (-6 < a0.tmod 6 ∧ a0.tmod 6 < 6) := tmod_in a0 6 (by omega)
  clear h1 he hl hM
  go_enter Try.func7, Try.ntmps7
  go_wp2_with fail
  refine (awake_any _).mono ?_
  rintro e w1 ⟨rfl, hb⟩
  obtain ⟨t0, t1⟩ := HT.out
  have he := HE.out
  go_wp2_with fail
  try simp only [he, HM.out]
  clear t0 t1 he
  refine (new_ok M hM1 (by omega) _).mono ?_
  rintro e w2 ⟨rfl, hD2, hb2, hs2⟩
  go_wp2_with fail
  refine (rnew M (by omega) _).mono ?_
  rintro e w3 ⟨rfl, ⟨vS0, hK3⟩, hb3⟩
  have hB3 : Bi w1 w3 w1.heap.size (w1.heap.size + 1) w1.heap.size w2.heap.size M (zs M) [] 0 none 0 0 0 vS0 (.slice none 0 0) := ⟨hD2.below hb3, hK3, hb2.trans (hb3.mono hb2.size), (fun g hg => by simp [ob, Value.ownBlock] at hg), by omega⟩
  clear hD2 hK3 hb2 hb3 hs2
  generalize zs M = S0 at *
  generalize w2.heap.size = R at *
  go_wp2_with fail
  go_loopg [9] 60 (fun g i wr => ∃ (k : Nat) (S : List (List UInt8)) (O : List (Nat × List UInt8)) (m : Nat) (oa : Option Addr) (cap : Nat) (f r : Int) (vS vO : Value), Bi w1 wr w1.heap.size (w1.heap.size + 1) w1.heap.size R M S O m oa cap f r vS vO ∧ m ≤ k ∧ r ≤ k ∧ k ≤ 60 ∧ k ≤ len1 ∧ g = 60 - k ∧ i = .int .i64 k)
  case atStart => exact ⟨0, S0, [], 0, none, 0, 0, 0, _, _, hB3, by omega, by omega, by omega, by omega, by omega, rfl⟩
  case round =>
    clear hB3
    obtain ⟨k, S, O, m, oa, cap, f, r, vS, vO, hBr, hmk, hrk, hk60, hkl, rfl, rfl⟩ := hrel
    by_cases hgo : k < len1 ∧ k < 60
    · obtain ⟨hlt, hlt60⟩ := hgo
      obtain ⟨b, off, rfl, hbw, K, A, Bx, Raw, F, T, N, la, len, cp, hop, wn, hl63, G, hGl, hGf⟩ := H1.out k hlt
      have hsz := hb.size
      have hcell : ∀ j v, w.cell? ⟨b, off + k * 8 + j, none⟩ = some v → wr.cell? ⟨b, off + k * 8 + j, none⟩ = some v := fun j v h =>
        (hBr.bel.cell (p := ⟨b, off + k * 8 + j, none⟩) (by simp; omega)).trans ((hb.cell (p := ⟨b, off + k * 8 + j, none⟩) (by simpa using hbw)).trans h)
      obtain ⟨p0, p1, p2, p3, p4, p5, p6, p7⟩ := hop
      have c0 := hcell 0 _ p0
      have c1 := hcell 1 _ p1
      have c2 := hcell 2 _ p2
      have c3 := hcell 3 _ p3
      have c4 := hcell 4 _ p4
      have c5 := hcell 5 _ p5
      have c6 := hcell 6 _ p6
      have c7 := hcell 7 _ p7
      rw [Nat.add_zero] at c0
      have t0 : -8 < A.tmod 8 := (tmod_in A 8 (by omega)).1
      have t1 : A.tmod 8 < 8 := (tmod_in A 8 (by omega)).2
      clear hcell p0 p1 p2 p3 p4 p5 p6 p7
      have hH := heap_alloc_new wr (Obj.cells #[.int .i64 K, .int .i64 A, .int .u8 (Bx.toNat : Int), .bool Raw, .bool F, .string T, .int .i64 N, .slice la len cp] 49)
      have hBa := hBr.below ((Below.refl _ _).alloc (Nat.le_refl _) (Obj.cells #[.int .i64 K, .int .i64 A, .int .u8 (Bx.toNat : Int), .bool Raw, .bool F, .string T, .int .i64 N, .slice la len cp] 49))
      have HH := Lib.hid hH
      have HNE : Hid ((∀ g, ob oa = some g → g ≠ wr.heap.size) ∧ R < wr.heap.size ∧ (∀ g, vS.ownBlock = some g → g ≠ wr.heap.size) ∧ (∀ g, vO.ownBlock = some g → g ≠ wr.heap.size)) :=
        ⟨fun g hg => by have := hBr.d.olt hg; omega, hBr.k.lt, fun g hg => by have := (World.ownsRow.lt hBr.k.rs g hg).2; omega, fun g hg => by have := (World.ownsRow.lt hBr.k.ro g hg).2; omega⟩
      clear hH hBr
      go_wp2_with fail
      refine (fill_any Bx _).mono ?_
      rintro e w5 ⟨rfl, hb5⟩
      have d0 := below_cell hb5 (cellAt HH.out 0 rfl)
      have d1 := below_cell hb5 (cellAt HH.out 1 rfl)
      have d3 := below_cell hb5 (cellAt HH.out 3 rfl)
      have d4 := below_cell hb5 (cellAt HH.out 4 rfl)
      have d5 := below_cell hb5 (cellAt HH.out 5 rfl)
      have d6 := below_cell hb5 (cellAt HH.out 6 rfl)
      have d7 := below_cell hb5 (cellAt HH.out 7 rfl)
      have hB5 := hBa.below hb5
      have hG5 := (hGf.below hb).below hB5.bel
      have hGd := hGf.lt hGl
      clear hBa HH hb5 c0 c1 c2 c3 c4 c5 c6 c7
      go_upto_if 54 with fail
      generalize wr.heap.size = bo at *
      go_cut [11, 12] (fun s11 s12 wx => wx = w5 ∧ ∃ (at_ : Int) (T' : ByteArray), s11 = .int .i64 at_ ∧ s12 = .string T')
      case first =>
        cases Raw
        · go_wp2_with fail
          go_meet
          exact ⟨rfl, _, _, rfl, rfl⟩
        · go_wp2_with fail
          go_meet
          exact ⟨rfl, _, _, rfl, rfl⟩
      case rest =>
        obtain ⟨rfl, at_, T', rfl, rfl⟩ := hcut
        obtain ⟨q, hq, hand⟩ := and7 K
        clear t0 t1 d1 d3 d5
        go_upto_block 2 with fail
        have hSM := hB5.d.len
        have hOm := hB5.d.many
        have hf0 := hB5.d.f0
        have hf1 := hB5.d.f1
        have hr0 := hB5.d.r0
        obtain ⟨hB1, hB2, hbR, hsR⟩ := hB5.bs
        go_cut [13] (fun s13 wy => s13 = .bool true ∧ ∃ (S' : List (List UInt8)) (O' : List (Nat × List UInt8)) (m' : Nat) (oa' : Option Addr) (cap' : Nat) (f' r' : Int) (vS' vO' : Value), Bi w1 wy w1.heap.size (w1.heap.size + 1) w1.heap.size R M S' O' m' oa' cap' f' r' vS' vO' ∧ m' ≤ k + 1 ∧ r' ≤ ((k + 1 : Nat) : Int))
        case first =>
          have hq8 : q = 3 ∨ q = 4 ∨ q = 5 ∨ q = 6 ∨ q = 7 ∨ q ≤ 2 := by omega
          rcases hq8 with rfl | rfl | rfl | rfl | rfl | hq2
          · by_cases hr : 0 ≤ at_ ∧ at_ < M
            · obtain ⟨an, rfl⟩ := Int.eq_ofNat_of_zero_le hr.1
              have han : an < M := by omega
              clear hr
              rcases hfs : failS f with ⟨bb, f'⟩
              have HFS := Lib.hid hfs
              clear hfs
              cases bb
              · go_wp2_with fail
                refine (read_ok hB5.d an han (by omega) f' HFS.out).mono ?_
                rintro e w6 ⟨rfl, hD6, hM6⟩
                have hK6 := hB5.k.moved hB5.d hM6 hbR hsR
                go_wp2_with fail
                refine (rread_ok hK6 (by omega) an (by omega) hr0 (by omega) hf0 hf1 f' HFS.out).mono ?_
                rintro e w7 ⟨rfl, hK7, hg7⟩
                have hBi := hB5.step (Nat.le_refl _) hD6 hM6 (fun g hg => .inl hg) hK6 hK7 (Mv.of _ _ hg7)
                generalize rd S O an = X at *
                go_wp2_with fail
                go_meet
                exact ⟨rfl, S, O, m, oa, cap, f', r + 1, vS, vO, hBi, by omega, by omega⟩
              · go_wp2_with fail
                refine (read_fail hB5.d an han (by omega) f' HFS.out).mono ?_
                rintro e w6 ⟨rfl, hD6, hM6⟩
                have hK6 := hB5.k.moved hB5.d hM6 hbR hsR
                go_wp2_with fail
                refine (rread_fail hK6 an (by omega) hr0 (by omega) hf0 hf1 f' HFS.out).mono ?_
                rintro e w7 ⟨rfl, hK7, hg7⟩
                have hBi := hB5.step (Nat.le_refl _) hD6 hM6 (fun g hg => .inl hg) hK6 hK7 (Mv.of _ _ hg7)
                go_wp2_with fail
                go_meet
                exact ⟨rfl, S, O, m, oa, cap, f', r + 1, vS, vO, hBi, by omega, by omega⟩
            · have HRR := Lib.hid hr
              clear hr
              go_wp2_with fail
              refine (read_bad hB5.d at_ HRR.out).mono ?_
              rintro e w6 ⟨rfl, rfl⟩
              go_wp2_with fail
              refine (rread_bad hB5.k at_ (by rw [hSM]; exact HRR.out)).mono ?_
              rintro e w7 ⟨rfl, rfl⟩
              have hBi := hB5
              go_wp2_with fail
              go_meet
              exact ⟨rfl, S, O, m, oa, cap, f, r, vS, vO, hBi, by omega, by omega⟩
          · by_cases hr : 0 ≤ at_ ∧ at_ < M
            · obtain ⟨an, rfl⟩ := Int.eq_ofNat_of_zero_le hr.1
              have han : an < M := by omega
              clear hr
              rcases hfs : failS f with ⟨bb, f'⟩
              have HFS := Lib.hid hfs
              clear hfs
              cases bb
              · go_wp2_with fail
                refine (read_ok hB5.d an han (by omega) f' HFS.out).mono ?_
                rintro e w6 ⟨rfl, hD6, hM6⟩
                have hK6 := hB5.k.moved hB5.d hM6 hbR hsR
                go_wp2_with fail
                refine (rread_ok hK6 (by omega) an (by omega) hr0 (by omega) hf0 hf1 f' HFS.out).mono ?_
                rintro e w7 ⟨rfl, hK7, hg7⟩
                have hBi := hB5.step (Nat.le_refl _) hD6 hM6 (fun g hg => .inl hg) hK6 hK7 (Mv.of _ _ hg7)
                generalize rd S O an = X at *
                go_wp2_with fail
                go_meet
                exact ⟨rfl, S, O, m, oa, cap, f', r + 1, vS, vO, hBi, by omega, by omega⟩
              · go_wp2_with fail
                refine (read_fail hB5.d an han (by omega) f' HFS.out).mono ?_
                rintro e w6 ⟨rfl, hD6, hM6⟩
                have hK6 := hB5.k.moved hB5.d hM6 hbR hsR
                go_wp2_with fail
                refine (rread_fail hK6 an (by omega) hr0 (by omega) hf0 hf1 f' HFS.out).mono ?_
                rintro e w7 ⟨rfl, hK7, hg7⟩
                have hBi := hB5.step (Nat.le_refl _) hD6 hM6 (fun g hg => .inl hg) hK6 hK7 (Mv.of _ _ hg7)
                go_wp2_with fail
                go_meet
                exact ⟨rfl, S, O, m, oa, cap, f', r + 1, vS, vO, hBi, by omega, by omega⟩
            · have HRR := Lib.hid hr
              clear hr
              go_wp2_with fail
              refine (read_bad hB5.d at_ HRR.out).mono ?_
              rintro e w6 ⟨rfl, rfl⟩
              go_wp2_with fail
              refine (rread_bad hB5.k at_ (by rw [hSM]; exact HRR.out)).mono ?_
              rintro e w7 ⟨rfl, rfl⟩
              have hBi := hB5
              go_wp2_with fail
              go_meet
              exact ⟨rfl, S, O, m, oa, cap, f, r, vS, vO, hBi, by omega, by omega⟩
          · rcases hfs : failS f with ⟨bb, f'⟩
            have HFS := Lib.hid hfs
            clear hfs
            cases bb
            · go_wp2_with fail
              refine (flush_ok hB5.d f' HFS.out).mono ?_
              rintro e w6 ⟨rfl, hD6, hM6⟩
              have hK6 := hB5.k.moved hB5.d hM6 hbR hsR
              go_wp2_with fail
              refine (rflush_ok hK6 (by omega) (fun p hp => by rw [hSM]; exact (hB5.d.oall p hp).1) hf0 hf1 f' HFS.out).mono ?_
              rintro e w7 ⟨rfl, hK7, hm7⟩
              have hBi := hB5.step (Nat.le_refl _) hD6 hM6 (fun g hg => by simp [ob, Value.ownBlock] at hg) hK6 hK7 hm7
              go_wp2_with fail
              go_meet
              exact ⟨rfl, _, [], 0, none, 0, f', r, vS, _, hBi, by omega, by omega⟩
            · go_wp2_with fail
              refine (flush_fail hB5.d f' HFS.out).mono ?_
              rintro e w6 ⟨rfl, hD6, hM6⟩
              have hK6 := hB5.k.moved hB5.d hM6 hbR hsR
              go_wp2_with fail
              refine (rflush_fail hK6 hf0 hf1 f' HFS.out).mono ?_
              rintro e w7 ⟨rfl, hK7, hm7⟩
              have hBi := hB5.step (Nat.le_refl _) hD6 hM6 (fun g hg => .inl hg) hK6 hK7 hm7
              go_wp2_with fail
              go_meet
              exact ⟨rfl, S, O, m, oa, cap, f', r, vS, vO, hBi, by omega, by omega⟩
          · cases F
            · have hBi := hB5
              go_wp2_with fail
              go_meet
              exact ⟨rfl, S, O, m, oa, cap, f, r, vS, vO, hBi, by omega, by omega⟩
            · have hN1 : N ≤ 9223372036854775807 := by have := bounds_i64 wn; omega
              go_wp2_with fail
              refine (Fail_any hB5.d N (if 0 < N then N else 0) hN1 rfl).mono ?_
              rintro e w6 ⟨rfl, hD6, hM6, -⟩
              have d6b : w6.cell? ⟨bo, 6, none⟩ = some (.int .i64 N) := by
                have hl6 : bo < wc.heap.size := by simpa using block_lt_of_cell d6
                exact (World.cell?_of_block (a := ⟨bo, 6, none⟩) (hM6.block bo hl6 (by have := HNE.out.2.1; omega) (by have := HNE.out.2.1; omega) (fun e => HNE.out.1 bo e rfl))).trans d6
              have hK6 := hB5.k.moved hB5.d hM6 hbR hsR
              go_wp2_with fail
              refine (rFail hK6 N (if 0 < N then N else 0) rfl).mono ?_
              rintro e w7 ⟨rfl, hK7, hg7⟩
              have hBi := hB5.step (Nat.le_refl _) hD6 hM6 (fun g hg => .inl hg) hK6 hK7 (Mv.of _ _ hg7)
              go_wp2_with fail
              go_meet
              exact ⟨rfl, S, O, m, oa, cap, (if 0 < N then N else 0), r, vS, vO, hBi, by omega, by omega⟩
          · cases F
            · have hBi := hB5
              go_wp2_with fail
              go_meet
              exact ⟨rfl, S, O, m, oa, cap, f, r, vS, vO, hBi, by omega, by omega⟩
            · have hfar : 0 < len → ∀ c off, la = some ⟨c, off, none⟩ → c ≠ w1.heap.size + 1 ∧ c ≠ w1.heap.size ∧ (Value.slice oa 0 0).ownBlock ≠ some c := fun h0 c off hc => by
                have h9 := hGd h0 c off hc
                exact ⟨by omega, by omega, fun e => by have := hB5.own c e; omega⟩
              have hBd := hB5.below (w' := wc.drew) ⟨rfl, rfl, rfl, Nat.le_refl _, fun _ _ => rfl⟩
              have hGdd := hG5.below (w' := wc.drew) ⟨rfl, rfl, rfl, Nat.le_refl _, fun _ _ => rfl⟩
              have CA := Lib.hid (fun W (hDW : Dk W (w1.heap.size + 1) w1.heap.size M S O m oa cap f r) (hFW : Fates W la G) => crash_any hDW la G len cp hFW hGl hl63 hfar)
              have CB := Lib.hid (fun W (hKW : Rk W R S O vS vO f r) (hFW : Fates W la G) => rcrash hKW (by omega) hB5.d.all (fun p hp => by rw [hSM]; exact hB5.d.oall p hp) la G len cp hFW hGl hl63 (fun h0 c off hc => by have := hGd h0 c off hc; omega))
              have KA : Hid (∀ (x y : World), Moved x y (w1.heap.size + 1) w1.heap.size oa → x.cell? ⟨bo, 7, none⟩ = some (.slice la len cp) → y.cell? ⟨bo, 7, none⟩ = some (.slice la len cp)) := fun x y hm hc => by
                have hl7 : bo < x.heap.size := by simpa using block_lt_of_cell hc
                exact (World.cell?_of_block (a := ⟨bo, 7, none⟩) (hm.block bo hl7 (by have := HNE.out.2.1; omega) (by have := HNE.out.2.1; omega) (fun e => HNE.out.1 bo e rfl))).trans hc
              have KB : Hid (∀ (x y : World), Mv x y R vS vO → x.cell? ⟨bo, 7, none⟩ = some (.slice la len cp) → y.cell? ⟨bo, 7, none⟩ = some (.slice la len cp)) := fun x y hm hc => by
                have hl7 : bo < x.heap.size := by simpa using block_lt_of_cell hc
                exact (World.cell?_of_block (a := ⟨bo, 7, none⟩) (hm.block bo hl7 (by have := HNE.out.2.1; omega) (fun e => HNE.out.2.2.1 bo e rfl) (fun e => HNE.out.2.2.2 bo e rfl))).trans hc
              generalize crN G 0 O = lostN at *
              generalize crS G 0 S O = S9 at *
              clear hB5 hG5
              go_wp2_with fail
              go_region_held3 (fun x => x.cell? ⟨bo, 7, none⟩ = some (.slice la len cp)) (first | assumption | exact KA.out _ _ hM6 ‹_› | exact KB.out _ _ hm7 ‹_›) (first
                | (go_at_call 13; refine (CA.out _ ?_ ?_).mono ?_; exact hBd.d; exact hGdd; rintro e w6 ⟨rfl, hD6, hM6⟩)
                | (go_at_call 22; refine (CB.out _ ?_ ?_).mono ?_; exact Rk.moved hBd.k hBd.d hM6 hbR hsR; exact fates_moved hGdd hM6 hGl hfar; rintro e w7 ⟨rfl, hK7, hm7⟩))
              all_goals
                have hK6 := hBd.k.moved hBd.d hM6 hbR hsR
                have hBi := hBd.step (Nat.le_refl _) hD6 hM6 (fun g hg => by simp [ob, Value.ownBlock] at hg) hK6 hK7 hm7
                go_wp2_with fail
                go_meet
                exact ⟨rfl, S9, [], 0, none, 0, 0, 0, vS, _, hBi, by omega, by omega⟩
          · have e3 : ((q : Int) == 3) = false := by rw [beq_eq_false_iff_ne]; omega
            have e4 : ((q : Int) == 4) = false := by rw [beq_eq_false_iff_ne]; omega
            have e5 : ((q : Int) == 5) = false := by rw [beq_eq_false_iff_ne]; omega
            have e6 : ((q : Int) == 6) = false := by rw [beq_eq_false_iff_ne]; omega
            have e7 : ((q : Int) == 7) = false := by rw [beq_eq_false_iff_ne]; omega
            by_cases hr : (0 ≤ at_ ∧ at_ < M) ∧ T'.size = 64
            · obtain ⟨⟨h0, h9⟩, hTs⟩ := hr
              obtain ⟨an, rfl⟩ := Int.eq_ofNat_of_zero_le h0
              have han : an < M := by omega
              clear h0 h9
              rcases hfs : failS f with ⟨bb, f'⟩
              have HFS := Lib.hid hfs
              have HTS := Lib.hid hTs
              clear hfs hTs
              cases bb
              · go_wp2_with fail
                refine (write_ok hB5.d an han T' HTS.out (by omega) f' HFS.out).mono ?_
                rintro e w6 ⟨rfl, oa6, cap6, hD6, hM6, hfr6⟩
                have hK6 := hB5.k.moved hB5.d hM6 hbR hsR
                go_wp2_with fail
                refine (rwrite_ok hK6 (by omega) an (by omega) T' HTS.out hf0 hf1 f' HFS.out).mono ?_
                rintro e w7 ⟨rfl, vO7, hK7, hm7⟩
                have hBi := hB5.step (Nat.le_refl _) hD6 hM6 hfr6 hK6 hK7 hm7
                go_wp2_with fail
                go_meet
                exact ⟨rfl, S, _, m + 1, oa6, cap6, f', r, vS, vO7, hBi, by omega, by omega⟩
              · go_wp2_with fail
                refine (write_fail hB5.d an han T' HTS.out f' HFS.out).mono ?_
                rintro e w6 ⟨rfl, hD6, hM6⟩
                have hK6 := hB5.k.moved hB5.d hM6 hbR hsR
                go_wp2_with fail
                refine (rwrite_fail hK6 an (by omega) T' HTS.out hf0 hf1 f' HFS.out).mono ?_
                rintro e w7 ⟨rfl, hK7, hm7⟩
                have hBi := hB5.step (Nat.le_refl _) hD6 hM6 (fun g hg => .inl hg) hK6 hK7 hm7
                go_wp2_with fail
                go_meet
                exact ⟨rfl, S, O, m, oa, cap, f', r, vS, vO, hBi, by omega, by omega⟩
            · have hbad : ¬ (0 ≤ at_ ∧ at_ < M) ∨ (0 ≤ at_ ∧ at_ < M) ∧ T'.size ≠ 64 := by
                by_cases h9 : 0 ≤ at_ ∧ at_ < (M : Int)
                · exact .inr ⟨h9, fun h => hr ⟨h9, h⟩⟩
                · exact .inl h9
              have HBAD := Lib.hid hbad
              clear hr hbad
              go_wp2_with fail
              refine (write_bad hB5.d at_ T' HBAD.out).mono ?_
              rintro e w6 ⟨rfl, rfl⟩
              go_wp2_with fail
              refine (rwrite_bad hB5.k at_ T' (by rw [hSM]; exact HBAD.out)).mono ?_
              rintro e w7 ⟨rfl, rfl⟩
              have hBi := hB5
              go_wp2_with fail
              go_meet
              exact ⟨rfl, S, O, m, oa, cap, f, r, vS, vO, hBi, by omega, by omega⟩
        case rest =>
          obtain ⟨rfl, S', O', m', oa', cap', f', r', vS', vO', hBi, hm', hr'⟩ := hcut
          clear hB5 hG5 d0 d4 d6 d7 hSM hOm hf0 hf1 hr0
          obtain ⟨ao, co, hvo⟩ := row_len hBi.k.ro
          have k1 := hBi.k.c1
          rw [hvo, hBi.d.many] at k1
          have k3 := hBi.k.c3
          have HDQ := Lib.hid (fun x : Nat => Dk.below hBi.d (w' := wc.drewN x) ⟨rfl, rfl, rfl, Nat.le_refl _, fun _ _ => rfl⟩)
          have HBI := Lib.hid hBi
          clear hvo hBi
          go_wp2_with fail
          go_quiet (first | exact (open_any (HDQ.out _)).mono fun _ _ h => ⟨h.1, _, h.2.symm⟩ | exact (reads_any (HDQ.out _)).mono fun _ _ h => ⟨h.1, _, h.2.symm⟩ | exact (len_any (HDQ.out _)).mono fun _ _ h => ⟨h.1, _, h.2.symm⟩)
          go_wp2_with fail
          go_roundg (60 - (k + 1))
          case measure => omega
          case rel => exact ⟨k + 1, S', O', m', oa', cap', f', r', vS', vO', HBI.out.below ⟨rfl, rfl, rfl, Nat.le_refl _, fun _ _ => rfl⟩, by omega, by omega, by omega, by omega, by omega, by go_num⟩
    · have hcase : ¬ k < len1 ∨ k < len1 ∧ k = 60 := by omega
      rcases hcase with hnl | ⟨hlt, rfl⟩
      · go_wp2_with fail
        go_ret
        exact ⟨rfl, hb.trans (hBr.bel.mono hb.size)⟩
      · go_wp2_with fail
        go_ret
        exact ⟨rfl, hb.trans (hBr.bel.mono hb.size)⟩

/-! ### THE ROW's STEP -/
set_option maxRecDepth 100000 in
theorem lifted (os : Os) (started : os.Started) (H : Type) (enc : TypeId × Value → H) :
    ReturnsInHanded {} Try.checked os 7 .any (Rows.diskPlaysSpec.pre6 enc Try.prog Try.f7 Rows.diskPlaysRow.domain false) (Rows.diskPlaysSpec.post enc Try.prog Try.f7 false true false false) := by
  refine returnsInHanded_of_change (C := Try.checked) own started (by kernel_rfl) Try.func7
    (ChangeSpec.witness6 (enc := enc) (C := Try.checked) false ⟨#[], #[.int .i64 0, .slice none 0 0], []⟩ 8 (by kernel_rfl) (by kernel_rfl) (by kernel_rfl) (by kernel_rfl)) ?_
  intro W base args ds gs before hval0 hW hcnd _
  have hval : ∀ (j : Nat) t v, Try.f7.params[j]? = some t → args[j]? = some v → Value.okWide Try.prog W .any base t v := hval0
  have hW' := hW
  obtain ⟨p, q, hA0, hV, rfl, hfz, hnd⟩ := hW
  have hA : DataW.TrodAll enc Try.prog W 0 (fun _ => true) true Try.f7.params.toList args.toList ds p := hA0
  rw [Try.params7] at hA hval
  obtain ⟨v0, vs0, d0, ds0, p0, q0, hargs, rfl, rfl, h0, r0⟩ := trodAll_cons hA
  obtain ⟨v1, vs1, d1, ds1, p1, q1, rfl, rfl, rfl, h1, r1⟩ := trodAll_cons r0
  obtain ⟨rfl, rfl, rfl⟩ := trodAll_nil r1
  obtain rfl : args = #[v0, v1] := by cases args; simp_all
  obtain ⟨rfl, rfl⟩ := trodVars_none hV
  obtain ⟨a0, rfl, rfl, rfl, w0⟩ := open_int Try.underlying3 (hval 0 3 v0 rfl rfl) h0
  obtain ⟨a1, len1, cap1, rfl⟩ := okWide_slice Try.underlying45 (hval 1 45 v1 rfl rfl)
  have k1 := h1
  have lt1 : ∀ x ∈ p1, x.block < W.heap.size := by obtain ⟨m, hm⟩ := k1; exact DataW.trod_lt m _ _ _ hm
  have w1 := open_ops h1
  clear hA0 hval0
  refine (core W a0 w0 a1 len1 cap1 w1).mono fun e W' ⟨he, bel⟩ => ?_
  subst he
  exact ⟨_, rfl, _, _, _, [], _, [], hW', trodAll_mk1 (shut_bool Try.underlying4 _), (trodAll_cons_mk (shut_int Try.underlying3 w0) (trodAll_cons_mk (Below.trod laidOut (by kernel_rfl) (of_decide_eq_true (by kernel_rfl)) k1 bel lt1) trodAll_mk0)), rfl, bel.frame _, fun h => by cases h⟩

theorem over : Rows.diskPlaysRow.holds Try.pinned (OpenSpec.ofChange Rows.diskPlaysSpec) :=
  OpenClaim.holds_of_wide 7 Try.f7 rfl rfl rfl rfl rfl rfl rfl ⟨rfl, rfl, rfl, rfl, rfl⟩ rfl rfl rfl rfl rfl (by kernel_rfl) Try.func7 (by kernel_rfl)
    (of_decide_eq_true (by kernel_rfl)) (by unfold Func.isWrapper; first | (rw [if_pos (by decide +kernel)]; kernel_rfl) | (rw [if_neg (by decide +kernel)]; exact ⟨rfl, rfl⟩))
    (fun os started H enc _ => lifted os started H enc)

/-- ████ THE STATEMENT ████ -/
theorem proved : Rows.DiskPlaysSaid := over
#print axioms proved
end Go.Proofs.Ytaccmeffcjfeeaa.diskPlays
