/-
  DiskLast: for every list of numbers and every list of booleans the law answers true: a Read tells the last write, flushed or not; of a sector that was never written 64 bytes 00. No condition.
-/
import Derived.Test.YtaccmeffcjfeeaaSg
import Derived.Deep.DeepCutAuto
import Derived.Deep.CutBlock
import Derived.Deep.LoopGhost
import Derived.WalkKit
import Derived.ProofKit
import Derived.OpenShut
import Derived.ShutString
import Derived.ChangeOld
import Derived.Below
namespace Go.Proofs.Ytaccmeffcjfeeaa.diskLast
open Go.ChangeShapes Go.WideShapes Go.ChangeAt Go.RowKit Go.Deep
open Go.ChangeMaps (open_string shut_string)
set_option linter.unusedVariables false

theorem own : ownKnob Try.prog.godebug = none := by kernel_rfl
theorem laidOut : laidOutB Try.prog = true := by kernel_rfl

theorem new4 (w : World) : Calls Try.prog 10 #[.int .i64 4] w fun e w' => e = .returned (.pointer (some ⟨w.heap.size + 1, 0, none⟩)) ∧ Dk w' (w.heap.size + 1) w.heap.size 4 (zs 4) [] 0 none 0 0 0 ∧ Below w.heap.size w w' ∧ w'.heap.size = w.heap.size + 2 :=
  new_ok 4 (by omega) (by omega) w

set_option maxRecDepth 100000 in
set_option maxHeartbeats 4000000 in
theorem core (w : World) (a0 : Option Addr) (len0 cap0 : Nat) (h0 : len0 ≤ 9223372036854775807 ∧ Seen w a0 len0) (a1 : Option Addr) (len1 cap1 : Nat) (h1 : len1 ≤ 9223372036854775807 ∧ SeenB w a1 len1) :
    Calls Try.prog 5 #[.slice a0 len0 cap0, .slice a1 len1 cap1] w fun e w' => e = .returned (.bool true) ∧ Below w.heap.size w w' := by
  obtain ⟨hm0, h0⟩ := h0
  obtain ⟨hm1, h1⟩ := h1
  have H0 := Lib.hid h0
  have H1 := Lib.hid h1
  clear h0 h1
  go_enter Try.func5, Try.ntmps5
  go_wp2_with fail
  refine (awake_any _).mono ?_
  rintro e w1 ⟨rfl, hb⟩
  go_wp2_with fail
  refine (new4 _).mono ?_
  rintro e w2 ⟨rfl, hD2, hb2, hs2⟩
  have hz0 : Hid (∀ j, j < 4 → rd (zs 4) [] j = List.replicate 64 (([0, 0, 0, 0] : List UInt8).getD j 0)) := by
    show ∀ j, j < 4 → rd (zs 4) [] j = List.replicate 64 (([0, 0, 0, 0] : List UInt8).getD j 0)
    intro j hj
    match j, hj with
    | 0, _ | 1, _ | 2, _ | 3, _ => rfl
  generalize zs 4 = S0 at *
  have hBy : By (w2.alloc (Obj.cells #[Value.int IntKind.u8 0, Value.int IntKind.u8 0, Value.int IntKind.u8 0, Value.int IntKind.u8 0] 37)) w2.heap.size [0, 0, 0, 0] := ⟨37, heap_alloc_new _ _⟩
  have hD3 := hD2.below ((Below.refl _ _).alloc (Nat.le_refl _) (Obj.cells #[Value.int IntKind.u8 0, Value.int IntKind.u8 0, Value.int IntKind.u8 0, Value.int IntKind.u8 0] 37))
  have hb3 := hb2.alloc hb2.size (Obj.cells #[Value.int IntKind.u8 0, Value.int IntKind.u8 0, Value.int IntKind.u8 0, Value.int IntKind.u8 0] 37)
  clear hD2 hb2
  rw [hs2] at hBy
  go_wp2_with fail
  clear hs2
  go_loopg [8] 20 (fun g i wr => ∃ (k : Nat) (S : List (List UInt8)) (O : List (Nat × List UInt8)) (m : Nat) (oa : Option Addr) (cap : Nat) (r : Int) (l : List UInt8), Dk wr (w1.heap.size + 1) w1.heap.size 4 S O m oa cap 0 r ∧ By wr (w1.heap.size + 2) l ∧ Hid (l.length = 4) ∧ Hid (∀ j, j < 4 → rd S O j = List.replicate 64 (l.getD j 0)) ∧ Below w1.heap.size w1 wr ∧ (∀ g, ob oa = some g → w1.heap.size + 3 ≤ g) ∧ m ≤ k ∧ r ≤ 4 * k ∧ k ≤ 20 ∧ k ≤ len0 ∧ g = 20 - k ∧ i = .int .i64 k)
  case atStart => exact ⟨0, S0, [], 0, none, 0, 0, _, hD3, hBy, rfl, hz0, hb3, (fun g hg => by simp [ob, Value.ownBlock] at hg), by omega, by omega, by omega, by omega, by omega, rfl⟩
  case round =>
    obtain ⟨k, S, O, m, oa, cap, r, l, hDr, hBr, hl4, hrd, hbr, hown, hmk, hrk, hk20, hkl, rfl, rfl⟩ := hrel
    by_cases hgo : k < len0 ∧ k < 20
    · obtain ⟨hlt, hlt20⟩ := hgo
      obtain ⟨b, off, rfl, hbw, x, hx⟩ := H0.out k hlt
      have hsz := hb.size
      have hxr : wr.cell? ⟨b, off + k, none⟩ = some (.int .i64 x) := by
        rw [hbr.cell (p := ⟨b, off + k, none⟩) (by simp; omega), hb.cell (p := ⟨b, off + k, none⟩) (by simpa using hbw)]; exact hx
      obtain ⟨q, hq, hand⟩ := and3 x
      have hql : q < l.length := by have := hl4.out; omega
      have hc := hBr.cell hql
      have hf := hBr.free q
      obtain ⟨X, hX⟩ : ∃ X, UInt8.ofNat (1 + (k : Int)).toNat = X := ⟨_, rfl⟩
      have FI := fill_int (1 + (k : Int)) (by omega) (by omega)
      rw [hX] at FI
      have FJ := Lib.hid FI
      clear FI
      have hB4 := hBr.seti q (1 + (k : Int)) (by omega) (by omega)
      rw [hX] at hB4
      have hD4 := hDr.setOther ⟨w1.heap.size + 2, q, none⟩ (.int .u8 (1 + (k : Int))) (by simp) (by simp) (fun e => by have := hown _ e; simp at this)
      have hbr4 := hbr.setCell (p := ⟨w1.heap.size + 2, q, none⟩) (by simp) (.int .u8 (1 + (k : Int)))
      clear hX hx
      go_wp2_with fail
      refine (FJ.out _).mono ?_
      rintro e w5 ⟨rfl, hb5⟩
      have hB5 := hB4.below hb5
      have hD5 := hD4.below hb5
      have hbr5 := hbr4.trans (hb5.mono hbr4.size)
      have hXL := fil_list X
      have hXS := Lib.hid (fil_size X)
      generalize fil X = A at *
      have HXL := Lib.hid hXL
      clear hXL hB4 hD4 hbr4 hb5 FJ hxr hDr hBr hbr hc hf
      go_wp2_with fail
      refine (write_ok hD5 q hq A hXS.out (by omega) 0 rfl).mono ?_
      rintro e w6 ⟨rfl, oa6, cap6, hD6, hM6, hf6⟩
      have hB6 := hB5.moved hM6 (by omega) (by omega) (fun e => by have := hown _ e; omega)
      have hbr6 := below_moved hbr5 (Nat.le_refl _) hM6 (by omega) (by omega) (fun g hg => by have := hown g hg; omega)
      have hown6 : ∀ g, ob oa6 = some g → w1.heap.size + 3 ≤ g := fun g hg => by
        rcases hf6 g hg with h | h
        · exact hown g h
        · have := hB5.lt; omega
      have hl6 : Hid ((l.set q X).length = 4) := by show (l.set q X).length = 4; rw [List.length_set]; exact hl4.out
      have hrd6 : Hid (∀ j, j < 4 → rd S (O ++ [(q, A.data.toList)]) j = List.replicate 64 ((l.set q X).getD j 0)) := by
        show ∀ j, j < 4 → rd S (O ++ [(q, A.data.toList)]) j = List.replicate 64 ((l.set q X).getD j 0)
        intro j hj
        rw [rd_write, HXL.out]
        by_cases hjq : q = j
        · subst hjq
          rw [if_pos rfl, List.getD_eq_getElem?_getD, List.getElem?_set_self hql]
          rfl
        · rw [if_neg hjq, List.getD_eq_getElem?_getD, List.getElem?_set_ne hjq, ← List.getD_eq_getElem?_getD]
          exact hrd.out j hj
      generalize l.set q X = l' at *
      generalize O ++ [(q, A.data.toList)] = O' at *
      clear hB5 hD5 hbr5 hM6 hf6 hown hl4 hrd HXL hXS hql
      go_upto_region 13 with fail
      go_cut [64] (fun s64 wx => s64 = .bool false ∧ ∃ (S : List (List UInt8)) (O : List (Nat × List UInt8)) (m : Nat) (oa : Option Addr) (cap : Nat), Dk wx (w1.heap.size + 1) w1.heap.size 4 S O m oa cap 0 r ∧ By wx (w1.heap.size + 2) l' ∧ Hid (∀ j, j < 4 → rd S O j = List.replicate 64 (l'.getD j 0)) ∧ Below w1.heap.size w1 wx ∧ (∀ g, ob oa = some g → w1.heap.size + 3 ≤ g) ∧ m ≤ k + 1)
      case first =>
        by_cases hk1 : k < len1
        · obtain ⟨c, ofc, rfl, hcw, y, hy⟩ := H1.out k hk1
          have hy6 : w6.cell? ⟨c, ofc + k, none⟩ = some (.bool y) := by
            rw [hbr6.cell (p := ⟨c, ofc + k, none⟩) (by simp; omega), hb.cell (p := ⟨c, ofc + k, none⟩) (by simpa using hcw)]; exact hy
          clear hy
          cases y
          · go_wp2_with fail
            go_meet
            exact ⟨rfl, S, O', _, oa6, cap6, hD6, hB6, hrd6, hbr6, hown6, by omega⟩
          · go_wp2_with fail
            refine (flush_ok hD6 0 rfl).mono ?_
            rintro e w7 ⟨rfl, hD7, hM7⟩
            have hB7 := hB6.moved hM7 (by omega) (by omega) (fun e => by have := hown6 _ e; omega)
            have hbr7 := below_moved hbr6 (Nat.le_refl _) hM7 (by omega) (by omega) (fun g hg => by have := hown6 g hg; omega)
            have hrd7 : Hid (∀ j, j < 4 → rd (fl S O') [] j = List.replicate 64 (l'.getD j 0)) := by
              show ∀ j, j < 4 → rd (fl S O') [] j = List.replicate 64 (l'.getD j 0)
              intro j hj
              rw [rd_fl j O' S (fun p hp => by rw [hD6.len]; exact (hD6.oall p hp).1)]
              exact hrd6.out j hj
            clear hD6 hM7 hbr6 hB6 hrd6
            go_wp2_with fail
            refine (open_any hD7).mono ?_
            rintro e w8 ⟨rfl, rfl⟩
            go_wp2_with fail
            go_meet
            exact ⟨rfl, _, [], 0, none, 0, hD7, hB7, hrd7, hbr7, (fun g hg => by simp [ob, Value.ownBlock] at hg), by omega⟩
        · go_wp2_with fail
          go_meet
          exact ⟨rfl, S, O', _, oa6, cap6, hD6, hB6, hrd6, hbr6, hown6, by omega⟩
      case rest =>
        obtain ⟨rfl, S7, O7, m7, oa7, cap7, hD7, hB7, hrd7, hbr7, hown7, hm7⟩ := hcut
        clear hD6 hB6 hrd6 hbr6 hown6
        go_wp2_with fail
        go_loopg [10] 4 (fun g i wr => ∃ (j : Nat) (r' : Int), Dk wr (w1.heap.size + 1) w1.heap.size 4 S7 O7 m7 oa7 cap7 0 r' ∧ By wr (w1.heap.size + 2) l' ∧ Below w1.heap.size w1 wr ∧ j ≤ 4 ∧ r' = r + j ∧ g = 4 - j ∧ i = .int .i64 j)
        case atStart => exact ⟨0, r, hD7, hB7, hbr7, by omega, by omega, by omega, rfl⟩
        case round =>
          obtain ⟨j, r', hDj, hBj, hbj, hj4, hr', rfl, rfl⟩ := hrel
          by_cases hjl : j < 4
          · have hj' : j < l'.length := by rw [hl6.out]; exact hjl
            have hc := hBj.cell hj'
            have hread := read_ok hDj j hjl (by omega) 0 rfl
            have hFJ := fill_any l'[j]
            rw [fil_of (show rd S7 O7 j = List.replicate 64 l'[j] by rw [hrd7.out j hjl, List.getD_eq_getElem?_getD, List.getElem?_eq_getElem hj']; rfl)] at hread
            generalize fil l'[j] = R at *
            have HFJ := Lib.hid hFJ
            have HRD := Lib.hid hread
            clear hFJ hread
            go_wp2_with fail
            refine HRD.out.mono ?_
            rintro e w9 ⟨rfl, hD9, hM9⟩
            have hB9 := hBj.moved hM9 (by omega) (by omega) (fun e => by have := hown7 _ e; omega)
            have hb9 := below_moved hbj (Nat.le_refl _) hM9 (by omega) (by omega) (fun g hg => by have := hown7 g hg; omega)
            have hc9 := hB9.cell hj'
            clear hDj hBj hbj hM9 hc HRD
            go_wp2_with fail
            refine (HFJ.out _).mono ?_
            rintro e wz ⟨rfl, hbz⟩
            have hDz := hD9.below hbz
            have hBz := hB9.below hbz
            have hbrz := hb9.trans (hbz.mono hb9.size)
            clear hD9 hB9 hb9 hc9 hbz HFJ
            go_wp2_with fail
            go_roundg (4 - (j + 1))
            case measure => omega
            case rel => exact ⟨j + 1, r' + 1, hDz, hBz, hbrz, by omega, by omega, by omega, by go_num⟩
          · go_wp2_with fail
            go_roundg (20 - (k + 1))
            case measure => omega
            case rel => exact ⟨k + 1, S7, O7, m7, oa7, cap7, r', l', hDj, hBj, hl6, hrd7, hbj, hown7, by omega, by omega, by omega, by omega, by omega, by go_num⟩
    · have hcase : ¬ k < len0 ∨ k < len0 ∧ k = 20 := by omega
      rcases hcase with hnl | ⟨hlt, rfl⟩
      · go_wp2_with fail
        go_ret
        exact ⟨rfl, hb.trans (hbr.mono hb.size)⟩
      · go_wp2_with fail
        go_ret
        exact ⟨rfl, hb.trans (hbr.mono hb.size)⟩

/-! ### THE ROW's STEP -/
set_option maxRecDepth 100000 in
theorem lifted (os : Os) (started : os.Started) (H : Type) (enc : TypeId × Value → H) :
    ReturnsInHanded {} Try.checked os 5 .any (Rows.diskLastSpec.pre6 enc Try.prog Try.f5 Rows.diskLastRow.domain false) (Rows.diskLastSpec.post enc Try.prog Try.f5 false true false false) := by
  refine returnsInHanded_of_change (C := Try.checked) own started (by kernel_rfl) Try.func5
    (ChangeSpec.witness6 (enc := enc) (C := Try.checked) false ⟨#[], #[.slice none 0 0, .slice none 0 0], []⟩ 8 (by kernel_rfl) (by kernel_rfl) (by kernel_rfl) (by kernel_rfl)) ?_
  intro W base args ds gs before hval0 hW hcnd _
  have hval : ∀ (j : Nat) t v, Try.f5.params[j]? = some t → args[j]? = some v → Value.okWide Try.prog W .any base t v := hval0
  have hW' := hW
  obtain ⟨p, q, hA0, hV, rfl, hfz, hnd⟩ := hW
  have hA : DataW.TrodAll enc Try.prog W 0 (fun _ => true) true Try.f5.params.toList args.toList ds p := hA0
  rw [Try.params5] at hA hval
  obtain ⟨v0, vs0, d0, ds0, p0, q0, hargs, rfl, rfl, h0, r0⟩ := trodAll_cons hA
  obtain ⟨v1, vs1, d1, ds1, p1, q1, rfl, rfl, rfl, h1, r1⟩ := trodAll_cons r0
  obtain ⟨rfl, rfl, rfl⟩ := trodAll_nil r1
  obtain rfl : args = #[v0, v1] := by cases args; simp_all
  obtain ⟨rfl, rfl⟩ := trodVars_none hV
  obtain ⟨a0, len0, cap0, rfl⟩ := okWide_slice Try.underlying22 (hval 0 22 v0 rfl rfl)
  have k0 := h0
  have lt0 : ∀ x ∈ p0, x.block < W.heap.size := by obtain ⟨m, hm⟩ := k0; exact DataW.trod_lt m _ _ _ hm
  have w0 := open_nums h0
  obtain ⟨a1, len1, cap1, rfl⟩ := okWide_slice Try.underlying41 (hval 1 41 v1 rfl rfl)
  have k1 := h1
  have lt1 : ∀ x ∈ p1, x.block < W.heap.size := by obtain ⟨m, hm⟩ := k1; exact DataW.trod_lt m _ _ _ hm
  have w1 := open_bools h1
  clear hA0 hval0
  refine (core W a0 len0 cap0 w0 a1 len1 cap1 w1).mono fun e W' ⟨he, bel⟩ => ?_
  subst he
  exact ⟨_, rfl, _, _, _, [], _, [], hW', trodAll_mk1 (shut_bool Try.underlying4 _), (trodAll_cons_mk (Below.trod laidOut (by kernel_rfl) (of_decide_eq_true (by kernel_rfl)) k0 bel lt0) (trodAll_cons_mk (Below.trod laidOut (by kernel_rfl) (of_decide_eq_true (by kernel_rfl)) k1 bel lt1) trodAll_mk0)), rfl, bel.frame _, fun h => by cases h⟩

theorem over : Rows.diskLastRow.holds Try.pinned (OpenSpec.ofChange Rows.diskLastSpec) :=
  OpenClaim.holds_of_wide 5 Try.f5 rfl rfl rfl rfl rfl rfl rfl ⟨rfl, rfl, rfl, rfl, rfl⟩ rfl rfl rfl rfl rfl (by kernel_rfl) Try.func5 (by kernel_rfl)
    (of_decide_eq_true (by kernel_rfl)) (by unfold Func.isWrapper; first | (rw [if_pos (by decide +kernel)]; kernel_rfl) | (rw [if_neg (by decide +kernel)]; exact ⟨rfl, rfl⟩))
    (fun os started H enc _ => lifted os started H enc)

/-- ████ THE STATEMENT ████ -/
theorem proved : Rows.DiskLastSaid := over
#print axioms proved
end Go.Proofs.Ytaccmeffcjfeeaa.diskLast
