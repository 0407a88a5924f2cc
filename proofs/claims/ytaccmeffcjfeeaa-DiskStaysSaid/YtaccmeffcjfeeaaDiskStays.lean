/-
  DiskStays: for every two lists of numbers and every list of fates the law answers true: WHAT WAS FLUSHED STAYS: behind any crash each sector that was not written since the flush is as it was; one that was is a beginning of a write of it, and then what it was ahead. No condition.
-/
import Derived.Test.YtaccmeffcjfeeaaSy
import Derived.Deep.DeepCutAuto
import Derived.Deep.CutBlock
import Derived.Deep.LoopGhost
import Derived.WalkKit
import Derived.Deep.QuietTactic
import Derived.BigQuiet
import Derived.ProofKit
import Derived.OpenShut
import Derived.ShutString
import Derived.ChangeOld
import Derived.Below
namespace Go.Proofs.Ytaccmeffcjfeeaa.diskStays
open Go.ChangeShapes Go.WideShapes Go.ChangeAt Go.RowKit Go.Deep
open Go.ChangeMaps (open_string shut_string)
set_option linter.unusedVariables false

theorem own : ownKnob Try.prog.godebug = none := by kernel_rfl
theorem laidOut : laidOutB Try.prog = true := by kernel_rfl

theorem new4 (w : World) : Calls Try.prog 10 #[.int .i64 4] w fun e w' => e = .returned (.pointer (some ⟨w.heap.size + 1, 0, none⟩)) ∧ Dk w' (w.heap.size + 1) w.heap.size 4 (zs 4) [] 0 none 0 0 0 ∧ Below w.heap.size w w' ∧ w'.heap.size = w.heap.size + 2 :=
  new_ok 4 (by omega) (by omega) w

set_option maxRecDepth 100000 in
set_option maxHeartbeats 4000000 in
theorem core (w : World) (a0 : Option Addr) (len0 cap0 : Nat) (h0 : len0 ≤ 9223372036854775807 ∧ Seen w a0 len0) (a1 : Option Addr) (len1 cap1 : Nat) (h1 : len1 ≤ 9223372036854775807 ∧ Seen w a1 len1) (a2 : Option Addr) (len2 cap2 : Nat) (h2 : len2 ≤ 9223372036854775807 ∧ ∃ F : List (Int × Int), F.length = len2 ∧ Fates w a2 F) :
    Calls Try.prog 4 #[.slice a0 len0 cap0, .slice a1 len1 cap1, .slice a2 len2 cap2] w fun e w' => e = .returned (.bool true) ∧ Below w.heap.size w w' := by
  obtain ⟨hm0, h0⟩ := h0
  obtain ⟨hm1, h1⟩ := h1
  obtain ⟨hm2, F, hFl, hF⟩ := h2
  have H0 := Lib.hid h0
  have H1 := Lib.hid h1
  have HFL := Lib.hid hFl
  have HF := Lib.hid hF
  clear h0 h1 hFl hF
  go_enter Try.func4, Try.ntmps4
  go_wp2_with fail
  refine (awake_any _).mono ?_
  rintro e w1 ⟨rfl, hb⟩
  go_wp2_with fail
  refine (new4 _).mono ?_
  rintro e w2 ⟨rfl, hD2, hb2, hs2⟩
  have hz0 : Hid (∀ j, j < 4 → rd (zs 4) [] j = List.replicate 64 (([0, 0, 0, 0] : List UInt8).getD j 0)) := by
    show ∀ j, j < 4 → rd (zs 4) [] j = List.replicate 64 (([0, 0, 0, 0] : List UInt8).getD j 0)
    intro j hj
    match j, hj with
    | 0, _ | 1, _ | 2, _ | 3, _ => rfl
  generalize zs 4 = S0 at *
  have hBy : By (w2.alloc (Obj.cells #[Value.int IntKind.u8 0, Value.int IntKind.u8 0, Value.int IntKind.u8 0, Value.int IntKind.u8 0] 37)) w2.heap.size [0, 0, 0, 0] := ⟨37, heap_alloc_new _ _⟩
  have hD3 := hD2.below ((Below.refl _ _).alloc (Nat.le_refl _) (Obj.cells #[Value.int IntKind.u8 0, Value.int IntKind.u8 0, Value.int IntKind.u8 0, Value.int IntKind.u8 0] 37))
  have hb3 := hb2.alloc hb2.size (Obj.cells #[Value.int IntKind.u8 0, Value.int IntKind.u8 0, Value.int IntKind.u8 0, Value.int IntKind.u8 0] 37)
  clear hD2 hb2
  rw [hs2] at hBy
  go_wp2_with fail
  clear hs2
  go_loopg [10] 12 (fun g i wr => ∃ (k : Nat) (O : List (Nat × List UInt8)) (m : Nat) (oa : Option Addr) (cap : Nat) (l : List UInt8), Dk wr (w1.heap.size + 1) w1.heap.size 4 S0 O m oa cap 0 0 ∧ By wr (w1.heap.size + 2) l ∧ Hid (l.length = 4) ∧ Hid (∀ x ∈ l, x.toNat ≤ 12) ∧ Hid (∀ j, j < 4 → rd S0 O j = List.replicate 64 (l.getD j 0)) ∧ Below w1.heap.size w1 wr ∧ (∀ g, ob oa = some g → w1.heap.size + 3 ≤ g) ∧ m ≤ k ∧ k ≤ 12 ∧ k ≤ len0 ∧ g = 12 - k ∧ i = .int .i64 k)
  case atStart => exact ⟨0, [], 0, none, 0, _, hD3, hBy, rfl, (by show ∀ x ∈ ([0, 0, 0, 0] : List UInt8), x.toNat ≤ 12; decide), hz0, hb3, (fun g hg => by simp [ob, Value.ownBlock] at hg), by omega, by omega, by omega, by omega, rfl⟩
  case round =>
    obtain ⟨k, O, m, oa, cap, l, hDr, hBr, hl4, hl12, hrd, hbr, hown, hmk, hk12, hkl, rfl, rfl⟩ := hrel
    by_cases hgo : k < len0 ∧ k < 12
    · obtain ⟨hlt, hlt20⟩ := hgo
      obtain ⟨b, off, rfl, hbw, x, hx⟩ := H0.out k hlt
      have hsz := hb.size
      have hxr : wr.cell? ⟨b, off + k, none⟩ = some (.int .i64 x) := by
        rw [hbr.cell (p := ⟨b, off + k, none⟩) (by simp; omega), hb.cell (p := ⟨b, off + k, none⟩) (by simpa using hbw)]; exact hx
      obtain ⟨q, hq, hand⟩ := and3 x
      have hql : q < l.length := by have := hl4.out; omega
      have hc := hBr.cell hql
      have hf := hBr.free q
      have hX12 : Hid ((UInt8.ofNat (1 + (k : Int)).toNat).toNat ≤ 12) := by show (UInt8.ofNat (1 + (k : Int)).toNat).toNat ≤ 12; simp; omega
      obtain ⟨X, hX⟩ : ∃ X, UInt8.ofNat (1 + (k : Int)).toNat = X := ⟨_, rfl⟩
      have FI := fill_int (1 + (k : Int)) (by omega) (by omega)
      rw [hX] at FI hX12
      have FJ := Lib.hid FI
      clear FI
      have hB4 := hBr.seti q (1 + (k : Int)) (by omega) (by omega)
      rw [hX] at hB4
      have hD4 := hDr.setOther ⟨w1.heap.size + 2, q, none⟩ (.int .u8 (1 + (k : Int))) (by simp) (by simp) (fun e => by have := hown _ e; simp at this)
      have hbr4 := hbr.setCell (p := ⟨w1.heap.size + 2, q, none⟩) (by simp) (.int .u8 (1 + (k : Int)))
      clear hX hx
      go_wp2_with fail
      refine (FJ.out _).mono ?_
      rintro e w5 ⟨rfl, hb5⟩
      have hB5 := hB4.below hb5
      have hD5 := hD4.below hb5
      have hbr5 := hbr4.trans (hb5.mono hbr4.size)
      have hXL := fil_list X
      have hXS := Lib.hid (fil_size X)
      generalize fil X = A at *
      have HXL := Lib.hid hXL
      clear hXL hB4 hD4 hbr4 hb5 FJ hxr hDr hBr hbr hc hf
      go_wp2_with fail
      refine (write_ok hD5 q hq A hXS.out (by omega) 0 rfl).mono ?_
      rintro e w6 ⟨rfl, oa6, cap6, hD6, hM6, hf6⟩
      have hB6 := hB5.moved hM6 (by omega) (by omega) (fun e => by have := hown _ e; omega)
      have hbr6 := below_moved hbr5 (Nat.le_refl _) hM6 (by omega) (by omega) (fun g hg => by have := hown g hg; omega)
      have hown6 : ∀ g, ob oa6 = some g → w1.heap.size + 3 ≤ g := fun g hg => by
        rcases hf6 g hg with h | h
        · exact hown g h
        · have := hB5.lt; omega
      have hl6 : Hid ((l.set q X).length = 4) := by show (l.set q X).length = 4; rw [List.length_set]; exact hl4.out
      have hl612 : Hid (∀ x ∈ l.set q X, x.toNat ≤ 12) := by
        show ∀ x ∈ l.set q X, x.toNat ≤ 12
        intro y hy
        rcases List.mem_or_eq_of_mem_set hy with h | h
        · exact hl12.out y h
        · rw [h]; exact hX12.out
      have hrd6 : Hid (∀ j, j < 4 → rd S0 (O ++ [(q, A.data.toList)]) j = List.replicate 64 ((l.set q X).getD j 0)) := by
        show ∀ j, j < 4 → rd S0 (O ++ [(q, A.data.toList)]) j = List.replicate 64 ((l.set q X).getD j 0)
        intro j hj
        rw [rd_write, HXL.out]
        by_cases hjq : q = j
        · subst hjq
          rw [if_pos rfl, List.getD_eq_getElem?_getD, List.getElem?_set_self hql]
          rfl
        · rw [if_neg hjq, List.getD_eq_getElem?_getD, List.getElem?_set_ne hjq, ← List.getD_eq_getElem?_getD]
          exact hrd.out j hj
      generalize l.set q X = l' at *
      generalize O ++ [(q, A.data.toList)] = O' at *
      clear hB5 hD5 hbr5 hM6 hf6 hown hl4 hrd HXL hXS hql hl12 hX12
      go_wp2_with fail
      go_roundg (12 - (k + 1))
      case measure => omega
      case rel => exact ⟨k + 1, O', m + 1, oa6, cap6, l', hD6, hB6, hl6, hl612, hrd6, hbr6, hown6, by omega, by omega, by omega, by omega, by go_num⟩
    · have hcase : ¬ k < len0 ∨ k < len0 ∧ k = 12 := by omega
      go_upto_region 13 with fail
      all_goals
        clear hcase hgo hD3 hBy hb3 hz0 H0
        go_wp2_with fail
        refine (flush_ok hDr 0 rfl).mono ?_
        rintro e w7 ⟨rfl, hD7, hM7⟩
        have hB7 := hBr.moved hM7 (by omega) (by omega) (fun e => by have := hown _ e; omega)
        have hbr7 := below_moved hbr (Nat.le_refl _) hM7 (by omega) (by omega) (fun g hg => by have := hown g hg; omega)
        have hz7 : Hid (∀ j, j < 4 → (fl S0 O).getD j [] = List.replicate 64 (l.getD j 0)) := by
          show ∀ j, j < 4 → (fl S0 O).getD j [] = List.replicate 64 (l.getD j 0)
          intro j hj
          have e := rd_fl j O S0 (fun p hp => by rw [hDr.len]; exact (hDr.oall p hp).1)
          rw [hrd.out j hj] at e
          exact e
        have hS7 := Lib.hid hD7.len
        generalize fl S0 O = S1 at *
        clear hDr hM7 hbr hBr hrd hown
        go_wp2_with fail
        refine (open_any hD7).mono ?_
        rintro e w8 ⟨rfl, rfl⟩
        have hBo : Bo (w7.alloc (Obj.cells #[.bool false, .bool false, .bool false, .bool false] 39)) w7.heap.size [false, false, false, false] := ⟨39, heap_alloc_new _ _⟩
        have hD8 := hD7.below ((Below.refl _ _).alloc (Nat.le_refl _) (Obj.cells #[.bool false, .bool false, .bool false, .bool false] 39))
        have hB8 := hB7.below ((Below.refl _ _).alloc (Nat.le_refl _) (Obj.cells #[.bool false, .bool false, .bool false, .bool false] 39))
        have hbr8 := hbr7.alloc hbr7.size (Obj.cells #[.bool false, .bool false, .bool false, .bool false] 39)
        have hG := hB7.lt
        clear hD7 hB7 hbr7
        go_wp2_with fail
        generalize w7.heap.size = G at *
        go_loopg [13] 12 (fun g i wr => ∃ (k : Nat) (O : List (Nat × List UInt8)) (m : Nat) (oa : Option Addr) (cap : Nat) (ov : List Bool), Dk wr (w1.heap.size + 1) w1.heap.size 4 S1 O m oa cap 0 0 ∧ By wr (w1.heap.size + 2) l ∧ Bo wr G ov ∧ Hid (ov.length = 4) ∧ Hid (Wg ov O) ∧ Below w1.heap.size w1 wr ∧ (∀ g, ob oa = some g → G + 1 ≤ g) ∧ m ≤ k ∧ k ≤ 12 ∧ k ≤ len1 ∧ g = 12 - k ∧ i = .int .i64 k)
        case atStart => exact ⟨0, [], 0, none, 0, _, hD8, hB8, hBo, rfl, (by show Wg _ _; intro p hp; simp at hp), hbr8, (fun g hg => by simp [ob, Value.ownBlock] at hg), by omega, by omega, by omega, by omega, rfl⟩
        case round =>
          clear hD8 hB8 hbr8 hBo
          obtain ⟨k2, O, m, oa, cap, ov, hDr, hBr, hVr, hv4, hWg, hbr, hown, hmk, hk12, hkl2, rfl, rfl⟩ := hrel
          by_cases hgo : k2 < len1 ∧ k2 < 12
          · obtain ⟨hlt, hlt20⟩ := hgo
            obtain ⟨b, off, rfl, hbw, x, hx⟩ := H1.out k2 hlt
            have hsz := hb.size
            have hxr : wr.cell? ⟨b, off + k2, none⟩ = some (.int .i64 x) := by
              rw [hbr.cell (p := ⟨b, off + k2, none⟩) (by simp; omega), hb.cell (p := ⟨b, off + k2, none⟩) (by simpa using hbw)]; exact hx
            obtain ⟨q, hq, hand⟩ := and3 x
            have hqv : q < ov.length := by have := hv4.out; omega
            have hc := hVr.cell (List.getElem?_eq_getElem hqv)
            have hf := hVr.free q
            have hX12 : Hid (100 ≤ (UInt8.ofNat (100 + (k2 : Int)).toNat).toNat) := by show 100 ≤ (UInt8.ofNat (100 + (k2 : Int)).toNat).toNat; simp; omega
            obtain ⟨X, hX⟩ : ∃ X, UInt8.ofNat (100 + (k2 : Int)).toNat = X := ⟨_, rfl⟩
            have FI := fill_int (100 + (k2 : Int)) (by omega) (by omega)
            rw [hX] at FI hX12
            have FJ := Lib.hid FI
            clear FI
            have hV4 := hVr.set q true
            have hD4 := hDr.setOther ⟨G, q, none⟩ (.bool true) (by show G ≠ _; omega) (by show G ≠ _; omega) (fun e => by have h9 : G + 1 ≤ G := hown G e; omega)
            have hB4 := hBr.setOther ⟨G, q, none⟩ (.bool true) (by show G ≠ _; omega)
            have hbr4 := hbr.setCell (p := ⟨G, q, none⟩) (by show _ ≤ G; omega) (.bool true)
            clear hX hx
            go_wp2_with fail
            refine (FJ.out _).mono ?_
            rintro e w5 ⟨rfl, hb5⟩
            have hV5 := hV4.below hb5
            have hB5 := hB4.below hb5
            have hD5 := hD4.below hb5
            have hbr5 := hbr4.trans (hb5.mono hbr4.size)
            have hXL := fil_list X
            have hXS := Lib.hid (fil_size X)
            generalize fil X = A at *
            have HXL := Lib.hid hXL
            clear hXL hV4 hB4 hD4 hbr4 hb5 FJ hxr hDr hBr hbr hc hf hVr
            go_wp2_with fail
            refine (write_ok hD5 q hq A hXS.out (by omega) 0 rfl).mono ?_
            rintro e w6 ⟨rfl, oa6, cap6, hD6, hM6, hf6⟩
            have hB6 := hB5.moved hM6 (by omega) (by omega) (fun e => by have := hown _ e; omega)
            have hV6 := hV5.moved hM6 (by omega) (by omega) (fun e => by have := hown _ e; omega)
            have hbr6 := below_moved hbr5 (Nat.le_refl _) hM6 (by omega) (by omega) (fun g hg => by have := hown g hg; omega)
            have hown6 : ∀ g, ob oa6 = some g → G + 1 ≤ g := fun g hg => by
              rcases hf6 g hg with h | h
              · exact hown g h
              · have := hV5.lt; omega
            have hv6 : Hid ((ov.set q true).length = 4) := by show (ov.set q true).length = 4; rw [List.length_set]; exact hv4.out
            have hWg6 : Hid (Wg (ov.set q true) (O ++ [(q, A.data.toList)])) := by
              show Wg (ov.set q true) (O ++ [(q, A.data.toList)])
              rw [HXL.out]
              exact hWg.out.mark q hqv X hX12.out
            generalize ov.set q true = ov' at *
            generalize O ++ [(q, A.data.toList)] = O' at *
            clear hB5 hD5 hbr5 hM6 hf6 hown hv4 hWg HXL hXS hqv hX12 hV5
            go_wp2_with fail
            go_roundg (12 - (k2 + 1))
            case measure => omega
            case rel => exact ⟨k2 + 1, O', m + 1, oa6, cap6, ov', hD6, hB6, hV6, hv6, hWg6, hbr6, hown6, by omega, by omega, by omega, by omega, by go_num⟩
          · have hcase : ¬ k2 < len1 ∨ k2 < len1 ∧ k2 = 12 := by omega
            go_upto_region 23 with fail
            all_goals
              clear hcase hgo H1
              have hcr := crash_any hDr a2 F len2 cap2 ((HF.out.below hb).below hbr) HFL.out hm2 (fun h0 c off hc => by
                have h1 := HF.out.lt HFL.out h0 c off hc
                have h2 := hb.size
                exact ⟨by omega, by omega, fun e => by have := hown c e; omega⟩)
              have hgood := Lib.hid (crS_good F ov l O 0 S1 hWg.out (fun p hp => by rw [hS7.out]; exact (hDr.oall p hp).1) (fun j hj => ⟨0, by rw [hz7.out j (by rw [hS7.out] at hj; exact hj)]; exact good_start _ _⟩))
              have hS2 := Lib.hid hS7.out
              generalize crN F 0 O = lostN at *
              generalize crS F 0 S1 O = S2 at *
              have HCR := Lib.hid hcr
              clear hcr
              go_wp2_with fail
              refine HCR.out.mono ?_
              rintro e w9 ⟨rfl, hD9, hM9⟩
              have hB9 := hBr.moved hM9 (by omega) (by omega) (fun e => by have := hown _ e; omega)
              have hV9 := hVr.moved hM9 (by omega) (by omega) (fun e => by have := hown _ e; omega)
              have hbr9 := below_moved hbr (Nat.le_refl _) hM9 (by omega) (by omega) (fun g hg => by have := hown g hg; omega)
              clear hDr hBr hVr hbr hM9 hown hWg hz7 HCR
              go_wp2_with fail
              go_loopg [15] 4 (fun g i wr => ∃ (j : Nat) (r' : Int), Dk wr (w1.heap.size + 1) w1.heap.size 4 S2 [] 0 none 0 0 r' ∧ By wr (w1.heap.size + 2) l ∧ Bo wr G ov ∧ Below w1.heap.size w1 wr ∧ j ≤ 4 ∧ r' = j ∧ g = 4 - j ∧ i = .int .i64 j)
              case atStart => exact ⟨0, 0, hD9, hB9, hV9, hbr9, by omega, by omega, by omega, rfl⟩
              case round =>
                clear hD9 hB9 hV9 hbr9
                obtain ⟨j, r', hDj, hBj, hVj, hbj, hj4, hr', rfl, rfl⟩ := hrel
                by_cases hjl : j < 4
                · obtain ⟨P, hP⟩ := hgood.out j (by rw [hS7.out]; exact hjl)
                  have hread := read_ok hDj j hjl (by omega) 0 rfl
                  rw [show rd S2 [] j = S2.getD j [] from rfl] at hread
                  have hjv : j < ov.length := by rw [hv4.out]; exact hjl
                  have hjl' : j < l.length := by rw [hl4.out]; exact hjl
                  have hy : ov[j]? = some (ov.getD j false) := by rw [List.getD_eq_getElem?_getD, List.getElem?_eq_getElem hjv]; rfl
                  have hxx : l[j] = l.getD j 0 := by rw [List.getD_eq_getElem?_getD, List.getElem?_eq_getElem hjl']; rfl
                  have hx12 := hl12.out l[j] (List.getElem_mem hjl')
                  have hFJ := fill_any l[j]
                  rw [hxx] at hx12 hFJ
                  generalize ov.getD j false = y at *
                  obtain ⟨x, hxe⟩ : ∃ x, l.getD j 0 = x := ⟨_, rfl⟩
                  rw [hxe] at hP hx12 hFJ hxx
                  generalize S2.getD j [] = s at *
                  have hRs : (⟨s.toArray⟩ : ByteArray).size = 64 := by simp [ByteArray.size, hP.len]
                  have hRv : ∀ (i : Nat) (h : i < (⟨s.toArray⟩ : ByteArray).size), (i < P → 100 ≤ ((⟨s.toArray⟩ : ByteArray)[i]'h).toNat) ∧ (P ≤ i → (⟨s.toArray⟩ : ByteArray)[i]'h = x) := fun i h => by
                    have e : s[i]? = some ((⟨s.toArray⟩ : ByteArray)[i]'h) := by
                      have h' : i < s.length := by rw [hP.len]; omega
                      rw [List.getElem?_eq_getElem h']
                      rfl
                    exact ⟨fun hi => hP.ahead i _ hi e, fun hi => hP.behind i _ hi e⟩
                  have hRe : y = false → (⟨s.toArray⟩ : ByteArray) = fil x := fun hy0 => by
                    have hP0 := hP.no hy0
                    refine fil_of (List.ext_getElem? fun i => ?_)
                    by_cases hi : i < 64
                    · have hi' : i < s.length := by rw [hP.len]; exact hi
                      rw [List.getElem?_eq_getElem hi', hP.behind i _ (by omega) (List.getElem?_eq_getElem hi'), List.getElem?_replicate, if_pos hi]
                    · rw [List.getElem?_eq_none (by rw [hP.len]; omega), List.getElem?_eq_none (by simp; omega)]
                  generalize (⟨s.toArray⟩ : ByteArray) = R at *
                  have HFJ := Lib.hid hFJ
                  have HRD := Lib.hid hread
                  have HRV := Lib.hid hRv
                  have HRE := Lib.hid hRe
                  have HRS := Lib.hid hRs
                  have HX := Lib.hid hxx
                  have HX12 := Lib.hid hx12
                  have HY := Lib.hid hy
                  clear hFJ hread hRv hRe hRs hxx hx12 hy hP hxe
                  go_wp2_with fail
                  refine HRD.out.mono ?_
                  rintro e wa ⟨rfl, hDa, hMa⟩
                  have hBa := hBj.moved hMa (by omega) (by omega) (fun e => by simp [ob, Value.ownBlock] at e)
                  have hVa := hVj.moved hMa (by omega) (by omega) (fun e => by simp [ob, Value.ownBlock] at e)
                  have hba := below_moved hbj (Nat.le_refl _) hMa (by omega) (by omega) (fun g hg => by simp [Value.ownBlock] at hg)
                  clear hDj hBj hVj hbj hMa HRD
                  have hRsz := HRS.out
                  have hcv := hVa.cell HY.out
                  have hcl := hBa.cell hjl'
                  rw [HX.out] at hcl
                  go_upto_region 28 with fail
                  go_cut [118] (fun s118 wx => s118 = .bool false ∧ Dk wx (w1.heap.size + 1) w1.heap.size 4 S2 [] 0 none 0 0 (r' + 1) ∧ By wx (w1.heap.size + 2) l ∧ Bo wx G ov ∧ Below w1.heap.size w1 wx)
                  case first =>
                    cases y
                    · have hRx := HRE.out rfl
                      rw [← hRx] at HFJ
                      clear hRx
                      go_wp2_with fail
                      refine (HFJ.out _).mono ?_
                      rintro e wz ⟨rfl, hbz⟩
                      go_wp2_with fail
                      go_meet
                      exact ⟨rfl, hDa.below hbz, hBa.below hbz, hVa.below hbz, hba.trans (hbz.mono hba.size)⟩
                    · go_wp2_with fail
                      go_meet
                      exact ⟨rfl, hDa, hBa, hVa, hba⟩
                  case rest =>
                    clear hcv hcl
                    obtain ⟨rfl, hDb, hBb, hVb, hbb⟩ := hcut
                    clear hDa hBa hVa hba HRE HFJ HY
                    go_wp2_with fail
                    go_loopg [18, 19] 64 (fun g o i wx => ∃ n : Nat, Dk wx (w1.heap.size + 1) w1.heap.size 4 S2 [] 0 none 0 0 (r' + 1) ∧ By wx (w1.heap.size + 2) l ∧ Bo wx G ov ∧ Below w1.heap.size w1 wx ∧ n ≤ 64 ∧ o = .bool (decide (P < n)) ∧ g = 64 - n ∧ i = .int .i64 n)
                    case atStart => exact ⟨0, hDb, hBb, hVb, hbb, by omega, rfl, by omega, rfl⟩
                    case round =>
                      clear hDb hBb hVb hbb
                      obtain ⟨n, hDn, hBn, hVn, hbn, hn64, rfl, rfl, rfl⟩ := hrel
                      by_cases hnl : n < 64
                      · have hnR : n < R.size := by rw [HRS.out]; exact hnl
                        have hcl := hBn.cell hjl'
                        rw [HX.out] at hcl
                        obtain ⟨v, hv⟩ : ∃ v, R[n] = v := ⟨_, rfl⟩
                        obtain ⟨hv1, hv2⟩ := HRV.out n hnR
                        rw [hv] at hv1 hv2
                        by_cases hnP : n < P
                        · have hv100 := hv1 hnP
                          have hx12 := HX12.out
                          have t0 : decide (P < n) = false := by simp; omega
                          obtain ⟨V, hV⟩ : ∃ V : Int, (v.toNat : Int) = V := ⟨_, rfl⟩
                          obtain ⟨Y, hY⟩ : ∃ Y : Int, (x.toNat : Int) = Y := ⟨_, rfl⟩
                          rw [hY] at hcl
                          have t1 : (V == Y) = false := by rw [beq_eq_false_iff_ne]; omega
                          have t2 : ¬ V < 100 := by omega
                          have t3 : (V != Y) = true := by simp [bne, t1]
                          have t5 : ¬ V = Y := by omega
                          clear hY hx12 hv100
                          rw [t0]
                          clear hv1 hv2
                          go_wp2_with fail
                          go_quiet (fail)
                          go_wp2_with fail
                          go_quiet (fail)
                          go_wp2_with fail
                          go_roundg (64 - (n + 1))
                          case measure => omega
                          case rel => exact ⟨n + 1, hDn.keep (fun _ _ _ => rfl), hBn.keep rfl, hVn.keep rfl, hbn.trans ⟨rfl, rfl, rfl, Nat.le_refl _, fun _ _ => rfl⟩, by omega, (by show Value.bool _ = Value.bool _; congr 1; simp; omega), by omega, by go_num⟩
                        · have hvx := hv2 (by omega)
                          rw [hvx] at hv
                          have t0 : decide (P < n + 1) = true := by simp; omega
                          clear hv1 hv2 hvx
                          go_wp2_with fail
                          go_quiet (fail)
                          go_wp2_with fail
                          go_quiet (fail)
                          go_wp2_with fail
                          go_roundg (64 - (n + 1))
                          case measure => omega
                          case rel => exact ⟨n + 1, hDn.keep (fun _ _ _ => rfl), hBn.keep rfl, hVn.keep rfl, hbn.trans ⟨rfl, rfl, rfl, Nat.le_refl _, fun _ _ => rfl⟩, by omega, (by rw [t0]), by omega, by go_num⟩
                      · go_wp2_with fail
                        go_roundg (4 - (j + 1))
                        case measure => omega
                        case rel => exact ⟨j + 1, r' + 1, hDn, hBn, hVn, hbn, by omega, by omega, by omega, by go_num⟩
                · go_wp2_with fail
                  refine (open_any hDj).mono ?_
                  rintro e wz ⟨rfl, rfl⟩
                  go_wp2_with fail
                  go_ret
                  exact ⟨rfl, hb.trans (hbj.mono hb.size)⟩

/-! ### THE ROW's STEP -/
set_option maxRecDepth 100000 in
theorem lifted (os : Os) (started : os.Started) (H : Type) (enc : TypeId × Value → H) :
    ReturnsInHanded {} Try.checked os 4 .any (Rows.diskStaysSpec.pre6 enc Try.prog Try.f4 Rows.diskStaysRow.domain false) (Rows.diskStaysSpec.post enc Try.prog Try.f4 false true false false) := by
  refine returnsInHanded_of_change (C := Try.checked) own started (by kernel_rfl) Try.func4
    (ChangeSpec.witness6 (enc := enc) (C := Try.checked) false ⟨#[], #[.slice none 0 0, .slice none 0 0, .slice none 0 0], []⟩ 8 (by kernel_rfl) (by kernel_rfl) (by kernel_rfl) (by kernel_rfl)) ?_
  intro W base args ds gs before hval0 hW hcnd _
  have hval : ∀ (j : Nat) t v, Try.f4.params[j]? = some t → args[j]? = some v → Value.okWide Try.prog W .any base t v := hval0
  have hW' := hW
  obtain ⟨p, q, hA0, hV, rfl, hfz, hnd⟩ := hW
  have hA : DataW.TrodAll enc Try.prog W 0 (fun _ => true) true Try.f4.params.toList args.toList ds p := hA0
  rw [Try.params4] at hA hval
  obtain ⟨v0, vs0, d0, ds0, p0, q0, hargs, rfl, rfl, h0, r0⟩ := trodAll_cons hA
  obtain ⟨v1, vs1, d1, ds1, p1, q1, rfl, rfl, rfl, h1, r1⟩ := trodAll_cons r0
  obtain ⟨v2, vs2, d2, ds2, p2, q2, rfl, rfl, rfl, h2, r2⟩ := trodAll_cons r1
  obtain ⟨rfl, rfl, rfl⟩ := trodAll_nil r2
  obtain rfl : args = #[v0, v1, v2] := by cases args; simp_all
  obtain ⟨rfl, rfl⟩ := trodVars_none hV
  obtain ⟨a0, len0, cap0, rfl⟩ := okWide_slice Try.underlying22 (hval 0 22 v0 rfl rfl)
  have k0 := h0
  have lt0 : ∀ x ∈ p0, x.block < W.heap.size := by obtain ⟨m, hm⟩ := k0; exact DataW.trod_lt m _ _ _ hm
  have w0 := open_nums h0
  obtain ⟨a1, len1, cap1, rfl⟩ := okWide_slice Try.underlying22 (hval 1 22 v1 rfl rfl)
  have k1 := h1
  have lt1 : ∀ x ∈ p1, x.block < W.heap.size := by obtain ⟨m, hm⟩ := k1; exact DataW.trod_lt m _ _ _ hm
  have w1 := open_nums h1
  obtain ⟨a2, len2, cap2, rfl⟩ := okWide_slice Try.underlying26 (hval 2 26 v2 rfl rfl)
  have k2 := h2
  have lt2 : ∀ x ∈ p2, x.block < W.heap.size := by obtain ⟨m, hm⟩ := k2; exact DataW.trod_lt m _ _ _ hm
  have w2 := open_fates h2
  clear hA0 hval0
  refine (core W a0 len0 cap0 w0 a1 len1 cap1 w1 a2 len2 cap2 w2).mono fun e W' ⟨he, bel⟩ => ?_
  subst he
  exact ⟨_, rfl, _, _, _, [], _, [], hW', trodAll_mk1 (shut_bool Try.underlying4 _), (trodAll_cons_mk (Below.trod laidOut (by kernel_rfl) (of_decide_eq_true (by kernel_rfl)) k0 bel lt0) (trodAll_cons_mk (Below.trod laidOut (by kernel_rfl) (of_decide_eq_true (by kernel_rfl)) k1 bel lt1) (trodAll_cons_mk (Below.trod laidOut (by kernel_rfl) (of_decide_eq_true (by kernel_rfl)) k2 bel lt2) trodAll_mk0))), rfl, bel.frame _, fun h => by cases h⟩

theorem over : Rows.diskStaysRow.holds Try.pinned (OpenSpec.ofChange Rows.diskStaysSpec) :=
  OpenClaim.holds_of_wide 4 Try.f4 rfl rfl rfl rfl rfl rfl rfl ⟨rfl, rfl, rfl, rfl, rfl⟩ rfl rfl rfl rfl rfl (by kernel_rfl) Try.func4 (by kernel_rfl)
    (of_decide_eq_true (by kernel_rfl)) (by unfold Func.isWrapper; first | (rw [if_pos (by decide +kernel)]; kernel_rfl) | (rw [if_neg (by decide +kernel)]; exact ⟨rfl, rfl⟩))
    (fun os started H enc _ => lifted os started H enc)

/-- ████ THE STATEMENT ████ -/
theorem proved : Rows.DiskStaysSaid := over
#print axioms proved
end Go.Proofs.Ytaccmeffcjfeeaa.diskStays
