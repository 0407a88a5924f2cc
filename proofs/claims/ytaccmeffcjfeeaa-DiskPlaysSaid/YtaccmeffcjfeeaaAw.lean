/-
  The chapter's example.
-/
import Derived.Test.YtaccmeffcjfeeaaNw
namespace Go.Proofs.Ytaccmeffcjfeeaa
open Go.RowKit
set_option linter.unusedSimpArgs false

theorem below_moved {B : Nat} {a w w' : World} {b s : Nat} {oa : Option Addr} (h : Below B a w) (hB : B ≤ a.heap.size) (hm : Moved w w' b s oa) (hb : B ≤ b) (hs : B ≤ s) (ho : ∀ g, (Value.slice oa 0 0).ownBlock = some g → B ≤ g) : Below B a w' := by
  refine ⟨hm.os.trans h.os, hm.tape.trans h.tape, hm.output.trans h.output, Nat.le_trans h.size hm.size, fun k hk => ?_⟩
  have hs := h.size
  exact (hm.block k (by omega) (by omega) (by omega) (fun e => by have := ho k e; omega)).trans (h.block k hk)
theorem fill97 (w : World) : Calls Try.prog 11 #[.int .u8 97] w fun e w' => e = .returned (.string (fil 97)) ∧ Below w.heap.size w w' := by
  have e : ((97 : UInt8).toNat : Int) = 97 := by decide
  have h := fill_any 97 w
  rw [e] at h
  exact h
theorem fill98 (w : World) : Calls Try.prog 11 #[.int .u8 98] w fun e w' => e = .returned (.string (fil 98)) ∧ Below w.heap.size w w' := by
  have e : ((98 : UInt8).toNat : Int) = 98 := by decide
  have h := fill_any 98 w
  rw [e] at h
  exact h
theorem new2 (w : World) : Calls Try.prog 10 #[.int .i64 2] w fun e w' => e = .returned (.pointer (some ⟨w.heap.size + 1, 0, none⟩)) ∧ Dk w' (w.heap.size + 1) w.heap.size 2 (zs 2) [] 0 none 0 0 0 ∧ Below w.heap.size w w' ∧ w'.heap.size = w.heap.size + 2 :=
  new_ok 2 (by omega) (by omega) w

set_option maxRecDepth 100000 in
set_option maxHeartbeats 200000 in
theorem awake_any (w : World) : Calls Try.prog 9 #[] w fun e w' => e = .returned (.bool true) ∧ Below w.heap.size w w' := by
  have fa : ∀ w, Calls Try.prog 11 #[.int .u8 97] w fun e w' => e = .returned (.string (fil 97)) ∧ Below w.heap.size w w' := fill97
  have fb : ∀ w, Calls Try.prog 11 #[.int .u8 98] w fun e w' => e = .returned (.string (fil 98)) ∧ Below w.heap.size w w' := fill98
  have ha := fil_size 97
  have hb := fil_size 98
  have hla := fil_list 97
  have hlb := fil_list 98
  generalize fil 97 = A at *
  generalize fil 98 = B at *
  have FA := Lib.hid fa
  have FB := Lib.hid fb
  have HA := Lib.hid ha
  have HB := Lib.hid hb
  have HLA := Lib.hid hla
  have HLB := Lib.hid hlb
  clear fa fb ha hb hla hlb
  have tok1 : True := trivial
  go_enter Try.func9, Try.ntmps9
  go_wp2_with fail
  refine (new2 _).mono ?_
  rintro e w1 ⟨rfl, hD1, hb1, -⟩
  generalize zs 2 = S0 at *
  go_wp2_with fail
  refine (FA.out _).mono ?_
  rintro e w2 ⟨rfl, hb2⟩
  have hD2 := hD1.below hb2
  go_wp2_with fail
  refine (write_ok hD2 0 (by omega) A HA.out (by omega) 0 rfl).mono ?_
  rintro e w3 ⟨rfl, oa3, cap3, hD3, hM3, hfr3⟩
  have HFR3 := Lib.hid hfr3
  clear hfr3
  go_wp2_with fail
  refine (flush_ok hD3 0 rfl).mono ?_
  rintro e w4 ⟨rfl, hD4, hM4⟩
  go_wp2_with fail
  refine (FB.out _).mono ?_
  rintro e w5 ⟨rfl, hb5⟩
  have hD5 := hD4.below hb5
  go_wp2_with fail
  refine (write_ok hD5 0 (by omega) B HB.out (by omega) 0 rfl).mono ?_
  rintro e w6 ⟨rfl, oa6, cap6, hD6, hM6, hfr6⟩
  have HFR6 := Lib.hid hfr6
  clear hfr6
  go_wp2_with fail
  have hD7 := hD6.below ((Below.refl _ _).alloc (Nat.le_refl _) (Obj.cells #[.int .i64 2, .int .i64 3] 31))
  have hF : Fates (w6.alloc (.cells #[.int .i64 2, .int .i64 3] 31)) (some ⟨w6.heap.size, 0, none⟩) [(2, 3)] := by
    intro i hi
    obtain rfl : i = 0 := by simpa using hi
    exact ⟨w6.heap.size, 0, rfl, cellAt (heap_alloc_new _ _) 0 rfl, cellAt (heap_alloc_new _ _) 1 rfl⟩
  have hcr : crN [(2, 3)] 0 ([] ++ [(0, B.data.toList)]) = 1 := by
    have e : lf [(2, 3)] 0 = 3 := by decide
    simp only [List.nil_append, crN, e]
    decide
  have hcS : crS [(2, 3)] 0 (fl S0 ([] ++ [(0, A.data.toList)])) ([] ++ [(0, B.data.toList)]) = (S0.set 0 A.data.toList).set 0 (B.data.toList.take 3 ++ A.data.toList.drop 3) := by
    have e : lf [(2, 3)] 0 = 3 := by decide
    have hl : 0 < S0.length := by rw [hD1.len]; omega
    simp [crS, fl, e, hl]
  have hc := crash_any hD7 (some ⟨w6.heap.size, 0, none⟩) [(2, 3)] 1 1 hF rfl (by omega) (fun _ c off h => by
    cases h
    refine ⟨fun e => ?_, fun e => ?_, fun e => ?_⟩
    · have := hD6.lt; omega
    · have := hD6.lts; omega
    · have := (hD6.own.lt _ ((own_slice oa6 _ _ 0 0).trans e)).2
      omega)
  rw [hcr, hcS] at hc
  refine hc.mono ?_
  rintro e w8 ⟨rfl, hD8, hM8⟩
  clear hc hcr hcS hF
  go_wp2_with fail
  refine (read_ok hD8 0 (by omega) (by omega) 0 rfl).mono ?_
  rintro e w9 ⟨rfl, hD9, hM9⟩
  have hrd : rd ((S0.set 0 A.data.toList).set 0 (B.data.toList.take 3 ++ A.data.toList.drop 3)) [] 0 = List.replicate 3 98 ++ List.replicate 61 97 := by
    have hl : 0 < S0.length := by rw [hD1.len]; omega
    rw [HLA.out, HLB.out]
    simp [rd, hl]
  generalize rd ((S0.set 0 A.data.toList).set 0 (B.data.toList.take 3 ++ A.data.toList.drop 3)) [] 0 = R at *
  have HRD := Lib.hid hrd
  clear hrd
  go_wp2_with fail
  refine (FA.out _).mono ?_
  rintro e w10 ⟨rfl, hb10⟩
  have hsz := HA.out
  have hstr : (R == ((⟨#[98, 98, 98]⟩ : ByteArray) ++ A.extract 3 64).toList) = true := by
    rw [beq_iff_eq, HRD.out, ByteArray.toList_eq]
    simp [HLA.out]
  go_wp2_with fail
  go_ret
  have b2 := hb1.trans (hb2.mono hb1.size)
  have b3 := below_moved b2 (Nat.le_refl _) hM3 (by omega) (Nat.le_refl _) (fun g hg => by simp [Value.ownBlock] at hg)
  have b4 := below_moved b3 (Nat.le_refl _) hM4 (by omega) (Nat.le_refl _) (fun g hg => by
    rcases HFR3.out g hg with h | h
    · simp [Value.ownBlock] at h
    · have := b2.size; omega)
  have b5 := b4.trans (hb5.mono b4.size)
  have b6 := below_moved b5 (Nat.le_refl _) hM6 (by omega) (Nat.le_refl _) (fun g hg => by simp [Value.ownBlock] at hg)
  have b7 := b6.alloc b6.size (Obj.cells #[.int .i64 2, .int .i64 3] 31)
  have b8 := below_moved b7 (Nat.le_refl _) hM8 (by omega) (Nat.le_refl _) (fun g hg => by
    rcases HFR6.out g hg with h | h
    · simp [Value.ownBlock] at h
    · have := b5.size; omega)
  have b9 := below_moved b8 (Nat.le_refl _) hM9 (by omega) (Nat.le_refl _) (fun g hg => by simp [Value.ownBlock] at hg)
  exact ⟨rfl, b9.trans (hb10.mono b9.size)⟩
end Go.Proofs.Ytaccmeffcjfeeaa
