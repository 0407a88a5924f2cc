/-
  Two disks and a row of fates side by side in memory; a row of numbers that came in; masks.
-/
import Derived.Test.YtaccmeffcjfeeaaAw
import Derived.WalkKit
import Derived.OwnWalk
namespace Go.Proofs.Ytaccmeffcjfeeaa
open Go.RowKit

theorem i64_mask (n : Int) (j m : Nat) (hm : m = 2 ^ j) (hj : j ≤ 40) (hc : (BitVec.ofInt 64 ((m : Int) - 1)).toNat = 2 ^ j - 1) : bits .and .i64 n ((m : Int) - 1) = n % m := by
  have key : (BitVec.ofInt 64 n &&& BitVec.ofInt 64 ((m : Int) - 1)).toNat = (n % ((2 ^ 64 : Nat) : Int)).toNat % 2 ^ j := by
    rw [BitVec.toNat_and, BitVec.toNat_ofInt, hc, Nat.and_two_pow_sub_one_eq_mod]
  show IntKind.i64.wrap ((BitVec.ofInt 64 n &&& BitVec.ofInt 64 ((m : Int) - 1)).toNat : Nat) = n % m
  rw [key, IntKind.wrap_i64, hm]
  have h1 : ((n % ((2 ^ 64 : Nat) : Int)).toNat % 2 ^ j : Nat) < 2 ^ j := Nat.mod_lt _ (Nat.two_pow_pos j)
  have h2 : 2 ^ j ≤ 2 ^ 40 := Nat.pow_le_pow_right (by omega) hj
  have h3 : (((n % ((2 ^ 64 : Nat) : Int)).toNat % 2 ^ j : Nat) : Int) = n % ((2 ^ j : Nat) : Int) := by
    have hpos : 0 ≤ n % ((2 ^ 64 : Nat) : Int) := Int.emod_nonneg _ (by decide)
    rw [Int.natCast_emod, Int.toNat_of_nonneg hpos]
    exact Int.emod_emod_of_dvd n (by exact_mod_cast Nat.pow_dvd_pow 2 (by omega))
  rw [← h3]
  generalize (n % ((2 ^ 64 : Nat) : Int)).toNat % 2 ^ j = x at *
  omega

theorem and3 (n : Int) : ∃ q : Nat, q < 4 ∧ bits .and .i64 n 3 = (q : Int) :=
  ⟨(n % 4).toNat, by omega, by have : bits .and .i64 n 3 = n % 4 := i64_mask n 2 4 rfl (by omega) (by decide); rw [this]; omega⟩

/-- What a walk is told of a slice of numbers that came in. -/
def Seen (w : World) (a : Option Addr) (len : Nat) : Prop :=
  ∀ k, k < len → ∃ b off, a = some ⟨b, off, none⟩ ∧ b < w.heap.size ∧ ∃ x : Int, w.cell? ⟨b, off + k, none⟩ = some (.int .i64 x)
theorem seen_of {w : World} {a : Option Addr} {len cap : Nat} {zs : List Int}
    (h : (a = none ∧ len = 0 ∧ cap = 0 ∧ zs = []) ∨ ∃ x, a = some x ∧ len ≤ cap ∧ cap ≤ maxLen ∧ zs.length = cap ∧ (∀ i, i < zs.length → w.cell? (x.add i) = some (.int .i64 (zs.getD i 0))) ∧ ∀ n ∈ zs, (Lit.int .i64 n).wf = true) :
    len ≤ 9223372036854775807 ∧ Seen w a len := by
  rcases h with ⟨rfl, rfl, rfl, rfl⟩ | ⟨x, rfl, hl, hm, hz, hcell, hwz⟩
  · exact ⟨by omega, fun k hk => by omega⟩
  · unfold maxLen at hm
    refine ⟨by omega, fun k hk => ?_⟩
    obtain ⟨b, off, spot⟩ := x
    have hc := hcell k (by omega)
    have hspot : spot = none := by
      have h0 := hcell 0 (by omega)
      simpa [Addr.add] using World.cell?_spot h0
    subst hspot
    have hadd : (⟨b, off, none⟩ : Addr).add k = ⟨b, off + k, none⟩ := by unfold Addr.add; split <;> simp_all
    rw [hadd] at hc
    exact ⟨b, off, rfl, by simpa using block_lt_of_cell hc, _, hc⟩

/-- Nothing is the same block. -/
def Apart (x y : Option Nat) : Prop := ∀ g, x = some g → y ≠ some g
abbrev ob (a : Option Addr) : Option Nat := (Value.slice a 0 0).ownBlock

theorem Dk.far {w w' : World} {b s n : Nat} {S : List (List UInt8)} {O : List (Nat × List UInt8)} {m : Nat} {oa : Option Addr} {cap : Nat} {f r : Int} {b' s' : Nat} {oa' : Option Addr}
    (h : Dk w b s n S O m oa cap f r) (hm : Moved w w' b' s' oa') (h1 : b ≠ b' ∧ b ≠ s' ∧ ob oa' ≠ some b) (h2 : s ≠ b' ∧ s ≠ s' ∧ ob oa' ≠ some s) (h3 : ∀ g, ob oa = some g → g ≠ b' ∧ g ≠ s' ∧ ob oa' ≠ some g) :
    Dk w' b s n S O m oa cap f r := by
  refine h.keep fun k hk hc => ?_
  rcases hc with rfl | rfl | hc
  · exact hm.block k hk h1.1 h1.2.1 h1.2.2
  · exact hm.block k hk h2.1 h2.2.1 h2.2.2
  · have := h3 k ((own_slice oa 0 0 m cap).trans hc)
    exact hm.block k hk this.1 this.2.1 this.2.2

theorem row_far {w w' : World} {B e size : Nat} {v : Value} {n : Nat} {xs : List Value} {b' s' : Nat} {oa' : Option Addr} (h : w.ownsRow B e size v n xs) (hm : Moved w w' b' s' oa') (hb : b' < B) (hs : s' < B) (ho : Apart (ob oa') v.ownBlock) : w'.ownsRow B e size v n xs := by
  refine ⟨h.1, ?_⟩
  rcases h.2 with h0 | ⟨g, cap', cur, hv, hB, hg, hrest⟩
  · exact .inl h0
  · refine .inr ⟨g, cap', cur, hv, hB, ?_, hrest⟩
    have hlt : g < w.heap.size := (Array.getElem?_eq_some_iff.1 hg).1
    rw [hm.block g hlt (by omega) (by omega) (fun e => ho g e (by rw [hv]; rfl))]
    exact hg

theorem Dk.olt {w : World} {b s n : Nat} {S : List (List UInt8)} {O : List (Nat × List UInt8)} {m : Nat} {oa : Option Addr} {cap : Nat} {f r : Int} (h : Dk w b s n S O m oa cap f r) {g : Nat} (hg : ob oa = some g) : g < w.heap.size :=
  (h.own.lt _ ((own_slice oa _ _ 0 0).trans hg)).2

theorem apart_types {w : World} {B C e1 e2 s1 s2 : Nat} {a : Option Addr} {l c : Nat} {v2 : Value} {n1 n2 : Nat} {x1 x2 : List Value} (h1 : w.ownsRow B e1 s1 (.slice a l c) n1 x1) (h2 : w.ownsRow C e2 s2 v2 n2 x2) (he : e1 ≠ e2) {v : Value} (hv : v2 = v) : Apart (ob a) v.ownBlock := by
  subst hv
  intro g hg hg2
  rcases h1.2 with h0 | ⟨g1, c1, cur1, hv1, _, hb1, _⟩
  · have := h0.1
    cases this
    simp [ob, Value.ownBlock] at hg
  · cases hv1
    simp [ob, Value.ownBlock] at hg
    subst hg
    rcases h2.2 with h0 | ⟨g2, c2, cur2, hv2, _, hb2, _⟩
    · rw [h0.1] at hg2
      simp [Value.ownBlock] at hg2
    · rw [hv2] at hg2
      simp [Value.ownBlock] at hg2
      subst hg2
      rw [hb1] at hb2
      simp at hb2
      exact he hb2.2

def fates (k : Nat) : List Value := List.flatten (List.replicate k [.int .i64 1, .int .i64 0])
theorem fates_succ (k : Nat) : fates k ++ [Value.int .i64 1, .int .i64 0] = fates (k + 1) := by
  unfold fates
  rw [List.replicate_succ', List.flatten_append]
  simp
theorem fates_len : ∀ k, (fates k).length = k * 2
  | 0 => rfl
  | k + 1 => by rw [← fates_succ, List.length_append, fates_len k]; simp; omega
theorem fates_at : ∀ (k i : Nat), i < k → (fates k)[i * 2]? = some (.int .i64 1) ∧ (fates k)[i * 2 + 1]? = some (.int .i64 0)
  | 0, i, h => by omega
  | k + 1, i, h => by
    rw [← fates_succ]
    have hl := fates_len k
    by_cases hi : i < k
    · have := fates_at k i hi
      rw [List.getElem?_append_left (by omega), List.getElem?_append_left (by omega)]
      exact this
    · obtain rfl : i = k := by omega
      rw [List.getElem?_append_right (by omega), List.getElem?_append_right (by omega)]
      rw [show i * 2 - (fates i).length = 0 by omega, show i * 2 + 1 - (fates i).length = 1 by omega]
      exact ⟨rfl, rfl⟩

theorem below_grown {B : Nat} {a w w' : World} {row : Option Nat} (h : Below B a w) (hg : w.grownBy w' row) (hr : ∀ g, row = some g → B ≤ g) (hB : B ≤ w.heap.size := by first | assumption | omega) : Below B a w' :=
  ⟨hg.os.trans h.os, hg.tape.trans h.tape, hg.output.trans h.output, Nat.le_trans h.size hg.size, fun k hk => (hg.block k (by omega) (fun e => by have := hr k e.symm; omega)).trans (h.block k hk)⟩

/-- Two disks of four sectors, and a row of fates. -/
structure Tri (w : World) (B : Nat) (S1 S2 : List (List UInt8)) (O P : List (Nat × List UInt8)) (m mp : Nat) (oa oc : Option Addr) (ca cb : Nat) (r1 r2 : Int) (v : Value) (k : Nat) : Prop where
  da : Dk w (B + 1) B 4 S1 O m oa ca 0 r1
  db : Dk w (B + 3) (B + 2) 4 S2 P mp oc cb 0 r2
  fa : w.ownsRow (B + 4) 31 2 v k (fates k)
  na : ∀ g, ob oa = some g → B + 4 ≤ g
  nb : ∀ g, ob oc = some g → B + 4 ≤ g
  ab : Apart (ob oa) (ob oc)
  av : Apart (ob oa) v.ownBlock
  bv : Apart (ob oc) v.ownBlock

section
variable {w w' : World} {B : Nat} {S1 S2 : List (List UInt8)} {O P : List (Nat × List UInt8)} {m mp : Nat} {oa oc : Option Addr} {ca cb : Nat} {r1 r2 : Int} {v : Value} {k : Nat}
theorem Tri.below (t : Tri w B S1 S2 O P m mp oa oc ca cb r1 r2 v k) (h : Below w.heap.size w w') : Tri w' B S1 S2 O P m mp oa oc ca cb r1 r2 v k := by
  refine { t with da := t.da.below h, db := t.db.below h, fa := ?_ }
  refine ⟨t.fa.1, ?_⟩
  rcases t.fa.2 with h0 | ⟨g, cap', cur, hv, hB, hg, hrest⟩
  · exact .inl h0
  · refine .inr ⟨g, cap', cur, hv, hB, ?_, hrest⟩
    rw [h.block g (Array.getElem?_eq_some_iff.1 hg).1]
    exact hg
theorem Tri.wa (t : Tri w B S1 S2 O P m mp oa oc ca cb r1 r2 v k) {S' : List (List UInt8)} {O' : List (Nat × List UInt8)} {m' : Nat} {oa' : Option Addr} {ca' : Nat} {r' : Int} (hD : Dk w' (B + 1) B 4 S' O' m' oa' ca' 0 r') (hM : Moved w w' (B + 1) B oa)
    (hf : ∀ g, ob oa' = some g → ob oa = some g ∨ w.heap.size ≤ g) : Tri w' B S' S2 O' P m' mp oa' oc ca' cb r' r2 v k := by
  have hlb := t.db.lt
  refine { da := hD, db := t.db.far hM ⟨by omega, by omega, fun e => ?_⟩ ⟨by omega, by omega, fun e => ?_⟩ (fun g hg => ?_), fa := row_far t.fa hM (by omega) (by omega) t.av, na := fun g hg => ?_, nb := t.nb, ab := fun g hg => ?_, av := fun g hg => ?_, bv := t.bv }
  · have := t.na _ e; omega
  · have := t.na _ e; omega
  · have := t.nb _ hg
    exact ⟨by omega, by omega, fun e => t.ab g e hg⟩
  · rcases hf g hg with h | h
    · exact t.na g h
    · omega
  · rcases hf g hg with h | h
    · exact t.ab g h
    · intro e
      have := t.db.olt e
      omega
  · rcases hf g hg with h | h
    · exact t.av g h
    · intro e
      have := (t.fa.lt _ e).2
      omega
theorem Tri.wb (t : Tri w B S1 S2 O P m mp oa oc ca cb r1 r2 v k) {S' : List (List UInt8)} {O' : List (Nat × List UInt8)} {m' : Nat} {oa' : Option Addr} {ca' : Nat} {r' : Int} (hD : Dk w' (B + 3) (B + 2) 4 S' O' m' oa' ca' 0 r') (hM : Moved w w' (B + 3) (B + 2) oc)
    (hf : ∀ g, ob oa' = some g → ob oc = some g ∨ w.heap.size ≤ g) : Tri w' B S1 S' O O' m m' oa oa' ca ca' r1 r' v k := by
  have hlb := t.db.lt
  refine { db := hD, da := t.da.far hM ⟨by omega, by omega, fun e => ?_⟩ ⟨by omega, by omega, fun e => ?_⟩ (fun g hg => ?_), fa := row_far t.fa hM (by omega) (by omega) t.bv, nb := fun g hg => ?_, na := t.na, ab := fun g hg e => ?_, bv := fun g hg => ?_, av := t.av }
  · have := t.nb _ e; omega
  · have := t.nb _ e; omega
  · have := t.na _ hg
    exact ⟨by omega, by omega, t.ab g hg⟩
  · rcases hf g hg with h | h
    · exact t.nb g h
    · omega
  · rcases hf g e with h | h
    · exact t.ab g hg h
    · have := t.da.olt hg
      omega
  · rcases hf g hg with h | h
    · exact t.bv g h
    · intro e
      have := (t.fa.lt _ e).2
      omega
theorem Tri.put (t : Tri w B S1 S2 O P m mp oa oc ca cb r1 r2 v k) {w1 : World} (hb : Below w.heap.size w w1) {v' : Value} (hown : w'.ownsRow (B + 4) 31 2 v' (k + 1) (fates k ++ [.int .i64 1, .int .i64 0])) (hg : w1.grownBy w' v.ownBlock) :
    Tri w' B S1 S2 O P m mp oa oc ca cb r1 r2 v' (k + 1) := by
  have t1 := t.below hb
  rw [fates_succ] at hown
  have hda : Dk w' (B + 1) B 4 S1 O m oa ca 0 r1 := t1.da.keep fun j hj hc => hg.block j hj (fun e => by
    have hl := t.fa.lt j e.symm
    rcases hc with rfl | rfl | hc
    · omega
    · omega
    · exact t.av j ((own_slice oa 0 0 m ca).trans hc) e.symm)
  have hdb : Dk w' (B + 3) (B + 2) 4 S2 P mp oc cb 0 r2 := t1.db.keep fun j hj hc => hg.block j hj (fun e => by
    have hl := t.fa.lt j e.symm
    rcases hc with rfl | rfl | hc
    · omega
    · omega
    · exact t.bv j ((own_slice oc 0 0 mp cb).trans hc) e.symm)
  exact { t1 with da := hda, db := hdb, fa := hown, av := apart_types hda.own hown (by decide) rfl, bv := apart_types hdb.own hown (by decide) rfl }
theorem Dk.oall' {w : World} {b s n : Nat} {S : List (List UInt8)} {O : List (Nat × List UInt8)} {m : Nat} {oa : Option Addr} {cap : Nat} {f r : Int} (h : Dk w b s n S O m oa cap f r) : ∀ p ∈ O, p.2.length = 64 := fun p hp => (h.oall p hp).2
theorem Tri.read (t : Tri w B S1 S2 O P m mp oa oc ca cb r1 r2 v k) : ∃ la c, v = .slice la k c ∧ Fates w la (List.replicate k (1, 0)) ∧ ∀ c off, la = some ⟨c, off, none⟩ → c ≠ B + 1 ∧ c ≠ B ∧ ob oa ≠ some c := by
  rcases t.fa.2 with ⟨hv, h0⟩ | ⟨g, cap', cur, hv, hB, hg, hcap, hmx, hcs, hx⟩
  · subst h0
    exact ⟨none, 0, hv, fun i hi => by simp at hi, fun c off h => by cases h⟩
  · have hav := t.av
    subst hv
    refine ⟨_, _, rfl, fun i hi => ?_, fun c off h => ?_⟩
    · have hi' : i < k := by simpa using hi
      have hf := fates_at k i hi'
      have hlen := fates_len k
      have hz : ∀ j, j < k * 2 → (fates k)[j]? = cur[j]? := fun j hj => by
        rw [← hx, List.getElem?_take_of_lt hj, Array.getElem?_toList]
      refine ⟨g, 0, rfl, ?_, ?_⟩
      · simp only [Nat.zero_add, List.getElem_replicate]
        exact cellAt hg _ ((hz _ (by omega)).symm.trans hf.1)
      · simp only [Nat.zero_add, List.getElem_replicate]
        exact cellAt hg _ ((hz _ (by omega)).symm.trans hf.2)
    · cases h
      exact ⟨by omega, by omega, fun e => hav g e rfl⟩
end
theorem lf_one (k i : Nat) (h : i < k) : lf (List.replicate k (1, 0)) i = 64 := by
  have : (List.replicate k ((1 : Int), (0 : Int)))[i]? = some (1, 0) := by simp [h]
  unfold lf
  rw [this]
  decide
theorem crS_whole : ∀ (O : List (Nat × List UInt8)) (i k : Nat) (S : List (List UInt8)), (∀ p ∈ O, p.2.length = 64) → (∀ x ∈ S, x.length = 64) → i + O.length ≤ k → crS (List.replicate k (1, 0)) i S O = fl S O ∧ crN (List.replicate k (1, 0)) i O = 0
  | [], _, _, _, _, _, _ => ⟨rfl, rfl⟩
  | p :: O, i, k, S, hO, hS, h => by
    simp only [List.length_cons] at h
    have e := lf_one k i (by omega)
    have hp := hO p (by simp)
    have hs : ((S.getD p.1 []).drop 64) = [] := by
      rw [List.drop_eq_nil_iff]
      by_cases hl : p.1 < S.length
      · rw [List.getD_eq_getElem?_getD, List.getElem?_eq_getElem hl]
        simp only [Option.getD_some]
        exact Nat.le_of_eq (hS _ (List.getElem_mem hl))
      · rw [List.getD_eq_getElem?_getD, List.getElem?_eq_none (by omega)]
        simp
    have ht : p.2.take 64 = p.2 := List.take_of_length_le (by omega)
    simp only [crS, crN, e, hs, ht, List.append_nil]
    have ih := crS_whole O (i + 1) k (S.set p.1 p.2) (fun q hq => hO q (by simp [hq])) (fun x hx => by
      rcases List.mem_or_eq_of_mem_set hx with h1 | h1
      · exact hS x h1
      · rw [h1]; exact hp) (by omega)
    exact ⟨ih.1.trans (by simp [fl]), by rw [ih.2]; rfl⟩
theorem crS_none : ∀ (O : List (Nat × List UInt8)) (i : Nat) (S : List (List UInt8)), crS [] i S O = S ∧ crN [] i O = O.length
  | [], _, _ => ⟨rfl, rfl⟩
  | p :: O, i, S => by
    have e : lf [] i = 0 := rfl
    simp only [crS, crN, e, List.take_zero, List.drop_zero, List.nil_append, List.length_cons]
    have hset : S.set p.1 (S.getD p.1 []) = S := by
      by_cases hl : p.1 < S.length
      · rw [List.getD_eq_getElem?_getD, List.getElem?_eq_getElem hl]
        simp
      · exact List.set_eq_of_length_le (by omega)
    rw [hset]
    have ih := crS_none O (i + 1) S
    exact ⟨ih.1, by rw [ih.2]; simp; omega⟩
end Go.Proofs.Ytaccmeffcjfeeaa
