/-
  CrcTurned: for every text, every number and every two bytes the law answers true: a text of which one byte, or two that stand beside one another, are other ones, has another sum. No condition.
-/
import Derived.Test.YtjdaeaanheidiaaRef
import Derived.Lib.ConvBytes
import Derived.Lib.SmallJoins
import Derived.WalkKit
import Derived.Deep.RegionHeld3
import Derived.ProofKit
import Derived.OpenShut
import Derived.ShutString
namespace Go.Proofs.Ytjdaeaanheidiaa.crcTurned
open Crc Go.ChangeShapes Go.WideShapes Go.ChangeAt Go.RowKit
open Go.ChangeMaps (open_string shut_string)
set_option linter.unusedVariables false      -- a walk need not use every 'w<i>' (that an integer argument fits its kind)

theorem laidOut : laidOutB Try.prog = true := by kernel_rfl
theorem own : ownKnob Try.prog.godebug = none := by kernel_rfl

/-! ### STEP 1: THE WALK: the Go text returns true. 'Grown w w'': the world has at most new blocks (Derived/RowKit3.lean). Part the cases AHEAD of 'go_enter' where a test parts the walk; take each callee by a contract of your own. -/
theorem Tab_keep {w w' : World} {b : Nat} (h : Tab w b) (e : w'.heap[b]? = w.heap[b]?) : Tab w' b := by
  rcases h with ⟨l, h⟩ | h
  · exact .inl ⟨l, h.keep e⟩
  · exact .inr (h.keep e)
theorem _root_.Go.Proofs.Ytjdaeaanheidiaa.Tab.lt {w : World} {b : Nat} (h : Tab w b) : b < w.heap.size := by
  rcases h with ⟨l, h⟩ | h
  · exact h.lt
  · exact h.lt
theorem nat_of (a : Int) (h : (Lit.int .u32 a).wf = true) : ∃ n : Nat, a = (n : Int) ∧ n < 4294967296 := by
  have := bounds_u32 h
  exact ⟨a.toNat, by omega, by omega⟩
theorem sh_le (s : ByteArray) (n : Nat) : (sh s n).size ≤ n := by
  unfold sh
  split
  · simp [ByteArray.size_extract]; omega
  · omega
theorem shortT (s : ByteArray) (n : Nat) (hn : n ≤ 1000) (t : ByteArray) (ht : sh s n = t) (w : World) :
    Calls Try.prog 12 #[.string s, .int .i64 n] w fun e w' => e = .returned (.string t) ∧ w = w' := by
  subst ht
  exact short_any s n hn w

theorem open_pair {H : Type} {enc : TypeId × Value → H} {W : World} {base : Nat} {v : Value} {d : DataW H} {p : List MemPlace} (hv : Value.okWide Try.prog W .any base 47 v) (h : DataW.Trod enc Try.prog W 0 (fun _ => true) true 47 v d p) :
    ∃ x y : Int, v = .agg #[.int .u8 x, .int .u8 y] ∧ (Lit.int .u8 x).wf = true ∧ (Lit.int .u8 y).wf = true := by
  unfold Value.okWide at hv
  rw [Try.underlying47] at hv
  obtain ⟨cs, rfl, hsz, _⟩ := hv
  have hc2 : Try.prog.cellsOf 47 = 2 := by kernel_rfl
  have hc1 : Try.prog.cellsOf 5 = 1 := by kernel_rfl
  rw [hc2] at hsz
  obtain ⟨c0, c1, rfl⟩ := Go.Joins.array2 hsz
  obtain ⟨fuel, hf⟩ := h
  obtain ⟨xs, m, _, _, _, hl, hx⟩ := DataW.trod_array Try.underlying47 hf
  have e0 := hx 0 (by omega)
  have e1 := hx 1 (by omega)
  rw [hc1] at e0 e1
  simp only [Value.cells, Nat.zero_mul, Nat.one_mul, List.drop_zero, List.take_succ_cons, List.take_zero, List.drop_succ_cons] at e0 e1
  have g0 : ∃ z, xs[0]? = some z := ⟨_, List.getElem?_eq_getElem (by omega)⟩
  have g1 : ∃ z, xs[1]? = some z := ⟨_, List.getElem?_eq_getElem (by omega)⟩
  obtain ⟨z0, g0⟩ := g0
  obtain ⟨z1, g1⟩ := g1
  rw [g0] at e0
  rw [g1] at e1
  obtain ⟨x, ex, _, wx⟩ := DataW.trod_int Try.underlying5 e0
  obtain ⟨y, ey, _, wy⟩ := DataW.trod_int Try.underlying5 e1
  simp only [List.cons.injEq, and_true] at ex ey
  exact ⟨x, y, by rw [ex, ey], wx, wy⟩

/-- The bytes l stand at the head of block b, and may be written. -/
def Bc (w : World) (b : Nat) (l : List UInt8) : Prop := ∀ k (h : k < l.length), w.cell? ⟨b, k, none⟩ = some (.int .u8 (l[k].toNat : Int)) ∧ w.frozen? ⟨b, k, none⟩ = false
theorem Bc.set {w : World} {b : Nat} {l : List UInt8} (h : Bc w b l) (k : Nat) (hk : k < l.length) (d : UInt8) : Bc (w.setCell ⟨b, k, none⟩ (.int .u8 (d.toNat : Int))) b (l.set k d) := by
  intro j hj
  have hj' : j < l.length := by simpa using hj
  refine ⟨?_, by rw [World.frozen?_setCell]; exact (h j hj').2⟩
  by_cases hjk : j = k
  · subst hjk
    rw [World.cell?_setCell_same _ _ _ (h j hj').1]
    simp
  · rw [World.cell?_setCell_other _ _ _ _ (fun e => hjk (by simpa using (congrArg Addr.off e).symm)), (h j hj').1]
    simp [List.getElem_set_ne (Ne.symm hjk)]
theorem Bc.conv {w : World} {b : Nat} {l : List UInt8} (h : Bc w b l) (n cap : Nat) (hn : l.length = n) : (convert 25 9 (.slice (some ⟨b, 0, none⟩) n cap)).run Try.prog w = .ok (.string ⟨l.toArray⟩) w := by
  subst hn
  refine run_convert_bytes_back (P := Try.prog) _ 25 9 5 ⟨b, 0, none⟩ cap l Try.underlying25 Try.underlying5 Try.underlying9 ?_
  intro j hj
  have hadd : (⟨b, 0, none⟩ : Addr).add j = ⟨b, j, none⟩ := by unfold Addr.add; split <;> simp_all
  rw [hadd]
  exact (h j hj).1

theorem cell_of_two0 {w : World} {b : Nat} {u v : Value} {t : TypeId} (h : w.heap[b]? = some (.cells #[u, v] t (0, 0))) : w.cell? ⟨b, 0, none⟩ = some u := by simp [World.cell?, h]
theorem cell_of_two1 {w : World} {b : Nat} {u v : Value} {t : TypeId} (h : w.heap[b]? = some (.cells #[u, v] t (0, 0))) : w.cell? ⟨b, 1, none⟩ = some v := by simp [World.cell?, h]
/-- What the law makes of a text. -/
def turn (l : List UInt8) (k : Nat) (x y : UInt8) : List UInt8 :=
  if k + 1 < l.length then (l.set k (l.getD k 0 ^^^ x)).set (k + 1) (l.getD (k + 1) 0 ^^^ y) else l.set k (l.getD k 0 ^^^ x)
theorem turn_len (l : List UInt8) (k : Nat) (x y : UInt8) : (turn l k x y).length = l.length := by unfold turn; split <;> simp
theorem turn_sum (l : List UInt8) (k : Nat) (hk : k < l.length) (x y : UInt8) : (((more 0 (turn l k x y) : Nat) : Int) == ((more 0 l : Nat) : Int)) = decide (turn l k x y = l) := by
  rw [Bool.eq_iff_iff]
  simp only [beq_iff_eq, decide_eq_true_eq]
  constructor
  · intro h
    have h : more 0 (turn l k x y) = more 0 l := by omega
    unfold turn at h ⊢
    have el : l = l.take k ++ l[k] :: l.drop (k + 1) := by rw [← List.drop_eq_getElem_cons hk, List.take_append_drop]
    have eg : l.getD k 0 = l[k] := by simp [hk]
    split at h
    · rename_i h1
      rw [if_pos h1]
      have el2 : l.drop (k + 1) = l[k + 1] :: l.drop (k + 2) := List.drop_eq_getElem_cons h1
      have eg2 : l.getD (k + 1) 0 = l[k + 1] := by simp [h1]
      have es : (l.set k (l.getD k 0 ^^^ x)).set (k + 1) (l.getD (k + 1) 0 ^^^ y) = l.take k ++ (l[k] ^^^ x) :: (l[k + 1] ^^^ y) :: l.drop (k + 2) := by
        have e1 : l.set k (l[k] ^^^ x) = l.take k ++ (l[k] ^^^ x) :: l.drop (k + 1) := by rw [List.set_eq_take_append_cons_drop, if_pos hk]
        rw [eg, eg2, e1, el2, List.set_append_right _ _ (by simp; omega)]
        have e : k + 1 - (l.take k).length = 1 := by simp; omega
        rw [e]
        rfl
      rw [es] at h ⊢
      have e0 : l = l.take k ++ l[k] :: l[k + 1] :: l.drop (k + 2) := by rw [← el2]; exact el
      generalize l[k] = a at *
      generalize l[k + 1] = b at *
      generalize l.take k = p at *
      generalize l.drop (k + 2) = q at *
      rw [e0] at h ⊢
      obtain ⟨h1, h2⟩ := more_turned 0 p q _ _ _ _ h
      rw [h1, h2]
    · rename_i h1
      rw [if_neg h1]
      have es : l.set k (l.getD k 0 ^^^ x) = l.take k ++ (l[k] ^^^ x) :: l.drop (k + 1) := by
        rw [eg, List.set_eq_take_append_cons_drop, if_pos hk]
      rw [es] at h ⊢
      generalize l[k] = a at *
      generalize l.take k = p at *
      generalize l.drop (k + 1) = q at *
      rw [el] at h ⊢
      rw [more_turned1 0 p q _ _ h]
  · intro h
    rw [h]

set_option maxRecDepth 100000 in
set_option maxHeartbeats 4000000 in
theorem core (a0 : ByteArray) (a1 : Int) (x y : UInt8) (w : World) :
    Calls Try.prog 5 #[.string a0, .int .i64 a1, .agg #[.int .u8 (x.toNat : Int), .int .u8 (y.toNat : Int)]] w fun e w' => e = .returned (.bool true) ∧ Below w.heap.size w w' := by
  obtain ⟨t, ht⟩ : ∃ t, sh a0 300 = t := ⟨_, rfl⟩
  have htl := sh_le a0 300
  rw [ht] at htl
  have h1 := Lib.hid (shortT a0 300 (by omega) t ht)
  clear ht
  by_cases hz : t.size = 0
  · have hr := fun (b : Nat) (w1 : World) (hT : Tab w1 b) => right_any hT t (by omega) 0 true (by
      have e : t.data.toList = [] := by
        have : t.data.toList.length = 0 := by simpa using hz
        exact List.length_eq_zero_iff.1 this
      rw [e, nilSum]; rfl)
    have HR := Lib.hid hr
    have hz0 : ((t.size : Int) == 0) = true := by simp [hz]
    clear hr hz
    go_enter Try.func5, Try.ntmps5
    go_wp2_with (first | (go_at_call 9; refine (awake_any _).mono ?_; rintro e w1 ⟨rfl, hb⟩) | (go_at_call 12; refine (h1.out _).mono ?_; rintro e w2 ⟨rfl, rfl⟩) | (go_at_call 10; refine (new_any _).mono ?_; rintro e w2 ⟨rfl, hT, hb2⟩) | (go_at_call 14; refine (HR.out _ _ hT).mono ?_; rintro e w3 ⟨rfl, hT3, hg3⟩))
    go_ret
    exact ⟨rfl, ((Below.refl _ _).alloc (Nat.le_refl _) _).trans (((hb.mono (by simp)).trans ((below_b hb2 hg3 (Nat.le_refl _) hb2.size).mono (Nat.le_trans (by simp) hb.size))))⟩
  · have hm0 : -(t.size : Int) < a1.tmod (t.size : Int) := by
      have := Int.tmod_lt_of_pos (-a1) (b := (t.size : Int)) (by omega)
      rw [Int.neg_tmod] at this
      omega
    have hm1 : a1.tmod (t.size : Int) < (t.size : Int) := Int.tmod_lt_of_pos _ (by omega)
    obtain ⟨k, hk, hkl⟩ : ∃ k : Nat, (a1.tmod (t.size : Int) + (t.size : Int)) % (t.size : Int) = k ∧ k < t.size := by
      have h0 := Int.emod_nonneg (a1.tmod (t.size : Int) + (t.size : Int)) (b := (t.size : Int)) (by omega)
      have h2 := Int.emod_lt_of_pos (a1.tmod (t.size : Int) + (t.size : Int)) (b := (t.size : Int)) (by omega)
      obtain ⟨k, ek⟩ := Int.eq_ofNat_of_zero_le h0
      rw [ek] at h2 ⊢
      exact ⟨k, rfl, by omega⟩
    have hz0 : ((t.size : Int) == 0) = false := by rw [beq_eq_false_iff_ne]; omega
    have hz1 : (1 : Int) ≤ (t.size : Int) := by omega
    clear hz
    have hTl : t.data.toList.length = t.size := by simp
    obtain ⟨T, hTT⟩ : ∃ T, t.data.toList = T := ⟨_, rfl⟩
    rw [hTT] at hTl
    have hsum := turn_sum T k (by omega) x y
    have hXl := turn_len T k x y
    obtain ⟨X, hX⟩ : ∃ X, turn T k x y = X := ⟨_, rfl⟩
    rw [hX] at hsum hXl
    obtain ⟨r, hr⟩ : ∃ r : Bool, decide (X = T) = r := ⟨_, rfl⟩
    rw [hr] at hsum
    have hstr : (((⟨X.toArray⟩ : ByteArray).toList == t.toList)) = r := by
      rw [ByteArray.toList_eq, ByteArray.toList_eq, hTT, ← hr]
      rw [Bool.eq_iff_iff]; simp
    have hstr2 : (X == t.toList) = r := by rw [← hstr, ByteArray.toList_eq ⟨X.toArray⟩]
    obtain ⟨SX, hSX⟩ : ∃ v, more 0 X = v := ⟨_, rfl⟩
    obtain ⟨ST, hST⟩ : ∃ v, more 0 T = v := ⟨_, rfl⟩
    rw [hSX, hST] at hsum
    have c1 := fun (b : Nat) (w1 : World) (hT : Tab w1 b) => sum_any hT ⟨X.toArray⟩ (by show X.toArray.size ≤ _; simp; omega)
    have c2 := fun (b : Nat) (w1 : World) (hT : Tab w1 b) => sum_any hT t (by omega)
    have c3 := fun (b : Nat) (w1 : World) (hT : Tab w1 b) => right_any hT ⟨X.toArray⟩ (by show X.toArray.size ≤ _; simp; omega) ST r (by rw [show (ByteArray.mk X.toArray).data.toList = X from by simp, hSX]; exact hsum)
    rw [show (ByteArray.mk X.toArray).data.toList = X from by simp, hSX] at c1
    rw [hTT, hST] at c2
    have C1 := Lib.hid c1; have C2 := Lib.hid c2; have C3 := Lib.hid c3
    have HX := Lib.hid hX; have HXL := Lib.hid hXl; have HTL := Lib.hid hTl; have HTT := Lib.hid hTT
    clear c1 c2 c3 hX hSX hST hr hXl hTl hTT
    have tok1 : True := trivial
    have tok2 : True := trivial
    go_enter Try.func5, Try.ntmps5
    go_wp2_with (first | (go_at_call 9; refine (awake_any _).mono ?_; rintro e w1 ⟨rfl, hb⟩) | (go_at_call 12; refine (h1.out _).mono ?_; rintro e w2 ⟨rfl, rfl⟩))
    refine (new_any _).mono ?_
    rintro e w2 ⟨rfl, hT, hb2⟩
    have hcv := Lib.run_convert_string_bytes (P := Try.prog) w2 9 25 5 t Try.underlying9 Try.underlying25 Try.underlying5
    have hB0 : (Lib.bytesWorld w2 5 t).heap[w.heap.size]? = some (.cells #[.int .u8 (x.toNat : Int), .int .u8 (y.toNat : Int)] 47 (0, 0)) := by
      have hs1 : w.heap.size < w1.heap.size := Nat.lt_of_lt_of_le (by simp) hb.size
      rw [Lib.bytesWorld_at_old _ _ _ _ (Nat.lt_of_lt_of_le hs1 hb2.size), hb2.block _ hs1, hb.block _ (by simp)]
      exact heap_alloc_new _ _
    have hBc : Bc (Lib.bytesWorld w2 5 t) w2.heap.size T := by
      intro j hj
      have hjt : j < t.size := by have := HTL.out; omega
      refine ⟨?_, ?_⟩
      · rw [Lib.bytesWorld_cell w2 5 t j hjt, HTT.out]
        simp [hj]
      · have hle : j < (Lib.bytesCells w2 5 t).size := by simp [Lib.bytesCells]; omega
        simp [World.frozen?, Lib.bytesWorld_at_new]
        omega
    have hTb : Tab (Lib.bytesWorld w2 5 t) w1.heap.size := Tab_keep hT (Lib.bytesWorld_at_old _ _ _ _ hT.lt)
    have hbb : Below w1.heap.size w1 (Lib.bytesWorld w2 5 t) := hb2.trans ⟨rfl, rfl, rfl, by rw [Lib.bytesWorld_size]; omega, fun j hj => Lib.bytesWorld_at_old _ _ _ _ (Nat.lt_trans hj hT.lt)⟩
    generalize Lib.bytesWorld w2 5 t = w3 at *
    generalize grownCap w2 t.size 0 5 = cap at *
    have hx0 := cell_of_two0 hB0
    have hy0 := cell_of_two1 hB0
    have HNE := Lib.hid (Nat.ne_of_lt hT.lt)
    have HLE := Lib.hid (Nat.le_of_lt hT.lt)
    have hs1 : Hid (w.heap.size ≠ w2.heap.size) := by show w.heap.size ≠ w2.heap.size; have := hb.size; have := hb2.size; simp at *; omega
    clear hT hb2 hB0
    have hkT : k < T.length := by have := HTL.out; omega
    have hkc := (hBc k hkT).1
    have hkf := (hBc k hkT).2
    have hkn : (k : Int) < (t.size : Int) := by omega
    have hxk := u8_xor_nat (T[k].toNat) (x.toNat) (UInt8.toNat_lt _) (UInt8.toNat_lt _)
    have hS : Bc (w3.setCell ⟨w2.heap.size, k, none⟩ (.int .u8 ((T[k].toNat ^^^ x.toNat : Nat) : Int))).drew w2.heap.size (T.set k (T[k] ^^^ x)) := by
      have h := hBc.set k hkT (T[k] ^^^ x)
      rw [UInt8.toNat_xor] at h
      exact h
    have hST : (T.set k (T[k] ^^^ x)).length = t.size := by rw [List.length_set]; exact HTL.out
    have hTS : Tab (w3.setCell ⟨w2.heap.size, k, none⟩ (.int .u8 ((T[k].toNat ^^^ x.toNat : Nat) : Int))).drew w1.heap.size := Tab_keep hTb (heap_setCell_other _ _ _ _ HNE.out)
    have hbS : Below w1.heap.size w1 (w3.setCell ⟨w2.heap.size, k, none⟩ (.int .u8 ((T[k].toNat ^^^ x.toNat : Nat) : Int))).drew := (hbb.setCell HLE.out _).drew
    have hyS : (w3.setCell ⟨w2.heap.size, k, none⟩ (.int .u8 ((T[k].toNat ^^^ x.toNat : Nat) : Int))).drew.cell? ⟨w.heap.size, 1, none⟩ = some (.int .u8 (y.toNat : Int)) := by
      show (w3.setCell ⟨w2.heap.size, k, none⟩ (.int .u8 ((T[k].toNat ^^^ x.toNat : Nat) : Int))).cell? ⟨w.heap.size, 1, none⟩ = some (.int .u8 (y.toNat : Int))
      rw [World.cell?_setCell_other _ _ _ _ (fun e => hs1.out (congrArg Addr.block e).symm)]
      exact hy0
    by_cases hk1 : k + 1 < t.size
    · have hk1n : (k : Int) + 1 < (t.size : Int) := by omega
      go_wp2
      simp only [hk] at *
      go_region
      generalize (w3.setCell ⟨w2.heap.size, k, none⟩ (.int .u8 ((T[k].toNat ^^^ x.toNat : Nat) : Int))).drew = w4 at *
      clear hkc hkf hxk hx0 hy0 hBc hTb hbb hcv
      have hk1S : k + 1 < (T.set k (T[k] ^^^ x)).length := by omega
      have hk1T : k + 1 < T.length := by have := HTL.out; omega
      have hkc2 := (hS (k + 1) hk1S).1
      have hkf2 := (hS (k + 1) hk1S).2
      rw [List.getElem_set_ne (by omega)] at hkc2
      have hyk := u8_xor_nat (T[k + 1].toNat) (y.toNat) (UInt8.toNat_lt _) (UInt8.toNat_lt _)
      have hBX : Bc (w4.setCell ⟨w2.heap.size, k + 1, none⟩ (.int .u8 ((T[k + 1].toNat ^^^ y.toNat : Nat) : Int))).drew w2.heap.size X := by
        have h := hS.set (k + 1) hk1S (T[k + 1] ^^^ y)
        rw [UInt8.toNat_xor] at h
        have eX : (T.set k (T[k] ^^^ x)).set (k + 1) (T[k + 1] ^^^ y) = X := by
          rw [← HX.out]; unfold turn; rw [if_pos hk1T]; simp [hkT, hk1T]
        rw [eX] at h
        exact h
      have hTX : Tab (w4.setCell ⟨w2.heap.size, k + 1, none⟩ (.int .u8 ((T[k + 1].toNat ^^^ y.toNat : Nat) : Int))).drew w1.heap.size := Tab_keep hTS (heap_setCell_other _ _ _ _ HNE.out)
      have hbX : Below w1.heap.size w1 (w4.setCell ⟨w2.heap.size, k + 1, none⟩ (.int .u8 ((T[k + 1].toNat ^^^ y.toNat : Nat) : Int))).drew := (hbS.setCell HLE.out _).drew
      go_wp2
      go_region
      generalize (w4.setCell ⟨w2.heap.size, k + 1, none⟩ (.int .u8 ((T[k + 1].toNat ^^^ y.toNat : Nat) : Int))).drew = w5 at *
      have hconv := hBX.conv t.size cap (by have := HXL.out; have := HTL.out; omega)
      clear hkc2 hkf2 hyk hS hST hTS hbS hyS
      go_wp2_with (first
        | (go_at_call 11; have _t := tok1; refine (C1.out _ _ ?_).mono ?_; exact Tab_keep hTX rfl; rintro e w6 ⟨rfl, hT6, hg6⟩; have hb6 := below_b hbX hg6 (Nat.le_refl _) hbX.size; clear tok1 hg6)
        | (go_at_call 11; have _t := tok2; refine (C2.out _ _ ?_).mono ?_; exact (.inr hT6); rintro e w7 ⟨rfl, hT7, hg7⟩; have hb7 := below_b hb6 hg7 (Nat.le_refl _) hb6.size; clear tok2 hg7)
        | (go_at_call 11; refine (C2.out _ _ ?_).mono ?_; exact (.inr hT7); rintro e w8 ⟨rfl, hT8, hg8⟩; have hb8 := below_b hb7 hg8 (Nat.le_refl _) hb7.size; clear hg8)
        | (go_at_call 14; refine (C3.out _ _ ?_).mono ?_; exact (.inr hT8); rintro e w9 ⟨rfl, hT9, hg9⟩; have hb9 := below_b hb8 hg9 (Nat.le_refl _) hb8.size; clear hg9))
      go_ret
      exact ⟨rfl, ((Below.refl _ _).alloc (Nat.le_refl _) _).trans ((hb.mono (by simp)).trans (hb9.mono (Nat.le_trans (by simp) hb.size)))⟩
    · have hk1n : ¬ (k : Int) + 1 < (t.size : Int) := by omega
      go_wp2
      simp only [hk] at *
      have hBX : Bc (w3.setCell ⟨w2.heap.size, k, none⟩ (.int .u8 ((T[k].toNat ^^^ x.toNat : Nat) : Int))).drew w2.heap.size X := by
        have eX : T.set k (T[k] ^^^ x) = X := by
          have : ¬ k + 1 < T.length := by have := HTL.out; omega
          rw [← HX.out]; unfold turn; rw [if_neg this]; simp [hkT]
        rw [← eX]; exact hS
      have hconv := hBX.conv t.size cap (by have := HXL.out; have := HTL.out; omega)
      go_region
      generalize (w3.setCell ⟨w2.heap.size, k, none⟩ (.int .u8 ((T[k].toNat ^^^ x.toNat : Nat) : Int))).drew = w5 at *
      clear hkc hkf hxk hx0 hy0 hBc hTb hbb hcv
      have hTX := hTS
      have hbX := hbS
      go_wp2_with (first
        | (go_at_call 11; have _t := tok1; refine (C1.out _ _ ?_).mono ?_; exact Tab_keep hTX rfl; rintro e w6 ⟨rfl, hT6, hg6⟩; have hb6 := below_b hbX hg6 (Nat.le_refl _) hbX.size; clear tok1 hg6)
        | (go_at_call 11; have _t := tok2; refine (C2.out _ _ ?_).mono ?_; exact (.inr hT6); rintro e w7 ⟨rfl, hT7, hg7⟩; have hb7 := below_b hb6 hg7 (Nat.le_refl _) hb6.size; clear tok2 hg7)
        | (go_at_call 11; refine (C2.out _ _ ?_).mono ?_; exact (.inr hT7); rintro e w8 ⟨rfl, hT8, hg8⟩; have hb8 := below_b hb7 hg8 (Nat.le_refl _) hb7.size; clear hg8)
        | (go_at_call 14; refine (C3.out _ _ ?_).mono ?_; exact (.inr hT8); rintro e w9 ⟨rfl, hT9, hg9⟩; have hb9 := below_b hb8 hg9 (Nat.le_refl _) hb8.size; clear hg9))
      go_ret
      exact ⟨rfl, ((Below.refl _ _).alloc (Nat.le_refl _) _).trans ((hb.mono (by simp)).trans (hb9.mono (Nat.le_trans (by simp) hb.size)))⟩

theorem walk (a0 : ByteArray) (a1 x y : Int) (_w0 : a0.size ≤ maxLen) (_w1 : (Lit.int .i64 a1).wf = true) (wx : (Lit.int .u8 x).wf = true) (wy : (Lit.int .u8 y).wf = true) (w : World) :
    Calls Try.prog 5 #[.string a0, .int .i64 a1, .agg #[.int .u8 x, .int .u8 y]] w fun e w' => e = .returned (.bool true) ∧ Below w.heap.size w w' := by
  have bx := bounds_u8 wx
  have bY := bounds_u8 wy
  have ex : x = ((UInt8.ofNat x.toNat).toNat : Int) := by simp; omega
  have ey : y = ((UInt8.ofNat y.toNat).toNat : Int) := by simp; omega
  rw [ex, ey]
  exact core a0 a1 _ _ w

/-! ### THE ROW's STEP: WRITTEN OUT: LEAVE IT -/
set_option maxRecDepth 100000 in
theorem lifted (os : Os) (started : os.Started) (H : Type) (enc : TypeId × Value → H) :
    ReturnsInHanded {} Try.checked os 5 .any (Rows.crcTurnedSpec.pre6 enc Try.prog Try.f5 Rows.crcTurnedRow.domain false) (Rows.crcTurnedSpec.post enc Try.prog Try.f5 false true false false) := by
  refine returnsInHanded_of_change (C := Try.checked) own started (by kernel_rfl) Try.func5
    (ChangeSpec.witness6 (enc := enc) (C := Try.checked) false ⟨#[], #[.string ByteArray.empty, .int .i64 0, .agg #[.int .u8 0, .int .u8 0]], []⟩ 8 (by kernel_rfl) (by kernel_rfl) (by kernel_rfl) (by kernel_rfl)) ?_
  intro W base args ds gs before hval0 hW hcnd _
  have hval : ∀ (j : Nat) t v, Try.f5.params[j]? = some t → args[j]? = some v → Value.okWide Try.prog W .any base t v := hval0
  have hW' := hW
  obtain ⟨p, q, hA0, hV, rfl, hfz, hnd⟩ := hW
  have hA : DataW.TrodAll enc Try.prog W 0 (fun _ => true) true Try.f5.params.toList args.toList ds p := hA0
  rw [Try.params5] at hA hval
  obtain ⟨v0, vs0, d0, ds0, p0, q0, hargs, rfl, rfl, h0, r0⟩ := trodAll_cons hA
  obtain ⟨v1, vs1, d1, ds1, p1, q1, rfl, rfl, rfl, h1, r1⟩ := trodAll_cons r0
  obtain ⟨v2, vs2, d2, ds2, p2, q2, rfl, rfl, rfl, h2, r2⟩ := trodAll_cons r1
  obtain ⟨rfl, rfl, rfl⟩ := trodAll_nil r2
  obtain rfl : args = #[v0, v1, v2] := by cases args; simp_all
  obtain ⟨rfl, rfl⟩ := trodVars_none hV
  obtain ⟨a0, rfl, rfl, rfl, w0⟩ := open_string Try.underlying9 (hval 0 9 v0 rfl rfl) h0
  obtain ⟨a1, rfl, rfl, rfl, w1⟩ := open_int Try.underlying3 (hval 1 3 v1 rfl rfl) h1
  obtain ⟨x, y, rfl, wx, wy⟩ := open_pair (hval 2 47 v2 rfl rfl) h2
  have k2 := h2
  have lt2 : ∀ z ∈ p2, z.block < W.heap.size := by obtain ⟨m, hm⟩ := k2; exact DataW.trod_lt m _ _ _ hm
  clear hA0 hval0
  refine (walk a0 a1 x y w0 w1 wx wy W).mono fun e W' ⟨he, bel⟩ => ?_
  subst he
  exact ⟨_, rfl, _, _, _, [], _, [], hW', trodAll_mk1 (shut_bool Try.underlying4 _), (trodAll_cons_mk (shut_string Try.underlying9 w0) (trodAll_cons_mk (shut_int Try.underlying3 w1) (trodAll_cons_mk (Below.trod laidOut (by kernel_rfl) (of_decide_eq_true (by kernel_rfl)) k2 bel lt2) trodAll_mk0))), rfl, bel.frame _, fun h => by cases h⟩

theorem over : Rows.crcTurnedRow.holds Try.pinned (OpenSpec.ofChange Rows.crcTurnedSpec) :=
  OpenClaim.holds_of_wide 5 Try.f5 rfl rfl rfl rfl rfl rfl rfl ⟨rfl, rfl, rfl, rfl, rfl⟩ rfl rfl rfl rfl rfl (by kernel_rfl) Try.func5 (by kernel_rfl)
    (of_decide_eq_true (by kernel_rfl)) (by unfold Func.isWrapper; first | (rw [if_pos (by decide +kernel)]; kernel_rfl) | (rw [if_neg (by decide +kernel)]; exact ⟨rfl, rfl⟩))
    (fun os started H enc _ => lifted os started H enc)

/-- ████ THE STATEMENT ████ -/
theorem proved : Rows.CrcTurnedSaid :=
  over
#print axioms proved
end Go.Proofs.Ytjdaeaanheidiaa.crcTurned
