/-
  CrcLinear: for every three texts the law answers true: of three texts of one length the sums of all turned together are that of the three turned together. No condition.
-/
import Derived.Test.YtjdaeaanheidiaaRef
import Derived.Deep.RegionHeld3
import Derived.WalkKit
import Derived.ProofKit
import Derived.OpenShut
import Derived.ShutString
namespace Go.Proofs.Ytjdaeaanheidiaa.crcLinear
open Crc Go.ChangeShapes Go.WideShapes Go.ChangeAt Go.RowKit
open Go.ChangeMaps (open_string shut_string)
set_option linter.unusedVariables false      -- a walk need not use every 'w<i>' (that an integer argument fits its kind)

theorem own : ownKnob Try.prog.godebug = none := by kernel_rfl

/-! ### STEP 1: THE WALK: the Go text returns true. 'Below w.heap.size w w'': the world has at most new blocks (Derived/RowKit3.lean). Part the cases AHEAD of 'go_enter' where a test parts the walk; take each callee by a contract of your own. -/
theorem Tab_keep {w w' : World} {b : Nat} (h : Tab w b) (e : w'.heap[b]? = w.heap[b]?) : Tab w' b := by
  rcases h with ⟨l, h⟩ | h
  · exact .inl ⟨l, h.keep e⟩
  · exact .inr (h.keep e)
theorem _root_.Go.Proofs.Ytjdaeaanheidiaa.Tab.lt {w : World} {b : Nat} (h : Tab w b) : b < w.heap.size := by
  rcases h with ⟨l, h⟩ | h
  · exact h.lt
  · exact h.lt
theorem nat_of (a : Int) (h : (Lit.int .u32 a).wf = true) : ∃ n : Nat, a = (n : Int) ∧ n < 4294967296 := by
  have := bounds_u32 h
  exact ⟨a.toNat, by omega, by omega⟩
theorem sh_le (s : ByteArray) (n : Nat) : (sh s n).size ≤ n := by
  unfold sh
  split
  · simp [ByteArray.size_extract]; omega
  · omega
theorem shortT (s : ByteArray) (n : Nat) (hn : n ≤ 1000) (t : ByteArray) (ht : sh s n = t) (w : World) :
    Calls Try.prog 12 #[.string s, .int .i64 n] w fun e w' => e = .returned (.string t) ∧ w = w' := by
  subst ht
  exact short_any s n hn w

/-- Block b holds the bytes l. -/
def By (w : World) (b : Nat) (l : List UInt8) : Prop := ∃ T, w.heap[b]? = some (.cells (l.map fun c => Value.int .u8 (c.toNat : Int)).toArray T (0, 0))
theorem By.keep {w w' : World} {b : Nat} {l : List UInt8} (h : By w b l) (e : w'.heap[b]? = w.heap[b]?) : By w' b l := by
  obtain ⟨T, hb⟩ := h
  exact ⟨T, e.trans hb⟩
theorem By.lt {w : World} {b : Nat} {l : List UInt8} (h : By w b l) : b < w.heap.size := by
  obtain ⟨_, hb⟩ := h
  exact (Array.getElem?_eq_some_iff.1 hb).1
theorem By.cell {w : World} {b : Nat} {l : List UInt8} (h : By w b l) {k : Nat} (hk : k < l.length) : w.cell? ⟨b, k, none⟩ = some (.int .u8 (l[k].toNat : Int)) := by
  obtain ⟨T, hb⟩ := h
  simp [World.cell?, hb, hk]
theorem By.free {w : World} {b : Nat} {l : List UInt8} (h : By w b l) (k : Nat) : w.frozen? ⟨b, k, none⟩ = false := by
  obtain ⟨T, hb⟩ := h
  simp [World.frozen?, hb]
theorem By.set {w : World} {b : Nat} {l : List UInt8} (h : By w b l) (k : Nat) (d : UInt8) : By (w.setCell ⟨b, k, none⟩ (.int .u8 (d.toNat : Int))) b (l.set k d) := by
  obtain ⟨T, hb⟩ := h
  refine ⟨T, ?_⟩
  rw [heap_setCell_same w b k _ T _ hb]
  simp [List.map_set]
theorem By.conv {w : World} {b : Nat} {l : List UInt8} (h : By w b l) (n cap : Nat) (hn : l.length = n) : (convert 25 9 (.slice (some ⟨b, 0, none⟩) n cap)).run Try.prog w = .ok (.string ⟨l.toArray⟩) w := by
  subst hn
  refine run_convert_bytes_back (P := Try.prog) _ 25 9 5 ⟨b, 0, none⟩ cap l Try.underlying25 Try.underlying5 Try.underlying9 ?_
  intro j hj
  have hadd : (⟨b, 0, none⟩ : Addr).add j = ⟨b, j, none⟩ := by unfold Addr.add; split <;> simp_all
  rw [hadd]
  exact h.cell hj
theorem info5 : (Try.prog.info? 5).map (fun i => (i.zero, i.size, i.bytes)) = some (some (.int .u8 0), 1, 1) := by kernel_rfl
theorem made_bytes (n : Nat) : madeCells #[Value.int .u8 0] n = ((List.replicate n (0 : UInt8)).map fun c => Value.int .u8 (c.toNat : Int)).toArray := by
  apply Array.ext
  · simp [madeCells]
  · intro i h1 h2
    simp [madeCells, Nat.mod_one]
theorem wpList_make_bytes (w : World) {ops : Array Oper} {rest : List Oper} {o : Oper} {a : Act} {Q : Exit → Act → World → Prop}
    (hg : o.guard = none) (l c : Operand) (hop : o.op = Op.makeSlice 25 l c) (n : Nat) (hn : n ≤ 1000) (hl : a.eval l = .int .i64 n) (hc : a.eval c = .int .i64 n)
    (hK : ∀ w', By w' w.heap.size (List.replicate n 0) → Below w.heap.size w w' → wpList Try.prog ops Q rest (a.put o.dst (.slice (some ⟨w.heap.size, 0, none⟩) n n)) w') :
    wpList Try.prog ops Q (o :: rest) a w := by
  obtain ⟨i0, hi, hz0, hz1, hz2⟩ := info_parts info5
  refine wpList_plain hg fun K hK' => ?_
  have hrun := run_make (P := Try.prog) w 25 5 i0 (.int .u8 0) Try.underlying25 hi hz0 .i64 .i64 (n : Int) (n : Int) (by omega) (Int.le_refl _) (by rw [hz2]; omega) (by omega)
  rw [hz1] at hrun
  simp only [Int.toNat_natCast, Nat.mul_one, Value.cells] at hrun
  rw [made_bytes] at hrun
  unfold Oper.wp
  simp [execOp, hop, hl, hc, hrun, Result.andThen]
  refine hK' _ _ (hK _ ⟨5, ?_⟩ ((Below.refl _ _).alloc (Nat.le_refl _) _))
  rw [heap_alloc_new]
  simp
theorem tri_len : ∀ (l m k : List UInt8), l.length = m.length → m.length = k.length → (tri l m k).length = l.length
  | [], [], [], _, _ => rfl
  | a :: l, b :: m, c :: k, h1, h2 => by simp [tri, tri_len l m k (by simpa using h1) (by simpa using h2)]
theorem tri_get : ∀ (l m k : List UInt8) (i : Nat) (h1 : l.length = m.length) (h2 : m.length = k.length) (hi : i < l.length), (tri l m k)[i]? = some (l[i] ^^^ m[i]'(by omega) ^^^ k[i]'(by omega))
  | a :: l, b :: m, c :: k, 0, _, _, _ => rfl
  | a :: l, b :: m, c :: k, i + 1, h1, h2, hi => by
    have := tri_get l m k i (by simpa using h1) (by simpa using h2) (by simpa using hi)
    simpa [tri] using this

set_option maxRecDepth 100000 in
set_option maxHeartbeats 4000000 in
theorem core (a0 a1 a2 : ByteArray) (hs0 : a0.size ≤ 9223372036854775807) (hs1 : a1.size ≤ 9223372036854775807) (hs2 : a2.size ≤ 9223372036854775807) (w : World) :
    Calls Try.prog 3 #[.string a0, .string a1, .string a2] w fun e w' => e = .returned (.bool true) ∧ Below w.heap.size w w' := by
  obtain ⟨n, hn0, hn1, hn2, hn3, hmin⟩ : ∃ n : Nat, n ≤ a0.size ∧ n ≤ a1.size ∧ n ≤ a2.size ∧ n ≤ 100 ∧ ∀ (ts : Array TypeId) (t : TypeId) (w : World), (Builtin.min_ ts t #[.int .i64 (a0.size : Int), .int .i64 (a1.size : Int), .int .i64 (a2.size : Int), .int .i64 100]).run Try.prog w = .ok (.int .i64 (n : Int)) w := by
    refine ⟨min (min (min a0.size a1.size) a2.size) 100, by omega, by omega, by omega, by omega, fun ts t w => ?_⟩
    simp [Builtin.min_, Builtin.min2]
    repeat' split
    all_goals omega
  have hD1 : (a0.data.toList.take n).length = n := by simp; omega
  have hD2 : (a1.data.toList.take n).length = n := by simp; omega
  have hD3 : (a2.data.toList.take n).length = n := by simp; omega
  obtain ⟨D, hD⟩ : ∃ D, tri (a0.data.toList.take n) (a1.data.toList.take n) (a2.data.toList.take n) = D := ⟨_, rfl⟩
  have hDl : D.length = n := by rw [← hD, tri_len _ _ _ (by omega) (by omega)]; exact hD1
  have hm3 := more3 0 _ _ _ (hD1.trans hD2.symm) (hD2.trans hD3.symm)
  rw [hD] at hm3
  have HM := Lib.hid hm3
  have HD := Lib.hid hD
  have HDL := Lib.hid hDl
  clear hm3 hD hDl hD1 hD2 hD3
  go_enter Try.func3, Try.ntmps3
  go_wp2_with (first | (go_at_call 9; refine (awake_any _).mono ?_; rintro e w1 ⟨rfl, hb⟩) | (go_at_call 10; refine (new_any _).mono ?_; rintro e w2 ⟨rfl, hT, hb2⟩) | (at_make; refine wpList_make_bytes _ rfl _ _ rfl n (by omega) rfl rfl ?_; intro w3 hN hb3))
  have hlt2 := hT.lt
  have hT3 : Tab w3 w1.heap.size := Tab_keep hT (hb3.block _ hlt2)
  have hb4 : Below w1.heap.size w1 w3 := hb2.trans (hb3.mono (Nat.le_of_lt hlt2))
  have HNE := Lib.hid (Nat.ne_of_lt hlt2)
  have HLE := Lib.hid (Nat.le_of_lt hlt2)
  clear hT hb2 hb3 hlt2 hmin
  go_loopw [11] (fun i wr => ∃ (k : Nat) (l : List UInt8), k ≤ n ∧ i = .int .i64 k ∧ By wr w2.heap.size l ∧ Hid (l.length = n) ∧ Hid (l.take k = D.take k) ∧ Tab wr w1.heap.size ∧ Below w1.heap.size w1 wr) (fun i _ => n - (intOf i).toNat)
  case atStart => exact ⟨0, List.replicate n 0, Nat.zero_le _, rfl, hN, List.length_replicate, rfl, hT3, hb4⟩
  case round =>
    obtain ⟨k, l, hk, rfl, hNr, hll, hlk, hTr, hbr⟩ := hrel
    by_cases hlt : k < n
    · obtain ⟨ca, hca⟩ : ∃ c, a0[k]'(by omega) = c := ⟨_, rfl⟩
      obtain ⟨cb, hcb⟩ : ∃ c, a1[k]'(by omega) = c := ⟨_, rfl⟩
      obtain ⟨cc, hcc⟩ : ∃ c, a2[k]'(by omega) = c := ⟨_, rfl⟩
      have hkl : k < l.length := by have := hll.out; omega
      have hcell := hNr.cell hkl
      have hfree := hNr.free k
      obtain ⟨old, hold⟩ : ∃ v : Value, (Value.int .u8 (l[k].toNat : Int)) = v := ⟨_, rfl⟩
      rw [hold] at hcell
      clear hold
      have hx1 := u8_xor_nat ca.toNat cb.toNat ca.toNat_lt cb.toNat_lt
      rw [← UInt8.toNat_xor] at hx1
      have hx2 := u8_xor_nat (ca ^^^ cb).toNat cc.toNat (ca ^^^ cb).toNat_lt cc.toNat_lt
      rw [← UInt8.toNat_xor] at hx2
      obtain ⟨cd, hcd⟩ : ∃ c, ca ^^^ cb = c := ⟨_, rfl⟩
      obtain ⟨d, hd⟩ : ∃ c, ca ^^^ cb ^^^ cc = c := ⟨_, rfl⟩
      rw [hd] at hx2
      rw [hcd] at hx1 hx2
      have hDk : Hid (D[k]? = some d) := by
        show D[k]? = some d
        rw [← HD.out, tri_get _ _ _ k (by simp; omega) (by simp; omega) (by simp; omega), ← hd, ← hca, ← hcb, ← hcc]
        simp
        rfl
      have hlk2 : Hid ((l.set k d).take (k + 1) = D.take (k + 1)) := by
        show (l.set k d).take (k + 1) = D.take (k + 1)
        rw [List.take_add_one, List.take_add_one, hDk.out, List.getElem?_set_self hkl, List.take_set_of_le (Nat.le_refl _), hlk.out]
      have ha0 : (k : Int) < (a0.size : Int) := by omega
      have ha1 : (k : Int) < (a1.size : Int) := by omega
      have ha2 : (k : Int) < (a2.size : Int) := by omega
      have hkn : (k : Int) < (n : Int) := by omega
      clear hcd hd
      go_wp2
      go_region
      all_goals
        go_wp2
        go_roundw
        case rel =>
          refine ⟨k + 1, l.set k d, by omega, by go_num, ?_, (by show (l.set k d).length = n; rw [List.length_set]; exact hll.out), hlk2, ?_, ?_⟩
          · exact (hNr.set k d).keep rfl
          · exact Tab_keep hTr (heap_setCell_other _ _ _ _ HNE.out)
          · exact (hbr.setCell HLE.out _).trans ⟨rfl, rfl, rfl, Nat.le_refl _, fun _ _ => rfl⟩
        case measure => simp [intOf]; omega
    · obtain rfl : k = n := by omega
      obtain rfl : l = D := by
        have h1 := hlk.out
        rwa [List.take_of_length_le (by have := hll.out; omega), List.take_of_length_le (by have := HDL.out; omega)] at h1
      have hconv := hNr.conv k k hll.out
      have e0 : (a0.extract 0 k).data.toList = a0.data.toList.take k := by simp
      have e1 : (a1.extract 0 k).data.toList = a1.data.toList.take k := by simp
      have e2 : (a2.extract 0 k).data.toList = a2.data.toList.take k := by simp
      obtain ⟨A, hA⟩ : ∃ x, more 0 (a0.data.toList.take k) = x := ⟨_, rfl⟩
      obtain ⟨B, hB⟩ : ∃ x, more 0 (a1.data.toList.take k) = x := ⟨_, rfl⟩
      obtain ⟨C, hC⟩ : ∃ x, more 0 (a2.data.toList.take k) = x := ⟨_, rfl⟩
      have lA := more_lt 0 (a0.data.toList.take k)
      have lB := more_lt 0 (a1.data.toList.take k)
      have lC := more_lt 0 (a2.data.toList.take k)
      have hX := HM.out
      rw [hA, hB, hC] at hX
      rw [hA] at lA
      rw [hB] at lB
      rw [hC] at lC
      have c0 := fun (b : Nat) (w1 : World) (hT : Tab w1 b) => sum_any hT ⟨l.toArray⟩ (by show l.toArray.size ≤ _; have := hll.out; simp; omega)
      have c1 := fun (b : Nat) (w1 : World) (hT : Tab w1 b) => sum_any hT (a0.extract 0 k) (by rw [ByteArray.size_extract]; omega)
      have c2 := fun (b : Nat) (w1 : World) (hT : Tab w1 b) => sum_any hT (a1.extract 0 k) (by rw [ByteArray.size_extract]; omega)
      have c3 := fun (b : Nat) (w1 : World) (hT : Tab w1 b) => sum_any hT (a2.extract 0 k) (by rw [ByteArray.size_extract]; omega)
      rw [show (ByteArray.mk l.toArray).data.toList = l from by simp, hX] at c0
      rw [e0, hA] at c1
      rw [e1, hB] at c2
      rw [e2, hC] at c3
      have x1 := u32_xor_nat A B lA lB
      have x2 := u32_xor_nat (A ^^^ B) C (Nat.xor_lt_two_pow (n := 32) lA lB) lC
      obtain ⟨AB, hAB⟩ : ∃ x, A ^^^ B = x := ⟨_, rfl⟩
      rw [hAB] at x1 x2 c0
      obtain ⟨X, hXX⟩ : ∃ x, AB ^^^ C = x := ⟨_, rfl⟩
      rw [hXX] at x2 c0
      have C0 := Lib.hid c0; have C1 := Lib.hid c1; have C2 := Lib.hid c2; have C3 := Lib.hid c3
      clear c0 c1 c2 c3 e0 e1 e2 hA hB hC hX hAB hXX
      have tok1 : True := trivial
      have tok2 : True := trivial
      have tok3 : True := trivial
      have hk0 : (0 : Int) ≤ (k : Int) := by omega
      have ha0 : (k : Int) ≤ (a0.size : Int) := by omega
      have ha1 : (k : Int) ≤ (a1.size : Int) := by omega
      have ha2 : (k : Int) ≤ (a2.size : Int) := by omega
      have hNd : By wr.drew w2.heap.size l := hNr
      go_wp2_with fail
      go_region_held3 (fun x => (convert 25 9 (.slice (some ⟨w2.heap.size, 0, none⟩) k k)).run Try.prog x = .ok (.string ⟨l.toArray⟩) x) (first | assumption | exact hNd.conv k k hll.out | exact hN7.conv k k hll.out | exact hN6.conv k k hll.out | exact hN5.conv k k hll.out | exact hN4.conv k k hll.out) (first
        | (go_at_call 11; have _t := tok1; refine (C0.out _ _ ?_).mono ?_; exact Tab_keep hTr rfl; rintro e w4 ⟨rfl, hT4, hg4⟩; have hN4 := hNr.keep (w' := w4) (hg4.block _ hNr.lt (fun e => HNE.out (Option.some.inj e).symm)); have hb5 := below_b (hbr.drew) hg4 (Nat.le_refl _) hbr.size; clear tok1 hg4)
        | (go_at_call 11; have _t := tok2; refine (C1.out _ _ ?_).mono ?_; exact (.inr hT4); rintro e w5 ⟨rfl, hT5, hg5⟩; have hN5 := hN4.keep (w' := w5) (hg5.block _ hN4.lt (fun e => HNE.out (Option.some.inj e).symm)); have hb6 := below_b hb5 hg5 (Nat.le_refl _) hb5.size; clear tok2 hg5)
        | (go_at_call 11; have _t := tok3; refine (C2.out _ _ ?_).mono ?_; exact (.inr hT5); rintro e w6 ⟨rfl, hT6, hg6⟩; have hN6 := hN5.keep (w' := w6) (hg6.block _ hN5.lt (fun e => HNE.out (Option.some.inj e).symm)); have hb7 := below_b hb6 hg6 (Nat.le_refl _) hb6.size; clear tok3 hg6)
        | (go_at_call 11; refine (C3.out _ _ ?_).mono ?_; exact (.inr hT6); rintro e w7 ⟨rfl, hT7, hg7⟩; have hN7 := hN6.keep (w' := w7) (hg7.block _ hN6.lt (fun e => HNE.out (Option.some.inj e).symm)); have hb8 := below_b hb7 hg7 (Nat.le_refl _) hb7.size; clear hg7))
      all_goals
        go_wp2_with fail
        go_ret
        exact ⟨rfl, hb.trans (hb8.mono hb.size)⟩

theorem walk (a0 : ByteArray) (a1 : ByteArray) (a2 : ByteArray) (w0 : a0.size ≤ maxLen) (w1 : a1.size ≤ maxLen) (w2 : a2.size ≤ maxLen) (w : World) :
    Calls Try.prog 3 #[.string a0, .string a1, .string a2] w fun e w' => e = .returned (.bool true) ∧ Below w.heap.size w w' := by
  unfold maxLen at w0 w1 w2
  exact core a0 a1 a2 (by omega) (by omega) (by omega) w

/-! ### THE ROW's STEP: WRITTEN OUT: LEAVE IT -/
set_option maxRecDepth 100000 in
theorem lifted (os : Os) (started : os.Started) (H : Type) (enc : TypeId × Value → H) :
    ReturnsInHanded {} Try.checked os 3 .any (Rows.crcLinearSpec.pre6 enc Try.prog Try.f3 Rows.crcLinearRow.domain false) (Rows.crcLinearSpec.post enc Try.prog Try.f3 false true false false) := by
  refine returnsInHanded_of_change (C := Try.checked) own started (by kernel_rfl) Try.func3
    (ChangeSpec.witness6 (enc := enc) (C := Try.checked) false ⟨#[], #[.string ByteArray.empty, .string ByteArray.empty, .string ByteArray.empty], []⟩ 8 (by kernel_rfl) (by kernel_rfl) (by kernel_rfl) (by kernel_rfl)) ?_
  intro W base args ds gs before hval0 hW hcnd _
  have hval : ∀ (j : Nat) t v, Try.f3.params[j]? = some t → args[j]? = some v → Value.okWide Try.prog W .any base t v := hval0
  have hW' := hW
  obtain ⟨p, q, hA0, hV, rfl, hfz, hnd⟩ := hW
  have hA : DataW.TrodAll enc Try.prog W 0 (fun _ => true) true Try.f3.params.toList args.toList ds p := hA0
  rw [Try.params3] at hA hval
  obtain ⟨v0, vs0, d0, ds0, p0, q0, hargs, rfl, rfl, h0, r0⟩ := trodAll_cons hA
  obtain ⟨v1, vs1, d1, ds1, p1, q1, rfl, rfl, rfl, h1, r1⟩ := trodAll_cons r0
  obtain ⟨v2, vs2, d2, ds2, p2, q2, rfl, rfl, rfl, h2, r2⟩ := trodAll_cons r1
  obtain ⟨rfl, rfl, rfl⟩ := trodAll_nil r2
  obtain rfl : args = #[v0, v1, v2] := by cases args; simp_all
  obtain ⟨rfl, rfl⟩ := trodVars_none hV
  obtain ⟨a0, rfl, rfl, rfl, w0⟩ := open_string Try.underlying9 (hval 0 9 v0 rfl rfl) h0
  obtain ⟨a1, rfl, rfl, rfl, w1⟩ := open_string Try.underlying9 (hval 1 9 v1 rfl rfl) h1
  obtain ⟨a2, rfl, rfl, rfl, w2⟩ := open_string Try.underlying9 (hval 2 9 v2 rfl rfl) h2
  clear hA0 hval0
  simp only [List.append_nil] at hW'
  refine (walk a0 a1 a2 w0 w1 w2 W).mono fun e W' ⟨he, bel⟩ => ?_
  subst he
  exact ⟨_, rfl, _, _, _, [], _, [], hW', trodAll_mk1 (shut_bool Try.underlying4 _), (trodAll_cons_mk (shut_string Try.underlying9 w0) (trodAll_cons_mk (shut_string Try.underlying9 w1) (trodAll_cons_mk (shut_string Try.underlying9 w2) trodAll_mk0))), rfl, bel.frame _, fun h => by cases h⟩

theorem over : Rows.crcLinearRow.holds Try.pinned (OpenSpec.ofChange Rows.crcLinearSpec) :=
  OpenClaim.holds_of_wide 3 Try.f3 rfl rfl rfl rfl rfl rfl rfl ⟨rfl, rfl, rfl, rfl, rfl⟩ rfl rfl rfl rfl rfl (by kernel_rfl) Try.func3 (by kernel_rfl)
    (of_decide_eq_true (by kernel_rfl)) (by unfold Func.isWrapper; first | (rw [if_pos (by decide +kernel)]; kernel_rfl) | (rw [if_neg (by decide +kernel)]; exact ⟨rfl, rfl⟩))
    (fun os started H enc _ => lifted os started H enc)

/-- ████ THE STATEMENT ████ -/
theorem proved : Rows.CrcLinearSaid :=
  over
#print axioms proved
end Go.Proofs.Ytjdaeaanheidiaa.crcLinear
