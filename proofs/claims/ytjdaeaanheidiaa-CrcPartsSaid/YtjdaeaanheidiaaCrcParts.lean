/-
  CrcParts: for every text and every number the law answers true: the sum of a text is that of its first part, and the rest behind it; one table tells what another one does. No condition.
-/
import Derived.Test.YtjdaeaanheidiaaRef
import Derived.Deep.RegionHeld3
import Derived.WalkKit
import Derived.ProofKit
import Derived.OpenShut
import Derived.ShutString
namespace Go.Proofs.Ytjdaeaanheidiaa.crcParts
open Crc Go.ChangeShapes Go.WideShapes Go.ChangeAt Go.RowKit
open Go.ChangeMaps (open_string shut_string)
set_option linter.unusedVariables false      -- a walk need not use every 'w<i>' (that an integer argument fits its kind)

theorem own : ownKnob Try.prog.godebug = none := by kernel_rfl

/-! ### STEP 1: THE WALK: the Go text returns true. 'Below w.heap.size w w'': the world has at most new blocks (Derived/RowKit3.lean). Part the cases AHEAD of 'go_enter' where a test parts the walk; take each callee by a contract of your own. -/
theorem Tab_keep {w w' : World} {b : Nat} (h : Tab w b) (e : w'.heap[b]? = w.heap[b]?) : Tab w' b := by
  rcases h with ⟨l, h⟩ | h
  · exact .inl ⟨l, h.keep e⟩
  · exact .inr (h.keep e)
theorem _root_.Go.Proofs.Ytjdaeaanheidiaa.Tab.lt {w : World} {b : Nat} (h : Tab w b) : b < w.heap.size := by
  rcases h with ⟨l, h⟩ | h
  · exact h.lt
  · exact h.lt
theorem nat_of (a : Int) (h : (Lit.int .u32 a).wf = true) : ∃ n : Nat, a = (n : Int) ∧ n < 4294967296 := by
  have := bounds_u32 h
  exact ⟨a.toNat, by omega, by omega⟩
theorem sh_le (s : ByteArray) (n : Nat) : (sh s n).size ≤ n := by
  unfold sh
  split
  · simp [ByteArray.size_extract]; omega
  · omega
theorem shortT (s : ByteArray) (n : Nat) (hn : n ≤ 1000) (t : ByteArray) (ht : sh s n = t) (w : World) :
    Calls Try.prog 12 #[.string s, .int .i64 n] w fun e w' => e = .returned (.string t) ∧ w = w' := by
  subst ht
  exact short_any s n hn w

theorem take_drop_data (t : ByteArray) (k : Nat) (hk : k ≤ t.size) : (t.extract 0 k).data.toList ++ (t.extract k t.size).data.toList = t.data.toList := by
  have e1 : (t.extract 0 k).data.toList = t.data.toList.take k := by simp
  have e2 : (t.extract k t.size).data.toList = t.data.toList.drop k := by
    simp
    rw [List.take_of_length_le]
    simp
  rw [e1, e2, List.take_append_drop]

set_option maxRecDepth 100000 in
set_option maxHeartbeats 4000000 in
theorem core (a0 : ByteArray) (a1 : Int) (w1 : (Lit.int .i64 a1).wf = true) (w : World) :
    Calls Try.prog 4 #[.string a0, .int .i64 a1] w fun e w' => e = .returned (.bool true) ∧ Below w.heap.size w w' := by
  obtain ⟨t, ht⟩ : ∃ t, sh a0 300 = t := ⟨_, rfl⟩
  have htl := sh_le a0 300
  rw [ht] at htl
  have h1 := Lib.hid (shortT a0 300 (by omega) t ht)
  clear ht
  have hm0 : -((t.size : Int) + 1) < a1.tmod ((t.size : Int) + 1) := by
    have := Int.tmod_lt_of_pos (-a1) (b := (t.size : Int) + 1) (by omega)
    rw [Int.neg_tmod] at this
    omega
  have hm1 : a1.tmod ((t.size : Int) + 1) < (t.size : Int) + 1 := Int.tmod_lt_of_pos _ (by omega)
  obtain ⟨k, hk, hkl⟩ : ∃ k : Nat, (a1.tmod ((t.size : Int) + 1) + (t.size : Int) + 1) % ((t.size : Int) + 1) = k ∧ k ≤ t.size := by
    have h0 := Int.emod_nonneg (a1.tmod ((t.size : Int) + 1) + (t.size : Int) + 1) (b := (t.size : Int) + 1) (by omega)
    have h2 := Int.emod_lt_of_pos (a1.tmod ((t.size : Int) + 1) + (t.size : Int) + 1) (b := (t.size : Int) + 1) (by omega)
    exact ⟨((a1.tmod ((t.size : Int) + 1) + (t.size : Int) + 1) % ((t.size : Int) + 1)).toNat, by omega, by omega⟩
  obtain ⟨cs, hcs⟩ : ∃ cs : Array Value, Hid (cs = rowOf 0 0 (List.replicate 256 0)) := ⟨_, rfl⟩
  obtain ⟨x, hx⟩ : ∃ x, more 0 t.data.toList = x := ⟨_, rfl⟩
  have hxl := more_lt 0 t.data.toList
  rw [hx] at hxl
  obtain ⟨p, hp⟩ : ∃ p, more 0 (t.extract 0 k).data.toList = p := ⟨_, rfl⟩
  have hpl := more_lt 0 (t.extract 0 k).data.toList
  rw [hp] at hpl
  have c1 := fun (b : Nat) (w1 : World) (hT : Tab w1 b) => sum_any hT t (by omega)
  have c2 := fun (b : Nat) (w1 : World) (hT : Tab w1 b) => sum_any hT (t.extract 0 k) (by rw [ByteArray.size_extract]; omega)
  have c3 := fun (b : Nat) (w1 : World) (hT : Tab w1 b) => more_any hT p hpl (t.extract k t.size) (by rw [ByteArray.size_extract]; omega)
  have c4 := fun (b : Nat) (w1 : World) (hT : Tab w1 b) => right_any hT t (by omega) x true (by rw [hx]; simp)
  have c5 := fun (b : Nat) (w1 : World) (hT : Tab w1 b) => more_any hT x hxl ⟨#[]⟩ (by decide)
  rw [hx] at c1
  rw [hp] at c2
  rw [← hp, Crc.more_append, take_drop_data t k hkl, hx, hp] at c3
  rw [show (ByteArray.mk #[]).data.toList = [] from rfl, Crc.more_nil x hxl] at c5
  have C1 := Lib.hid c1; have C2 := Lib.hid c2; have C3 := Lib.hid c3; have C4 := Lib.hid c4; have C5 := Lib.hid c5
  clear c1 c2 c3 c4 c5 hx hp
  have tok1 : True := trivial
  have tok2 : True := trivial
  have tok3 : True := trivial
  have tok4 : True := trivial
  have hk0 : (0 : Int) ≤ (k : Int) := by omega
  have hk1 : (k : Int) ≤ (t.size : Int) := by omega
  go_enter Try.func4, Try.ntmps4
  go_wp2_with fail
  refine (awake_any _).mono ?_
  rintro e w1 ⟨rfl, hb⟩
  go_wp2_with fail
  refine (h1.out _).mono ?_
  rintro e w2 ⟨rfl, rfl⟩
  go_wp2_with fail
  refine (new_any _).mono ?_
  rintro e w2 ⟨rfl, hT, hb2⟩
  go_wp2_with (refine wpList_zero cs hcs rfl rfl ?_)
  have hlt2 := hT.lt
  have hne : w1.heap.size ≠ w2.heap.size := Nat.ne_of_lt hlt2
  have hU : Tab (w2.alloc (.cells cs 43)) w2.heap.size := .inl ⟨List.replicate 256 0, _, by rw [← hcs.out]; exact heap_alloc_new _ _, List.length_replicate⟩
  have hT2 : Tab (w2.alloc (.cells cs 43)) w1.heap.size := Tab_keep hT (Below.heap_alloc _ _ _ hlt2)
  have hb3 : Below w1.heap.size w1 (w2.alloc (.cells cs 43)) := hb2.alloc (Nat.le_of_lt hlt2) _
  refine (C1.out _ _ hT2).mono ?_
  rintro e w3 ⟨rfl, hT3, hg3⟩
  have hU3 := Tab_keep hU (hg3.block _ (by simp) (fun e => hne (Option.some.inj e).symm))
  have hb4 := below_b hb3 hg3 (Nat.le_refl _) hb3.size
  clear hg3 hT2 hU hb3 hT hb2
  go_wp2_with fail
  have HNE := Lib.hid hne
  have HLE := Lib.hid (Nat.le_of_lt hlt2)
  clear hne hlt2
  go_region_held3 (fun _ => True) (trivial) (first
    | (go_at_call 11; have _t := tok1; refine (C2.out _ _ ?_).mono ?_; exact Tab_keep (.inr hT3) rfl; rintro e w4 ⟨rfl, hT4, hg4⟩; have hU4 := Tab_keep (w' := w4) hU3 (hg4.block _ hU3.lt (fun e => HNE.out (Option.some.inj e).symm)); have hb5 := below_b (hb4.drew) hg4 (Nat.le_refl _) hb4.size; clear tok1 hg4 hT3 hb4)
    | (go_at_call 13; have _t := tok2; refine (C3.out _ _ ?_).mono ?_; exact (.inr hT4); rintro e w5 ⟨rfl, hT5, hg5⟩; have hU5 := Tab_keep (w' := w5) hU4 (hg5.block _ hU4.lt (fun e => HNE.out (Option.some.inj e).symm)); have hb6 := below_b hb5 hg5 (Nat.le_refl _) hb5.size; clear tok2 hg5 hT4 hb5)
    | (go_at_call 11; have _t := tok3; refine (C1.out _ _ ?_).mono ?_; exact hU5; rintro e w6 ⟨rfl, hU6, hg6⟩; have hT6 := hT5.keep (w' := w6) (hg6.block _ hT5.lt (fun e => HNE.out (Option.some.inj e))); have hb7 := below_b hb6 hg6 (HLE.out) hb6.size; clear tok3 hg6 hT5 hb6)
    | (go_at_call 11; refine (C1.out _ _ ?_).mono ?_; exact (.inr hT6); rintro e w7 ⟨rfl, hT7, hg7⟩; have hb8 := below_b hb7 hg7 (Nat.le_refl _) hb7.size; clear hg7 hT6 hb7)
    | (go_at_call 14; refine (C4.out _ _ ?_).mono ?_; exact (.inr hT7); rintro e w8 ⟨rfl, hT8, hg8⟩; have hb9 := below_b hb8 hg8 (Nat.le_refl _) hb8.size; clear hg8 hT7 hb8)
    | (go_at_call 13; refine (C5.out _ _ ?_).mono ?_; exact (.inr hT8); rintro e w9 ⟨rfl, hT9, hg9⟩; have hb10 := below_b hb9 hg9 (Nat.le_refl _) hb9.size; clear hg9 hT8 hb9))
  go_wp2_with fail
  go_ret
  exact ⟨rfl, hb.trans (hb10.mono hb.size)⟩

theorem walk (a0 : ByteArray) (a1 : Int) (w0 : a0.size ≤ maxLen) (w1 : (Lit.int .i64 a1).wf = true) (w : World) :
    Calls Try.prog 4 #[.string a0, .int .i64 a1] w fun e w' => e = .returned (.bool true) ∧ Below w.heap.size w w' := by
  exact core a0 a1 w1 w

/-! ### THE ROW's STEP: WRITTEN OUT: LEAVE IT -/
set_option maxRecDepth 100000 in
theorem lifted (os : Os) (started : os.Started) (H : Type) (enc : TypeId × Value → H) :
    ReturnsInHanded {} Try.checked os 4 .any (Rows.crcPartsSpec.pre6 enc Try.prog Try.f4 Rows.crcPartsRow.domain false) (Rows.crcPartsSpec.post enc Try.prog Try.f4 false true false false) := by
  refine returnsInHanded_of_change (C := Try.checked) own started (by kernel_rfl) Try.func4
    (ChangeSpec.witness6 (enc := enc) (C := Try.checked) false ⟨#[], #[.string ByteArray.empty, .int .i64 0], []⟩ 8 (by kernel_rfl) (by kernel_rfl) (by kernel_rfl) (by kernel_rfl)) ?_
  intro W base args ds gs before hval0 hW hcnd _
  have hval : ∀ (j : Nat) t v, Try.f4.params[j]? = some t → args[j]? = some v → Value.okWide Try.prog W .any base t v := hval0
  have hW' := hW
  obtain ⟨p, q, hA0, hV, rfl, hfz, hnd⟩ := hW
  have hA : DataW.TrodAll enc Try.prog W 0 (fun _ => true) true Try.f4.params.toList args.toList ds p := hA0
  rw [Try.params4] at hA hval
  obtain ⟨v0, vs0, d0, ds0, p0, q0, hargs, rfl, rfl, h0, r0⟩ := trodAll_cons hA
  obtain ⟨v1, vs1, d1, ds1, p1, q1, rfl, rfl, rfl, h1, r1⟩ := trodAll_cons r0
  obtain ⟨rfl, rfl, rfl⟩ := trodAll_nil r1
  obtain rfl : args = #[v0, v1] := by cases args; simp_all
  obtain ⟨rfl, rfl⟩ := trodVars_none hV
  obtain ⟨a0, rfl, rfl, rfl, w0⟩ := open_string Try.underlying9 (hval 0 9 v0 rfl rfl) h0
  obtain ⟨a1, rfl, rfl, rfl, w1⟩ := open_int Try.underlying3 (hval 1 3 v1 rfl rfl) h1
  clear hA0 hval0
  simp only [List.append_nil] at hW'
  refine (walk a0 a1 w0 w1 W).mono fun e W' ⟨he, bel⟩ => ?_
  subst he
  exact ⟨_, rfl, _, _, _, [], _, [], hW', trodAll_mk1 (shut_bool Try.underlying4 _), (trodAll_cons_mk (shut_string Try.underlying9 w0) (trodAll_cons_mk (shut_int Try.underlying3 w1) trodAll_mk0)), rfl, bel.frame _, fun h => by cases h⟩

theorem over : Rows.crcPartsRow.holds Try.pinned (OpenSpec.ofChange Rows.crcPartsSpec) :=
  OpenClaim.holds_of_wide 4 Try.f4 rfl rfl rfl rfl rfl rfl rfl ⟨rfl, rfl, rfl, rfl, rfl⟩ rfl rfl rfl rfl rfl (by kernel_rfl) Try.func4 (by kernel_rfl)
    (of_decide_eq_true (by kernel_rfl)) (by unfold Func.isWrapper; first | (rw [if_pos (by decide +kernel)]; kernel_rfl) | (rw [if_neg (by decide +kernel)]; exact ⟨rfl, rfl⟩))
    (fun os started H enc _ => lifted os started H enc)

/-- ████ THE STATEMENT ████ -/
theorem proved : Rows.CrcPartsSaid :=
  over
#print axioms proved
end Go.Proofs.Ytjdaeaanheidiaa.crcParts
