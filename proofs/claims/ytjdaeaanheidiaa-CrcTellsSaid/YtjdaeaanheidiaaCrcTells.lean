/-
  CrcTells: for every two texts and every sum the law answers true: sums, and their bytes, are as the document says. No condition.
-/
import Derived.Test.YtjdaeaanheidiaaRef
import Derived.WalkKit
import Derived.ProofKit
import Derived.OpenShut
import Derived.ShutString
namespace Go.Proofs.Ytjdaeaanheidiaa.crcTells
open Crc Go.ChangeShapes Go.WideShapes Go.ChangeAt Go.RowKit
open Go.ChangeMaps (open_string shut_string)
set_option linter.unusedVariables false      -- a walk need not use every 'w<i>' (that an integer argument fits its kind)

theorem own : ownKnob Try.prog.godebug = none := by kernel_rfl

/-! ### STEP 1: THE WALK: the Go text returns true. 'Below w.heap.size w w'': the world has at most new blocks (Derived/RowKit3.lean). Part the cases AHEAD of 'go_enter' where a test parts the walk; take each callee by a contract of your own. -/
theorem Tab_keep {w w' : World} {b : Nat} (h : Tab w b) (e : w'.heap[b]? = w.heap[b]?) : Tab w' b := by
  rcases h with ⟨l, h⟩ | h
  · exact .inl ⟨l, h.keep e⟩
  · exact .inr (h.keep e)
theorem nat_of (a : Int) (h : (Lit.int .u32 a).wf = true) : ∃ n : Nat, a = (n : Int) ∧ n < 4294967296 := by
  have := bounds_u32 h
  exact ⟨a.toNat, by omega, by omega⟩
theorem sh_le (s : ByteArray) (n : Nat) : (sh s n).size ≤ n := by
  unfold sh
  split
  · simp [ByteArray.size_extract]; omega
  · omega
theorem shortT (s : ByteArray) (n : Nat) (hn : n ≤ 1000) (t : ByteArray) (ht : sh s n = t) (w : World) :
    Calls Try.prog 12 #[.string s, .int .i64 n] w fun e w' => e = .returned (.string t) ∧ w = w' := by
  subst ht
  exact short_any s n hn w

set_option maxRecDepth 100000 in
set_option maxHeartbeats 1600000 in
theorem core (a0 a1 : ByteArray) (n : Nat) (hn : n < 4294967296) (w : World) :
    Calls Try.prog 8 #[.string a0, .string a1, .int .u32 n] w fun e w' => e = .returned (.bool true) ∧ Below w.heap.size w w' := by
  obtain ⟨t, ht⟩ : ∃ t, sh a0 300 = t := ⟨_, rfl⟩
  obtain ⟨u, hu⟩ : ∃ u, sh a1 300 = u := ⟨_, rfl⟩
  have htl := sh_le a0 300
  have hul := sh_le a1 300
  rw [ht] at htl
  rw [hu] at hul
  have h1 := Lib.hid (shortT a0 300 (by omega) t ht)
  have h2 := Lib.hid (shortT a1 300 (by omega) u hu)
  clear ht hu
  obtain ⟨x, hx⟩ : ∃ x, more 0 t.data.toList = x := ⟨_, rfl⟩
  obtain ⟨y, hy⟩ : ∃ y, more n u.data.toList = y := ⟨_, rfl⟩
  obtain ⟨r, hr⟩ : ∃ r : Bool, ((x : Int) == (n : Int)) = r := ⟨_, rfl⟩
  have c1 := fun (b : Nat) (w1 : World) (hT : Tab w1 b) => sum_any hT t (by omega)
  have c2 := fun (w1 : World) => rsum_any t (by omega) w1
  have c3 := fun (b : Nat) (w1 : World) (hT : Tab w1 b) => more_any hT n hn u (by omega)
  have c4 := fun (w1 : World) => rmore_any n hn u (by omega) w1
  have c5 := fun (b : Nat) (w1 : World) (hT : Tab w1 b) => right_any hT t (by omega) n r (by rw [hx]; exact hr)
  rw [hx] at c1 c2
  rw [hy] at c3 c4
  have C1 := Lib.hid c1; have C2 := Lib.hid c2; have C3 := Lib.hid c3; have C4 := Lib.hid c4; have C5 := Lib.hid c5
  have B1 := Lib.hid (bytes_any n hn)
  have B2 := Lib.hid (rbytes_any n hn)
  clear c1 c2 c3 c4 c5 hx hy
  by_cases h4 : t.size < 4
  all_goals
    go_enter Try.func8, Try.ntmps8
    go_wp2_with fail
    refine (awake_any _).mono ?_
    rintro e w1 ⟨rfl, hb⟩
    go_wp2_with fail
    refine (h1.out _).mono ?_
    rintro e w2 ⟨rfl, rfl⟩
    go_wp2_with fail
    refine (h2.out _).mono ?_
    rintro e w2 ⟨rfl, rfl⟩
    go_wp2_with fail
    refine (new_any _).mono ?_
    rintro e w2 ⟨rfl, hT, hb2⟩
    go_wp2_with fail
    first
      | (refine (read_less t h4 _).mono ?_; rintro e w3 ⟨rfl, rfl⟩; go_wp2_with fail; refine (rread_less t h4 _).mono ?_; rintro e w3 ⟨rfl, rfl⟩; obtain ⟨nq, hnq⟩ : ∃ n : Nat, n = 0 := ⟨_, rfl⟩)
      | (refine (read_any t (by omega) (by omega) _).mono ?_; rintro e w3 ⟨rfl, rfl⟩; go_wp2_with fail; refine (rread_any t (by omega) (by omega) _).mono ?_; rintro e w3 ⟨rfl, nq, rfl⟩)
    go_wp2_with fail
    refine (C1.out _ _ ?_).mono ?_
    · exact Tab_keep hT rfl
    rintro e w4 ⟨rfl, hT4, hg4⟩
    have hb4 := below_b (w := w2) hb2 (show w2.grownBy w4 _ from ⟨hg4.os, hg4.tape, hg4.output, hg4.size, hg4.block⟩) (Nat.le_refl _) hb2.size
    clear hg4
    go_wp2_with fail
    refine (C2.out _).mono ?_
    rintro e w5 ⟨rfl, rfl⟩
    go_wp2_with fail
    refine (C3.out _ _ (.inr hT4)).mono ?_
    rintro e w5 ⟨rfl, hT5, hg5⟩
    have hb5 := below_b hb4 hg5 (Nat.le_refl _) hb4.size
    clear hg5
    go_wp2_with fail
    refine (C4.out _).mono ?_
    rintro e w6 ⟨rfl, rfl⟩
    go_wp2_with fail
    refine (C5.out _ _ (.inr hT5)).mono ?_
    rintro e w6 ⟨rfl, hT6, hg6⟩
    have hb6 := below_b hb5 hg6 (Nat.le_refl _) hb5.size
    clear hg6
    go_wp2_with fail
    refine (C2.out _).mono ?_
    rintro e w7 ⟨rfl, rfl⟩
    go_wp2_with fail
    refine (B1.out _).mono ?_
    rintro e w7 ⟨rfl, hb7⟩
    go_wp2_with fail
    refine (B2.out _).mono ?_
    rintro e w8 ⟨rfl, hb8⟩
    go_wp2_with fail
    go_ret
    exact ⟨rfl, hb.trans (((hb6.trans (hb7.mono hb6.size)).trans (hb8.mono (Nat.le_trans hb6.size hb7.size))).mono hb.size)⟩

theorem walk (a0 : ByteArray) (a1 : ByteArray) (a2 : Int) (w0 : a0.size ≤ maxLen) (w1 : a1.size ≤ maxLen) (w2 : (Lit.int .u32 a2).wf = true) (w : World) :
    Calls Try.prog 8 #[.string a0, .string a1, .int .u32 a2] w fun e w' => e = .returned (.bool true) ∧ Below w.heap.size w w' := by
  obtain ⟨n, rfl, hn⟩ := nat_of a2 w2
  exact core a0 a1 n hn w

/-! ### THE ROW's STEP: WRITTEN OUT: LEAVE IT -/
set_option maxRecDepth 100000 in
theorem lifted (os : Os) (started : os.Started) (H : Type) (enc : TypeId × Value → H) :
    ReturnsInHanded {} Try.checked os 8 .any (Rows.crcTellsSpec.pre6 enc Try.prog Try.f8 Rows.crcTellsRow.domain false) (Rows.crcTellsSpec.post enc Try.prog Try.f8 false true false false) := by
  refine returnsInHanded_of_change (C := Try.checked) own started (by kernel_rfl) Try.func8
    (ChangeSpec.witness6 (enc := enc) (C := Try.checked) false ⟨#[], #[.string ByteArray.empty, .string ByteArray.empty, .int .u32 0], []⟩ 8 (by kernel_rfl) (by kernel_rfl) (by kernel_rfl) (by kernel_rfl)) ?_
  intro W base args ds gs before hval0 hW hcnd _
  have hval : ∀ (j : Nat) t v, Try.f8.params[j]? = some t → args[j]? = some v → Value.okWide Try.prog W .any base t v := hval0
  have hW' := hW
  obtain ⟨p, q, hA0, hV, rfl, hfz, hnd⟩ := hW
  have hA : DataW.TrodAll enc Try.prog W 0 (fun _ => true) true Try.f8.params.toList args.toList ds p := hA0
  rw [Try.params8] at hA hval
  obtain ⟨v0, vs0, d0, ds0, p0, q0, hargs, rfl, rfl, h0, r0⟩ := trodAll_cons hA
  obtain ⟨v1, vs1, d1, ds1, p1, q1, rfl, rfl, rfl, h1, r1⟩ := trodAll_cons r0
  obtain ⟨v2, vs2, d2, ds2, p2, q2, rfl, rfl, rfl, h2, r2⟩ := trodAll_cons r1
  obtain ⟨rfl, rfl, rfl⟩ := trodAll_nil r2
  obtain rfl : args = #[v0, v1, v2] := by cases args; simp_all
  obtain ⟨rfl, rfl⟩ := trodVars_none hV
  obtain ⟨a0, rfl, rfl, rfl, w0⟩ := open_string Try.underlying9 (hval 0 9 v0 rfl rfl) h0
  obtain ⟨a1, rfl, rfl, rfl, w1⟩ := open_string Try.underlying9 (hval 1 9 v1 rfl rfl) h1
  obtain ⟨a2, rfl, rfl, rfl, w2⟩ := open_int Try.underlying26 (hval 2 26 v2 rfl rfl) h2
  clear hA0 hval0
  simp only [List.append_nil] at hW'
  refine (walk a0 a1 a2 w0 w1 w2 W).mono fun e W' ⟨he, bel⟩ => ?_
  subst he
  exact ⟨_, rfl, _, _, _, [], _, [], hW', trodAll_mk1 (shut_bool Try.underlying4 _), (trodAll_cons_mk (shut_string Try.underlying9 w0) (trodAll_cons_mk (shut_string Try.underlying9 w1) (trodAll_cons_mk (shut_int Try.underlying26 w2) trodAll_mk0))), rfl, bel.frame _, fun h => by cases h⟩

theorem over : Rows.crcTellsRow.holds Try.pinned (OpenSpec.ofChange Rows.crcTellsSpec) :=
  OpenClaim.holds_of_wide 8 Try.f8 rfl rfl rfl rfl rfl rfl rfl ⟨rfl, rfl, rfl, rfl, rfl⟩ rfl rfl rfl rfl rfl (by kernel_rfl) Try.func8 (by kernel_rfl)
    (of_decide_eq_true (by kernel_rfl)) (by unfold Func.isWrapper; first | (rw [if_pos (by decide +kernel)]; kernel_rfl) | (rw [if_neg (by decide +kernel)]; exact ⟨rfl, rfl⟩))
    (fun os started H enc _ => lifted os started H enc)

/-- ████ THE STATEMENT ████ -/
theorem proved : Rows.CrcTellsSaid :=
  over
#print axioms proved
end Go.Proofs.Ytjdaeaanheidiaa.crcTells
