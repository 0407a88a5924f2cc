/-
  CrcBytes: for every sum and every text the law answers true: a sum comes back from its bytes, whatever stands behind; from fewer than four none does. No condition.
-/
import Derived.Test.YtjdaeaanheidiaaRef
import Derived.WalkKit
import Derived.ProofKit
import Derived.OpenShut
import Derived.ShutString
namespace Go.Proofs.Ytjdaeaanheidiaa.crcBytes
open Crc Go.ChangeShapes Go.WideShapes Go.ChangeAt Go.RowKit
open Go.ChangeMaps (open_string shut_string)
set_option linter.unusedVariables false      -- a walk need not use every 'w<i>' (that an integer argument fits its kind)

theorem own : ownKnob Try.prog.godebug = none := by kernel_rfl

/-! ### STEP 1: THE WALK: the Go text returns true. 'Below w.heap.size w w'': the world has at most new blocks (Derived/RowKit3.lean). Part the cases AHEAD of 'go_enter' where a test parts the walk; take each callee by a contract of your own. -/
theorem Tab_keep {w w' : World} {b : Nat} (h : Tab w b) (e : w'.heap[b]? = w.heap[b]?) : Tab w' b := by
  rcases h with ⟨l, h⟩ | h
  · exact .inl ⟨l, h.keep e⟩
  · exact .inr (h.keep e)
theorem _root_.Go.Proofs.Ytjdaeaanheidiaa.Tab.lt {w : World} {b : Nat} (h : Tab w b) : b < w.heap.size := by
  rcases h with ⟨l, h⟩ | h
  · exact h.lt
  · exact h.lt
theorem nat_of (a : Int) (h : (Lit.int .u32 a).wf = true) : ∃ n : Nat, a = (n : Int) ∧ n < 4294967296 := by
  have := bounds_u32 h
  exact ⟨a.toNat, by omega, by omega⟩
theorem sh_le (s : ByteArray) (n : Nat) : (sh s n).size ≤ n := by
  unfold sh
  split
  · simp [ByteArray.size_extract]; omega
  · omega
theorem shortT (s : ByteArray) (n : Nat) (hn : n ≤ 1000) (t : ByteArray) (ht : sh s n = t) (w : World) :
    Calls Try.prog 12 #[.string s, .int .i64 n] w fun e w' => e = .returned (.string t) ∧ w = w' := by
  subst ht
  exact short_any s n hn w

set_option maxRecDepth 100000 in
set_option maxHeartbeats 1600000 in
theorem core (n : Nat) (hn : n < 4294967296) (a1 : ByteArray) (w : World) :
    Calls Try.prog 7 #[.int .u32 n, .string a1] w fun e w' => e = .returned (.bool true) ∧ Below w.heap.size w w' := by
  obtain ⟨u, hu⟩ : ∃ u, sh a1 20 = u := ⟨_, rfl⟩
  have hul := sh_le a1 20
  rw [hu] at hul
  have h2 := Lib.hid (shortT a1 20 (by omega) u hu)
  clear hu
  have B1 := Lib.hid (bytes_any n hn)
  have hl4 : (bts n).size = 4 := rfl
  have hlb : (bts n ++ u).size = 4 + u.size := by rw [ByteArray.size_append, hl4]
  have hval : val ((bts n ++ u).data.toList.take 4) = n := by
    have e : (bts n ++ u).data.toList.take 4 = [byte (n / 16777216), byte (n / 65536), byte (n / 256), byte n] := by
      simp [bts]
    rw [e]
    simp only [val, List.foldl_cons, List.foldl_nil, byte_toNat]
    omega
  have hrd := read_any (bts n ++ u) (by omega) (by omega)
  rw [hval] at hrd
  have RD := Lib.hid hrd
  clear hrd hval hlb
  go_enter Try.func7, Try.ntmps7
  go_wp2_with fail
  refine (awake_any _).mono ?_
  rintro e w1 ⟨rfl, hb⟩
  go_wp2_with fail
  refine (B1.out _).mono ?_
  rintro e w2 ⟨rfl, hb2⟩
  go_wp2_with fail
  refine (h2.out _).mono ?_
  rintro e w2 ⟨rfl, rfl⟩
  go_wp2_with fail
  refine (RD.out _).mono ?_
  rintro e w3 ⟨rfl, rfl⟩
  go_wp2_with fail
  refine (read_less _ (by rw [ByteArray.size_extract]; omega) _).mono ?_
  rintro e w3 ⟨rfl, rfl⟩
  go_wp2_with fail
  go_ret
  exact ⟨rfl, hb.trans (hb2.mono hb.size)⟩

theorem walk (a0 : Int) (a1 : ByteArray) (w0 : (Lit.int .u32 a0).wf = true) (w1 : a1.size ≤ maxLen) (w : World) :
    Calls Try.prog 7 #[.int .u32 a0, .string a1] w fun e w' => e = .returned (.bool true) ∧ Below w.heap.size w w' := by
  obtain ⟨n, rfl, hn⟩ := nat_of a0 w0
  exact core n hn a1 w

/-! ### THE ROW's STEP: WRITTEN OUT: LEAVE IT -/
set_option maxRecDepth 100000 in
theorem lifted (os : Os) (started : os.Started) (H : Type) (enc : TypeId × Value → H) :
    ReturnsInHanded {} Try.checked os 7 .any (Rows.crcBytesSpec.pre6 enc Try.prog Try.f7 Rows.crcBytesRow.domain false) (Rows.crcBytesSpec.post enc Try.prog Try.f7 false true false false) := by
  refine returnsInHanded_of_change (C := Try.checked) own started (by kernel_rfl) Try.func7
    (ChangeSpec.witness6 (enc := enc) (C := Try.checked) false ⟨#[], #[.int .u32 0, .string ByteArray.empty], []⟩ 8 (by kernel_rfl) (by kernel_rfl) (by kernel_rfl) (by kernel_rfl)) ?_
  intro W base args ds gs before hval0 hW hcnd _
  have hval : ∀ (j : Nat) t v, Try.f7.params[j]? = some t → args[j]? = some v → Value.okWide Try.prog W .any base t v := hval0
  have hW' := hW
  obtain ⟨p, q, hA0, hV, rfl, hfz, hnd⟩ := hW
  have hA : DataW.TrodAll enc Try.prog W 0 (fun _ => true) true Try.f7.params.toList args.toList ds p := hA0
  rw [Try.params7] at hA hval
  obtain ⟨v0, vs0, d0, ds0, p0, q0, hargs, rfl, rfl, h0, r0⟩ := trodAll_cons hA
  obtain ⟨v1, vs1, d1, ds1, p1, q1, rfl, rfl, rfl, h1, r1⟩ := trodAll_cons r0
  obtain ⟨rfl, rfl, rfl⟩ := trodAll_nil r1
  obtain rfl : args = #[v0, v1] := by cases args; simp_all
  obtain ⟨rfl, rfl⟩ := trodVars_none hV
  obtain ⟨a0, rfl, rfl, rfl, w0⟩ := open_int Try.underlying26 (hval 0 26 v0 rfl rfl) h0
  obtain ⟨a1, rfl, rfl, rfl, w1⟩ := open_string Try.underlying9 (hval 1 9 v1 rfl rfl) h1
  clear hA0 hval0
  simp only [List.append_nil] at hW'
  refine (walk a0 a1 w0 w1 W).mono fun e W' ⟨he, bel⟩ => ?_
  subst he
  exact ⟨_, rfl, _, _, _, [], _, [], hW', trodAll_mk1 (shut_bool Try.underlying4 _), (trodAll_cons_mk (shut_int Try.underlying26 w0) (trodAll_cons_mk (shut_string Try.underlying9 w1) trodAll_mk0)), rfl, bel.frame _, fun h => by cases h⟩

theorem over : Rows.crcBytesRow.holds Try.pinned (OpenSpec.ofChange Rows.crcBytesSpec) :=
  OpenClaim.holds_of_wide 7 Try.f7 rfl rfl rfl rfl rfl rfl rfl ⟨rfl, rfl, rfl, rfl, rfl⟩ rfl rfl rfl rfl rfl (by kernel_rfl) Try.func7 (by kernel_rfl)
    (of_decide_eq_true (by kernel_rfl)) (by unfold Func.isWrapper; first | (rw [if_pos (by decide +kernel)]; kernel_rfl) | (rw [if_neg (by decide +kernel)]; exact ⟨rfl, rfl⟩))
    (fun os started H enc _ => lifted os started H enc)

/-- ████ THE STATEMENT ████ -/
theorem proved : Rows.CrcBytesSaid :=
  over
#print axioms proved
end Go.Proofs.Ytjdaeaanheidiaa.crcBytes
