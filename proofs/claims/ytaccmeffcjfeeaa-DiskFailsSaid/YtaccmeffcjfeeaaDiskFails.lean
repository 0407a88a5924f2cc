/-
  DiskFails: for every number and every list of numbers the law answers true: just the operation that was told of fails, and does nothing. No condition.
-/
import Derived.Test.YtaccmeffcjfeeaaAw
import Derived.Deep.DeepCutAuto
import Derived.Deep.CutBlock
import Derived.Deep.LoopGhost
import Derived.WalkKit
import Derived.ProofKit
import Derived.OpenShut
import Derived.ShutString
import Derived.ChangeOld
import Derived.Below
namespace Go.Proofs.Ytaccmeffcjfeeaa.diskFails
open Go.ChangeShapes Go.WideShapes Go.ChangeAt Go.RowKit
open Go.ChangeMaps (open_string shut_string)
set_option linter.unusedVariables false

theorem own : ownKnob Try.prog.godebug = none := by kernel_rfl
theorem laidOut : laidOutB Try.prog = true := by kernel_rfl

/-- WHAT THE WALK IS TOLD OF A SLICE OF INTEGERS THAT CAME IN: it is nil; or it leads to a row of 'cap' cells, the numbers 'zs' (the first 'len' are its elements, the rest its spare room), each fitting its kind. -/
def IsRow (k : IntKind) (w : World) (a : Option Addr) (len cap : Nat) (zs : List Int) : Prop :=
  (a = none ∧ len = 0 ∧ cap = 0 ∧ zs = []) ∨
  ∃ x, a = some x ∧ len ≤ cap ∧ cap ≤ maxLen ∧ zs.length = cap ∧ (∀ i, i < zs.length → w.cell? (x.add i) = some (.int k (zs.getD i 0))) ∧ ∀ n ∈ zs, (Lit.int k n).wf = true

/-! ### STEP 1: THE WALK: the Go text returns true, AND WRITES NOTHING THAT WAS THERE: 'Below w.heap.size w w'' (Derived/Below.lean: '.refl', '.alloc', '.drew', '.setCell' at a new block, '.trans'). Open each 'IsRow' by 'rcases' AHEAD of 'go_enter'; part every test ahead of the walk. -/
/-- How many operations are left till the one that fails, and that one. -/
def fv (q i : Nat) : Int := if i ≤ q then (q : Int) + 1 - i else 0
theorem fv_true (q : Nat) : failS (fv q q) = (true, fv q (q + 1)) := by
  unfold failS fv
  rw [if_pos (Nat.le_refl q), if_neg (by omega : ¬ q + 1 ≤ q), if_neg (by omega)]
  simp
  omega
theorem fv_false (q i : Nat) (h : i ≠ q) : failS (fv q i) = (false, fv q (i + 1)) := by
  unfold failS fv
  by_cases hi : i ≤ q
  · rw [if_pos hi, if_pos (by omega : i + 1 ≤ q), if_neg (by omega)]
    simp
    omega
  · rw [if_neg hi, if_neg (by omega : ¬ i + 1 ≤ q), if_pos rfl]

theorem fill1 (w : World) : Calls Try.prog 11 #[.int .u8 1] w fun e w' => e = .returned (.string (fil 1)) ∧ Below w.heap.size w w' := by
  have e : ((1 : UInt8).toNat : Int) = 1 := by decide
  have h := fill_any 1 w
  rw [e] at h
  exact h
theorem fill_nat (k : Nat) (hk : k < 256) (w : World) : Calls Try.prog 11 #[.int .u8 (k : Int)] w fun e w' => e = .returned (.string (fil (UInt8.ofNat k))) ∧ Below w.heap.size w w' := by
  have e : ((UInt8.ofNat k).toNat : Int) = k := by simp; omega
  have h := fill_any (UInt8.ofNat k) w
  rw [e] at h
  exact h

theorem new4 (w : World) : Calls Try.prog 10 #[.int .i64 4] w fun e w' => e = .returned (.pointer (some ⟨w.heap.size + 1, 0, none⟩)) ∧ Dk w' (w.heap.size + 1) w.heap.size 4 (zs 4) [] 0 none 0 0 0 ∧ Below w.heap.size w w' ∧ w'.heap.size = w.heap.size + 2 :=
  new_ok 4 (by omega) (by omega) w

set_option maxRecDepth 100000 in
set_option maxHeartbeats 4000000 in
theorem core (a0 : Int) (a1 : Option Addr) (len1 cap1 : Nat) (w : World) (hm : len1 ≤ 9223372036854775807)
    (h : ∀ k, k < len1 → ∃ b off, a1 = some ⟨b, off, none⟩ ∧ b < w.heap.size ∧ ∃ x : Int, w.cell? ⟨b, off + k, none⟩ = some (.int .i64 x)) :
    Calls Try.prog 6 #[.int .i64 a0, .slice a1 len1 cap1] w fun e w' => e = .returned (.bool true) ∧ Below w.heap.size w w' := by
  have he := rest_eq a0 20 (by omega)
  obtain ⟨n0, n1⟩ := tmod_in a0 20 (by omega)
  obtain ⟨q0, hq0⟩ : ∃ q, restN a0 20 = q := ⟨_, rfl⟩
  have hq20 : q0 < 20 := by rw [← hq0]; exact rest_lt a0 20 (by omega)
  rw [hq0] at he
  clear hq0
  have HE : Hid ((a0.tmod 20 + 20) % 20 = (q0 : Int)) := he
  have HN : Hid (-20 < a0.tmod 20 ∧ a0.tmod 20 < 20) := ⟨n0, n1⟩
  have H := Lib.hid h
  clear he n0 n1 h
  go_enter Try.func6, Try.ntmps6
  go_wp2_with fail
  refine (awake_any _).mono ?_
  rintro e w1 ⟨rfl, hb⟩
  go_wp2_with fail
  refine (new4 _).mono ?_
  rintro e w2 ⟨rfl, hD2, hb2, -⟩
  generalize zs 4 = S0 at *
  obtain ⟨n0, n1⟩ := HN.out
  have he := HE.out
  go_wp2_with fail
  try simp only [he]
  clear he n0 n1
  refine (Fail_any hD2 (1 + (q0 : Int)) (fv q0 0) (by omega) (by unfold fv; rw [if_pos (by omega), if_pos (by omega)]; omega)).mono ?_
  rintro e w3 ⟨rfl, hD3, hM3, -⟩
  have hb3 := below_moved hb2 (Nat.le_refl _) hM3 (by omega) (Nat.le_refl _) (fun g hg => by simp [Value.ownBlock] at hg)
  clear hM3 hD2 hb2
  go_wp2_with fail
  go_loopg [8] 20 (fun g i wr => ∃ (k : Nat) (S : List (List UInt8)) (O : List (Nat × List UInt8)) (m : Nat) (oa : Option Addr) (cap : Nat) (r : Int), Dk wr (w1.heap.size + 1) w1.heap.size 4 S O m oa cap (fv q0 k) r ∧ Below w1.heap.size w1 wr ∧ (∀ g, (Value.slice oa 0 0).ownBlock = some g → w1.heap.size ≤ g) ∧ m ≤ k ∧ r ≤ k ∧ k ≤ 20 ∧ g = 20 - k ∧ i = .int .i64 k)
  case atStart => exact ⟨0, S0, [], 0, none, 0, 0, hD3, hb3, (fun g hg => by simp [Value.ownBlock] at hg), by omega, by omega, by omega, by omega, rfl⟩
  case round =>
    obtain ⟨k, S, O, m, oa, cap, r, hDr, hbr, hown, hmk, hrk, hk20, rfl, rfl⟩ := hrel
    by_cases hlt : k < 20
    · go_upto_if 31 with fail
      go_cut [9] (fun s9 wx => wx = wr ∧ ∃ c : Nat, c < 3 ∧ s9 = .int .i64 c)
      case first =>
        by_cases hkl : k < len1
        · obtain ⟨b, off, rfl, hbw, x, hx⟩ := H.out k hkl
          have hx2 : wr.cell? ⟨b, off + k, none⟩ = some (.int .i64 x) := by
            have hsz := hb.size
            rw [hbr.cell (p := ⟨b, off + k, none⟩) (by simp; omega), hb.cell (p := ⟨b, off + k, none⟩) (by simpa using hbw)]; exact hx
          obtain ⟨x0, x1⟩ : -3 < x.tmod 3 ∧ x.tmod 3 < 3 := tmod_in x 3 (by omega)
          have x2 := rest_eq x 3 (by omega)
          have x3 := rest_lt x 3 (by omega)
          have X2 : Hid ((x.tmod 3 + 3) % 3 = (restN x 3 : Int)) := x2
          have X3 := Lib.hid x3
          clear x2 x3 hx H
          go_wp2_with fail
          go_meet
          exact ⟨rfl, restN x 3, X3.out, congrArg (Value.int .i64) X2.out⟩
        · go_wp2_with fail
          go_meet
          exact ⟨rfl, 0, by omega, rfl⟩
      case rest =>
        obtain ⟨rfl, c, hc3, rfl⟩ := hcut
        have hc : c = 0 ∨ c = 1 ∨ c = 2 := by omega
        have fi := fill_nat k (by omega)
        have hfs := fil_size (UInt8.ofNat k)
        generalize fil (UInt8.ofNat k) = A at *
        by_cases hfail : k = q0
        · subst k
          have hfv := fv_true q0
          have t1 : ((q0 : Int) + 1 == 1 + (q0 : Int)) = true := by rw [beq_iff_eq]; omega
          have HFV := Lib.hid hfv
          clear hfv hc3
          rcases hc with rfl | rfl | rfl
          · go_wp2_with fail
            refine (open_any hDr).mono ?_
            rintro e w2 ⟨rfl, rfl⟩
            go_wp2_with fail
            refine (fi _).mono ?_
            rintro e w3 ⟨rfl, hb3⟩
            have hD3 := hDr.below hb3
            have hb4 := hbr.trans (hb3.mono hbr.size)
            go_wp2_with fail
            refine (write_fail hD3 1 (by omega) _ hfs (fv q0 (q0 + 1)) HFV.out).mono ?_
            rintro e w5 ⟨rfl, hD5, hM5⟩
            have hb5 := below_moved hb4 (Nat.le_refl _) hM5 (by omega) (Nat.le_refl _) hown
            clear hD3 hb4 hb3 hM5 hDr hbr
            go_wp2_with (go_at_call 16; refine (open_any hD5).mono ?_; rintro e w6 ⟨rfl, rfl⟩)
            go_roundg (20 - (q0 + 1))
            case measure => omega
            case rel => exact ⟨q0 + 1, S, O, m, oa, cap, r, hD5, hb5, hown, by omega, by omega, by omega, by omega, by go_num⟩
          · go_wp2_with fail
            refine (open_any hDr).mono ?_
            rintro e w2 ⟨rfl, rfl⟩
            go_wp2_with fail
            refine (read_fail hDr 1 (by omega) (by omega) (fv q0 (q0 + 1)) HFV.out).mono ?_
            rintro e w5 ⟨rfl, hD5, hM5⟩
            have hb5 := below_moved hbr (Nat.le_refl _) hM5 (by omega) (Nat.le_refl _) hown
            clear hM5 hDr hbr
            go_wp2_with (go_at_call 16; refine (open_any hD5).mono ?_; rintro e w6 ⟨rfl, rfl⟩)
            go_roundg (20 - (q0 + 1))
            case measure => omega
            case rel => exact ⟨q0 + 1, S, O, m, oa, cap, r + 1, hD5, hb5, hown, by omega, by omega, by omega, by omega, by go_num⟩
          · go_wp2_with fail
            refine (open_any hDr).mono ?_
            rintro e w2 ⟨rfl, rfl⟩
            go_wp2_with fail
            refine (flush_fail hDr (fv q0 (q0 + 1)) HFV.out).mono ?_
            rintro e w5 ⟨rfl, hD5, hM5⟩
            have hb5 := below_moved hbr (Nat.le_refl _) hM5 (by omega) (Nat.le_refl _) hown
            clear hM5 hDr hbr
            go_wp2_with (go_at_call 16; refine (open_any hD5).mono ?_; rintro e w6 ⟨rfl, rfl⟩)
            go_roundg (20 - (q0 + 1))
            case measure => omega
            case rel => exact ⟨q0 + 1, S, O, m, oa, cap, r, hD5, hb5, hown, by omega, by omega, by omega, by omega, by go_num⟩
        · have hfv := fv_false q0 k hfail
          have t1 : ((k : Int) + 1 == 1 + (q0 : Int)) = false := by rw [beq_eq_false_iff_ne]; omega
          have HFV := Lib.hid hfv
          clear hfv hc3
          rcases hc with rfl | rfl | rfl
          · go_wp2_with fail
            refine (open_any hDr).mono ?_
            rintro e w2 ⟨rfl, rfl⟩
            go_wp2_with fail
            refine (fi _).mono ?_
            rintro e w3 ⟨rfl, hb3⟩
            have hD3 := hDr.below hb3
            have hb4 := hbr.trans (hb3.mono hbr.size)
            go_wp2_with fail
            refine (write_ok hD3 1 (by omega) _ hfs (by omega) (fv q0 (k + 1)) HFV.out).mono ?_
            rintro e w5 ⟨rfl, oa5, cap5, hD5, hM5, hfr⟩
            have hb5 := below_moved hb4 (Nat.le_refl _) hM5 (by omega) (Nat.le_refl _) hown
            have hown5 : ∀ g, (Value.slice oa5 0 0).ownBlock = some g → w1.heap.size ≤ g := fun g hg => by
              rcases hfr g hg with h | h
              · exact hown g h
              · have := hb4.size; omega
            clear hD3 hb4 hb3 hM5 hDr hbr hfr
            go_wp2_with (go_at_call 16; refine (open_any hD5).mono ?_; rintro e w6 ⟨rfl, rfl⟩)
            go_roundg (20 - (k + 1))
            case measure => omega
            case rel => exact ⟨k + 1, S, _, m + 1, oa5, cap5, r, hD5, hb5, hown5, by omega, by omega, by omega, by omega, by go_num⟩
          · go_wp2_with fail
            refine (open_any hDr).mono ?_
            rintro e w2 ⟨rfl, rfl⟩
            go_wp2_with fail
            refine (read_ok hDr 1 (by omega) (by omega) (fv q0 (k + 1)) HFV.out).mono ?_
            rintro e w5 ⟨rfl, hD5, hM5⟩
            have hb5 := below_moved hbr (Nat.le_refl _) hM5 (by omega) (Nat.le_refl _) hown
            clear hM5 hDr hbr
            go_wp2_with (go_at_call 16; refine (open_any hD5).mono ?_; rintro e w6 ⟨rfl, rfl⟩)
            go_roundg (20 - (k + 1))
            case measure => omega
            case rel => exact ⟨k + 1, S, O, m, oa, cap, r + 1, hD5, hb5, hown, by omega, by omega, by omega, by omega, by go_num⟩
          · go_wp2_with fail
            refine (open_any hDr).mono ?_
            rintro e w2 ⟨rfl, rfl⟩
            go_wp2_with fail
            refine (flush_ok hDr (fv q0 (k + 1)) HFV.out).mono ?_
            rintro e w5 ⟨rfl, hD5, hM5⟩
            have hb5 := below_moved hbr (Nat.le_refl _) hM5 (by omega) (Nat.le_refl _) hown
            clear hM5 hDr hbr
            go_wp2_with (go_at_call 16; refine (open_any hD5).mono ?_; rintro e w6 ⟨rfl, rfl⟩)
            go_roundg (20 - (k + 1))
            case measure => omega
            case rel => exact ⟨k + 1, fl S O, [], 0, none, 0, r, hD5, hb5, (fun g hg => by simp [Value.ownBlock] at hg), by omega, by omega, by omega, by omega, by go_num⟩
    · have f1 := fill1
      have hs1 := fil_size 1
      generalize fil 1 = A at *
      have F1 := Lib.hid f1
      clear f1
      go_wp2_with fail
      refine (F1.out _).mono ?_
      rintro e w4 ⟨rfl, hb4⟩
      have hD4 := hDr.below hb4
      go_wp2_with fail
      refine (write_bad hD4 9 A (.inl (by omega))).mono ?_
      rintro e w5 ⟨rfl, rfl⟩
      go_wp2_with fail
      refine (write_bad hD4 0 ⟨#[120]⟩ (.inr ⟨by omega, by decide⟩)).mono ?_
      rintro e w6 ⟨rfl, rfl⟩
      go_wp2_with fail
      go_ret
      exact ⟨rfl, hb.trans ((hbr.trans (hb4.mono hbr.size)).mono hb.size)⟩

theorem walk (a0 : Int) (a1 : Option Addr) (len1 cap1 : Nat) (z1 : List Int) (w : World) (w0 : (Lit.int .i64 a0).wf = true) (w1 : IsRow .i64 w a1 len1 cap1 z1) :
    Calls Try.prog 6 #[.int .i64 a0, .slice a1 len1 cap1] w fun e w' => e = .returned (.bool true) ∧ Below w.heap.size w w' := by
  rcases w1 with ⟨rfl, rfl, rfl, rfl⟩ | ⟨x, rfl, hl, hm, hz, hcell, hwz⟩
  · exact core a0 none 0 0 w (by omega) (fun k hk => by omega)
  · unfold maxLen at hm
    refine core a0 (some x) len1 cap1 w (by omega) (fun k hk => ?_)
    obtain ⟨b, off, spot⟩ := x
    have hc := hcell k (by omega)
    have hspot : spot = none := by
      have h0 := hcell 0 (by omega)
      simpa [Addr.add] using World.cell?_spot h0
    subst hspot
    have hadd : (⟨b, off, none⟩ : Addr).add k = ⟨b, off + k, none⟩ := by unfold Addr.add; split <;> simp_all
    rw [hadd] at hc
    exact ⟨b, off, rfl, by simpa using block_lt_of_cell hc, _, hc⟩

/-! ### THE ROW's STEP: WRITTEN OUT: LEAVE IT -/
set_option maxRecDepth 100000 in
theorem lifted (os : Os) (started : os.Started) (H : Type) (enc : TypeId × Value → H) :
    ReturnsInHanded {} Try.checked os 6 .any (Rows.diskFailsSpec.pre6 enc Try.prog Try.f6 Rows.diskFailsRow.domain false) (Rows.diskFailsSpec.post enc Try.prog Try.f6 false true false false) := by
  refine returnsInHanded_of_change (C := Try.checked) own started (by kernel_rfl) Try.func6
    (ChangeSpec.witness6 (enc := enc) (C := Try.checked) false ⟨#[], #[.int .i64 0, .slice none 0 0], []⟩ 8 (by kernel_rfl) (by kernel_rfl) (by kernel_rfl) (by kernel_rfl)) ?_
  intro W base args ds gs before hval0 hW hcnd _
  have hval : ∀ (j : Nat) t v, Try.f6.params[j]? = some t → args[j]? = some v → Value.okWide Try.prog W .any base t v := hval0
  have hW' := hW
  obtain ⟨p, q, hA0, hV, rfl, hfz, hnd⟩ := hW
  have hA : DataW.TrodAll enc Try.prog W 0 (fun _ => true) true Try.f6.params.toList args.toList ds p := hA0
  rw [Try.params6] at hA hval
  obtain ⟨v0, vs0, d0, ds0, p0, q0, hargs, rfl, rfl, h0, r0⟩ := trodAll_cons hA
  obtain ⟨v1, vs1, d1, ds1, p1, q1, rfl, rfl, rfl, h1, r1⟩ := trodAll_cons r0
  obtain ⟨rfl, rfl, rfl⟩ := trodAll_nil r1
  obtain rfl : args = #[v0, v1] := by cases args; simp_all
  obtain ⟨rfl, rfl⟩ := trodVars_none hV
  obtain ⟨a0, rfl, rfl, rfl, w0⟩ := open_int Try.underlying3 (hval 0 3 v0 rfl rfl) h0
  obtain ⟨a1, len1, cap1, rfl⟩ := okWide_slice Try.underlying22 (hval 1 22 v1 rfl rfl)
  have k1 := h1
  have lt1 : ∀ x ∈ p1, x.block < W.heap.size := by obtain ⟨m, hm⟩ := k1; exact DataW.trod_lt m _ _ _ hm
  obtain ⟨z1, w1⟩ : ∃ zs, IsRow .i64 W a1 len1 cap1 zs := by
    obtain ⟨fuel, hf⟩ := h1
    rcases open_ints Try.underlying22 Try.underlying3 (by kernel_rfl) hf with ⟨hcs, _⟩ | ⟨x, l, c, zs, hcs, _, hl, hm, hz, _, hcell, hwz⟩
    · simp [Value.cells] at hcs
      obtain ⟨rfl, rfl, rfl⟩ := hcs
      exact ⟨[], .inl ⟨rfl, rfl, rfl, rfl⟩⟩
    · simp [Value.cells] at hcs
      obtain ⟨rfl, rfl, rfl⟩ := hcs
      exact ⟨zs, .inr ⟨_, rfl, hl, hm, by simpa using hz, hcell, hwz⟩⟩
  clear hA0 hval0
  refine (walk a0 a1 len1 cap1 z1 W w0 w1).mono fun e W' ⟨he, bel⟩ => ?_
  subst he
  exact ⟨_, rfl, _, _, _, [], _, [], hW', trodAll_mk1 (shut_bool Try.underlying4 _), (trodAll_cons_mk (shut_int Try.underlying3 w0) (trodAll_cons_mk (Below.trod laidOut (by kernel_rfl) (of_decide_eq_true (by kernel_rfl)) k1 bel lt1) trodAll_mk0)), rfl, bel.frame _, fun h => by cases h⟩

theorem over : Rows.diskFailsRow.holds Try.pinned (OpenSpec.ofChange Rows.diskFailsSpec) :=
  OpenClaim.holds_of_wide 6 Try.f6 rfl rfl rfl rfl rfl rfl rfl ⟨rfl, rfl, rfl, rfl, rfl⟩ rfl rfl rfl rfl rfl (by kernel_rfl) Try.func6 (by kernel_rfl)
    (of_decide_eq_true (by kernel_rfl)) (by unfold Func.isWrapper; first | (rw [if_pos (by decide +kernel)]; kernel_rfl) | (rw [if_neg (by decide +kernel)]; exact ⟨rfl, rfl⟩))
    (fun os started H enc _ => lifted os started H enc)

/-- ████ THE STATEMENT ████ -/
theorem proved : Rows.DiskFailsSaid := over
#print axioms proved
end Go.Proofs.Ytaccmeffcjfeeaa.diskFails
