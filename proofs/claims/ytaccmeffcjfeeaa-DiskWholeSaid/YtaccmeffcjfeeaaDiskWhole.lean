/-
  DiskWhole: for every list of numbers, and both answers to 'lost', the law answers true: a crash that lets each write become whole is as a flush; one that loses all is as if nothing was written since. No condition.
-/
import Derived.Test.YtaccmeffcjfeeaaTw
import Derived.WalkKit
import Derived.ProofKit
import Derived.OpenShut
import Derived.ShutString
import Derived.ChangeOld
import Derived.Below
namespace Go.Proofs.Ytaccmeffcjfeeaa.diskWhole
open Go.ChangeShapes Go.WideShapes Go.ChangeAt Go.RowKit
open Go.ChangeMaps (open_string shut_string)
set_option linter.unusedVariables false

theorem own : ownKnob Try.prog.godebug = none := by kernel_rfl
theorem laidOut : laidOutB Try.prog = true := by kernel_rfl

/-- WHAT THE WALK IS TOLD OF A SLICE OF INTEGERS THAT CAME IN: it is nil; or it leads to a row of 'cap' cells, the numbers 'zs' (the first 'len' are its elements, the rest its spare room), each fitting its kind. -/
def IsRow (k : IntKind) (w : World) (a : Option Addr) (len cap : Nat) (zs : List Int) : Prop :=
  (a = none ∧ len = 0 ∧ cap = 0 ∧ zs = []) ∨
  ∃ x, a = some x ∧ len ≤ cap ∧ cap ≤ maxLen ∧ zs.length = cap ∧ (∀ i, i < zs.length → w.cell? (x.add i) = some (.int k (zs.getD i 0))) ∧ ∀ n ∈ zs, (Lit.int k n).wf = true

/-! ### STEP 1: THE WALK: the Go text returns true, AND WRITES NOTHING THAT WAS THERE: 'Below w.heap.size w w'' (Derived/Below.lean: '.refl', '.alloc', '.drew', '.setCell' at a new block, '.trans'). Open each 'IsRow' by 'rcases' AHEAD of 'go_enter'; part every test ahead of the walk. -/
theorem info31m : (Try.prog.info? 31).map (fun i => (i.zero.map fun z => (z.cells.size), i.size, i.bytes)) = some (some 2, 2, 16) := by kernel_rfl
theorem info31 : ∃ i z, Try.prog.info? 31 = some i ∧ i.zero = some z ∧ i.size = 2 ∧ i.bytes = 16 ∧ z.cells.size = 2 := by
  have h := info31m
  cases hi : Try.prog.info? 31 with
  | none => simp [hi] at h
  | some i =>
    cases hz : i.zero with
    | none => simp [hi, hz] at h
    | some z =>
      simp [hi, hz] at h
      exact ⟨i, z, rfl, hz, h.2.1, h.2.2, h.1⟩
theorem fill_int (j : Int) (h0 : 0 ≤ j) (h1 : j < 256) (w : World) : Calls Try.prog 11 #[.int .u8 j] w fun e w' => e = .returned (.string (fil (UInt8.ofNat j.toNat))) ∧ Below w.heap.size w w' := by
  have e : ((UInt8.ofNat j.toNat).toNat : Int) = j := by simp; omega
  have h := fill_any (UInt8.ofNat j.toNat) w
  rw [e] at h
  exact h
theorem wpList_put {w : World} {ops : Array Oper} {rest : List Oper} {o : Oper} {a : Act} {Q : Exit → Act → World → Prop} (hgd : o.guard = none) (s x : Operand)
    (ho : o.op = .call { callee := .builtin .append, args := #[s, x], argTypes := #[26, 26] }) (B : Nat) (v : Value) (n : Nat) (xs : List Value) (hs : a.eval s = v) (hown : w.ownsRow B 31 2 v n xs)
    (g : Nat) (hx : a.eval x = .slice (some ⟨g, 0, none⟩) 1 1) (hg : w.heap[g]? = some (.cells #[.int .i64 1, .int .i64 0] 31 (0, 0))) (hn : n ≤ 1000) (hbase : B ≤ w.heap.size)
    (h : ∀ v' w', w'.ownsRow B 31 2 v' (n + 1) (xs ++ [.int .i64 1, .int .i64 0]) → w.grownBy w' v.ownBlock → wpList Try.prog ops Q rest (a.put o.dst v') w') : wpList Try.prog ops Q (o :: rest) a w := by
  obtain ⟨i, z, hi, hz0, hz1, hz2, hz3⟩ := info31
  exact wpList_append_own w hgd s x 26 ho B 31 i z 2 16 Try.underlying26 hi hz0 hz1 hz2 hz3 (by decide) v n xs hs hown ⟨g, 0, none⟩ 1 1 [.int .i64 1, .int .i64 0] hx rfl (World.news_of_block hg) (by intro u hu; simp at hu; rcases hu with rfl | rfl <;> rfl) (by unfold maxLen; omega) (by omega) hbase (fun v' w' h1 h2 _ => h v' w' h1 h2)
theorem new4 (w : World) : Calls Try.prog 10 #[.int .i64 4] w fun e w' => e = .returned (.pointer (some ⟨w.heap.size + 1, 0, none⟩)) ∧ Dk w' (w.heap.size + 1) w.heap.size 4 (zs 4) [] 0 none 0 0 0 ∧ Below w.heap.size w w' ∧ w'.heap.size = w.heap.size + 2 :=
  new_ok 4 (by omega) (by omega) w


set_option maxRecDepth 100000 in
set_option maxHeartbeats 4000000 in
theorem coreN (a0 : Option Addr) (len0 cap0 : Nat) (w : World) (hm : len0 ≤ 9223372036854775807) (h : Seen w a0 len0) :
    Calls Try.prog 3 #[.slice a0 len0 cap0, .bool false] w fun e w' => e = .returned (.bool true) ∧ Below w.heap.size w w' := by
  have H := Lib.hid h
  clear h
  go_enter Try.func3, Try.ntmps3
  go_wp2_with fail
  refine (awake_any _).mono ?_
  rintro e w1 ⟨rfl, hb⟩
  go_wp2_with fail
  refine (new4 _).mono ?_
  rintro e w2 ⟨rfl, hD2, hb2, hs2⟩
  go_wp2_with fail
  refine (new4 _).mono ?_
  rintro e w3 ⟨rfl, hD3, hb3', hs3⟩
  generalize zs 4 = S0 at *
  rw [hs2] at hD3 hs3 hb3'
  have ht : Tri w3 w1.heap.size S0 S0 [] [] 0 0 none none 0 0 0 0 (.slice none 0 0) 0 := ⟨hD2.below (by rw [hs2]; exact hb3'), hD3, World.ownsRow_nil _ _ _ _, fun g hg => by simp [ob, Value.ownBlock] at hg, fun g hg => by simp [ob, Value.ownBlock] at hg, fun g hg => by simp [ob, Value.ownBlock] at hg, fun g hg => by simp [ob, Value.ownBlock] at hg, fun g hg => by simp [ob, Value.ownBlock] at hg⟩
  have hb3 : Below w1.heap.size w1 w3 := hb2.trans (hb3'.mono (by omega))
  try simp only [hs2, Nat.add_assoc, Nat.reduceAdd]
  clear hD2 hD3 hb2 hb3' hs2 hs3
  go_wp2_with fail
  go_loopw [8, 9, 10] (fun fv nv i wr => ∃ (k : Nat) (O : List (Nat × List UInt8)) (oa : Option Addr) (oc : Option Addr) (cb : Nat) (ca : Nat) (v : Value), Tri wr w1.heap.size S0 S0 O O k k oa oc ca cb 0 0 v k ∧ Below w1.heap.size w1 wr ∧ k ≤ 12 ∧ k ≤ len0 ∧ fv = v ∧ nv = .int .i64 k ∧ i = .int .i64 k) (fun _ _ i _ => 12 - (intOf i).toNat)
  case atStart => exact ⟨0, [], none, none, 0, 0, .slice none 0 0, ht, hb3, by omega, by omega, rfl, rfl, rfl⟩
  case round =>
    obtain ⟨k, O, oa, oc, cb, ca, v, ht, hbr, hk12, hkl, rfl, rfl, rfl⟩ := hrel
    by_cases hgo : k < len0 ∧ k < 12
    · obtain ⟨hlt, hlt12⟩ := hgo
      obtain ⟨b, off, rfl, hbw, x, hx⟩ := H.out k hlt
      have hsz := hb.size
      have hxr : wr.cell? ⟨b, off + k, none⟩ = some (.int .i64 x) := by
        rw [hbr.cell (p := ⟨b, off + k, none⟩) (by simp; omega), hb.cell (p := ⟨b, off + k, none⟩) (by simpa using hbw)]; exact hx
      obtain ⟨q, hq, hand⟩ := and3 x
      have hbw1 : b < w1.heap.size := by omega
      have FI := Lib.hid (fill_int (1 + (k : Int)) (by omega) (by omega))
      have hFs := fil_size (UInt8.ofNat (1 + (k : Int)).toNat)
      generalize fil (UInt8.ofNat (1 + (k : Int)).toNat) = A at *
      have HFS := Lib.hid hFs
      have HX := Lib.hid hx
      clear hFs hx
      go_wp2_with fail
      refine (FI.out _).mono ?_
      rintro e w4 ⟨rfl, hb4⟩
      have t4 := ht.below hb4
      have hbr4 := hbr.trans (hb4.mono hbr.size)
      have hx4 : w4.cell? ⟨b, off + k, none⟩ = some (.int .i64 x) := (hbr4.cell (p := ⟨b, off + k, none⟩) (by simpa using hbw1)).trans ((hb.cell (p := ⟨b, off + k, none⟩) (by simpa using hbw)).trans HX.out)
      clear ht hbr hb4 hxr FI
      go_wp2_with fail
      refine (write_ok t4.da q hq A HFS.out (by omega) 0 rfl).mono ?_
      rintro e w5 ⟨rfl, oa5, ca5, hD5, hM5, hf5⟩
      have t5 := t4.wa hD5 hM5 hf5
      have hbr5 := below_moved hbr4 (Nat.le_refl _) hM5 (by omega) (Nat.le_refl _) (fun g hg => by have := t4.na g hg; omega)
      have hx5 : w5.cell? ⟨b, off + k, none⟩ = some (.int .i64 x) := (hbr5.cell (p := ⟨b, off + k, none⟩) (by simpa using hbw1)).trans ((hb.cell (p := ⟨b, off + k, none⟩) (by simpa using hbw)).trans HX.out)
      clear t4 hbr4 hx4 hD5 hM5 hf5
      go_wp2_with fail
      refine (write_ok t5.db q hq A HFS.out (by omega) 0 rfl).mono ?_
      rintro e w6 ⟨rfl, oc6, cb6, hD6, hM6, hf6⟩
      have t6 := t5.wb hD6 hM6 hf6
      have hbr6 := below_moved hbr5 (Nat.le_refl _) hM6 (by omega) (by omega) (fun g hg => by have := t5.nb g hg; omega)
      clear t5 hbr5 hx5 hD6 hM6 hf6
      go_wp2_with (refine wpList_put rfl (.tmp 59) (.tmp 61) rfl (w1.heap.size + 4) _ _ _ rfl (t6.below (((Below.refl w6.heap.size w6)).alloc (Nat.le_refl _) (Obj.cells #[.int .i64 1, .int .i64 0] 31))).fa w6.heap.size rfl (heap_alloc_new _ _) (by omega) (by have := hbr6.size; have := t6.db.lt; simp; omega) ?_)
      intro v' w7 hown hgrow
      have t7 := t6.put ((Below.refl w6.heap.size w6).alloc (Nat.le_refl _) (Obj.cells #[.int .i64 1, .int .i64 0] 31)) hown hgrow
      have hbr7 : Below w1.heap.size w1 w7 := below_grown (hbr6.alloc hbr6.size (Obj.cells #[.int .i64 1, .int .i64 0] 31)) hgrow (fun g hg => by have := (t6.fa.lt g hg).1; omega) (by have := hbr6.size; have := t6.db.lt; simp; omega)
      clear hown hgrow t6 hbr6
      go_wp2_with fail
      go_roundw
      case rel => exact ⟨k + 1, _, _, _, _, _, v', t7, hbr7, by omega, by omega, rfl, by go_num, by go_num⟩
      case measure => simp [intOf]; omega
    · have hcase : ¬ k < len0 ∨ k < len0 ∧ k = 12 := by omega
      rcases hcase with hnl | ⟨hlt, rfl⟩
      · clear H hgo
        go_wp2_with fail
        obtain ⟨la, lc, rfl, hFt, hfar⟩ := ht.read
        have hwh := crS_whole O 0 k S0 ht.da.oall' ht.da.all (by have := ht.da.many; omega)
        have hcr := crash_any ht.da la (List.replicate k (1, 0)) k lc hFt (by simp) (by omega) hfar
        rw [hwh.1, hwh.2] at hcr
        refine hcr.mono ?_
        rintro e w8 ⟨rfl, hD8, hM8⟩
        have t8 := ht.wa hD8 hM8 (fun g hg => by simp [ob, Value.ownBlock] at hg)
        have hbr8 := below_moved hbr (Nat.le_refl _) hM8 (by omega) (by omega) (fun g hg => by have := ht.na g hg; omega)
        clear ht hbr hD8 hM8 hcr hFt hfar hwh
        go_wp2_with fail
        refine (flush_ok t8.db 0 rfl).mono ?_
        rintro e w9 ⟨rfl, hD9, hM9⟩
        have t9 := t8.wb hD9 hM9 (fun g hg => by simp [ob, Value.ownBlock] at hg)
        have hbr9 := below_moved hbr8 (Nat.le_refl _) hM9 (by omega) (by omega) (fun g hg => by have := t8.nb g hg; omega)
        clear t8 hbr8 hD9 hM9
        generalize fl S0 O = T at *
        go_wp2_with fail
        go_loopw [13] (fun i wr => ∃ j : Nat, j ≤ 4 ∧ i = .int .i64 j ∧ (∃ vv, Tri wr w1.heap.size T T [] [] 0 0 none none 0 0 j j vv k) ∧ Below w1.heap.size w1 wr) (fun i _ => 4 - (intOf i).toNat)
        case atStart => exact ⟨0, by omega, rfl, ⟨_, t9⟩, hbr9⟩
        case round =>
          obtain ⟨j, hj, rfl, ⟨vv, tj⟩, hbj⟩ := hrel
          by_cases hj4 : j < 4
          · go_wp2_with fail
            refine (read_ok tj.da j hj4 (by omega) 0 rfl).mono ?_
            rintro e wa ⟨rfl, hDa, hMa⟩
            have ta := tj.wa hDa hMa (fun g hg => .inl hg)
            have hba := below_moved hbj (Nat.le_refl _) hMa (by omega) (by omega) (fun g hg => by have := tj.na g hg; omega)
            clear tj hbj hDa hMa
            go_wp2_with fail
            refine (read_ok ta.db j hj4 (by omega) 0 rfl).mono ?_
            rintro e wb ⟨rfl, hDb, hMb⟩
            have tb := ta.wb hDb hMb (fun g hg => .inl hg)
            have hbb := below_moved hba (Nat.le_refl _) hMb (by omega) (by omega) (fun g hg => by have := ta.nb g hg; omega)
            clear ta hba hDb hMb
            generalize rd T [] j = R at *
            go_wp2_with fail
            go_roundw
            case rel => exact ⟨j + 1, by omega, by go_num, ⟨_, tb⟩, hbb⟩
            case measure => simp [intOf]; omega
          · go_wp2_with fail
            go_ret
            exact ⟨rfl, hb.trans (hbj.mono hb.size)⟩
      · clear H hgo
        go_wp2_with fail
        obtain ⟨la, lc, rfl, hFt, hfar⟩ := ht.read
        have hwh := crS_whole O 0 12 S0 ht.da.oall' ht.da.all (by have := ht.da.many; omega)
        have hcr := crash_any ht.da la (List.replicate 12 (1, 0)) 12 lc hFt (by simp) (by omega) hfar
        rw [hwh.1, hwh.2] at hcr
        refine hcr.mono ?_
        rintro e w8 ⟨rfl, hD8, hM8⟩
        have t8 := ht.wa hD8 hM8 (fun g hg => by simp [ob, Value.ownBlock] at hg)
        have hbr8 := below_moved hbr (Nat.le_refl _) hM8 (by omega) (by omega) (fun g hg => by have := ht.na g hg; omega)
        clear ht hbr hD8 hM8 hcr hFt hfar hwh
        go_wp2_with fail
        refine (flush_ok t8.db 0 rfl).mono ?_
        rintro e w9 ⟨rfl, hD9, hM9⟩
        have t9 := t8.wb hD9 hM9 (fun g hg => by simp [ob, Value.ownBlock] at hg)
        have hbr9 := below_moved hbr8 (Nat.le_refl _) hM9 (by omega) (by omega) (fun g hg => by have := t8.nb g hg; omega)
        clear t8 hbr8 hD9 hM9
        generalize fl S0 O = T at *
        go_wp2_with fail
        go_loopw [13] (fun i wr => ∃ j : Nat, j ≤ 4 ∧ i = .int .i64 j ∧ (∃ vv, Tri wr w1.heap.size T T [] [] 0 0 none none 0 0 j j vv 12) ∧ Below w1.heap.size w1 wr) (fun i _ => 4 - (intOf i).toNat)
        case atStart => exact ⟨0, by omega, rfl, ⟨_, t9⟩, hbr9⟩
        case round =>
          obtain ⟨j, hj, rfl, ⟨vv, tj⟩, hbj⟩ := hrel
          by_cases hj4 : j < 4
          · go_wp2_with fail
            refine (read_ok tj.da j hj4 (by omega) 0 rfl).mono ?_
            rintro e wa ⟨rfl, hDa, hMa⟩
            have ta := tj.wa hDa hMa (fun g hg => .inl hg)
            have hba := below_moved hbj (Nat.le_refl _) hMa (by omega) (by omega) (fun g hg => by have := tj.na g hg; omega)
            clear tj hbj hDa hMa
            go_wp2_with fail
            refine (read_ok ta.db j hj4 (by omega) 0 rfl).mono ?_
            rintro e wb ⟨rfl, hDb, hMb⟩
            have tb := ta.wb hDb hMb (fun g hg => .inl hg)
            have hbb := below_moved hba (Nat.le_refl _) hMb (by omega) (by omega) (fun g hg => by have := ta.nb g hg; omega)
            clear ta hba hDb hMb
            generalize rd T [] j = R at *
            go_wp2_with fail
            go_roundw
            case rel => exact ⟨j + 1, by omega, by go_num, ⟨_, tb⟩, hbb⟩
            case measure => simp [intOf]; omega
          · go_wp2_with fail
            go_ret
            exact ⟨rfl, hb.trans (hbj.mono hb.size)⟩

set_option maxRecDepth 100000 in
set_option maxHeartbeats 4000000 in
theorem coreL (a0 : Option Addr) (len0 cap0 : Nat) (w : World) (hm : len0 ≤ 9223372036854775807) (h : Seen w a0 len0) :
    Calls Try.prog 3 #[.slice a0 len0 cap0, .bool true] w fun e w' => e = .returned (.bool true) ∧ Below w.heap.size w w' := by
  have H := Lib.hid h
  clear h
  go_enter Try.func3, Try.ntmps3
  go_wp2_with fail
  refine (awake_any _).mono ?_
  rintro e w1 ⟨rfl, hb⟩
  go_wp2_with fail
  refine (new4 _).mono ?_
  rintro e w2 ⟨rfl, hD2, hb2, hs2⟩
  go_wp2_with fail
  refine (new4 _).mono ?_
  rintro e w3 ⟨rfl, hD3, hb3', hs3⟩
  generalize zs 4 = S0 at *
  rw [hs2] at hD3 hs3 hb3'
  have ht : Tri w3 w1.heap.size S0 S0 [] [] 0 0 none none 0 0 0 0 (.slice none 0 0) 0 := ⟨hD2.below (by rw [hs2]; exact hb3'), hD3, World.ownsRow_nil _ _ _ _, fun g hg => by simp [ob, Value.ownBlock] at hg, fun g hg => by simp [ob, Value.ownBlock] at hg, fun g hg => by simp [ob, Value.ownBlock] at hg, fun g hg => by simp [ob, Value.ownBlock] at hg, fun g hg => by simp [ob, Value.ownBlock] at hg⟩
  have hb3 : Below w1.heap.size w1 w3 := hb2.trans (hb3'.mono (by omega))
  try simp only [hs2, Nat.add_assoc, Nat.reduceAdd]
  clear hD2 hD3 hb2 hb3' hs2 hs3
  go_wp2_with fail
  go_loopw [8, 9, 10] (fun fv nv i wr => ∃ (k : Nat) (O : List (Nat × List UInt8)) (oa : Option Addr) (ca : Nat) (v : Value), Tri wr w1.heap.size S0 S0 O [] k 0 oa none ca 0 0 0 v k ∧ Below w1.heap.size w1 wr ∧ k ≤ 12 ∧ k ≤ len0 ∧ fv = v ∧ nv = .int .i64 k ∧ i = .int .i64 k) (fun _ _ i _ => 12 - (intOf i).toNat)
  case atStart => exact ⟨0, [], none, 0, .slice none 0 0, ht, hb3, by omega, by omega, rfl, rfl, rfl⟩
  case round =>
    obtain ⟨k, O, oa, ca, v, ht, hbr, hk12, hkl, rfl, rfl, rfl⟩ := hrel
    by_cases hgo : k < len0 ∧ k < 12
    · obtain ⟨hlt, hlt12⟩ := hgo
      obtain ⟨b, off, rfl, hbw, x, hx⟩ := H.out k hlt
      have hsz := hb.size
      have hxr : wr.cell? ⟨b, off + k, none⟩ = some (.int .i64 x) := by
        rw [hbr.cell (p := ⟨b, off + k, none⟩) (by simp; omega), hb.cell (p := ⟨b, off + k, none⟩) (by simpa using hbw)]; exact hx
      obtain ⟨q, hq, hand⟩ := and3 x
      have hbw1 : b < w1.heap.size := by omega
      have FI := Lib.hid (fill_int (1 + (k : Int)) (by omega) (by omega))
      have hFs := fil_size (UInt8.ofNat (1 + (k : Int)).toNat)
      generalize fil (UInt8.ofNat (1 + (k : Int)).toNat) = A at *
      have HFS := Lib.hid hFs
      have HX := Lib.hid hx
      clear hFs hx
      go_wp2_with fail
      refine (FI.out _).mono ?_
      rintro e w4 ⟨rfl, hb4⟩
      have t4 := ht.below hb4
      have hbr4 := hbr.trans (hb4.mono hbr.size)
      have hx4 : w4.cell? ⟨b, off + k, none⟩ = some (.int .i64 x) := (hbr4.cell (p := ⟨b, off + k, none⟩) (by simpa using hbw1)).trans ((hb.cell (p := ⟨b, off + k, none⟩) (by simpa using hbw)).trans HX.out)
      clear ht hbr hb4 hxr FI
      go_wp2_with fail
      refine (write_ok t4.da q hq A HFS.out (by omega) 0 rfl).mono ?_
      rintro e w5 ⟨rfl, oa5, ca5, hD5, hM5, hf5⟩
      have t5 := t4.wa hD5 hM5 hf5
      have hbr5 := below_moved hbr4 (Nat.le_refl _) hM5 (by omega) (Nat.le_refl _) (fun g hg => by have := t4.na g hg; omega)
      have hx5 : w5.cell? ⟨b, off + k, none⟩ = some (.int .i64 x) := (hbr5.cell (p := ⟨b, off + k, none⟩) (by simpa using hbw1)).trans ((hb.cell (p := ⟨b, off + k, none⟩) (by simpa using hbw)).trans HX.out)
      clear t4 hbr4 hx4 hD5 hM5 hf5
      generalize w5 = w6 at *
      have t6 := t5
      have hbr6 := hbr5
      clear t5 hbr5 hx5
      go_wp2_with (refine wpList_put rfl (.tmp 59) (.tmp 61) rfl (w1.heap.size + 4) _ _ _ rfl (t6.below (((Below.refl w6.heap.size w6)).alloc (Nat.le_refl _) (Obj.cells #[.int .i64 1, .int .i64 0] 31))).fa w6.heap.size rfl (heap_alloc_new _ _) (by omega) (by have := hbr6.size; have := t6.db.lt; simp; omega) ?_)
      intro v' w7 hown hgrow
      have t7 := t6.put ((Below.refl w6.heap.size w6).alloc (Nat.le_refl _) (Obj.cells #[.int .i64 1, .int .i64 0] 31)) hown hgrow
      have hbr7 : Below w1.heap.size w1 w7 := below_grown (hbr6.alloc hbr6.size (Obj.cells #[.int .i64 1, .int .i64 0] 31)) hgrow (fun g hg => by have := (t6.fa.lt g hg).1; omega) (by have := hbr6.size; have := t6.db.lt; simp; omega)
      clear hown hgrow t6 hbr6
      go_wp2_with fail
      go_roundw
      case rel => exact ⟨k + 1, _, _, _, v', t7, hbr7, by omega, by omega, rfl, by go_num, by go_num⟩
      case measure => simp [intOf]; omega
    · have hcase : ¬ k < len0 ∨ k < len0 ∧ k = 12 := by omega
      rcases hcase with hnl | ⟨hlt, rfl⟩
      · clear H hgo
        go_wp2_with fail
        have hwh := crS_none O 0 S0
        have hmm := ht.da.many
        have hcr := crash_any ht.da none [] 0 0 (fun i hi => by simp at hi) rfl (by omega) (fun c off hh => by cases hh)
        rw [hwh.1, hwh.2, hmm] at hcr
        refine hcr.mono ?_
        rintro e w8 ⟨rfl, hD8, hM8⟩
        have t8 := ht.wa hD8 hM8 (fun g hg => by simp [ob, Value.ownBlock] at hg)
        have hbr8 := below_moved hbr (Nat.le_refl _) hM8 (by omega) (by omega) (fun g hg => by have := ht.na g hg; omega)
        have hfl : fl S0 [] = S0 := rfl
        generalize S0 = T at *
        clear ht hbr hD8 hM8 hcr hwh hmm
        go_wp2_with fail
        refine (flush_ok t8.db 0 rfl).mono ?_
        rintro e w9 ⟨rfl, hD9, hM9⟩
        have t9 := t8.wb hD9 hM9 (fun g hg => by simp [ob, Value.ownBlock] at hg)
        have hbr9 := below_moved hbr8 (Nat.le_refl _) hM9 (by omega) (by omega) (fun g hg => by have := t8.nb g hg; omega)
        clear t8 hbr8 hD9 hM9
        rw [hfl] at t9
        go_wp2_with fail
        go_loopw [13] (fun i wr => ∃ j : Nat, j ≤ 4 ∧ i = .int .i64 j ∧ (∃ vv, Tri wr w1.heap.size T T [] [] 0 0 none none 0 0 j j vv k) ∧ Below w1.heap.size w1 wr) (fun i _ => 4 - (intOf i).toNat)
        case atStart => exact ⟨0, by omega, rfl, ⟨_, t9⟩, hbr9⟩
        case round =>
          obtain ⟨j, hj, rfl, ⟨vv, tj⟩, hbj⟩ := hrel
          by_cases hj4 : j < 4
          · go_wp2_with fail
            refine (read_ok tj.da j hj4 (by omega) 0 rfl).mono ?_
            rintro e wa ⟨rfl, hDa, hMa⟩
            have ta := tj.wa hDa hMa (fun g hg => .inl hg)
            have hba := below_moved hbj (Nat.le_refl _) hMa (by omega) (by omega) (fun g hg => by have := tj.na g hg; omega)
            clear tj hbj hDa hMa
            go_wp2_with fail
            refine (read_ok ta.db j hj4 (by omega) 0 rfl).mono ?_
            rintro e wb ⟨rfl, hDb, hMb⟩
            have tb := ta.wb hDb hMb (fun g hg => .inl hg)
            have hbb := below_moved hba (Nat.le_refl _) hMb (by omega) (by omega) (fun g hg => by have := ta.nb g hg; omega)
            clear ta hba hDb hMb
            generalize rd T [] j = R at *
            go_wp2_with fail
            go_roundw
            case rel => exact ⟨j + 1, by omega, by go_num, ⟨_, tb⟩, hbb⟩
            case measure => simp [intOf]; omega
          · go_wp2_with fail
            go_ret
            exact ⟨rfl, hb.trans (hbj.mono hb.size)⟩
      · clear H hgo
        go_wp2_with fail
        have hwh := crS_none O 0 S0
        have hmm := ht.da.many
        have hcr := crash_any ht.da none [] 0 0 (fun i hi => by simp at hi) rfl (by omega) (fun c off hh => by cases hh)
        rw [hwh.1, hwh.2, hmm] at hcr
        refine hcr.mono ?_
        rintro e w8 ⟨rfl, hD8, hM8⟩
        have t8 := ht.wa hD8 hM8 (fun g hg => by simp [ob, Value.ownBlock] at hg)
        have hbr8 := below_moved hbr (Nat.le_refl _) hM8 (by omega) (by omega) (fun g hg => by have := ht.na g hg; omega)
        have hfl : fl S0 [] = S0 := rfl
        generalize S0 = T at *
        clear ht hbr hD8 hM8 hcr hwh hmm
        go_wp2_with fail
        refine (flush_ok t8.db 0 rfl).mono ?_
        rintro e w9 ⟨rfl, hD9, hM9⟩
        have t9 := t8.wb hD9 hM9 (fun g hg => by simp [ob, Value.ownBlock] at hg)
        have hbr9 := below_moved hbr8 (Nat.le_refl _) hM9 (by omega) (by omega) (fun g hg => by have := t8.nb g hg; omega)
        clear t8 hbr8 hD9 hM9
        rw [hfl] at t9
        go_wp2_with fail
        go_loopw [13] (fun i wr => ∃ j : Nat, j ≤ 4 ∧ i = .int .i64 j ∧ (∃ vv, Tri wr w1.heap.size T T [] [] 0 0 none none 0 0 j j vv 12) ∧ Below w1.heap.size w1 wr) (fun i _ => 4 - (intOf i).toNat)
        case atStart => exact ⟨0, by omega, rfl, ⟨_, t9⟩, hbr9⟩
        case round =>
          obtain ⟨j, hj, rfl, ⟨vv, tj⟩, hbj⟩ := hrel
          by_cases hj4 : j < 4
          · go_wp2_with fail
            refine (read_ok tj.da j hj4 (by omega) 0 rfl).mono ?_
            rintro e wa ⟨rfl, hDa, hMa⟩
            have ta := tj.wa hDa hMa (fun g hg => .inl hg)
            have hba := below_moved hbj (Nat.le_refl _) hMa (by omega) (by omega) (fun g hg => by have := tj.na g hg; omega)
            clear tj hbj hDa hMa
            go_wp2_with fail
            refine (read_ok ta.db j hj4 (by omega) 0 rfl).mono ?_
            rintro e wb ⟨rfl, hDb, hMb⟩
            have tb := ta.wb hDb hMb (fun g hg => .inl hg)
            have hbb := below_moved hba (Nat.le_refl _) hMb (by omega) (by omega) (fun g hg => by have := ta.nb g hg; omega)
            clear ta hba hDb hMb
            generalize rd T [] j = R at *
            go_wp2_with fail
            go_roundw
            case rel => exact ⟨j + 1, by omega, by go_num, ⟨_, tb⟩, hbb⟩
            case measure => simp [intOf]; omega
          · go_wp2_with fail
            go_ret
            exact ⟨rfl, hb.trans (hbj.mono hb.size)⟩

theorem walk (a0 : Option Addr) (len0 cap0 : Nat) (z0 : List Int) (a1 : Bool) (w : World) (w0 : IsRow .i64 w a0 len0 cap0 z0) :
    Calls Try.prog 3 #[.slice a0 len0 cap0, .bool a1] w fun e w' => e = .returned (.bool true) ∧ Below w.heap.size w w' := by
  obtain ⟨hm, hs⟩ := seen_of w0
  cases a1
  · exact coreN a0 len0 cap0 w hm hs
  · exact coreL a0 len0 cap0 w hm hs

/-! ### THE ROW's STEP: WRITTEN OUT: LEAVE IT -/
set_option maxRecDepth 100000 in
theorem lifted (os : Os) (started : os.Started) (H : Type) (enc : TypeId × Value → H) :
    ReturnsInHanded {} Try.checked os 3 .any (Rows.diskWholeSpec.pre6 enc Try.prog Try.f3 Rows.diskWholeRow.domain false) (Rows.diskWholeSpec.post enc Try.prog Try.f3 false true false false) := by
  refine returnsInHanded_of_change (C := Try.checked) own started (by kernel_rfl) Try.func3
    (ChangeSpec.witness6 (enc := enc) (C := Try.checked) false ⟨#[], #[.slice none 0 0, .bool false], []⟩ 8 (by kernel_rfl) (by kernel_rfl) (by kernel_rfl) (by kernel_rfl)) ?_
  intro W base args ds gs before hval0 hW hcnd _
  have hval : ∀ (j : Nat) t v, Try.f3.params[j]? = some t → args[j]? = some v → Value.okWide Try.prog W .any base t v := hval0
  have hW' := hW
  obtain ⟨p, q, hA0, hV, rfl, hfz, hnd⟩ := hW
  have hA : DataW.TrodAll enc Try.prog W 0 (fun _ => true) true Try.f3.params.toList args.toList ds p := hA0
  rw [Try.params3] at hA hval
  obtain ⟨v0, vs0, d0, ds0, p0, q0, hargs, rfl, rfl, h0, r0⟩ := trodAll_cons hA
  obtain ⟨v1, vs1, d1, ds1, p1, q1, rfl, rfl, rfl, h1, r1⟩ := trodAll_cons r0
  obtain ⟨rfl, rfl, rfl⟩ := trodAll_nil r1
  obtain rfl : args = #[v0, v1] := by cases args; simp_all
  obtain ⟨rfl, rfl⟩ := trodVars_none hV
  obtain ⟨a0, len0, cap0, rfl⟩ := okWide_slice Try.underlying22 (hval 0 22 v0 rfl rfl)
  have k0 := h0
  have lt0 : ∀ x ∈ p0, x.block < W.heap.size := by obtain ⟨m, hm⟩ := k0; exact DataW.trod_lt m _ _ _ hm
  obtain ⟨z0, w0⟩ : ∃ zs, IsRow .i64 W a0 len0 cap0 zs := by
    obtain ⟨fuel, hf⟩ := h0
    rcases open_ints Try.underlying22 Try.underlying3 (by kernel_rfl) hf with ⟨hcs, _⟩ | ⟨x, l, c, zs, hcs, _, hl, hm, hz, _, hcell, hwz⟩
    · simp [Value.cells] at hcs
      obtain ⟨rfl, rfl, rfl⟩ := hcs
      exact ⟨[], .inl ⟨rfl, rfl, rfl, rfl⟩⟩
    · simp [Value.cells] at hcs
      obtain ⟨rfl, rfl, rfl⟩ := hcs
      exact ⟨zs, .inr ⟨_, rfl, hl, hm, by simpa using hz, hcell, hwz⟩⟩
  obtain ⟨a1, rfl, rfl, rfl⟩ := open_bool Try.underlying4 (hval 1 4 v1 rfl rfl) h1
  clear hA0 hval0
  refine (walk a0 len0 cap0 z0 a1 W w0).mono fun e W' ⟨he, bel⟩ => ?_
  subst he
  exact ⟨_, rfl, _, _, _, [], _, [], hW', trodAll_mk1 (shut_bool Try.underlying4 _), (trodAll_cons_mk (Below.trod laidOut (by kernel_rfl) (of_decide_eq_true (by kernel_rfl)) k0 bel lt0) (trodAll_cons_mk (shut_bool Try.underlying4 _) trodAll_mk0)), rfl, bel.frame _, fun h => by cases h⟩

theorem over : Rows.diskWholeRow.holds Try.pinned (OpenSpec.ofChange Rows.diskWholeSpec) :=
  OpenClaim.holds_of_wide 3 Try.f3 rfl rfl rfl rfl rfl rfl rfl ⟨rfl, rfl, rfl, rfl, rfl⟩ rfl rfl rfl rfl rfl (by kernel_rfl) Try.func3 (by kernel_rfl)
    (of_decide_eq_true (by kernel_rfl)) (by unfold Func.isWrapper; first | (rw [if_pos (by decide +kernel)]; kernel_rfl) | (rw [if_neg (by decide +kernel)]; exact ⟨rfl, rfl⟩))
    (fun os started H enc _ => lifted os started H enc)

/-- ████ THE STATEMENT ████ -/
theorem proved : Rows.DiskWholeSaid := over
#print axioms proved
end Go.Proofs.Ytaccmeffcjfeeaa.diskWhole
