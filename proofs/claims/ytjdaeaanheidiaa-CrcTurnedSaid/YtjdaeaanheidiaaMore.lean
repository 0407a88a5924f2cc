/-
  The table is made once; 'More' of the table: its contracts.
-/
import Derived.Test.YtjdaeaanheidiaaTb
import Derived.Laws.NewBlocks
import Derived.Deep.QuietTactic
import Derived.BigQuiet
namespace Go.Proofs.Ytjdaeaanheidiaa
open Go.RowKit Crc

theorem grown_drew_set (w : World) (b k : Nat) (v : Value) : w.grownBy (w.drew.setCell ⟨b, k, none⟩ v) (some b) :=
  have h := grown_set w.drew b k v
  ⟨h.os, h.tape, h.output, h.size, h.block⟩
theorem grown_drewN {w w' : World} {r : Option Nat} (h : w.grownBy w' r) (n : Nat) : w.grownBy (w'.drewN n) r := ⟨h.os, h.tape, h.output, h.size, h.block⟩

set_option maxRecDepth 100000 in
set_option maxHeartbeats 1600000 in
theorem slow_any {w : World} {b : Nat} {l : List Nat} (h : Tb w b 0 0 l) :
    Calls Try.prog 25 #[.pointer (some ⟨b, 0, none⟩), .func (.func 22) #[.pointer (some ⟨b, 0, none⟩)] #[]] w fun e w' => e = .returned (.tuple #[]) ∧ Tb w' b 1 0 table ∧ w.grownBy w' (some b) := by
  have h1 := h.set1 1
  have hl := run_call_load (P := Try.prog) Try.func26 (by kernel_rfl) (by kernel_rfl) (by kernel_rfl) .u32 (by kernel_rfl) h1.c0
  have hc := h.c1
  have hf := h.free 1
  have hnot : ∀ (x : Bool) (w : World), (Op.unary .not (.bool x)).run Try.prog w = .ok (.bool (!x)) w := fun _ _ => rfl
  go_enter_defers Try.func25, Try.ntmps25
  go_wp2_with (first | (go_at_call 27; refine (lock_free ⟨b, 1, none⟩ _ hc hf).mono ?_; rintro e w' ⟨rfl, rfl⟩) | (go_at_call 24; go_in) | (go_at_call 22; refine (fill_any h1).mono ?_; rintro e w2 ⟨rfl, hT2, hg2⟩))
  refine leaves_cons (f := 29) (args := #[.pointer (some ⟨b, 0, none⟩), .bool true]) (by simp) (by simp [go_sem]) ?_
  refine (store_deferred ⟨b, 0, none⟩ (.int .u32 0) .returning _ hT2.c0 (hT2.free 0)).mono ?_
  rintro e u' w3 ⟨rfl, rfl, rfl⟩
  have hT3 : Tb (w2.drew.setCell ⟨b, 0, none⟩ (.int .u32 1)) b 1 1 table := (hT2.keep (w' := w2.drew) rfl).set0 1
  refine leaves_cons (f := 28) (args := #[.pointer (some ⟨b, 1, none⟩)]) (by simp [settle]) (by simp [go_sem]) ?_
  refine (unlock_deferred ⟨b, 1, none⟩ _ _ hT3.c1 (hT3.free 1)).mono ?_
  rintro e u' w4 ⟨rfl, rfl, rfl⟩
  have hT4 := hT3.set1 0
  have hg : w.grownBy ((w2.drew.setCell ⟨b, 0, none⟩ (.int .u32 1)).setCell ⟨b, 1, none⟩ (.int .i32 0)) (some b) :=
    (((grown_set w b 1 _).trans hg2).trans (grown_drew_set w2 b 0 (.int .u32 1))).trans (grown_set _ b 1 _)
  simp [Leaves, settle, results, Try.results25]
  exact ⟨hT4, hg⟩

set_option maxRecDepth 100000 in
set_option maxHeartbeats 1600000 in
theorem do_first {w : World} {b : Nat} {l : List Nat} (h : Tb w b 0 0 l) :
    Calls Try.prog 21 #[.pointer (some ⟨b, 0, none⟩), .func (.func 22) #[.pointer (some ⟨b, 0, none⟩)] #[]] w fun e w' => e = .returned (.tuple #[]) ∧ Tb w' b 1 0 table ∧ w.grownBy w' (some b) := by
  have hl := run_call_load (P := Try.prog) Try.func26 (by kernel_rfl) (by kernel_rfl) (by kernel_rfl) .u32 (by kernel_rfl) h.c0
  have hnot : ∀ (x : Bool) (w : World), (Op.unary .not (.bool x)).run Try.prog w = .ok (.bool (!x)) w := fun _ _ => rfl
  go_enter Try.func21, Try.ntmps21
  go_wp2_with (first | (go_at_call 25; refine (slow_any h).mono ?_; rintro e w' ⟨rfl, hT, hg⟩) | (go_at_call 24; go_in))
  go_end0
  exact ⟨rfl, hT, hg⟩
theorem do_done {w : World} {b : Nat} {l : List Nat} {s : Int} (h : Tb w b 1 s l) (fv : Value) :
    Calls Try.prog 21 #[.pointer (some ⟨b, 0, none⟩), fv] w fun e w' => e = .returned (.tuple #[]) ∧ w = w' := by
  have hl := run_call_load (P := Try.prog) Try.func26 (by kernel_rfl) (by kernel_rfl) (by kernel_rfl) .u32 (by kernel_rfl) h.c0
  have hnot : ∀ (x : Bool) (w : World), (Op.unary .not (.bool x)).run Try.prog w = .ok (.bool (!x)) w := fun _ _ => rfl
  go_enter Try.func21, Try.ntmps21
  go_wp2
  go_end0
  exact ⟨rfl, rfl⟩

theorem xorM (n : Nat) (hn : n < 4294967296) : bits .xor .u32 IntKind.u32.max (n : Int) = ((cpl n : Nat) : Int) := by
  have := u32_xor_nat 4294967295 n (by omega) hn
  rw [cpl_xor n hn]
  exact this

/-- A table: made already, or not. -/
def Tab (w : World) (b : Nat) : Prop := (∃ l, Tb w b 0 0 l) ∨ Tb w b 1 0 table
theorem do_any {w : World} {b : Nat} (h : Tab w b) :
    Calls Try.prog 21 #[.pointer (some ⟨b, 0, none⟩), .func (.func 22) #[.pointer (some ⟨b, 0, none⟩)] #[]] w fun e w' => e = .returned (.tuple #[]) ∧ Tb w' b 1 0 table ∧ w.grownBy w' (some b) := by
  rcases h with ⟨l, h⟩ | h
  · exact do_first h
  · exact (do_done h _).mono fun _ _ ⟨he, hw⟩ => ⟨he, hw ▸ h, hw ▸ World.grownBy.refl _ _⟩

theorem more_nil (sum : Int) (s : ByteArray) (w : World) :
    Calls Try.prog 13 #[.pointer none, .int .u32 sum, .string s] w fun e w' => e = .returned (.int .u32 0) ∧ w = w' := by
  go_enter Try.func13, Try.ntmps13
  go_wp2
  go_ret
  exact ⟨rfl, rfl⟩

set_option maxRecDepth 100000 in
set_option maxHeartbeats 1600000 in
theorem more_any {w : World} {b : Nat} (h : Tab w b) (n : Nat) (hn : n < 4294967296) (s : ByteArray) (hs : s.size ≤ 9223372036854775807) :
    Calls Try.prog 13 #[.pointer (some ⟨b, 0, none⟩), .int .u32 n, .string s] w fun e w' => e = .returned (.int .u32 (more n s.data.toList : Nat)) ∧ Tb w' b 1 0 table ∧ w.grownBy w' (some b) := by
  have hmf : ∀ (fn : Fn) (first cap : Array Value) (w : World), (Instr.makeFunc fn first cap).run Try.prog w = .ok (.func fn first cap) w := fun _ _ _ _ => rfl
  go_enter Try.func13, Try.ntmps13
  go_wp2_with (go_at_call 21; refine (do_any h).mono ?_; rintro e w1 ⟨rfl, hT, hg⟩)
  have hl0 : (table.length = 256) := by simp [table]
  rw [show bits .xor .u32 IntKind.u32.max (n : Int) = ((cpl n : Nat) : Int) from xorM n hn]
  go_loopw [7, 21] (fun v i wr => ∃ (k x : Nat), k ≤ s.size ∧ i = .int .i64 k ∧ v = .int .u32 x ∧ x < 4294967296 ∧ Hid (run (cpl n) (s.data.toList.take k) = x) ∧ Hid (Tb wr b 1 0 table) ∧ w.grownBy wr (some b)) (fun _ i _ => s.size - (intOf i).toNat)
  case atStart => exact ⟨0, cpl n, Nat.zero_le _, rfl, rfl, cpl_lt n, rfl, hT, hg⟩
  case round =>
    obtain ⟨k, x, hk, rfl, rfl, hx, hrun, hTr, hgr⟩ := hrel
    by_cases hlt : k < s.size
    · obtain ⟨c, hc⟩ : ∃ c, s[k] = c := ⟨_, rfl⟩
      have hc8 := c.toNat_lt
      obtain ⟨x1, h1, h1e, h1l⟩ : ∃ x1 : Nat, (x : Int) % 256 = x1 ∧ x % 256 = x1 ∧ x1 < 256 := ⟨x % 256, by omega, rfl, by omega⟩
      have h2 := u8_xor_nat x1 c.toNat h1l hc8
      have hil : x1 ^^^ c.toNat < 2 ^ 8 := Nat.xor_lt_two_pow h1l hc8
      obtain ⟨ix, hix⟩ : ∃ ix, x1 ^^^ c.toNat = ix := ⟨_, rfl⟩
      rw [hix] at h2 hil
      have hi0 : (0 : Int) ≤ (ix : Int) := by omega
      have hi1 : (ix : Int) < (256 : Int) := by omega
      have h3 := hTr.out.cell (k := ix) (by omega)
      rw [show table.getD ix 0 = tab ix from by simp [table, show ix < 256 from by omega]] at h3
      have htl : tab ix < 4294967296 := tab_lt ix (by omega)
      obtain ⟨tv, htv⟩ : ∃ tv, tab ix = tv := ⟨_, rfl⟩
      rw [htv] at h3 htl
      obtain ⟨x2, h4, h4e, h4l⟩ : ∃ x2 : Nat, (x : Int) / 256 = x2 ∧ x / 256 = x2 ∧ x2 < 4294967296 := ⟨x / 256, by omega, rfl, by omega⟩
      have h5 := u32_xor_nat tv x2 htl h4l
      have hnew : Hid (run (cpl n) (s.data.toList.take (k + 1)) = tv ^^^ x2) := by
        show run (cpl n) (s.data.toList.take (k + 1)) = _
        have e : s.data.toList.take (k + 1) = s.data.toList.take k ++ [s[k]] := by rw [List.take_succ_eq_append_getElem (by simpa using hlt)]; rfl
        rw [e, run_append, hrun.out, hc]
        show tab ((x % 256) ^^^ c.toNat) ^^^ (x / 256) = _
        rw [h1e, hix, htv, h4e]
      have hnl : tv ^^^ x2 < 2 ^ 32 := Nat.xor_lt_two_pow htl h4l
      obtain ⟨y, hy⟩ : ∃ y, tv ^^^ x2 = y := ⟨_, rfl⟩
      rw [hy] at h5 hnew hnl
      clear hy h4e htv hix h1e
      go_wp2
      go_quiet (fail)
      go_wp2
      go_roundw
      case rel => exact ⟨k + 1, y, by omega, by go_num, by go_num, by omega, hnew, hTr.out.keep rfl, grown_drewN hgr _⟩
      case measure => simp [intOf]; omega
    · have hend : Hid (more n s.data.toList = cpl x) := by
        show cpl (run (cpl n) s.data.toList) = cpl x
        rw [← hrun.out, List.take_of_length_le (by simp; omega)]
      have hxm := xorM x hx
      go_wp2
      go_ret
      exact ⟨by rw [hend.out]; rfl, hTr.out, hgr⟩

/-- The sum of a text. -/
theorem sum_any {w : World} {b : Nat} (h : Tab w b) (s : ByteArray) (hs : s.size ≤ 9223372036854775807) :
    Calls Try.prog 11 #[.pointer (some ⟨b, 0, none⟩), .string s] w fun e w' => e = .returned (.int .u32 (more 0 s.data.toList : Nat)) ∧ Tb w' b 1 0 table ∧ w.grownBy w' (some b) := by
  have hm := Lib.hid (more_any h 0 (by omega) s hs)
  go_enter Try.func11, Try.ntmps11
  go_wp2_with fail
  refine (hm.out).mono ?_
  rintro e w1 ⟨rfl, hT, hg⟩
  go_wp2_with fail
  go_ret
  exact ⟨rfl, hT, hg⟩
theorem sum_nil (s : ByteArray) (w : World) : Calls Try.prog 11 #[.pointer none, .string s] w fun e w' => e = .returned (.int .u32 0) ∧ w = w' := by
  go_enter Try.func11, Try.ntmps11
  go_wp2_with (go_at_call 13; refine (more_nil _ _ _).mono ?_; rintro e w1 ⟨rfl, rfl⟩)
  go_ret
  exact ⟨rfl, rfl⟩
/-- Is it a text's sum? -/
theorem right_any {w : World} {b : Nat} (h : Tab w b) (s : ByteArray) (hs : s.size ≤ 9223372036854775807) (n : Nat) (r : Bool) (hr : (((more 0 s.data.toList : Nat) : Int) == (n : Int)) = r) :
    Calls Try.prog 14 #[.pointer (some ⟨b, 0, none⟩), .string s, .int .u32 n] w fun e w' => e = .returned (.bool r) ∧ Tb w' b 1 0 table ∧ w.grownBy w' (some b) := by
  have hm := Lib.hid (sum_any h s hs)
  generalize more 0 s.data.toList = x at hm hr
  go_enter Try.func14, Try.ntmps14
  go_wp2_with fail
  refine (hm.out).mono ?_
  rintro e w1 ⟨rfl, hT, hg⟩
  go_wp2_with fail
  go_ret
  exact ⟨rfl, hT, hg⟩
theorem right_nil (s : ByteArray) (n : Int) (w : World) : Calls Try.prog 14 #[.pointer none, .string s, .int .u32 n] w fun e w' => e = .returned (.bool false) ∧ w = w' := by
  go_enter Try.func14, Try.ntmps14
  go_wp2
  go_ret
  exact ⟨rfl, rfl⟩
theorem wpList_zero {w : World} {ops : Array Oper} {rest : List Oper} {o : Oper} {a : Act} {Q : Exit → Act → World → Prop} (cs : Array Value) (hcs : Hid (cs = rowOf 0 0 (List.replicate 256 0))) (hg : o.guard = .none) (ho : o.op = .build 43 #[])
    (h : wpList Try.prog ops Q rest (a.put o.dst (.agg cs)) w) : wpList Try.prog ops Q (o :: rest) a w := by
  have e : Try.prog.built 43 [] = some (rowOf 0 0 (List.replicate 256 0)) := by kernel_rfl
  rw [← hcs.out] at e
  refine wpList_build hg 43 #[] ho ?_ ?_
  · simp only [List.map_toArray, List.map_nil]
    rw [e]; rfl
  · simp only [List.map_toArray, List.map_nil]
    rw [e]; exact h
theorem new_any (w : World) : Calls Try.prog 10 #[] w fun e w' => e = .returned (.pointer (some ⟨w.heap.size, 0, .none⟩)) ∧ Tab w' w.heap.size ∧ Below w.heap.size w w' := by
  obtain ⟨cs, hcs⟩ : ∃ cs : Array Value, Hid (cs = rowOf 0 0 (List.replicate 256 0)) := ⟨_, rfl⟩
  go_enter Try.func10, Try.ntmps10
  go_wp2_with (refine wpList_zero cs hcs rfl rfl ?_)
  go_ret
  exact ⟨rfl, .inl ⟨List.replicate 256 0, _, by rw [← hcs.out]; exact heap_alloc_new _ _, List.length_replicate⟩, (Below.refl _ _).alloc (Nat.le_refl _) _⟩
end Go.Proofs.Ytjdaeaanheidiaa
