/-
  Numbers appended; two rows of numbers compared; the document's IDs, Forget and Release.
-/
import Derived.Test.YtlohcidapoicoaaKg
import Derived.OwnWalk
import Derived.Deep.LoopGhost
namespace Go.Proofs.Ytlohcidapoicoaa
open Go.RowKit

theorem info3 : (Try.prog.info? 3).map (fun i => (i.zero, i.size, i.bytes)) = some (some (.int .i64 0), 1, 8) := by kernel_rfl
theorem new_one {w : World} {g : Nat} {v : Value} {T : TypeId} (hg : w.heap[g]? = some (.cells #[v] T (0, 0))) : ∀ (j : Nat) (u : Value), [v][j]? = some u → w.cell? ((⟨g, 0, none⟩ : Addr).add j) = some u := by
  intro j u hj
  rcases j with _ | j
  · simp at hj
    subst hj
    simp [Addr.add, World.cell?, hg]
  · simp at hj
theorem wpList_put {w : World} {ops : Array Oper} {rest : List Oper} {o : Oper} {a : Act} {Q : Exit → Act → World → Prop} (hgd : o.guard = none) (s x : Operand)
    (ho : o.op = .call { callee := .builtin .append, args := #[s, x], argTypes := #[22, 22] }) (B : Nat) (v : Value) (n : Nat) (xs : List Value) (hs : a.eval s = v) (hown : w.ownsRow B 3 1 v n xs)
    (g : Nat) (y : Int) (hx : a.eval x = .slice (some ⟨g, 0, none⟩) 1 1) (hg : w.heap[g]? = some (.cells #[.int .i64 y] 3 (0, 0))) (hn : n ≤ 100000) (hbase : B ≤ w.heap.size)
    (h : ∀ v' w', w'.ownsRow B 3 1 v' (n + 1) (xs ++ [.int .i64 y]) → w.grownBy w' v.ownBlock → wpList Try.prog ops Q rest (a.put o.dst v') w') : wpList Try.prog ops Q (o :: rest) a w := by
  obtain ⟨i, hi, hz0, hz1, hz2⟩ := info_parts info3
  exact wpList_append_own w hgd s x 22 ho B 3 i (.int .i64 0) 1 8 Try.underlying22 hi hz0 hz1 hz2 rfl (by decide) v n xs hs hown ⟨g, 0, none⟩ 1 1 [.int .i64 y] hx rfl (new_one hg) (by intro u hu; simp at hu; subst hu; rfl) (by unfold maxLen; omega) (by omega) hbase (fun v' w' h1 h2 _ => h v' w' h1 h2)
theorem below_grown {B : Nat} {a w w' : World} {row : Option Nat} (h : Below B a w) (hg : w.grownBy w' row) (hr : ∀ g, row = some g → B ≤ g) (hB : B ≤ w.heap.size) : Below B a w' :=
  ⟨hg.os.trans h.os, hg.tape.trans h.tape, hg.output.trans h.output, Nat.le_trans h.size hg.size, fun k hk => (hg.block k (by omega) (fun e => by have := hr k e.symm; omega)).trans (h.block k hk)⟩

/-- Two rising lists of the same numbers are one. -/
theorem rising_eq {l l' : List Int} (h : l.Pairwise (· < ·)) (h' : l'.Pairwise (· < ·)) (hm : ∀ x, x ∈ l ↔ x ∈ l') : l = l' := by
  have hp : l.Perm l' := (List.perm_ext_iff_of_nodup (h.imp fun h => by omega) (h'.imp fun h => by omega)).2 hm
  exact List.Perm.eq_of_pairwise (le := fun a b : Int => a < b) (fun a b _ _ h1 h2 => by omega) h h' hp

/-- A row of numbers, as a walk reads it. -/
def Rw (w : World) (v : Value) (L : List Int) : Prop := ∃ a c, v = .slice a L.length c ∧ ∀ j x, L[j]? = some x → ∃ g, a = some ⟨g, 0, none⟩ ∧ w.cell? ⟨g, j, none⟩ = some (.int .i64 x)
theorem rw_of {w : World} {B : Nat} {v : Value} {L : List Int} (h : w.ownsRow B 3 1 v L.length (L.map encZ)) : Rw w v L := by
  rcases h.2 with ⟨hv, h0⟩ | ⟨g, cap, cur, hv, hB, hg, hcap, hmx, hcs, hx⟩
  · obtain rfl := List.eq_nil_of_length_eq_zero h0
    exact ⟨none, 0, hv, fun j x hj => by simp at hj⟩
  · refine ⟨some ⟨g, 0, none⟩, cap, hv, fun j x hj => ⟨g, rfl, ?_⟩⟩
    have hjl : j < L.length := (List.getElem?_eq_some_iff.1 hj).1
    have e : (L.map encZ)[j]? = some (.int .i64 x) := by simp [hj, encZ]
    rw [← hx, List.getElem?_take_of_lt (by omega), Array.getElem?_toList] at e
    simp [World.cell?, hg, e]
theorem Rw.below {w w' : World} {v : Value} {L : List Int} (h : Rw w v L) (hb : Below w.heap.size w w') : Rw w' v L := by
  obtain ⟨a, c, hv, hc⟩ := h
  refine ⟨a, c, hv, fun j x hj => ?_⟩
  obtain ⟨g, hg, hx⟩ := hc j x hj
  have hgl : g < w.heap.size := by simpa using block_lt_of_cell hx
  exact ⟨g, hg, (hb.cell (p := ⟨g, j, none⟩) (by simpa using hgl)).trans hx⟩
theorem sameU {w : World} {v1 v2 : Value} {L : List Int} (h1 : Rw w v1 L) (h2 : Rw w v2 L) (hL : L.length ≤ 1000000) :
    Calls Try.prog 18 #[v1, v2] w fun e w' => e = .returned (.bool true) ∧ ∃ n, w' = w.drewN n := by
  obtain ⟨a1, c1, rfl, hc1⟩ := h1
  obtain ⟨a2, c2, rfl, hc2⟩ := h2
  have HC1 := Lib.hid hc1
  have HC2 := Lib.hid hc2
  clear hc1 hc2
  go_enter Try.func18, Try.ntmps18
  go_wp2_with fail
  go_loopw [5] (fun i wr => ∃ k nq : Nat, k ≤ L.length ∧ i = .int .i64 k ∧ wr = w.drewN nq) (fun i _ => L.length - (intOf i).toNat)
  case atStart => exact ⟨0, 0, by omega, rfl, rfl⟩
  case round =>
    obtain ⟨k, nq0, hk, rfl, rfl⟩ := hrel
    by_cases hlt : k < L.length
    · obtain ⟨g1, rfl, hd1⟩ := HC1.out k _ (List.getElem?_eq_getElem hlt)
      obtain ⟨g2, rfl, hd2⟩ := HC2.out k _ (List.getElem?_eq_getElem hlt)
      generalize L[k] = y at *
      go_wp2_with fail
      go_quiet (fail)
      go_wp2_with fail
      go_roundw
      case rel => exact ⟨k + 1, _, by omega, by go_num, rfl⟩
      case measure => simp [intOf]; omega
    · go_wp2_with fail
      go_ret
      exact ⟨rfl, _, rfl⟩


theorem info57m : (Try.prog.info? 57).map (fun i => (i.zero.map fun z => (z.cells.size), i.size, i.bytes)) = some (some 3, 3, 24) := by kernel_rfl
theorem info57 : ∃ i z, Try.prog.info? 57 = some i ∧ i.zero = some z ∧ i.size = 3 ∧ i.bytes = 24 ∧ z.cells.size = 3 := by
  have h := info57m
  cases hi : Try.prog.info? 57 with
  | none => simp [hi] at h
  | some i =>
    cases hz : i.zero with
    | none => simp [hi, hz] at h
    | some z =>
      simp [hi, hz] at h
      exact ⟨i, z, rfl, hz, h.2.1, h.2.2, h.1⟩
theorem new_kn {w : World} {g : Nat} {p : Kn} {T : TypeId} (hg : w.heap[g]? = some (.cells #[.int .i64 p.1, .int .i64 p.2.1, .int .i64 p.2.2] T (0, 0))) : ∀ (j : Nat) (u : Value), (kc p)[j]? = some u → w.cell? ((⟨g, 0, none⟩ : Addr).add j) = some u := by
  intro j u hj
  rw [add_plain]
  unfold kc at hj
  rcases j with _ | _ | _ | j
  all_goals simp at hj
  all_goals
    subst hj
    simp [World.cell?, hg]
theorem wpList_putK {w : World} {ops : Array Oper} {rest : List Oper} {o : Oper} {a : Act} {Q : Exit → Act → World → Prop} (hgd : o.guard = none) (s x : Operand)
    (ho : o.op = .call { callee := .builtin .append, args := #[s, x], argTypes := #[39, 39] }) (B : Nat) (v : Value) (ks : List Kn) (hs : a.eval s = v) (hown : Kr w B v ks)
    (g : Nat) (p : Kn) (hx : a.eval x = .slice (some ⟨g, 0, none⟩) 1 1) (hg : w.heap[g]? = some (.cells #[.int .i64 p.1, .int .i64 p.2.1, .int .i64 p.2.2] 57 (0, 0))) (hn : ks.length ≤ 100000) (hbase : B ≤ w.heap.size)
    (h : ∀ v' w', Kr w' B v' (ks ++ [p]) → w.grownBy w' v.ownBlock → wpList Try.prog ops Q rest (a.put o.dst v') w') : wpList Try.prog ops Q (o :: rest) a w := by
  obtain ⟨i, z, hi, hz0, hz1, hz2, hz3⟩ := info57
  refine wpList_append_own w hgd s x 39 ho B 57 i z 3 24 Try.underlying39 hi hz0 hz1 hz2 hz3 (by decide) v ks.length (ks.flatMap kc) hs hown ⟨g, 0, none⟩ 1 1 (kc p) hx rfl (new_kn hg) (by intro u hu; unfold kc at hu; simp at hu; rcases hu with rfl | rfl | rfl <;> rfl) (by unfold maxLen; omega) (by omega) hbase (fun v' w' h1 h2 _ => h v' w' ?_ h2)
  unfold Kr
  rw [List.length_append, List.flatMap_append]
  have e : ([p] : List Kn).flatMap kc = kc p := by simp
  rw [e]
  exact h1
theorem Kr.alloc {w : World} {B : Nat} {v : Value} {ks : List Kn} (h : Kr w B v ks) (o : Obj) : Kr (w.alloc o) B v ks := World.ownsRow.alloc h o
theorem Kr.lt {w : World} {B : Nat} {v : Value} {ks : List Kn} (h : Kr w B v ks) : ∀ k, v.ownBlock = some k → B ≤ k ∧ k < w.heap.size := World.ownsRow.lt h

/-! ### IDs -/
set_option maxHeartbeats 1000000 in
theorem idsR {w : World} {R : Nat} {ks : List Kn} (hK : Kg w R ks) (hn : ks.length ≤ 10000) :
    Calls Try.prog 19 #[.pointer (some ⟨R, 0, none⟩)] w fun e w' => ∃ v, e = .returned v ∧ w'.ownsRow w.heap.size 3 1 v (ks.map (·.1)).length ((ks.map (·.1)).map encZ) ∧ Below w.heap.size w w' := by
  obtain ⟨T, v0, hb0, hr0⟩ := hK
  obtain ⟨a, c, hv⟩ := hr0.len
  have hc0 : w.cell? ⟨R, 0, none⟩ = some v0 := by simp [World.cell?, hb0]
  have hRl : R < w.heap.size := (Array.getElem?_eq_some_iff.1 hb0).1
  rw [hv] at hc0
  have HV := Lib.hid hv
  have HC := Lib.hid hc0
  clear hv hb0 hc0
  go_enter Try.func19, Try.ntmps19
  go_wp2_with fail
  go_loopw [3, 4] (fun v i wr => ∃ k : Nat, k ≤ ks.length ∧ i = .int .i64 k ∧ wr.ownsRow w.heap.size 3 1 v k (((ks.take k).map (·.1)).map encZ) ∧ Below w.heap.size w wr) (fun _ i _ => ks.length - (intOf i).toNat)
  case atStart => exact ⟨0, by omega, rfl, World.ownsRow_nil _ _ _ _, Below.refl _ _⟩
  case round =>
    obtain ⟨k, hk, rfl, hown, hbr⟩ := hrel
    have hc : wr.cell? ⟨R, 0, none⟩ = some (.slice a ks.length c) := (hbr.cell (p := ⟨R, 0, none⟩) (by simpa using hRl)).trans HC.out
    have hrr := hr0.keep (w' := wr) (fun k hk _ => hbr.block k hk)
    by_cases hlt : k < ks.length
    · obtain ⟨g, cap, hv2, d0, _, _⟩ := hrr.cells (List.getElem?_eq_getElem hlt)
      rw [HV.out] at hv2
      cases hv2
      have hnew : Hid (((ks.take (k + 1)).map (·.1)).map encZ = ((ks.take k).map (·.1)).map encZ ++ [.int .i64 (ks[k]).1]) := by
        show _ = _
        rw [List.take_succ_eq_append_getElem hlt, List.map_append, List.map_append]
        rfl
      generalize (ks[k]).1 = y at *
      generalize ((ks.take k).map (·.1)).map encZ = X at *
      go_wp2_with (refine wpList_put rfl (.tmp 14) (.tmp 23) rfl w.heap.size _ _ _ rfl (hown.alloc (Obj.cells #[.int .i64 y] 3)) wr.heap.size y rfl (heap_alloc_new _ _) (by omega) (by have := hbr.size; simp; omega) ?_)
      intro v' w2 hown2 hg2
      have hbr2 := below_grown (hbr.alloc hbr.size (Obj.cells #[.int .i64 y] 3)) hg2 (fun g hg => (hown.lt g hg).1) (by have := hbr.size; simp; omega)
      rw [← hnew.out] at hown2
      clear hown hg2 hbr hc hnew hrr d0
      go_wp2_with fail
      go_roundw
      case rel => exact ⟨k + 1, by omega, by go_num, hown2, hbr2⟩
      case measure => simp [intOf]; omega
    · have hk2 : k = ks.length := by omega
      rw [hk2, List.take_length] at hown
      clear hk2
      go_wp2_with fail
      go_ret
      refine ⟨_, rfl, ?_, hbr⟩
      rw [List.length_map]
      exact hown

/-! ### Forget -/
/-- All but one number. -/
def rem (id : Int) (ks : List Kn) : List Kn := ks.filter (fun p => decide (p.1 ≠ id))
theorem rem_le (id : Int) (ks : List Kn) : (rem id ks).length ≤ ks.length := List.length_filter_le _ _
theorem rem_succ (id : Int) (ks : List Kn) (k : Nat) (hk : k < ks.length) : rem id (ks.take (k + 1)) = if (ks[k]).1 ≠ id then rem id (ks.take k) ++ [ks[k]] else rem id (ks.take k) := by
  unfold rem
  rw [List.take_succ_eq_append_getElem hk, List.filter_append]
  split
  · rename_i h
    simp [h]
  · rename_i h
    simp [Decidable.not_not.1 h]
theorem grown_below {w wr w' : World} {R : Nat} {v : Value} (hb : Below w.heap.size w wr) (he : w' = wr.setCell ⟨R, 0, none⟩ v) : w.grownBy w' (some R) := by
  subst he
  exact ⟨hb.os, hb.tape, hb.output, by simp [World.setCell]; exact hb.size, fun k hk hr => (heap_setCell_other _ _ _ _ (fun e => hr (by rw [e]))).trans (hb.block k hk)⟩
theorem kg_set {w wr : World} {R : Nat} {ks ks' : List Kn} {v : Value} (hK : Kg w R ks) (hb : Below w.heap.size w wr) (hr : Kr wr w.heap.size v ks') : Kg (wr.setCell ⟨R, 0, none⟩ v) R ks' := by
  have hl := hK.lt
  obtain ⟨T, v0, h0, _⟩ := hK
  have h1 : wr.heap[R]? = some (.cells #[v0] T (0, 0)) := (hb.block R hl).trans h0
  refine ⟨T, v, by rw [heap_setCell_same wr R 0 _ T _ h1]; rfl, (hr.keep fun k hk hB => heap_setCell_other _ _ _ _ (by show k ≠ R; omega)).base (by omega)⟩

set_option maxHeartbeats 1000000 in
theorem forgetR {w : World} {R : Nat} {ks : List Kn} (hK : Kg w R ks) (hn : ks.length ≤ 10000) (id : Int) (b : Bool) (hbo : decide ((rem id ks).length < ks.length) = b) :
    Calls Try.prog 15 #[.pointer (some ⟨R, 0, none⟩), .int .i64 id] w fun e w' => e = .returned (.bool b) ∧ Kg w' R (rem id ks) ∧ w.grownBy w' (some R) := by
  have HK := Lib.hid hK
  have hRl := hK.lt
  obtain ⟨T, v0, hb0, hr0⟩ := hK
  obtain ⟨a, c, hv⟩ := hr0.len
  have hc0 : w.cell? ⟨R, 0, none⟩ = some v0 := by simp [World.cell?, hb0]
  have hf0 : w.frozen? ⟨R, 0, none⟩ = false := by simp [World.frozen?, hb0]
  rw [hv] at hc0
  have HV := Lib.hid hv
  have HC := Lib.hid hc0
  have HF := Lib.hid hf0
  have HB := Lib.hid hbo
  clear hv hb0 hc0 hf0 hbo
  go_enter Try.func15, Try.ntmps15
  go_wp2_with fail
  go_loopw [5, 6] (fun v i wr => ∃ k : Nat, k ≤ ks.length ∧ i = .int .i64 k ∧ Kr wr w.heap.size v (rem id (ks.take k)) ∧ Below w.heap.size w wr) (fun _ i _ => ks.length - (intOf i).toNat)
  case atStart => exact ⟨0, by omega, rfl, World.ownsRow_nil _ _ _ _, Below.refl _ _⟩
  case round =>
    obtain ⟨k, hk, rfl, hown, hbr⟩ := hrel
    have hc : wr.cell? ⟨R, 0, none⟩ = some (.slice a ks.length c) := (hbr.cell (p := ⟨R, 0, none⟩) (by simpa using hRl)).trans HC.out
    have hrr := hr0.keep (w' := wr) (fun k hk _ => hbr.block k hk)
    by_cases hlt : k < ks.length
    · obtain ⟨g, cap, hv2, d0, d1, d2⟩ := hrr.cells (List.getElem?_eq_getElem hlt)
      rw [HV.out] at hv2
      cases hv2
      have hsu := Lib.hid (rem_succ id ks k hlt)
      have hrl := rem_le id (ks.take k)
      rw [List.length_take] at hrl
      obtain ⟨y, hy⟩ : ∃ y, ks[k] = y := ⟨_, rfl⟩
      rw [hy] at d0 d1 d2 hsu
      clear hy
      by_cases hne : y.1 = id
      · rw [hne] at d0
        have hsu2 : Hid (rem id (ks.take (k + 1)) = rem id (ks.take k)) := by show _ = _; rw [hsu.out, if_neg (fun h => h hne)]
        clear hne
        go_wp2_with fail
        go_roundw
        case rel => exact ⟨k + 1, by omega, by go_num, by rw [hsu2.out]; exact hown, hbr⟩
        case measure => simp [intOf]; omega
      · have hsu2 : Hid (rem id (ks.take (k + 1)) = rem id (ks.take k) ++ [y]) := by show _ = _; rw [hsu.out, if_pos hne]
        obtain ⟨y0, y1, y2⟩ := y
        simp only at d0 d1 d2 hne
        go_wp2_with (refine wpList_putK rfl (.tmp 27) (.tmp 35) rfl w.heap.size _ _ rfl (hown.alloc (Obj.cells #[.int .i64 y0, .int .i64 y1, .int .i64 y2] 57)) wr.heap.size (y0, y1, y2) rfl (heap_alloc_new _ _) (by omega) (by have := hbr.size; simp; omega) ?_)
        intro v' w2 hown2 hg2
        have hbr2 := below_grown (hbr.alloc hbr.size (Obj.cells #[.int .i64 y0, .int .i64 y1, .int .i64 y2] 57)) hg2 (fun g hg => (hown.lt g hg).1) (by have := hbr.size; simp; omega)
        rw [← hsu2.out] at hown2
        clear hown hg2 hbr hc hsu hsu2 hrr d0 d1 d2
        go_wp2_with fail
        go_roundw
        case rel => exact ⟨k + 1, by omega, by go_num, hown2, hbr2⟩
        case measure => simp [intOf]; omega
    · have hk2 : k = ks.length := by omega
      rw [hk2, List.take_length] at hown
      have hf : wr.frozen? ⟨R, 0, none⟩ = false := (World.frozen?_of_block (hbr.block R hRl)).trans HF.out
      obtain ⟨a2, c2, hv2⟩ := hown.len
      subst hv2
      have hfin := kg_set HK.out hbr hown
      have hgr := grown_below (R := R) hbr rfl (v := .slice a2 (rem id ks).length c2)
      clear hk2 hown hrr hr0
      generalize (rem id ks).length = q at *
      go_wp2_with fail
      go_ret
      exact ⟨by rw [← HB.out]; simp, hfin, hgr⟩
end Go.Proofs.Ytlohcidapoicoaa
