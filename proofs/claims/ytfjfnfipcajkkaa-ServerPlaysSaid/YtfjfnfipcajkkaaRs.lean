/-
  The document's Waiting; two rows compared; a new pool of the document's; the code's Ask by one law.
-/
import Derived.Test.YtfjfnfipcajkkaaRf
import Derived.OwnWalk
namespace Go.Proofs.Ytfjfnfipcajkkaa
open Go.RowKit

theorem info3 : (Try.prog.info? 3).map (fun i => (i.zero, i.size, i.bytes)) = some (some (.int .i64 0), 1, 8) := by kernel_rfl
theorem new_one {w : World} {g : Nat} {v : Value} {T : TypeId} (hg : w.heap[g]? = some (.cells #[v] T (0, 0))) : ∀ (j : Nat) (u : Value), [v][j]? = some u → w.cell? ((⟨g, 0, none⟩ : Addr).add j) = some u := by
  intro j u hj
  rcases j with _ | j
  · simp at hj
    subst hj
    simp [Addr.add, World.cell?, hg]
  · simp at hj
theorem wpList_put {w : World} {ops : Array Oper} {rest : List Oper} {o : Oper} {a : Act} {Q : Exit → Act → World → Prop} (hgd : o.guard = none) (s x : Operand)
    (ho : o.op = .call { callee := .builtin .append, args := #[s, x], argTypes := #[22, 22] }) (B : Nat) (v : Value) (n : Nat) (xs : List Value) (hs : a.eval s = v) (hown : w.ownsRow B 3 1 v n xs)
    (g : Nat) (y : Int) (hx : a.eval x = .slice (some ⟨g, 0, none⟩) 1 1) (hg : w.heap[g]? = some (.cells #[.int .i64 y] 3 (0, 0))) (hn : n ≤ 100000) (hbase : B ≤ w.heap.size)
    (h : ∀ v' w', w'.ownsRow B 3 1 v' (n + 1) (xs ++ [.int .i64 y]) → w.grownBy w' v.ownBlock → wpList Try.prog ops Q rest (a.put o.dst v') w') : wpList Try.prog ops Q (o :: rest) a w := by
  obtain ⟨i, hi, hz0, hz1, hz2⟩ := info_parts info3
  exact wpList_append_own w hgd s x 22 ho B 3 i (.int .i64 0) 1 8 Try.underlying22 hi hz0 hz1 hz2 rfl (by decide) v n xs hs hown ⟨g, 0, none⟩ 1 1 [.int .i64 y] hx rfl (new_one hg) (by intro u hu; simp at hu; subst hu; rfl) (by unfold maxLen; omega) (by omega) hbase (fun v' w' h1 h2 _ => h v' w' h1 h2)
theorem below_grown {B : Nat} {a w w' : World} {row : Option Nat} (h : Below B a w) (hg : w.grownBy w' row) (hr : ∀ g, row = some g → B ≤ g) (hB : B ≤ w.heap.size) : Below B a w' :=
  ⟨hg.os.trans h.os, hg.tape.trans h.tape, hg.output.trans h.output, Nat.le_trans h.size hg.size, fun k hk => (hg.block k (by omega) (fun e => by have := hr k e.symm; omega)).trans (h.block k hk)⟩

/-- Those below k by which something waits. -/
def wl (f : Int → Int) : Nat → List Int
  | 0 => []
  | k + 1 => if 0 < f k then wl f k ++ [(k : Int)] else wl f k
theorem wl_len (f : Int → Int) : ∀ k, (wl f k).length ≤ k
  | 0 => Nat.le_refl _
  | k + 1 => by
    have := wl_len f k
    unfold wl
    split <;> simp <;> omega
theorem wl_mem (f : Int → Int) : ∀ k x, x ∈ wl f k ↔ (0 ≤ x ∧ x < k) ∧ 0 < f x
  | 0, x => by simp [wl]; omega
  | k + 1, x => by
    have ih := wl_mem f k x
    unfold wl
    by_cases hx : x = k
    · subst hx
      split
      · rename_i h
        simp [h]
        omega
      · rename_i h
        rw [ih]
        simp [h]
    · split
      · simp [ih, hx]
        omega
      · rw [ih]
        constructor
        · rintro ⟨h1, h2⟩
          exact ⟨by omega, h2⟩
        · rintro ⟨h1, h2⟩
          exact ⟨by omega, h2⟩
theorem wl_sorted (f : Int → Int) : ∀ k, (wl f k).Pairwise (· < ·)
  | 0 => List.Pairwise.nil
  | k + 1 => by
    have ih := wl_sorted f k
    unfold wl
    split
    · refine List.pairwise_append.2 ⟨ih, by simp, fun a ha b hb => ?_⟩
      simp at hb
      subst hb
      exact ((wl_mem f k a).1 ha).1.2
    · exact ih
/-- Two rising lists of the same numbers are one. -/
theorem rising_eq {l l' : List Int} (h : l.Pairwise (· < ·)) (h' : l'.Pairwise (· < ·)) (hm : ∀ x, x ∈ l ↔ x ∈ l') : l = l' := by
  have hp : l.Perm l' := (List.perm_ext_iff_of_nodup (h.imp fun h => by omega) (h'.imp fun h => by omega)).2 hm
  exact List.Perm.eq_of_pairwise (le := fun a b : Int => a < b) (fun a b _ _ h1 h2 => by omega) h h' hp

set_option maxRecDepth 100000 in
set_option maxHeartbeats 1000000 in
theorem rwaitU {w : World} {R : Nat} {f t : Int → Int} (hR : Rf w R f t) :
    Calls Try.prog 18 #[.pointer (some ⟨R, 0, none⟩)] w fun e w' => ∃ v, e = .returned v ∧ w'.ownsRow w.heap.size 3 1 v (wl f 1024).length ((wl f 1024).map encZ) ∧ Below w.heap.size w w' := by
  have hwe : ∀ k, k = 1024 → wl f k = wl f 1024 := fun k h => by rw [h]
  generalize wl f 1024 = L at *
  have HWE := Lib.hid hwe
  clear hwe
  go_enter Try.func18, Try.ntmps18
  go_wp2_with fail
  go_loopw [3, 4] (fun v i wr => ∃ k : Nat, k ≤ 1024 ∧ i = .int .i64 k ∧ wr.ownsRow w.heap.size 3 1 v (wl f k).length ((wl f k).map encZ) ∧ Below w.heap.size w wr) (fun _ i _ => 1024 - (intOf i).toNat)
  case atStart => exact ⟨0, by omega, rfl, World.ownsRow_nil _ _ _ _, Below.refl _ _⟩
  case round =>
    obtain ⟨k, hk, rfl, hown, hbr⟩ := hrel
    by_cases hlt : k < 1024
    · have hc := (hR.below hbr).cw hlt
      have hwl : Hid (wl f (k + 1) = if 0 < f k then wl f k ++ [(k : Int)] else wl f k) := rfl
      have hlen := wl_len f k
      obtain ⟨y, hy⟩ : ∃ y, f k = y := ⟨_, rfl⟩
      rw [hy] at hc hwl
      clear hy
      by_cases hy0 : 0 < y
      · go_wp2_with (refine wpList_put rfl (.tmp 16) (.tmp 18) rfl w.heap.size _ _ _ rfl (hown.alloc (Obj.cells #[.int .i64 (k : Int)] 3)) wr.heap.size (k : Int) rfl (heap_alloc_new _ _) (by omega) (by have := hbr.size; simp; omega) ?_)
        intro v' w2 hown2 hg2
        have hbr2 := below_grown (hbr.alloc hbr.size (Obj.cells #[.int .i64 (k : Int)] 3)) hg2 (fun g hg => (hown.lt g hg).1) (by have := hbr.size; simp; omega)
        have hown3 : w2.ownsRow w.heap.size 3 1 v' (wl f (k + 1)).length ((wl f (k + 1)).map encZ) := by
          rw [hwl.out, if_pos hy0, List.length_append, List.map_append]
          exact hown2
        clear hown hown2 hg2 hbr hc hwl
        go_wp2_with fail
        go_roundw
        case rel => exact ⟨k + 1, by omega, by go_num, hown3, hbr2⟩
        case measure => simp [intOf]; omega
      · have hwl2 : Hid (wl f (k + 1) = wl f k) := by show _ = _; rw [hwl.out, if_neg hy0]
        go_wp2_with fail
        go_roundw
        case rel => exact ⟨k + 1, by omega, by go_num, by rw [hwl2.out]; exact hown, hbr⟩
        case measure => simp [intOf]; omega
    · have hk2 : k = 1024 := by omega
      rw [HWE.out k hk2] at hown
      clear hk2
      go_wp2_with fail
      go_ret
      exact ⟨_, rfl, hown, hbr⟩

/-- A row of numbers, as a walk reads it. -/
def Rw (w : World) (v : Value) (L : List Int) : Prop := ∃ a c, v = .slice a L.length c ∧ ∀ j x, L[j]? = some x → ∃ g, a = some ⟨g, 0, none⟩ ∧ w.cell? ⟨g, j, none⟩ = some (.int .i64 x)
theorem rw_of {w : World} {B : Nat} {v : Value} {L : List Int} (h : w.ownsRow B 3 1 v L.length (L.map encZ)) : Rw w v L := by
  rcases h.2 with ⟨hv, h0⟩ | ⟨g, cap, cur, hv, hB, hg, hcap, hmx, hcs, hx⟩
  · obtain rfl := List.eq_nil_of_length_eq_zero h0
    exact ⟨none, 0, hv, fun j x hj => by simp at hj⟩
  · refine ⟨some ⟨g, 0, none⟩, cap, hv, fun j x hj => ⟨g, rfl, ?_⟩⟩
    have hjl : j < L.length := (List.getElem?_eq_some_iff.1 hj).1
    have e : (L.map encZ)[j]? = some (.int .i64 x) := by simp [hj, encZ]
    rw [← hx, List.getElem?_take_of_lt (by omega), Array.getElem?_toList] at e
    simp [World.cell?, hg, e]
theorem Rw.below {w w' : World} {v : Value} {L : List Int} (h : Rw w v L) (hb : Below w.heap.size w w') : Rw w' v L := by
  obtain ⟨a, c, hv, hc⟩ := h
  refine ⟨a, c, hv, fun j x hj => ?_⟩
  obtain ⟨g, hg, hx⟩ := hc j x hj
  have hgl : g < w.heap.size := by simpa using block_lt_of_cell hx
  exact ⟨g, hg, (hb.cell (p := ⟨g, j, none⟩) (by simpa using hgl)).trans hx⟩
theorem sameU {w : World} {v1 v2 : Value} {L : List Int} (h1 : Rw w v1 L) (h2 : Rw w v2 L) (hL : L.length ≤ 1000000) :
    Calls Try.prog 17 #[v1, v2] w fun e w' => e = .returned (.bool true) ∧ ∃ n, w' = w.drewN n := by
  obtain ⟨a1, c1, rfl, hc1⟩ := h1
  obtain ⟨a2, c2, rfl, hc2⟩ := h2
  have HC1 := Lib.hid hc1
  have HC2 := Lib.hid hc2
  clear hc1 hc2
  go_enter Try.func17, Try.ntmps17
  go_wp2_with fail
  go_loopw [5] (fun i wr => ∃ k nq : Nat, k ≤ L.length ∧ i = .int .i64 k ∧ wr = w.drewN nq) (fun i _ => L.length - (intOf i).toNat)
  case atStart => exact ⟨0, 0, by omega, rfl, rfl⟩
  case round =>
    obtain ⟨k, nq0, hk, rfl, rfl⟩ := hrel
    by_cases hlt : k < L.length
    · obtain ⟨g1, rfl, hd1⟩ := HC1.out k _ (List.getElem?_eq_getElem hlt)
      obtain ⟨g2, rfl, hd2⟩ := HC2.out k _ (List.getElem?_eq_getElem hlt)
      generalize L[k] = y at *
      go_wp2_with fail
      go_quiet (fail)
      go_wp2_with fail
      go_roundw
      case rel => exact ⟨k + 1, _, by omega, by go_num, rfl⟩
      case measure => simp [intOf]; omega
    · go_wp2_with fail
      go_ret
      exact ⟨rfl, _, rfl⟩

/-! ### A new pool of the document's -/
def z2048 : List Value := List.replicate 2048 (.int .i64 0)
theorem built38 : Try.prog.built 38 [] = some z2048.toArray := by kernel_rfl
theorem wpList_build38 {w : World} {ops : Array Oper} {rest : List Oper} {o : Oper} {a : Act} {Q : Exit → Act → World → Prop} (hg : o.guard = .none) (ho : o.op = .build 38 #[])
    (h : ∀ Z : List Value, Hid (Z = z2048) → wpList Try.prog ops Q rest (a.put o.dst (.agg Z.toArray)) w) : wpList Try.prog ops Q (o :: rest) a w := by
  have e := built38
  refine wpList_build hg 38 #[] ho ?_ ?_
  · simp only [List.map_toArray, List.map_nil]
    rw [e]; rfl
  · simp only [List.map_toArray, List.map_nil]
    rw [e]; exact h z2048 rfl
theorem rf_new (w : World) (Z : List Value) (h : Hid (Z = z2048)) : Rf (w.alloc (.cells Z.toArray 38)) w.heap.size (fun _ => 0) (fun _ => 0) := by
  refine ⟨Z.toArray, 38, heap_alloc_new _ _, by rw [h.out, z2048, List.size_toArray, List.length_replicate], fun q hq => ?_⟩
  have hz : ∀ j, j < 2048 → Z.toArray[j]? = some (.int .i64 0) := fun j hj => by
    rw [h.out, z2048, List.getElem?_toArray, List.getElem?_replicate, if_pos hj]
  exact ⟨hz q (by omega), hz (1024 + q) (by omega)⟩

theorem askU {p bw bt n : Nat} {f t : Int → Int} {w : World} {B : Int} (hP : Pv w p bw bt n f t) (hO : Ok f t B) (hn : n < 1000000) (k v e : Int) (hk : (Lit.int .i64 k).wf = true) (f' : Int → Int) (hS : askS f k v = (e, f')) :
    Calls Try.prog 8 #[.pointer (some ⟨p, 0, none⟩), .int .i64 k, .int .i64 v] w fun r w' => r = .returned (.int .i64 e) ∧ Pv w' p bw bt (n + 1) f' t ∧ Turn (two bw bt) w w' := by
  unfold askS at hS
  split at hS
  · rename_i hm
    obtain ⟨rfl, rfl⟩ := hS
    refine (ask_arg k v hm).mono ?_
    rintro r w' ⟨rfl, rfl⟩
    exact ⟨rfl, hP.mono (by omega), Turn.refl _ _⟩
  · rename_i hm
    have hm' : may k v := by unfold may; exact Decidable.not_not.1 hm
    split at hS
    · rename_i hlt
      obtain ⟨rfl, rfl⟩ := hS
      refine (askF hP k v hk hm' hlt).mono ?_
      rintro r w' ⟨rfl, rfl⟩
      exact ⟨rfl, hP.mono (by omega), Turn.refl _ _⟩
    · rename_i hlt
      obtain ⟨rfl, rfl⟩ := hS
      exact askV hP hn k v hk hm' (hO.f0 k) (by omega) _ rfl
theorem ok_ask {f t : Int → Int} {B : Int} (hO : Ok f t B) {k v e : Int} {f' : Int → Int} (hS : askS f k v = (e, f')) : Ok f' t B := by
  unfold askS at hS
  split at hS
  · obtain ⟨rfl, rfl⟩ := hS; exact hO
  · rename_i hm
    have hm' := Decidable.not_not.1 hm
    split at hS
    · obtain ⟨rfl, rfl⟩ := hS; exact hO
    · rename_i hlt
      obtain ⟨rfl, rfl⟩ := hS
      have h0 := hO.f0 k
      refine { hO with fo := fun x hx => ?_, f0 := fun x => ?_, f1 := fun x => ?_ }
      · rw [upd_other _ _ (by rintro rfl; omega)]
        exact hO.fo x hx
      · by_cases e : x = k
        · subst e; rw [upd_same]; omega
        · rw [upd_other _ _ e]; exact hO.f0 x
      · by_cases e : x = k
        · subst e; rw [upd_same]; omega
        · rw [upd_other _ _ e]; exact hO.f1 x
theorem tk_in {y v : Int} (hy : 0 ≤ y) : 0 ≤ tk y v ∧ tk y v ≤ y := by
  unfold tk
  split
  · omega
  · split <;> omega
theorem ok_take {f t : Int → Int} {B : Int} (hO : Ok f t B) {k v r : Int} (hr : tk (f k) v = r) : Ok (upd f k (f k - r)) (upd t k (t k + r)) (B + 1099511627776) := by
  have h := tk_in (v := v) (hO.f0 k)
  rw [hr] at h
  have h1 := hO.f1 k
  have h2 := hO.t0 k
  have h3 := hO.t1 k
  refine ⟨fun x hx => ?_, fun x hx => ?_, fun x => ?_, fun x => ?_, fun x => ?_, fun x => ?_⟩
  all_goals by_cases e : x = k
  · subst e; rw [upd_same]; have := hO.fo x hx; omega
  · rw [upd_other _ _ e]; exact hO.fo x hx
  · subst e; rw [upd_same]; have := hO.to x hx; have := hO.fo x hx; omega
  · rw [upd_other _ _ e]; exact hO.to x hx
  · subst e; rw [upd_same]; omega
  · rw [upd_other _ _ e]; exact hO.f0 x
  · subst e; rw [upd_same]; omega
  · rw [upd_other _ _ e]; exact hO.f1 x
  · subst e; rw [upd_same]; omega
  · rw [upd_other _ _ e]; exact hO.t0 x
  · subst e; rw [upd_same]; omega
  · rw [upd_other _ _ e]; have := hO.t1 x; omega
theorem ok_drop {f t : Int → Int} {B : Int} (hO : Ok f t B) (hB : 0 ≤ B) (k : Int) : Ok (upd f k 0) (upd t k 0) B := by
  refine ⟨fun x hx => ?_, fun x hx => ?_, fun x => ?_, fun x => ?_, fun x => ?_, fun x => ?_⟩
  all_goals by_cases e : x = k
  · subst e; rw [upd_same]
  · rw [upd_other _ _ e]; exact hO.fo x hx
  · subst e; rw [upd_same]
  · rw [upd_other _ _ e]; exact hO.to x hx
  · subst e; rw [upd_same]; omega
  · rw [upd_other _ _ e]; exact hO.f0 x
  · subst e; rw [upd_same]; omega
  · rw [upd_other _ _ e]; exact hO.f1 x
  · subst e; rw [upd_same]; omega
  · rw [upd_other _ _ e]; exact hO.t0 x
  · subst e; rw [upd_same]; exact hB
  · rw [upd_other _ _ e]; exact hO.t1 x
end Go.Proofs.Ytfjfnfipcajkkaa
