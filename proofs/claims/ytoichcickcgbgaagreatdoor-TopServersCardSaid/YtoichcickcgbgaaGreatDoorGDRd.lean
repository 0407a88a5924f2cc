/-
  Rows of rows as flat cells; and Read: the last open write of a sector, or the sector.
  ! ### Flat cells
  ! ### Read
-/
import Derived.Test.YtoichcickcgbgaaGreatDoorGOhDDs
import Derived.Deep.WholeRow
import Derived.Deep.LoopGhost
namespace Go.Proofs.YtoichcickcgbgaaGreatDoor.Disk
open Go.RowKit
section
variable {α β : Type} (g : α → List β) (c : Nat)
theorem flat_len : ∀ (L : List α), (∀ x ∈ L, (g x).length = c) → (L.flatMap g).length = L.length * c
  | [], _ => by simp
  | x :: L, h => by
    have h1 := flat_len L (fun y hy => h y (by simp [hy]))
    have h2 := h x (by simp)
    simp only [List.flatMap_cons, List.length_append, List.length_cons, h1, h2, Nat.add_mul, Nat.one_mul]
    omega
theorem flat_at : ∀ (L : List α) (i : Nat) (hi : i < L.length) (j : Nat), (∀ x ∈ L, (g x).length = c) → j < c → (L.flatMap g)[i * c + j]? = (g L[i])[j]?
  | x :: L, 0, _, j, h, hj => by
    have h2 := h x (by simp)
    simp only [List.flatMap_cons, Nat.zero_mul, Nat.zero_add, List.getElem_cons_zero]
    rw [List.getElem?_append_left (by omega)]
  | x :: L, i + 1, hi, j, h, hj => by
    have h2 := h x (by simp)
    have h3 := flat_at L i (by simpa using hi) j (fun y hy => h y (by simp [hy])) hj
    simp only [List.flatMap_cons, List.getElem_cons_succ]
    rw [List.getElem?_append_right (by rw [h2, Nat.add_mul]; omega), h2, ← h3]
    congr 1
    rw [Nat.add_mul]
    omega
theorem flat_set : ∀ (L : List α) (i : Nat) (_ : i < L.length) (y : α), (∀ x ∈ L, (g x).length = c) → (L.set i y).flatMap g = (L.flatMap g).take (i * c) ++ g y ++ (L.flatMap g).drop (i * c + c)
  | x :: L, 0, _, y, h => by
    have h2 := h x (by simp)
    simp [List.flatMap_cons, ← h2]
  | x :: L, i + 1, hi, y, h => by
    have h2 := h x (by simp)
    have h3 := flat_set L i (by simpa using hi) y (fun y hy => h y (by simp [hy]))
    simp only [List.set_cons_succ, List.flatMap_cons, h3]
    have e1 : (i + 1) * c = (g x).length + i * c := by rw [Nat.add_mul, h2]; omega
    have e2 : (i + 1) * c + c = (g x).length + (i * c + c) := by rw [e1]; omega
    rw [e2, e1, List.take_length_add_append, List.drop_length_add_append]
    simp only [List.append_assoc]
end
theorem oc_len {p : Nat × List UInt8} (h : p.2.length = 64) : (oc p).length = 65 := by simp [oc, bc, h]
theorem oc_one (p : Nat × List UInt8) : ∀ v ∈ oc p, v.oneCell' = true := by
  intro v hv
  simp only [oc, List.mem_cons] at hv
  rcases hv with rfl | hv
  · rfl
  · exact bc_one p.2 v hv
theorem all_one {l : List Value} (h : ∀ v ∈ l, v.oneCell' = true) : l.toArray.all (·.oneCell') = true := Array.all_eq_true_iff_forall_mem.2 (fun v hv => h v (by simpa using hv))
theorem By.setRow {w : World} {g : Nat} {l : List UInt8} (h : By w g l) (l' : List UInt8) : By (w.setRow g (bc l').toArray) g l' := by
  obtain ⟨T, hb⟩ := h
  exact ⟨T, setRow_heap _ _ _ _ _ _ hb⟩
theorem below_setRow {B : Nat} {w w' : World} (h : Below B w w') (g : Nat) (hg : B ≤ g) (cs : Array Value) : Below B w (w'.setRow g cs) :=
  ⟨h.os, h.tape, h.output, by rw [size_setRow]; exact h.size, fun k hk => (setRow_other _ _ _ _ (by omega)).trans (h.block k hk)⟩
/-- A new variable of many cells, its zero kept behind a letter. -/
theorem wpList_alloc_big {w : World} {ops : Array Oper} {rest : List Oper} {o : Oper} {a : Act} {Q : Exit → Act → World → Prop} (t : TypeId) (sz : Nat) (hinfo : (Tryz.prog.info? t).map (fun i => i.zero.map fun z => z.cells.size) = some (some sz)) (hg : o.guard = none) (ho : o.op = .alloc t)
    (hK : ∀ Z : Array Value, Hid (Z.size = sz) → wpList Tryz.prog ops Q rest (a.put o.dst (.pointer (some ⟨w.heap.size, 0, none⟩))) (w.alloc (.cells Z t))) : wpList Tryz.prog ops Q (o :: rest) a w := by
  cases hi : Tryz.prog.info? t with
  | none => simp [hi] at hinfo
  | some i =>
    cases hz : i.zero with
    | none => simp [hi, hz] at hinfo
    | some z =>
      have hsz : z.cells.size = sz := by simpa [hi, hz] using hinfo
      refine wpList_plain hg fun K hK' => ?_
      unfold Oper.wp
      simp [execOp, ho, Instr.alloc, zeroValue, typeInfo, hi, hz, newVar, newRow, Result.andThen]
      exact hK' _ _ (hK _ hsz)
theorem zero64 : (Tryz.prog.info? 146).map (fun i => i.zero.map fun z => z.cells.size) = some (some 65) := by kernel_rfl
theorem info62 : (Tryz.prog.info? 144).map (·.size) = some 64 := by kernel_rfl
theorem info64 : (Tryz.prog.info? 146).map (·.size) = some 65 := by kernel_rfl
section
variable {w : World} {b s n : Nat} {S : List (List UInt8)} {O : List (Nat × List UInt8)} {m : Nat} {oa : Option Addr} {cap : Nat} {f r : Int}
/-- A sector's cells. -/
theorem Dk.sector (h : Dk w b s n S O m oa cap f r) (k : Nat) (hk : k < n) (x : List UInt8) (hx : S[k]? = some x) : w.rangeAt s (k * 64) (bc x) := by
  obtain ⟨T, hs⟩ := h.sec
  intro j v hv
  have hkS : k < S.length := by rw [h.len]; exact hk
  have hall : ∀ y ∈ S, (bc y).length = 64 := fun y hy => by rw [bc_len]; exact h.all y hy
  have hxe : S[k] = x := by rw [List.getElem?_eq_getElem hkS] at hx; exact Option.some.inj hx
  have hj : j < 64 := by
    have := (List.getElem?_eq_some_iff.1 hv).1
    rw [bc_len, h.all x (by rw [← hxe]; exact List.getElem_mem hkS)] at this
    exact this
  have hf := flat_at bc 64 S k hkS j hall hj
  rw [hxe] at hf
  simp only [World.cell?, hs, List.getElem?_toArray]
  rw [hf, hv]
  rfl
/-- An open write's cells. -/
theorem Dk.openAt (h : Dk w b s n S O m oa cap f r) (k : Nat) (hk : k < m) (p : Nat × List UInt8) (hp : O[k]? = some p) (g : Nat) (hg : oa = some ⟨g, 0, none⟩) : w.rangeAt g (k * 65) (oc p) := by
  intro j v hv
  have hkO : k < O.length := by rw [h.many]; exact hk
  have hall : ∀ y ∈ O, (oc y).length = 65 := fun y hy => oc_len (h.oall y hy).2
  have hpe : O[k] = p := by rw [List.getElem?_eq_getElem hkO] at hp; exact Option.some.inj hp
  have hj : j < 65 := by
    have := (List.getElem?_eq_some_iff.1 hv).1
    rw [hall p (by rw [← hpe]; exact List.getElem_mem hkO)] at this
    exact this
  have hf := flat_at oc 65 O k hkO j hall hj
  rw [hpe, hv] at hf
  have hc := h.own.cells (g := g) (by rw [hg]; rfl) _ _ hf
  rw [Addr.add_mid, Nat.zero_add] at hc
  exact hc
/-- Where the open writes lie. -/
theorem Dk.spot (h : Dk w b s n S O m oa cap f r) (hm : 0 < m) : ∃ g, oa = some ⟨g, 0, none⟩ ∧ g ≠ b ∧ g ≠ s ∧ g < w.heap.size := by
  obtain ⟨g, cap', hv, _, hlt⟩ := h.own.form hm
  simp only [Value.slice.injEq] at hv
  obtain ⟨rfl, _, _⟩ := hv
  exact ⟨g, rfl, fun e => h.nob (by rw [e]; rfl), fun e => h.nos (by rw [e]; rfl), hlt⟩
end
/-- What a Read tells. -/
def rd (S : List (List UInt8)) (O : List (Nat × List UInt8)) (k : Nat) : List UInt8 := O.foldl (fun x p => if p.1 = k then p.2 else x) (S.getD k [])
section
variable {w : World} {b s n : Nat} {S : List (List UInt8)} {O : List (Nat × List UInt8)} {m : Nat} {oa : Option Addr} {cap : Nat} {f r : Int}
set_option maxRecDepth 100000 in
set_option maxHeartbeats 2000000 in
theorem read_ok (h : Dk w b s n S O m oa cap f r) (k : Nat) (hk : k < n) (hr : r < 1000000) (f' : Int) (hf : failS f = (false, f')) :
    Calls Tryz.prog 154 #[.pointer (some ⟨b, 0, none⟩), .int .i64 k] w fun e w' => e = .returned (.tuple #[.string ⟨(rd S O k).toArray⟩, .int .i64 0]) ∧ Dk w' b s n S O m oa cap f' (r + 1) ∧ Moved w w' b s oa := by
  have H := Lib.hid hf
  clear hf
  have c3 := h.c3
  have fr := h.fr 3
  have r0 := h.r0
  have hn := h.hi
  have hS := h.setr (r + 1) (by omega) (by omega)
  have hM := Moved.set w b s oa 3 (.int .i64 (r + 1))
  obtain ⟨R, hR⟩ : ∃ R, rd S O k = R := ⟨_, rfl⟩
  rw [hR]
  have HR := Lib.hid hR
  clear hR
  have hkn : (k : Int) < (n : Int) := by omega
  go_enter Tryz.func154, Tryz.ntmps154
  have hkS : k < S.length := by rw [h.len]; exact hk
  obtain ⟨x0, hx0⟩ : ∃ x, S[k]? = some x := ⟨_, List.getElem?_eq_getElem hkS⟩
  have hx64 : x0.length = 64 := h.all x0 (List.mem_of_getElem? hx0)
  have hi62 : (Tryz.prog.info? 144).map (·.size) = some (bc x0).length := by rw [info62, bc_len, hx64]
  have hi62a : (Tryz.prog.info? 144).map (·.size) = some (bc x0).toArray.size := by rw [info62]; simp [bc_len, hx64]
  have hone : (bc x0).toArray.all (·.oneCell') = true := Array.all_eq_true_iff_forall_mem.2 (fun v hv => bc_one x0 v (by simpa using hv))
  have hcur0 : S.getD k [] = x0 := by simp [hx0]
  have HX0 := Lib.hid hx0
  have HC0 := Lib.hid hcur0
  have HX64 := Lib.hid hx64
  have HI := Lib.hid hi62
  have HIA := Lib.hid hi62a
  clear hkS hx0 hcur0 hi62 hi62a hx64
  go_wp2_with (first
    | (go_at_call 164; refine (there_in h k (by omega) (by omega)).mono ?_; rintro e w1 ⟨rfl, rfl⟩)
    | (go_at_call 117; refine (fails_any hS false f' H.out).mono ?_; rintro e w1 ⟨rfl, hD, hM2, -⟩; have d0 := hD.c0; have d1 := hD.c1; have hsec := hD.sector k hk x0 HX0.out)
    | (refine wpList_load_mid rfl 144 _ rfl s (k * 64) rfl (bc x0) _ hsec Tryz.underlying144 rfl HI.out ?_)
    | (refine wpList_store_row rfl 144 _ _ rfl _ (bc x0).toArray rfl rfl 144 _ (heap_alloc_new _ _) HIA.out ?_ hone ?_; (simp [bc_len, HX64.out]); rw [World.setRow_alloc_new]; have hD2 := hD.below ((Below.refl _ _).alloc (Nat.le_refl _) (Obj.cells (bc x0).toArray 144)); have e1 := hD2.c1))
  have hB6 : By (w1.alloc (.cells (bc x0).toArray 144)) w1.heap.size x0 := ⟨144, heap_alloc_new _ _⟩
  have hb6 : Below w1.heap.size w1 (w1.alloc (.cells (bc x0).toArray 144)) := (Below.refl _ _).alloc (Nat.le_refl _) _
  have hmany := hD.many
  have hoall := hD.oall
  have hfew := hD.few
  have HM := Lib.hid hmany
  have HO := Lib.hid hoall
  clear d0 d1 hsec e1 hD2 hmany hoall c3 fr hS h
  go_loopw [34] (fun i wr => ∃ (q : Nat) (cur : List UInt8), q ≤ m ∧ i = .int .i64 q ∧ By wr w1.heap.size cur ∧ Hid (cur.length = 64) ∧ Hid ((O.take q).foldl (fun x p => if p.1 = k then p.2 else x) x0 = cur) ∧ Below w1.heap.size w1 wr) (fun i _ => m - (intOf i).toNat)
  case atStart => exact ⟨0, x0, by omega, rfl, hB6, HX64, rfl, hb6⟩
  case round =>
    obtain ⟨q, cur, hq, rfl, hBr, hcl, hcur, hbr⟩ := hrel
    have hDr := hD.below hbr
    by_cases hlt : q < m
    · obtain ⟨g, rfl, hgb, hgs, hgw⟩ := hDr.spot (by omega)
      obtain ⟨p, hp⟩ : ∃ p, O[q]? = some p := ⟨_, List.getElem?_eq_getElem (by rw [HM.out]; exact hlt)⟩
      have hp64 := (HO.out p (List.mem_of_getElem? hp)).2
      have hrow := hDr.openAt q hlt p hp g rfl
      have hqO : q < O.length := by rw [HM.out]; exact hlt
      have hpe : O[q] = p := by rw [List.getElem?_eq_getElem hqO] at hp; exact Option.some.inj hp
      have hnext : Hid ((O.take (q + 1)).foldl (fun x p => if p.1 = k then p.2 else x) x0 = if p.1 = k then p.2 else cur) := by
        show (O.take (q + 1)).foldl (fun x p => if p.1 = k then p.2 else x) x0 = if p.1 = k then p.2 else cur
        rw [List.take_succ_eq_append_getElem hqO, List.foldl_append, hpe, hcur.out]
        rfl
      have i64a : Hid ((Tryz.prog.info? 146).map (·.size) = some (oc p).length) := by show _ = _; rw [info64, oc_len hp64]
      have i64b : Hid ((Tryz.prog.info? 146).map (·.size) = some (oc p).toArray.size) := by show _ = _; rw [info64]; simp [oc_len hp64]
      have i62a : Hid ((Tryz.prog.info? 144).map (·.size) = some (bc p.2).length) := by show _ = _; rw [info62, bc_len, hp64]
      have i62b : Hid ((Tryz.prog.info? 144).map (·.size) = some (bc p.2).toArray.size) := by show _ = _; rw [info62]; simp [bc_len, hp64]
      have ho1 := all_one (oc_one p)
      have ho2 := all_one (bc_one p.2)
      have hc0 : (wr.alloc (.cells (oc p).toArray 146)).cell? ⟨wr.heap.size, 0, none⟩ = some (.int .i64 (p.1 : Int)) := cellAt (heap_alloc_new _ _) 0 (by simp [oc])
      have hrow2 : (wr.alloc (.cells (oc p).toArray 146)).rangeAt wr.heap.size 1 (bc p.2) := fun j v hv => cellAt (heap_alloc_new _ _) (1 + j) (by rw [Nat.add_comm]; simpa [oc] using hv)
      obtain ⟨T6, hT6⟩ : ∃ T, (wr.alloc (.cells (oc p).toArray 146)).heap[w1.heap.size]? = some (.cells (bc cur).toArray T (0, 0)) := by
        obtain ⟨T, hT⟩ := hBr
        exact ⟨T, (Below.heap_alloc _ _ _ (Array.getElem?_eq_some_iff.1 hT).1).trans hT⟩
      have hs0 : Hid ((bc cur).toArray.size = (bc p.2).toArray.size) := by show _ = _; simp [bc_len, hp64, hcl.out]
      have hs1 : Hid (p.2.length = 64) := hp64
      have hBa : By (wr.alloc (.cells (oc p).toArray 146)) w1.heap.size cur := ⟨T6, hT6⟩
      have hba : Below w1.heap.size w1 (wr.alloc (.cells (oc p).toArray 146)) := hbr.alloc hbr.size _
      have hp65 : Hid ((oc p).length = 65) := oc_len hp64
      clear hp hpe hp64 hqO
      by_cases hpk : p.1 = k
      · have hpt : ((p.1 : Int) == (k : Int)) = true := by simp [hpk]
        have hne := hnext.out
        rw [if_pos hpk] at hne
        have HNE := Lib.hid hne
        clear hne hnext hpk
        go_wp2_with (first
          | (refine wpList_load_mid rfl 146 _ rfl g (q * 65) rfl (oc p) _ hrow Tryz.underlying146 rfl i64a.out ?_)
          | (refine wpList_load_mid rfl 144 _ rfl wr.heap.size 1 rfl (bc p.2) _ hrow2 Tryz.underlying144 rfl i62a.out ?_)
          | (refine wpList_alloc_big 146 65 zero64 rfl rfl ?_; intro Z hZ)
          | (refine wpList_store_row rfl 146 _ _ rfl _ (oc p).toArray rfl rfl 146 _ (heap_alloc_new _ _) i64b.out ?_ ho1 ?_; (simp [hp65.out, hZ.out]); rw [World.setRow_alloc_new])
          | (refine wpList_store_row rfl 144 _ _ rfl w1.heap.size (bc p.2).toArray rfl rfl T6 _ hT6 i62b.out hs0.out ho2 ?_))
        go_roundw
        case rel => exact ⟨q + 1, p.2, by omega, by go_num, hBa.setRow _, hs1, HNE, below_setRow hba _ (Nat.le_refl _) _⟩
        case measure => simp [intOf]; omega
      · have hpt : ((p.1 : Int) == (k : Int)) = false := by rw [beq_eq_false_iff_ne]; omega
        have hne := hnext.out
        rw [if_neg hpk] at hne
        have HNE := Lib.hid hne
        clear hne hnext hpk
        go_wp2_with (first
          | (refine wpList_load_mid rfl 146 _ rfl g (q * 65) rfl (oc p) _ hrow Tryz.underlying146 rfl i64a.out ?_)
          | (refine wpList_alloc_big 146 65 zero64 rfl rfl ?_; intro Z hZ)
          | (refine wpList_store_row rfl 146 _ _ rfl _ (oc p).toArray rfl rfl 146 _ (heap_alloc_new _ _) i64b.out ?_ ho1 ?_; (simp [hp65.out, hZ.out]); rw [World.setRow_alloc_new]))
        go_roundw
        case rel => exact ⟨q + 1, cur, by omega, by go_num, hBa, hcl, HNE, hba⟩
        case measure => simp [intOf]; omega
    · obtain rfl : q = m := by omega
      have hfin : Hid (cur = R) := by
        show cur = R
        rw [← HR.out, ← hcur.out, List.take_of_length_le (by rw [HM.out]; exact Nat.le_refl _), ← HC0.out]
        rfl
      have hcv := hBr.conv 64 64 hcl.out
      go_wp2_with fail
      go_ret2
      exact ⟨by rw [← hfin.out]; rfl, hDr, hM.trans (hM2.trans (Moved.below hbr))⟩
end
end Go.Proofs.YtoichcickcgbgaaGreatDoor.Disk
