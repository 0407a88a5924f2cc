/-
  Flush: all that was written lies there.
  A new disk; the chapter's example.
  The disk without faults, said of a set of blocks that are its own.
  sync.Once and its lock, alone: the lock is taken where it is free; the two calls that the slow road defers.
  The sum of a text in plain numbers: one step of a bit, the table, the sum; that it is linear, that a turned byte or two turn it, that bytes and numbers come back from one another.
-/
import Derived.Test.YtoichcickcgbgaaGreatDoorGDWr
import Derived.Deep.RegionHeld
import Derived.Test.YtoichcickcgbgaaGreatDoorRows
import Derived.WalkKit
import Derived.WalkSpells
import Derived.WalkLawsBesides
import Derived.Defers
import Derived.Laws.Pointers
import Derived.Laws.LoneSync
import Derived.RegionTactic
import Derived.RegionCalls
import Derived.ChangeAlike
import Derived.Lib.Hide
namespace Go.Proofs.YtoichcickcgbgaaGreatDoor.Disk
open Go.RowKit
set_option linter.unusedSimpArgs false
theorem setCells_heap (b : Nat) : ∀ (vs : List Value) (o : Nat) (w : World) (cur : Array Value) (T : TypeId), w.heap[b]? = some (.cells cur T (0, 0)) → o + vs.length ≤ cur.size →
    (w.setCells b o vs).heap[b]? = some (.cells (cur.toList.take o ++ vs ++ cur.toList.drop (o + vs.length)).toArray T (0, 0))
  | [], o, w, cur, T, h, _ => by simp [World.setCells, h]
  | v :: vs, o, w, cur, T, h, hle => by
    have h1 := heap_setCell_same w b o cur T v h
    have h2 := setCells_heap b vs (o + 1) (w.setCell ⟨b, o, none⟩ v) _ T h1 (by simp only [List.length_cons] at hle; simp; omega)
    simp only [World.setCells]
    rw [h2]
    have e := list_seg_step cur.toList o v vs (by simp only [List.length_cons] at hle; simpa using hle)
    simp only [List.length_cons, Array.toList_setIfInBounds]
    rw [e]
theorem setCells_other (b k : Nat) (hk : k ≠ b) : ∀ (vs : List Value) (o : Nat) (w : World), (w.setCells b o vs).heap[k]? = w.heap[k]?
  | [], _, _ => rfl
  | v :: vs, o, w => by
    simp only [World.setCells]
    rw [setCells_other b k hk vs]
    exact heap_setCell_other _ _ _ _ hk
theorem setCells_cell {b o : Nat} {vs : List Value} {w : World} {a : Addr} (h : a.block ≠ b) : (w.setCells b o vs).cell? a = w.cell? a := World.cell?_of_block (setCells_other b a.block h vs o w)
theorem setCells_same (b : Nat) : ∀ (vs : List Value) (o : Nat) (w : World), (w.setCells b o vs).os = w.os ∧ (w.setCells b o vs).tape = w.tape ∧ (w.setCells b o vs).output = w.output ∧ (w.setCells b o vs).heap.size = w.heap.size
  | [], _, _ => ⟨rfl, rfl, rfl, rfl⟩
  | v :: vs, o, w => by
    simp only [World.setCells]
    obtain ⟨h1, h2, h3, h4⟩ := setCells_same b vs (o + 1) (w.setCell ⟨b, o, none⟩ v)
    exact ⟨h1, h2, h3, h4.trans (by simp [World.setCell])⟩
section
variable {w : World} {b s n : Nat} {S : List (List UInt8)} {O : List (Nat × List UInt8)} {m : Nat} {oa : Option Addr} {cap : Nat} {f r : Int}
/-- A part of a sector is there, and may be written. -/
theorem Dk.room (h : Dk w b s n S O m oa cap f r) (k : Nat) (hk : k < n) (c : Nat) (hc : c ≤ 64) : w.there s (k * 64) c := by
  obtain ⟨T, hs⟩ := h.sec
  intro j hj
  have hlen : (S.flatMap bc).length = n * 64 := by rw [flat_len bc 64 S (fun y hy => by rw [bc_len]; exact h.all y hy), h.len]
  have hlt : k * 64 + j < (S.flatMap bc).length := by rw [hlen]; omega
  refine ⟨?_, freeAt hs _⟩
  rw [cellAt hs (k * 64 + j) (v := (S.flatMap bc)[k * 64 + j]) (by simp [hlt])]
  rfl
/-- The first cells of a sector are written over. -/
theorem Dk.over (h : Dk w b s n S O m oa cap f r) (k : Nat) (hk : k < n) (y x : List UInt8) (hy : S[k]? = some y) (hx : x.length ≤ 64) :
    Dk (w.setCells s (k * 64) (bc x)) b s n (S.set k (x ++ y.drop x.length)) O m oa cap f r ∧ Moved w (w.setCells s (k * 64) (bc x)) b s oa := by
  obtain ⟨T, hs⟩ := h.sec
  obtain ⟨T', hb⟩ := h.box
  obtain ⟨o1, o2, o3, o4⟩ := setCells_same s (bc x) (k * 64) w
  have hkS : k < S.length := by rw [h.len]; exact hk
  have hye : S[k] = y := by rw [List.getElem?_eq_getElem hkS] at hy; exact Option.some.inj hy
  have hy64 : y.length = 64 := h.all y (by rw [← hye]; exact List.getElem_mem hkS)
  have hall : ∀ z ∈ S, (bc z).length = 64 := fun z hz => by rw [bc_len]; exact h.all z hz
  have hlen : (S.flatMap bc).length = n * 64 := by rw [flat_len bc 64 S hall, h.len]
  have hfit : k * 64 + (bc x).length ≤ (S.flatMap bc).toArray.size := by rw [bc_len]; simp only [List.size_toArray]; rw [hlen]; omega
  have hset := setCells_heap s (bc x) (k * 64) w _ T hs hfit
  have hflat := flat_set bc 64 S k hkS (x ++ y.drop x.length) hall
  have hmid : (S.flatMap bc).drop (k * 64 + x.length) = bc (y.drop x.length) ++ (S.flatMap bc).drop (k * 64 + 64) := by
    have hself := flat_set bc 64 S k hkS y hall
    rw [← hye, List.set_getElem_self] at hself
    conv => lhs; rw [hself]
    have e1 : ((S.flatMap bc).take (k * 64)).length = k * 64 := by rw [List.length_take, hlen]; omega
    rw [List.append_assoc, List.drop_append, e1]
    rw [List.drop_of_length_le (by rw [e1]; omega), List.nil_append, Nat.add_sub_cancel_left]
    rw [List.drop_append_of_le_length (by rw [bc_len, hye, hy64]; omega), hye]
    simp [bc, List.map_drop]
  refine ⟨{ h with box := ⟨T', (setCells_other s b h.ne _ _ _).trans hb⟩, sec := ⟨T, ?_⟩, len := by simp [h.len], all := ?_, own := own_keep h.own fun g _ hg => setCells_other s g (fun e => h.nos (by rw [hg, e])) _ _ _ }, ⟨o1, o2, o3, by rw [o4]; exact Nat.le_refl _, fun g _ _ hgs _ => setCells_other s g hgs _ _ _⟩⟩
  · rw [hset]
    congr 2
    simp only [bc_len]
    rw [hflat, hmid]
    simp [bc, List.append_assoc]
  · intro z hz
    rcases List.mem_or_eq_of_mem_set hz with hz | rfl
    · exact h.all z hz
    · simp; omega
end
/-- What a Flush makes of the sectors. -/
def fl (S : List (List UInt8)) (O : List (Nat × List UInt8)) : List (List UInt8) := O.foldl (fun S p => S.set p.1 p.2) S
section
variable {w : World} {b s n : Nat} {S : List (List UInt8)} {O : List (Nat × List UInt8)} {m : Nat} {oa : Option Addr} {cap : Nat} {f r : Int}
/-- No write is open any more. -/
theorem Dk.shut (h : Dk w b s n S O m oa cap f r) : Dk (w.setCell ⟨b, 1, none⟩ (.slice none 0 0)) b s n S [] 0 none 0 f r := by
  obtain ⟨T, hb⟩ := h.box
  obtain ⟨T', hs⟩ := h.sec
  refine { h with box := ⟨T, ?_⟩, sec := ⟨T', (heap_setCell_other _ _ _ _ h.ne.symm).trans hs⟩, many := rfl, own := World.ownsRow_nil _ _ _ _, oall := by simp, nob := by simp [Value.ownBlock], nos := by simp [Value.ownBlock], few := by omega }
  rw [heap_setCell_same _ _ _ _ T _ hb]
  rfl
set_option maxRecDepth 100000 in
set_option maxHeartbeats 2000000 in
theorem flush_ok (h : Dk w b s n S O m oa cap f r) (f' : Int) (hf : failS f = (false, f')) :
    Calls Tryz.prog 83 #[.pointer (some ⟨b, 0, none⟩)] w fun e w' => e = .returned (.int .i64 0) ∧ Dk w' b s n (fl S O) [] 0 none 0 f' r ∧ Moved w w' b s oa := by
  have H := Lib.hid hf
  have hn := h.hi
  have hfew := h.few
  have HM := Lib.hid h.many
  have HO := Lib.hid h.oall
  obtain ⟨R, hR⟩ : ∃ R, fl S O = R := ⟨_, rfl⟩
  rw [hR]
  have HR := Lib.hid hR
  clear hf hR
  go_enter Tryz.func83, Tryz.ntmps83
  go_wp2_with (go_at_call 117; refine (fails_any h false f' H.out).mono ?_; rintro e w1 ⟨rfl, hD, hM2, -⟩; have d1 := hD.c1)
  clear d1 h
  go_loopw [16] (fun i wr => ∃ (q : Nat) (C : List (List UInt8)), q ≤ m ∧ i = .int .i64 q ∧ Dk wr b s n C O m oa cap f' r ∧ Hid ((O.take q).foldl (fun S p => S.set p.1 p.2) S = C) ∧ Moved w1 wr b s oa) (fun i _ => m - (intOf i).toNat)
  case atStart => exact ⟨0, S, by omega, rfl, hD, rfl, Moved.refl _ _ _ _⟩
  case round =>
    obtain ⟨q, C, hq, rfl, hDr, hcur, hMr⟩ := hrel
    by_cases hlt : q < m
    · obtain ⟨g, rfl, hgb, hgs, hgw⟩ := hDr.spot (by omega)
      obtain ⟨p, hp⟩ : ∃ p, O[q]? = some p := ⟨_, List.getElem?_eq_getElem (by rw [HM.out]; exact hlt)⟩
      obtain ⟨hpn, hp64⟩ := HO.out p (List.mem_of_getElem? hp)
      have hrow := hDr.openAt q hlt p hp g rfl
      have hqO : q < O.length := by rw [HM.out]; exact hlt
      have hpe : O[q] = p := by rw [List.getElem?_eq_getElem hqO] at hp; exact Option.some.inj hp
      have hnext : Hid ((O.take (q + 1)).foldl (fun S p => S.set p.1 p.2) S = C.set p.1 p.2) := by
        show (O.take (q + 1)).foldl (fun S p => S.set p.1 p.2) S = C.set p.1 p.2
        rw [List.take_succ_eq_append_getElem hqO, List.foldl_append, hpe, hcur.out]
        rfl
      have i64a : Hid ((Tryz.prog.info? 146).map (·.size) = some (oc p).length) := by show _ = _; rw [info64, oc_len hp64]
      have i64b : Hid ((Tryz.prog.info? 146).map (·.size) = some (oc p).toArray.size) := by show _ = _; rw [info64]; simp [oc_len hp64]
      have ho1 := all_one (oc_one p)
      have hp65 : Hid ((oc p).length = 65) := oc_len hp64
      have hcC : p.1 < C.length := by rw [hDr.len]; exact hpn
      obtain ⟨y, hy⟩ : ∃ y, C[p.1]? = some y := ⟨_, List.getElem?_eq_getElem hcC⟩
      have hDa := hDr.below ((Below.refl _ _).alloc (Nat.le_refl _) (Obj.cells (oc p).toArray 146))
      have hMa : Moved w1 (wr.alloc (.cells (oc p).toArray 146)) b s (some ⟨g, 0, none⟩) := hMr.trans (Moved.below ((Below.refl _ _).alloc (Nat.le_refl _) _))
      have hc0 : (wr.alloc (.cells (oc p).toArray 146)).cell? ⟨wr.heap.size, 0, none⟩ = some (.int .i64 (p.1 : Int)) := cellAt (heap_alloc_new _ _) 0 (by simp [oc])
      have hrow2 : (wr.alloc (.cells (oc p).toArray 146)).rangeAt wr.heap.size 1 (bc p.2) := fun j v hv => cellAt (heap_alloc_new _ _) (1 + j) (by rw [Nat.add_comm]; simpa [oc] using hv)
      have hbs : Hid (wr.heap.size ≠ s) := by show wr.heap.size ≠ s; have := hDr.lts; omega
      have HP := Lib.hid hp64
      have HY := Lib.hid hy
      clear hp hpe hp64 hqO hcC hy hD
      go_wp2_with (first
        | (refine wpList_load_mid rfl 146 _ rfl g (q * 65) rfl (oc p) _ hrow Tryz.underlying146 rfl i64a.out ?_)
        | (refine wpList_alloc_big 146 65 zero64 rfl rfl ?_; intro Z hZ)
        | (refine wpList_store_row rfl 146 _ _ rfl _ (oc p).toArray rfl rfl 146 _ (heap_alloc_new _ _) i64b.out ?_ ho1 ?_; (simp [hp65.out, hZ.out]); rw [World.setRow_alloc_new]))
      generalize wr.alloc (.cells (oc p).toArray 146) = W at *
      generalize wr.heap.size = B4 at *
      have hDW : Dk W.drew b s n C O m (some ⟨g, 0, none⟩) cap f' r := hDa.keep fun _ _ _ => rfl
      have t0 := hDW.c0
      have t1 : W.drew.cell? ⟨B4, 0, none⟩ = some (.int .i64 (p.1 : Int)) := hc0
      have t2 : W.drew.rangeAt B4 1 (bc p.2) := hrow2
      have t3 : W.drew.there s (p.1 * 64) 64 := hDW.room p.1 hpn 64 (Nat.le_refl _)
      have t4 : (bc p.2).length = 64 := by rw [bc_len, HP.out]
      have t5 := bc_one p.2
      have t6 : (Tryz.prog.info? 144).map (·.size) = some (bc p.2).length := by rw [info62, t4]
      have t7 := Tryz.underlying144
      have t8 : (p.1 : Int) < (n : Int) := by omega
      simp only [Act.put, pw]
      go_region_held (fun w' => w'.cell? ⟨b, 0, none⟩ = some (.slice (some ⟨s, 0, none⟩) n n) ∧ w'.cell? ⟨B4, 0, none⟩ = some (.int .i64 (p.1 : Int)) ∧ w'.rangeAt B4 1 (bc p.2) ∧ w'.there s (p.1 * 64) 64)
        (first | exact ⟨t0, t1, t2, t3⟩ | exact ⟨(setCells_cell hDW.ne).trans t0, (setCells_cell hbs.out).trans t1, World.rangeAt_setCells_apart t2 _ _ _ (.inl hbs.out), World.there_setCells t3 _ _ _⟩) (fail)
      obtain ⟨hD3, hM3⟩ := hDW.over p.1 hpn y p.2 HY.out (by rw [HP.out]; exact Nat.le_refl _)
      have hy64 : y.length = 64 := hDW.all y (List.mem_of_getElem? HY.out)
      rw [HP.out, List.drop_of_length_le (by omega), List.append_nil] at hD3
      have hM4 : Moved w1 W.drew b s (some ⟨g, 0, none⟩) := hMa.trans (Moved.below (Below.refl _ _).drew)
      go_wp2
      go_roundw
      case rel => exact ⟨q + 1, C.set p.1 p.2, by omega, by go_num, hD3, hnext, hM4.trans hM3⟩
      case measure => simp [intOf]; omega
    · obtain rfl : q = m := by omega
      have hfin : Hid (C = R) := by
        show C = R
        rw [← HR.out, ← hcur.out, List.take_of_length_le (by rw [HM.out]; exact Nat.le_refl _)]
        rfl
      have d1 := hDr.c1
      have d2 := hDr.fr 1
      have hDS := hDr.shut
      have hMS := Moved.set wr b s oa 1 (.slice none 0 0)
      go_wp2_with fail
      go_ret
      exact ⟨rfl, by rw [← hfin.out]; exact hDS, hM2.trans (hMr.trans hMS)⟩
end
end Go.Proofs.YtoichcickcgbgaaGreatDoor.Disk
namespace Go.Proofs.YtoichcickcgbgaaGreatDoor.Disk
open Go.RowKit
set_option linter.unusedSimpArgs false
/-- Sectors of zeros. -/
def zs (n : Nat) : List (List UInt8) := List.replicate n (List.replicate 64 0)
theorem zs_flat (n : Nat) : (zs n).flatMap bc = List.replicate (n * 64) (Value.int .u8 0) := by
  induction n with
  | zero => simp [zs]
  | succ n ih =>
    have e : zs (n + 1) = List.replicate 64 0 :: zs n := rfl
    rw [e, List.flatMap_cons, ih, Nat.succ_mul, Nat.add_comm (n * 64) 64, ← List.replicate_append_replicate]
    rfl
theorem made_rep (k N : Nat) (hk : 0 < k) (x : Value) : madeCells (List.replicate k x).toArray N = (List.replicate N x).toArray := by
  apply Array.ext
  · simp [madeCells]
  · intro i h1 h2
    have hlt : i % k < k := Nat.mod_lt _ hk
    simp [madeCells, hlt]
theorem made_secs (z : Value) (n : Nat) (hz : z.cells = (List.replicate 64 (Value.int .u8 0)).toArray) : madeCells z.cells (n * 64) = ((zs n).flatMap bc).toArray := by
  rw [zs_flat, hz, made_rep 64 _ (by omega)]
theorem zero62c : (Tryz.prog.info? 144).map (fun i => (i.zero.map fun z => z.cells, i.size, i.bytes)) = some (some (List.replicate 64 (Value.int .u8 0)).toArray, 64, 64) := by kernel_rfl
theorem wpList_make_secs (w : World) {ops : Array Oper} {rest : List Oper} {o : Oper} {a : Act} {Q : Exit → Act → World → Prop}
    (hg : o.guard = none) (l c : Operand) (hop : o.op = Op.makeSlice 71 l c) (n : Nat) (hn : n ≤ 1024) (hl : a.eval l = .int .i64 n) (hc : a.eval c = .int .i64 n)
    (hK : ∀ C : Array Value, Hid (C = ((zs n).flatMap bc).toArray) → wpList Tryz.prog ops Q rest (a.put o.dst (.slice (some ⟨w.heap.size, 0, none⟩) n n)) (w.alloc (.cells C 144))) :
    wpList Tryz.prog ops Q (o :: rest) a w := by
  cases hi : Tryz.prog.info? 144 with
  | none => have := zero62c; simp [hi] at this
  | some i0 =>
    have h1 := zero62c
    simp only [hi, Option.map_some, Option.some.injEq, Prod.mk.injEq] at h1
    obtain ⟨hz0, hz1, hz2⟩ := h1
    cases hz : i0.zero with
    | none => simp [hz] at hz0
    | some z =>
      have hzc : z.cells = (List.replicate 64 (Value.int .u8 0)).toArray := by simpa [hz] using hz0
      refine wpList_plain hg fun K hK' => ?_
      have hrun := run_make (P := Tryz.prog) w 71 144 i0 z Tryz.underlying71 hi hz .i64 .i64 (n : Int) (n : Int) (by omega) (Int.le_refl _) (by rw [hz2]; omega) (by omega)
      rw [hz1] at hrun
      simp only [Int.toNat_natCast] at hrun
      rw [made_secs z n hzc] at hrun
      have hk := hK _ rfl
      unfold Oper.wp
      simp only [execOp, hop, hl, hc, Sem.run_bind, hrun, Result.andThen_ok]
      exact hK' _ _ hk
theorem new_ok (n : Nat) (h0 : 1 ≤ n) (h1 : n ≤ 1024) (w : World) :
    Calls Tryz.prog 8 #[.int .i64 n] w fun e w' => e = .returned (.pointer (some ⟨w.heap.size + 1, 0, none⟩)) ∧ Dk w' (w.heap.size + 1) w.heap.size n (zs n) [] 0 none 0 0 0 ∧ Below w.heap.size w w' ∧ w'.heap.size = w.heap.size + 2 := by
  go_enter Tryz.func8, Tryz.ntmps8
  go_wp2_with (refine wpList_make_secs _ rfl _ _ rfl n h1 rfl rfl ?_; intro C hC)
  go_ret
  have hB : Dk ((w.alloc (.cells C 144)).alloc (.cells #[.slice (some ⟨w.heap.size, 0, none⟩) n n, .slice none 0 0, .int .i64 0, .int .i64 0] 74)) (w.heap.size + 1) w.heap.size n (zs n) [] 0 none 0 0 0 := by
    refine ⟨⟨74, heap_alloc2_new _ _ _⟩, ⟨144, ?_⟩, by simp [zs], ?_, rfl, World.ownsRow_nil _ _ _ _, by simp, by omega, by simp [Value.ownBlock], by simp [Value.ownBlock], h0, h1, by omega, by omega, by omega, by omega, by omega⟩
    · rw [← hC.out]; exact heap_alloc2_old _ _ _
    · intro x hx
      simp only [zs, List.mem_replicate] at hx
      rw [hx.2]
      simp
  exact ⟨rfl, hB, ((Below.refl _ _).alloc (Nat.le_refl _) _).alloc (by simp) _, by simp⟩
end Go.Proofs.YtoichcickcgbgaaGreatDoor.Disk
namespace Go.Proofs.YtoichcickcgbgaaGreatDoor
open Go.RowKit Disk
/-- A disk at b of n sectors S, with open writes O, whose blocks lie in F. -/
def Du (w : World) (F : Nat → Prop) (b n : Nat) (S : List (List UInt8)) (O : List (Nat × List UInt8)) (r : Int) : Prop :=
  ∃ s oa cap, Dk w b s n S O O.length oa cap 0 r ∧ F b ∧ F s ∧ ∀ g, (Value.slice oa 0 0).ownBlock = some g → F g
/-- F, and what is new. -/
def Upb (F : Nat → Prop) (w w' : World) : Nat → Prop := fun k => F k ∨ w.heap.size ≤ k ∧ k < w'.heap.size
section
variable {w : World} {F : Nat → Prop} {b n : Nat} {S : List (List UInt8)} {O : List (Nat × List UInt8)} {r : Int}
theorem Du.lt (h : Du w F b n S O r) : b < w.heap.size := by obtain ⟨_, _, _, h, _⟩ := h; exact h.lt
theorem Du.own_lt {s m cap : Nat} {oa : Option Addr} {f : Int} (h : Dk w b s n S O m oa cap f r) {g : Nat} (hg : (Value.slice oa m cap).ownBlock = some g) : g < w.heap.size := by
  rcases h.own.2 with ⟨h0, _⟩ | ⟨g', cap', cur, hv, _, hb, _⟩
  · rw [h0] at hg; simp [Value.ownBlock] at hg
  · have e : g = g' := by rw [hv] at hg; simp [Value.ownBlock] at hg; exact hg.symm
    subst e
    exact (Array.getElem?_eq_some_iff.1 hb).1
theorem Du.keep {w' : World} (h : Du w F b n S O r) (e : ∀ k, k < w.heap.size → F k → w'.heap[k]? = w.heap[k]?) : Du w' F b n S O r := by
  obtain ⟨s, oa, cap, h, h1, h2, h3⟩ := h
  refine ⟨s, oa, cap, h.keep fun k hk hk2 => e k hk ?_, h1, h2, h3⟩
  rcases hk2 with rfl | rfl | hk2
  · exact h1
  · exact h2
  · exact h3 k ((own_slice _ _ _ _ _).trans hk2)
theorem Du.turn {G : Nat → Prop} {w' : World} (h : Du w F b n S O r) (t : Turn G w w') (hG : ∀ k, k < w.heap.size → F k → ¬ G k) : Du w' F b n S O r := h.keep fun k hk hF => t.block k hk (hG k hk hF)
theorem Du.below {w' : World} (h : Du w F b n S O r) (t : Below w.heap.size w w') : Du w' F b n S O r := h.keep fun k hk _ => t.block k hk
theorem Du.mono {F' : Nat → Prop} (h : Du w F b n S O r) (hF : ∀ k, k < w.heap.size → F k → F' k) : Du w F' b n S O r := by
  obtain ⟨s, oa, cap, h, h1, h2, h3⟩ := h
  exact ⟨s, oa, cap, h, hF b h.lt h1, hF s h.lts h2, fun g hg => hF g (Du.own_lt h ((own_slice _ _ _ _ _).trans hg)) (h3 g hg)⟩
theorem moved_turn {w' : World} {s m cap : Nat} {oa : Option Addr} (h : Moved w w' b s oa) (h1 : F b) (h2 : F s) (h3 : ∀ g, (Value.slice oa m cap).ownBlock = some g → F g) : Turn F w w' :=
  ⟨h.os, h.tape, h.output, h.size, fun k hk hn => h.block k hk (fun e => hn (e ▸ h1)) (fun e => hn (e ▸ h2)) (fun e => hn (h3 k ((own_slice _ _ _ _ _).trans e)))⟩
theorem du_new (n : Nat) (h0 : 1 ≤ n) (h1 : n ≤ 1024) (w : World) :
    Calls Tryz.prog 8 #[.int .i64 n] w fun e w' => e = .returned (.pointer (some ⟨w.heap.size + 1, 0, none⟩)) ∧ Du w' (fun k => w.heap.size ≤ k ∧ k < w.heap.size + 2) (w.heap.size + 1) n (zs n) [] 0 ∧ Below w.heap.size w w' ∧ w'.heap.size = w.heap.size + 2 :=
  (new_ok n h0 h1 w).mono fun _ _ ⟨he, hD, hb, hs⟩ => ⟨he, ⟨_, _, _, hD, by omega, by omega, fun g hg => by simp [Value.ownBlock] at hg⟩, hb, hs⟩
theorem du_len (h : Du w F b n S O r) : Calls Tryz.prog 72 #[.pointer (some ⟨b, 0, none⟩)] w fun e w' => e = .returned (.int .i64 n) ∧ w = w' := by
  obtain ⟨s, oa, cap, h, _⟩ := h
  exact len_any h
theorem du_read (h : Du w F b n S [] r) (k : Nat) (hk : k < n) (hr : r < 1000000) (x : ByteArray) (hx : x = ⟨(S.getD k []).toArray⟩) :
    Calls Tryz.prog 154 #[.pointer (some ⟨b, 0, none⟩), .int .i64 k] w fun e w' => e = .returned (.tuple #[.string x, .int .i64 0]) ∧ Du w' F b n S [] (r + 1) ∧ Turn F w w' := by
  subst hx
  obtain ⟨s, oa, cap, h, h1, h2, h3⟩ := h
  exact (read_ok h k hk hr 0 rfl).mono fun _ _ ⟨he, hD, hM⟩ => ⟨he, ⟨s, oa, cap, hD, h1, h2, h3⟩, moved_turn (m := 0) (cap := 0) hM h1 h2 h3⟩
theorem du_write (h : Du w F b n S O r) (k : Nat) (hk : k < n) (x : ByteArray) (hx : x.size = 64) (hO : O.length < 1000) :
    Calls Tryz.prog 112 #[.pointer (some ⟨b, 0, none⟩), .int .i64 k, .string x] w fun e w' => e = .returned (.int .i64 0) ∧ Du w' (Upb F w w') b n S (O ++ [(k, x.data.toList)]) r ∧ Turn F w w' := by
  obtain ⟨s, oa, cap, h, h1, h2, h3⟩ := h
  refine (write_ok h k hk x hx hO 0 rfl).mono ?_
  rintro e w' ⟨he, oa', cap', hD, hM, hg⟩
  refine ⟨he, ⟨s, oa', cap', by rw [List.length_append]; exact hD, .inl h1, .inl h2, fun g hg' => ?_⟩, moved_turn (m := 0) (cap := 0) hM h1 h2 h3⟩
  rcases hg g hg' with h4 | h4
  · exact .inl (h3 g h4)
  · exact .inr ⟨h4, Du.own_lt hD ((own_slice _ _ _ _ _).trans hg')⟩
theorem du_flush (h : Du w F b n S O r) :
    Calls Tryz.prog 83 #[.pointer (some ⟨b, 0, none⟩)] w fun e w' => e = .returned (.int .i64 0) ∧ (∃ S', Du w' F b n S' [] r) ∧ Turn F w w' := by
  obtain ⟨s, oa, cap, h, h1, h2, h3⟩ := h
  exact (flush_ok h 0 rfl).mono fun _ _ ⟨he, hD, hM⟩ => ⟨he, ⟨_, s, _, _, hD, h1, h2, fun g hg => by simp [Value.ownBlock] at hg⟩, moved_turn (m := 0) (cap := 0) hM h1 h2 h3⟩
end
end Go.Proofs.YtoichcickcgbgaaGreatDoor
namespace Go.Proofs.YtoichcickcgbgaaGreatDoor.Crc1
open Go.RowKit
theorem disable (w : World) : (callFunc 262 #[]).run Tryz.prog w = .ok (.value (.tuple #[])) w := run_call_mark0 Tryz.func262 (by kernel_rfl) (by kernel_rfl) (by kernel_rfl) .disable (by kernel_rfl) w
theorem enable (w : World) : (callFunc 264 #[]).run Tryz.prog w = .ok (.value (.tuple #[])) w := run_call_mark0 Tryz.func264 (by kernel_rfl) (by kernel_rfl) (by kernel_rfl) .enable (by kernel_rfl) w
theorem acquire (a : Addr) (w : World) : (callFunc 265 #[.pointer (some a)]).run Tryz.prog w = .ok (.value (.tuple #[])) w := run_call_marked Tryz.func265 (by kernel_rfl) (by kernel_rfl) (by kernel_rfl) .acquire (by kernel_rfl) a w
theorem releaseMerge (a : Addr) (w : World) : (callFunc 267 #[.pointer (some a)]).run Tryz.prog w = .ok (.value (.tuple #[])) w := run_call_marked Tryz.func267 (by kernel_rfl) (by kernel_rfl) (by kernel_rfl) .releaseMerge (by kernel_rfl) a w
/-- The flag is stored by a deferred call. -/
theorem store_deferred (a : Addr) (x : Value) (u : FrameMode) (w : World) (hc : w.cell? a = some x) (hz : w.frozen? a = false) :
    CallsD Tryz.prog 247 #[.pointer (some a), .bool true] u w fun e u' w' => u' = u ∧ (e = .returned (.tuple #[]) ∧ w' = w.drew.setCell a (.int .u32 1)) := by
  have hc' : w.drew.cell? a = some x := by go_simp
  have hz' : w.drew.frozen? a = false := by go_simp
  have hst := run_call_store (P := Tryz.prog) Tryz.func257 (by kernel_rfl) (by kernel_rfl) (by kernel_rfl) (by kernel_rfl) (k := .u32) (y := 1) hc' hz'
  go_enter_d Tryz.func247, Tryz.ntmps247
  go_wp2
  go_region_calls
  all_goals (go_end0; exact ⟨rfl, rfl⟩)
set_option maxRecDepth 100000 in
/-- The lock is let go by a deferred call. -/
theorem unlock_deferred (a : Addr) (u : FrameMode) (w : World) (hc : w.cell? a = some (.int .i32 1)) (hz : w.frozen? a = false) :
    CallsD Tryz.prog 246 #[.pointer (some a)] u w fun e u' w' => u' = u ∧ (e = .returned (.tuple #[]) ∧ w' = w.setCell a (.int .i32 0)) := by
  have hd := disable
  have he := enable
  have hr := releaseMerge
  have hadd := run_call_add (P := Tryz.prog) Tryz.func268 (by kernel_rfl) (by kernel_rfl) (by kernel_rfl) .i32 (by kernel_rfl) (y := -1) (s := 0) hc hz (by simp [go_sem]; rfl)
  have hcv := run_convert_to_unsafe (P := Tryz.prog) (src := 409) (dst := 322) Tryz.underlying409 Tryz.underlying322 (by kernel_rfl) hc
  go_enter_d Tryz.func246, Tryz.ntmps246
  go_wp2
  go_end0
  go_wp2
  go_end0
  exact ⟨rfl, rfl⟩
set_option maxRecDepth 100000 in
/-- The lock is taken where it is free. -/
theorem lock_free (a : Addr) (w : World) (hc : w.cell? a = some (.int .i32 0)) (hz : w.frozen? a = false) :
    Calls Tryz.prog 245 #[.pointer (some a)] w fun e w' => e = .returned (.tuple #[]) ∧ w' = w.setCell a (.int .i32 1) := by
  have hd := disable
  have he := enable
  have ha := acquire
  have hcas := run_call_cas_hit (P := Tryz.prog) Tryz.func263 (by kernel_rfl) (by kernel_rfl) (by kernel_rfl) .i32 (by kernel_rfl) (y := 1) hc hz
  have hc' : (w.setCell a (.int .i32 1)).cell? a = some (.int .i32 1) := World.cell?_setCell_same w a _ hc
  have hcv := run_convert_to_unsafe (P := Tryz.prog) (src := 409) (dst := 322) Tryz.underlying409 Tryz.underlying322 (by kernel_rfl) hc'
  go_enter Tryz.func245, Tryz.ntmps245
  go_wp2
  first | go_end0 | (simp only [Exit.inBlock, Exit.then]; refine bodyPost_ret (results_none rfl _ _ _) rfl ?_) | refine bodyPost_ret (results_none rfl _ _ _) rfl ?_
  go_wp2
  go_end0
  exact ⟨rfl, rfl⟩
end Go.Proofs.YtoichcickcgbgaaGreatDoor.Crc1
namespace Go.Proofs.YtoichcickcgbgaaGreatDoor.Crc1.Crc
/-- One bit. -/
def st (n : Nat) : Nat := (n >>> 1) ^^^ (if n % 2 = 1 then 3988292384 else 0)
/-- Eight bits. -/
def tab (n : Nat) : Nat := st (st (st (st (st (st (st (st n)))))))
/-- One byte more. -/
def upd (n b : Nat) : Nat := tab ((n % 256) ^^^ b) ^^^ (n / 256)
def run (n : Nat) (l : List UInt8) : Nat := l.foldl (fun n b => upd n b.toNat) n
def cpl (n : Nat) : Nat := 4294967295 - n
def more (n : Nat) (l : List UInt8) : Nat := cpl (run (cpl n) l)
theorem split (n : Nat) : n = (n % 256) ^^^ (256 * (n / 256)) := by
  have h : n % 256 < 2 ^ 8 := by omega
  have e : (256 * (n / 256)) = (n / 256) <<< 8 := by rw [Nat.shiftLeft_eq]; omega
  rw [e]
  apply Nat.eq_of_testBit_eq
  intro i
  rw [Nat.testBit_xor, Nat.testBit_shiftLeft, show n / 256 = n / 2 ^ 8 from rfl, ← Nat.shiftRight_eq_div_pow, Nat.testBit_shiftRight, show n % 256 = n % 2 ^ 8 from rfl, Nat.testBit_mod_two_pow]
  by_cases hi : i < 8
  · simp [hi, Nat.not_le.2 hi]
  · have : 8 ≤ i := by omega
    simp [hi, this]
theorem st_lt (n : Nat) (h : n < 2 ^ 32) : st n < 2 ^ 32 := by
  unfold st
  refine Nat.xor_lt_two_pow ?_ ?_
  · rw [Nat.shiftRight_succ, Nat.shiftRight_zero]; omega
  · split <;> omega
theorem tab_lt (n : Nat) (h : n < 2 ^ 32) : tab n < 2 ^ 32 := by
  unfold tab
  exact st_lt _ (st_lt _ (st_lt _ (st_lt _ (st_lt _ (st_lt _ (st_lt _ (st_lt _ h)))))))
theorem run_append (n : Nat) (a b : List UInt8) : run n (a ++ b) = run (run n a) b := by simp [run, List.foldl_append]
theorem cpl_lt (n : Nat) : cpl n < 2 ^ 32 := by unfold cpl; omega
theorem more_lt (n : Nat) (l : List UInt8) : more n l < 2 ^ 32 := cpl_lt _
theorem cpl_xor (n : Nat) (h : n < 2 ^ 32) : cpl n = 4294967295 ^^^ n := by
  unfold cpl
  apply Nat.eq_of_testBit_eq
  intro i
  rw [Nat.testBit_xor, show 4294967295 = 2 ^ 32 - 1 from rfl, show 2 ^ 32 - 1 - n = 2 ^ 32 - (n + 1) from by omega, Nat.testBit_two_pow_sub_succ h, Nat.testBit_two_pow_sub_one]
  by_cases hi : i < 32
  · simp [hi]
  · have : n.testBit i = false := Nat.testBit_lt_two_pow (Nat.lt_of_lt_of_le h (Nat.pow_le_pow_right (by omega) (by omega)))
    simp [hi, this]
end Go.Proofs.YtoichcickcgbgaaGreatDoor.Crc1.Crc
