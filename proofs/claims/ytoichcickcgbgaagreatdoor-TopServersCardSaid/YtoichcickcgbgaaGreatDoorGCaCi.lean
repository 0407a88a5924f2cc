/-
  The control's own state: its parts in memory, each of a colour, and what stays of them where others turn.
  The control's small methods: told, On, Table, Extra, in.
  The control's command: which method a kind asks for.
  The control's In: whether a row is of the mode.
-/
import Derived.Test.YtoichcickcgbgaaGreatDoorGErGGv
import Derived.Test.YtoichcickcgbgaaGreatDoorGPSvNCt
import Derived.Deep.DeepCutAuto
namespace Go.Proofs.YtoichcickcgbgaaGreatDoor
open Go.RowKit Go.Maps
attribute [local go_sem] Oper.semAt_some
/-- Where the parts lie. -/
structure Ck where
  c : Nat
  d : Nat
  q : Nat
  j : Nat
  n : Nat
  g : Nat
  bm : Nat
  x : Nat
  h : Nat
  p : Nat
  bw : Nat
  bt : Nat
  mb : Nat
  cb : Nat
theorem ptw {S : Nat → Prop} {w w' : World} (h : Pool.Turn S w w') : Turn S w w' := ⟨h.os, h.tape, h.output, h.size, h.block⟩
theorem owns_turn {S : Nat → Prop} {w w' : World} {k : TypeId} {R : Value → Option (DataW Unit × List MemPlace)} {b n : Nat} {D : DataW Unit} (h : w.ownsMap Tryz.prog k R b n D) (t : Turn S w w') (hb : ¬ S b) : w'.ownsMap Tryz.prog k R b n D := by
  have hlt := h.lt
  obtain ⟨es, clock, hb', r⟩ := h
  exact ⟨es, clock, (t.block b hlt hb).trans hb', r⟩
theorem owns_ne {w : World} {k : TypeId} {R : Value → Option (DataW Unit × List MemPlace)} {b n : Nat} {D : DataW Unit} (h : w.ownsMap Tryz.prog k R b n D) {p : Nat} {T : TypeId} {l : List Value} (hp : Bx w p T l) : p ≠ b := by
  obtain ⟨es, clock, hb', r⟩ := h
  intro e
  subst e
  unfold Bx at hp
  rw [hb'] at hp
  simp at hp
theorem gv_turn {S : Nat → Prop} {w w' : World} {g bm n : Nat} {m : Int → Option (Int × Int)} (h : Grd.Gv w g bm n m) (t : Turn S w w') (h1 : ¬ S g) (h2 : ¬ S bm) : Grd.Gv w' g bm n m := by
  have hg := h.lt
  obtain ⟨D, ⟨T, hb, hne, ho⟩, hs⟩ := h
  exact ⟨D, ⟨T, (t.block g hg h1).trans hb, hne, owns_turn ho t h2⟩, hs⟩
theorem pv_turn {S : Nat → Prop} {w w' : World} {p bw bt n : Nat} {f u : Int → Int} (h : Pool.Pv w p bw bt n f u) (t : Turn S w w') (h1 : ¬ S p) (h2 : ¬ S bw) (h3 : ¬ S bt) : Pool.Pv w' p bw bt n f u := by
  have hp := h.lt
  obtain ⟨D, E, ⟨T, hb, a1, a2, a3, o1, o2⟩, r⟩ := h
  exact ⟨D, E, ⟨T, (t.block p hp h1).trans hb, a1, a2, a3, owns_turn o1 t h2, owns_turn o2 t h3⟩, r⟩
def ctlL (K : Ck) (n0 t : Int) : List Value := [.int .i64 n0, .int .i64 9, .int .i64 0, .pointer (some ⟨K.d, 0, none⟩), .pointer (some ⟨K.q, 0, none⟩), .int .i64 t, .int .i64 0, .pointer (some ⟨K.g, 0, none⟩), .pointer (some ⟨K.x, 0, none⟩), .pointer (some ⟨K.p, 0, none⟩), .map (some K.mb), .slice none 0 0, .pointer (some ⟨K.cb, 0, none⟩)]
def PBox (w : World) (K : Ck) (n0 t : Int) : Prop := Bx w K.c 66 (ctlL K n0 t)
def PReg (w : World) (col : Nat → Nat) (K : Ck) (rs : List Rk) : Prop := ∃ G r v, Rgs w G K.q K.j K.n rs.length r v rs ∧ (∀ i, G i → col i = 1) ∧ (rs ≠ [] → ∀ g, v.ownBlock = some g → col g = 11)
def PGrd (w : World) (K : Ck) (gm : Int → Option (Int × Int)) (u : Nat) : Prop := ∃ n, n ≤ u ∧ Grd.Gv w K.g K.bm n gm
def PPool (w : World) (K : Ck) (u : Nat) : Prop := ∃ n f t, n ≤ u ∧ Pool.Pv w K.p K.bw K.bt n f t ∧ ∀ k, 0 ≤ f k ∧ f k ≤ 1024 * (u : Int) ∧ 0 ≤ t k ∧ t k ≤ 1024 * (u : Int)
def PMk (w : World) (K : Ck) (u : Nat) : Prop := ∃ n, n ≤ u ∧ ∃ D : DataW Unit, w.ownsMap Tryz.prog 3 (plainElem Tryz.prog 2) K.mb n D
def PCnt (w : World) (K : Ck) : Prop := ∃ l : List Int, Bx w K.cb 94 (l.map (Value.int .i64)) ∧ l.length = 8
structure Cols (col : Nat → Nat) (K : Ck) : Prop where
  c : col K.c = 2
  q : col K.q = 1
  g : col K.g = 3
  bm : col K.bm = 4
  x : col K.x = 5
  h : col K.h = 6
  p : col K.p = 7
  bw : col K.bw = 8
  bt : col K.bt = 8
  mb : col K.mb = 9
  cb : col K.cb = 10
  n1 : 20 < K.n
  n2 : K.n ≤ 1024
structure Ctl (w : World) (col : Nat → Nat) (K : Ck) (n0 t : Int) (rs : List Rk) (gm : Int → Option (Int × Int)) (js : List Jb) (u : Nat) : Prop where
  cols : Cols col K
  fresh : ∀ i, w.heap.size ≤ i → col i = 0
  box : PBox w K n0 t
  reg : PReg w col K rs
  grd : PGrd w K gm u
  ex : Ex w K.x K.h js
  pool : PPool w K u
  mks : PMk w K u
  cnt : PCnt w K
section
variable {S : Nat → Prop} {w w' : World} {col : Nat → Nat} {K : Ck} {n0 t : Int} {rs : List Rk} {gm : Int → Option (Int × Int)} {js : List Jb} {u : Nat} {κ : Nat}
theorem PReg.turn (h : PReg w col K rs) (T : Turn S w w') (hG : ∀ i, i < w.heap.size → S i → col i ≠ 1) (hv : ∀ i, i < w.heap.size → S i → col i ≠ 11) (hq : col K.q = 1) : PReg w' col K rs := by
  obtain ⟨G, r, v, h1, h2, h3⟩ := h
  exact ⟨G, r, v, h1.turn T (fun i hi hs => hG i (h1.lt i hi) hs (h2 i hi)) (fun hs => hG _ h1.box.lt hs hq) (fun hne g hg hs => by
    have := Sx.lt h1.vr.1 hne hg
    exact hv g this hs (h3 hne g hg)), h2, h3⟩
theorem PGrd.turn (h : PGrd w K gm u) (T : Turn S w w') (h1 : ¬ S K.g) (h2 : ¬ S K.bm) : PGrd w' K gm u := by
  obtain ⟨n, hn, h⟩ := h
  exact ⟨n, hn, gv_turn h T h1 h2⟩
theorem PPool.turn (h : PPool w K u) (T : Turn S w w') (h1 : ¬ S K.p) (h2 : ¬ S K.bw) (h3 : ¬ S K.bt) : PPool w' K u := by
  obtain ⟨n, f, t, hn, h, r⟩ := h
  exact ⟨n, f, t, hn, pv_turn h T h1 h2 h3, r⟩
theorem PMk.turn (h : PMk w K u) (T : Turn S w w') (h1 : ¬ S K.mb) : PMk w' K u := by
  obtain ⟨n, hn, D, h⟩ := h
  exact ⟨n, hn, D, owns_turn h T h1⟩
theorem PCnt.turn (h : PCnt w K) (T : Turn S w w') (h1 : ¬ S K.cb) : PCnt w' K := by
  obtain ⟨l, h, hl⟩ := h
  exact ⟨l, h.turn T h1, hl⟩
theorem PGrd.more {u' : Nat} (h : PGrd w K gm u) (hu : u ≤ u') : PGrd w K gm u' := by
  obtain ⟨n, hn, h⟩ := h
  exact ⟨n, Nat.le_trans hn hu, h⟩
theorem PPool.more {u' : Nat} (h : PPool w K u) (hu : u ≤ u') : PPool w K u' := by
  obtain ⟨n, f, t, hn, h, r⟩ := h
  exact ⟨n, f, t, Nat.le_trans hn hu, h, fun k => by have := r k; omega⟩
theorem PMk.more {u' : Nat} (h : PMk w K u) (hu : u ≤ u') : PMk w K u' := by
  obtain ⟨n, hn, h⟩ := h
  exact ⟨n, Nat.le_trans hn hu, h⟩
theorem Ctl.more {u' : Nat} (H : Ctl w col K n0 t rs gm js u) (hu : u ≤ u') : Ctl w col K n0 t rs gm js u' := ⟨H.cols, H.fresh, H.box, H.reg, H.grd.more hu, H.ex, H.pool.more hu, H.mks.more hu, H.cnt⟩
/-- What is not of the colour that turned stays. -/
structure Rest (w : World) (col : Nat → Nat) (K : Ck) (n0 t : Int) (rs : List Rk) (gm : Int → Option (Int × Int)) (js : List Jb) (u κ : Nat) : Prop where
  fresh : ∀ i, w.heap.size ≤ i → col i = 0
  box : κ ≠ 2 → PBox w K n0 t
  reg : κ ≠ 1 → κ ≠ 11 → PReg w col K rs
  grd : κ ≠ 3 → κ ≠ 4 → PGrd w K gm u
  ex : κ ≠ 5 → κ ≠ 6 → Ex w K.x K.h js
  pool : κ ≠ 7 → κ ≠ 8 → PPool w K u
  mks : κ ≠ 9 → PMk w K u
  cnt : κ ≠ 10 → PCnt w K
theorem Ctl.rest (H : Ctl w col K n0 t rs gm js u) (T : Turn S w w') (hS : ∀ i, i < w.heap.size → S i → col i = κ) (hn : ∀ p l, Bx w p 289 l → ¬ S p) : Rest w' col K n0 t rs gm js u κ := by
  have C := H.cols
  have F : ∀ b k, col b = k → k ≠ 0 → κ ≠ k → ¬ S b := fun b k hb h0 hk hs => by
    by_cases hlt : b < w.heap.size
    · exact hk ((hS b hlt hs).symm.trans hb)
    · exact h0 (hb.symm.trans (H.fresh b (by omega)))
  exact ⟨fun i hi => H.fresh i (Nat.le_trans T.size hi),
    fun h => Bx.turn H.box T (F _ _ C.c (by decide) h),
    fun h h' => H.reg.turn T (fun i hi hs => by rw [hS i hi hs]; exact h) (fun i hi hs => by rw [hS i hi hs]; exact h') C.q,
    fun h h' => H.grd.turn T (F _ _ C.g (by decide) h) (F _ _ C.bm (by decide) h'),
    fun h h' => H.ex.turn T (F _ _ C.x (by decide) h) (F _ _ C.h (by decide) h') hn,
    fun h h' => H.pool.turn T (F _ _ C.p (by decide) h) (F _ _ C.bw (by decide) h') (F _ _ C.bt (by decide) h'),
    fun h => H.mks.turn T (F _ _ C.mb (by decide) h),
    fun h => H.cnt.turn T (F _ _ C.cb (by decide) h)⟩
theorem Ctl.turn (H : Ctl w col K n0 t rs gm js u) (T : Turn S w w') (hS : ∀ i, i < w.heap.size → S i → col i = 0) (hn : ∀ p l, Bx w p 289 l → ¬ S p) : Ctl w' col K n0 t rs gm js u := by
  have R := H.rest (κ := 0) T hS hn
  exact ⟨H.cols, R.fresh, R.box (by decide), R.reg (by decide) (by decide), R.grd (by decide) (by decide), R.ex (by decide) (by decide), R.pool (by decide) (by decide), R.mks (by decide), R.cnt (by decide)⟩
theorem Ctl.below (H : Ctl w col K n0 t rs gm js u) (b : Below w.heap.size w w') : Ctl w' col K n0 t rs gm js u := H.turn (S := fun _ => False) (Turn.below b) (fun _ _ h => h.elim) (fun _ _ _ h => h)
/-- A block of memory that is not the control's. -/
theorem Ctl.away (H : Ctl w col K n0 t rs gm js u) (T : Turn (fun i => i = κ) w w') (h0 : col κ = 0) (hn : ∀ l, ¬ Bx w κ 289 l) : Ctl w' col K n0 t rs gm js u := H.turn T (fun i _ e => by rw [e]; exact h0) (fun p l h e => hn l (by rw [← e]; exact h))
theorem Ctl.new (H : Ctl w col K n0 t rs gm js u) : col w.heap.size = 0 := H.fresh _ (Nat.le_refl _)
theorem Ctl.setBox {t' : Int} (H : Ctl w col K n0 t rs gm js u) (T : Turn (fun i => i = K.c) w w') (h : PBox w' K n0 t') : Ctl w' col K n0 t' rs gm js u := by
  have R := H.rest (κ := 2) T (fun i _ e => by rw [e]; exact H.cols.c) (fun p l hp e => Bx.ne hp H.box (by decide) e)
  exact ⟨H.cols, R.fresh, h, R.reg (by decide) (by decide), R.grd (by decide) (by decide), R.ex (by decide) (by decide), R.pool (by decide) (by decide), R.mks (by decide), R.cnt (by decide)⟩
theorem Ctl.setGrd {gm' : Int → Option (Int × Int)} (H : Ctl w col K n0 t rs gm js u) (T : Turn (fun i => i = K.bm) w w') (h : PGrd w' K gm' u) : Ctl w' col K n0 t rs gm' js u := by
  have R := H.rest (κ := 4) T (fun i _ e => by rw [e]; exact H.cols.bm) (fun p l hp e => by obtain ⟨n, _, D, ⟨_, _, _, ho⟩, _⟩ := H.grd; exact owns_ne ho hp e)
  exact ⟨H.cols, R.fresh, R.box (by decide), R.reg (by decide) (by decide), h, R.ex (by decide) (by decide), R.pool (by decide) (by decide), R.mks (by decide), R.cnt (by decide)⟩
theorem Ctl.setEx {js' : List Jb} (H : Ctl w col K n0 t rs gm js u) (T : Turn (fun i => i = K.h) w w') (h : Ex w' K.x K.h js') : Ctl w' col K n0 t rs gm js' u := by
  have R := H.rest (κ := 6) T (fun i _ e => by rw [e]; exact H.cols.h) (fun p l hp e => by obtain ⟨_, hx⟩ := H.ex.2.hx; exact Bx.ne hp hx (by decide) e)
  exact ⟨H.cols, R.fresh, R.box (by decide), R.reg (by decide) (by decide), R.grd (by decide) (by decide), h, R.pool (by decide) (by decide), R.mks (by decide), R.cnt (by decide)⟩
theorem Ctl.setPool (H : Ctl w col K n0 t rs gm js u) (T : Turn (Pool.two K.bw K.bt) w w') (h : PPool w' K u) : Ctl w' col K n0 t rs gm js u := by
  have R := H.rest (κ := 8) T (fun i _ e => Or.elim e (fun e => by rw [e]; exact H.cols.bw) (fun e => by rw [e]; exact H.cols.bt)) (fun p l hp e => by
    obtain ⟨_, _, _, _, ⟨D, E, ⟨_, _, _, _, _, o1, o2⟩, _⟩, _⟩ := H.pool
    rcases e with e | e
    · exact owns_ne o1 hp e
    · exact owns_ne o2 hp e)
  exact ⟨H.cols, R.fresh, R.box (by decide), R.reg (by decide) (by decide), R.grd (by decide) (by decide), R.ex (by decide) (by decide), h, R.mks (by decide), R.cnt (by decide)⟩
theorem Ctl.setMk (H : Ctl w col K n0 t rs gm js u) (T : Turn (fun i => i = K.mb) w w') (h : PMk w' K u) : Ctl w' col K n0 t rs gm js u := by
  have R := H.rest (κ := 9) T (fun i _ e => by rw [e]; exact H.cols.mb) (fun p l hp e => by obtain ⟨_, _, _, ho⟩ := H.mks; exact owns_ne ho hp e)
  exact ⟨H.cols, R.fresh, R.box (by decide), R.reg (by decide) (by decide), R.grd (by decide) (by decide), R.ex (by decide) (by decide), R.pool (by decide) (by decide), h, R.cnt (by decide)⟩
theorem Ctl.setCnt (H : Ctl w col K n0 t rs gm js u) (T : Turn (fun i => i = K.cb) w w') (h : PCnt w' K) : Ctl w' col K n0 t rs gm js u := by
  have R := H.rest (κ := 10) T (fun i _ e => by rw [e]; exact H.cols.cb) (fun p l hp e => by obtain ⟨_, hb, _⟩ := H.cnt; exact Bx.ne hp hb (by decide) e)
  exact ⟨H.cols, R.fresh, R.box (by decide), R.reg (by decide) (by decide), R.grd (by decide) (by decide), R.ex (by decide) (by decide), R.pool (by decide) (by decide), R.mks (by decide), h⟩
/-- What is the control's. -/
def Own (col : Nat → Nat) : Nat → Prop := fun i => col i ≠ 0
theorem Ctl.own {b κ : Nat} (T : Turn (fun i => i = b) w w') (h : col b = κ) (h0 : κ ≠ 0) : Turn (Own col) w w' := T.wide fun k _ e => by
  show col k ≠ 0
  rw [e, h]
  exact h0
theorem cadd_any (H : Ctl w col K n0 t rs gm js u) (k n : Int) (h0 : 0 ≤ k) (h8 : k < 8) :
    Calls Tryz.prog 25 #[.pointer (some ⟨K.cb, 0, none⟩), .int .i64 k, .int .i64 n] w fun e w' => (∃ v, e = .returned v) ∧ Ctl w' col K n0 t rs gm js u ∧ Turn (Own col) w w' := by
  obtain ⟨l, hb, hl⟩ := H.cnt
  have hT : Turn (fun i => i = K.cb) w (w.setCell ⟨K.cb, k.toNat, none⟩ (.int .i64 (wrap64 (l.getD k.toNat 0 + n)))) := Turn.set _ _ _ _ rfl
  refine (Cnt.add_in K.cb k (l.getD k.toNat 0) n h0 h8 w (hb.cell _ ?_) (hb.free _)).mono ?_
  · have : k.toNat < l.length := by omega
    simp [List.getD, this]
  · rintro e w1 ⟨rfl, rfl⟩
    refine ⟨⟨_, rfl⟩, H.setCnt hT ⟨l.set k.toNat (wrap64 (l.getD k.toNat 0 + n)), ?_, by simpa using hl⟩, Ctl.own hT H.cols.cb (by decide)⟩
    exact hb.set _ _ _ (by rw [List.map_set])
end
end Go.Proofs.YtoichcickcgbgaaGreatDoor
namespace Go.Proofs.YtoichcickcgbgaaGreatDoor
open Go.RowKit
attribute [local go_sem] Oper.semAt_some
attribute [local go_sem] run_store_func
theorem run_f0 (oa : Option Addr) (n cap : Nat) (w : World) : (Instr.field 79 (.agg #[.slice oa n cap, .int .i64 0]) 0).run Tryz.prog w = .ok (.slice oa n cap) w := by kernel_rfl
theorem run_f1 (oa : Option Addr) (n cap : Nat) (w : World) : (Instr.field 79 (.agg #[.slice oa n cap, .int .i64 0]) 1).run Tryz.prog w = .ok (.int .i64 0) w := by kernel_rfl
set_option maxRecDepth 100000 in
theorem told_any (e : Int) (w : World) : Calls Tryz.prog 12 #[.int .i64 e] w fun r w' => r = .returned (.agg #[.int .i64 e, .slice none 0 0, .int .i64 0, .int .i64 0, .int .i64 0, .int .i64 0, .int .i64 0, .bool false, .int .i64 0, .int .i64 0, .slice none 0 0]) ∧ Below w.heap.size w w' := by
  have z := Bx.new w [.int .i64 e, .slice none 0 0, .int .i64 0, .int .i64 0, .int .i64 0, .int .i64 0, .int .i64 0, .bool false, .int .i64 0, .int .i64 0, .slice none 0 0] 40
  have e0 := z.cell 0 rfl
  have e1 := z.cell 1 rfl
  have e2 := z.cell 2 rfl
  have e3 := z.cell 3 rfl
  have e4 := z.cell 4 rfl
  have e5 := z.cell 5 rfl
  have e6 := z.cell 6 rfl
  have e7 := z.cell 7 rfl
  have e8 := z.cell 8 rfl
  have e9 := z.cell 9 rfl
  have e10 := z.cell 10 rfl
  clear z
  go_enter Tryz.func12, Tryz.ntmps12
  go_wp2_with fail
  refine bodyPost_ret (v := .agg #[.int .i64 e, .slice none 0 0, .int .i64 0, .int .i64 0, .int .i64 0, .int .i64 0, .int .i64 0, .bool false, .int .i64 0, .int .i64 0, .slice none 0 0]) (by simp [results, Tryz.results12, go_sem, e0, e1, e2, e3, e4, e5, e6, e7, e8, e9, e10]) rfl ?_
  exact ⟨rfl, (Below.refl _ _).alloc (Nat.le_refl _) _⟩
section
variable {w : World} {col : Nat → Nat} {K : Ck} {n0 t : Int} {rs : List Rk} {gm : Int → Option (Int × Int)} {js : List Jb} {u : Nat}
set_option maxRecDepth 100000 in
theorem on_any (H : Ctl w col K n0 t rs gm js u) : Calls Tryz.prog 17 #[.pointer (some ⟨K.c, 0, none⟩)] w fun e w' => e = .returned (.bool true) ∧ w = w' := by
  have c4 := Bx.cell H.box 4 rfl
  clear H
  go_enter Tryz.func17, Tryz.ntmps17
  go_wp2_with fail
  go_ret
  exact ⟨rfl, rfl⟩
set_option maxRecDepth 100000 in
theorem ctable_any (H : Ctl w col K n0 t rs gm js u) (hl : rs.length ≤ 2) : Calls Tryz.prog 62 #[.pointer (some ⟨K.c, 0, none⟩)] w fun e w' => ∃ oa n cap, e = .returned (.agg #[.slice oa n cap, .int .i64 0]) ∧ Vr w' (.slice oa n cap) rs ∧ (∀ g, (Value.slice oa n cap).ownBlock = some g → w.heap.size ≤ g) ∧ Below w.heap.size w w' := by
  have b0 := (Below.refl w.heap.size w).alloc (Nat.le_refl _) (.cells #[.slice none 0 0, .int .i64 0] 79)
  have HZ := Lib.hid (Bx.new w [.slice none 0 0, .int .i64 0] 79)
  have HH := Lib.hid (H.below b0)
  have c4 := Bx.cell HH.out.box 4 rfl
  have HB := Lib.hid b0
  clear b0 H
  go_enter Tryz.func62, Tryz.ntmps62
  go_wp2_with fail
  generalize w.alloc (.cells #[.slice none 0 0, .int .i64 0] 79) = u0 at *
  obtain ⟨G, r, v, hR, -, -⟩ := HH.out.reg
  refine (rtable hR.box hR.vr (by omega)).mono ?_
  rintro e w1 ⟨v', rfl, hv, hf, b1⟩
  obtain ⟨oa, cap, hvv, -, -⟩ := hv.1
  subst hvv
  generalize hnn : rs.length = nn at *
  have HV := Lib.hid hv
  have HF := Lib.hid hf
  have hZ1 := HZ.out.below b1
  have f0 := hZ1.free 0
  have f1 := hZ1.free 1
  have z0 := hZ1.cell 0 rfl
  have z1 := hZ1.cell 1 rfl
  have HZ1 := Lib.hid hZ1
  have HB1 := Lib.hid (HB.out.trans (b1.mono HB.out.size))
  have hs := HB.out.size
  have hsz := HZ.out.lt
  clear hv hf b1 hZ1 HZ HB hR
  go_wp2_with fail
  have s0 := Bx.set (w := w1) HZ1.out 0 (.slice oa nn cap) _ rfl
  have s1 := Bx.set (w := _) s0 1 (.int .i64 0) _ rfl
  have e0 := s1.cell 0 rfl
  have e1 := s1.cell 1 rfl
  refine bodyPost_ret (v := .agg #[.slice oa nn cap, .int .i64 0]) (by simp [results, Tryz.results62, go_sem, e0, e1]) rfl ?_
  have ts : Turn (fun i => i = w.heap.size) w1 ((w1.setCell ⟨w.heap.size, 0, none⟩ (.slice oa nn cap)).setCell ⟨w.heap.size, 1, none⟩ (.int .i64 0)) := (Turn.set (S := fun i => i = w.heap.size) _ _ _ _ rfl).trans (Turn.set _ _ _ _ rfl)
  refine ⟨oa, nn, cap, rfl, HV.out.turn ts (fun hne g hg e => ?_), fun g hg => by have := HF.out g hg; omega, ((Turn.below HB1.out).then (S := fun i => i = w.heap.size) ts (fun i _ h => h)).fresh (fun i hi e => by omega)⟩
  have := HF.out g hg
  omega
set_option maxRecDepth 100000 in
theorem extra_any (H : Ctl w col K n0 t rs gm js u) : Calls Tryz.prog 52 #[.pointer (some ⟨K.c, 0, none⟩)] w fun e w' => e = .returned (.slice none 0 0) ∧ Below w.heap.size w w' := by
  have c11 := Bx.cell H.box 11 rfl
  clear H
  go_enter Tryz.func52, Tryz.ntmps52
  go_wp2_with fail
  refine wp_loop_rounds 1 ?_
  rw [rounds_succ]
  go_wp2_with fail
  go_ret
  exact ⟨rfl, by exact Below.refl _ _⟩
end
end Go.Proofs.YtoichcickcgbgaaGreatDoor
namespace Go.Proofs.YtoichcickcgbgaaGreatDoor
open Go.RowKit
attribute [local go_sem] Oper.semAt_some
attribute [local go_sem] run_store_func
set_option maxRecDepth 100000 in
theorem ccommand_1 (c : Nat) (w : World) : Calls Tryz.prog 16 #[.pointer (some ⟨c, 0, none⟩), .int .i64 1] w fun e w' => e = .returned (.func (.func 27) #[.pointer (some ⟨c, 0, none⟩)] #[]) ∧ Below w.heap.size w w' := by
  have c0 := (Bx.new w [.pointer (some ⟨c, 0, none⟩)] 26).cell 0 rfl
  have bX := Lib.hid ((Below.refl w.heap.size w).alloc (Nat.le_refl _) (.cells #[.pointer (some ⟨c, 0, none⟩)] 26))
  go_enter Tryz.func16, Tryz.ntmps16
  go_wp2_with fail
  generalize w.alloc (.cells #[.pointer (some ⟨c, 0, none⟩)] 26) = u0 at *
  go_ret
  exact ⟨rfl, bX.out⟩
set_option maxRecDepth 100000 in
theorem ccommand_2 (c : Nat) (w : World) : Calls Tryz.prog 16 #[.pointer (some ⟨c, 0, none⟩), .int .i64 2] w fun e w' => e = .returned (.func (.func 28) #[.pointer (some ⟨c, 0, none⟩)] #[]) ∧ Below w.heap.size w w' := by
  have c0 := (Bx.new w [.pointer (some ⟨c, 0, none⟩)] 26).cell 0 rfl
  have bX := Lib.hid ((Below.refl w.heap.size w).alloc (Nat.le_refl _) (.cells #[.pointer (some ⟨c, 0, none⟩)] 26))
  go_enter Tryz.func16, Tryz.ntmps16
  go_wp2_with fail
  generalize w.alloc (.cells #[.pointer (some ⟨c, 0, none⟩)] 26) = u0 at *
  go_ret
  exact ⟨rfl, bX.out⟩
set_option maxRecDepth 100000 in
theorem ccommand_3 (c : Nat) (w : World) : Calls Tryz.prog 16 #[.pointer (some ⟨c, 0, none⟩), .int .i64 3] w fun e w' => e = .returned (.func (.func 29) #[.pointer (some ⟨c, 0, none⟩)] #[]) ∧ Below w.heap.size w w' := by
  have c0 := (Bx.new w [.pointer (some ⟨c, 0, none⟩)] 26).cell 0 rfl
  have bX := Lib.hid ((Below.refl w.heap.size w).alloc (Nat.le_refl _) (.cells #[.pointer (some ⟨c, 0, none⟩)] 26))
  go_enter Tryz.func16, Tryz.ntmps16
  go_wp2_with fail
  generalize w.alloc (.cells #[.pointer (some ⟨c, 0, none⟩)] 26) = u0 at *
  go_ret
  exact ⟨rfl, bX.out⟩
set_option maxRecDepth 100000 in
theorem ccommand_4 (c : Nat) (w : World) : Calls Tryz.prog 16 #[.pointer (some ⟨c, 0, none⟩), .int .i64 4] w fun e w' => e = .returned (.func (.func 30) #[.pointer (some ⟨c, 0, none⟩)] #[]) ∧ Below w.heap.size w w' := by
  have c0 := (Bx.new w [.pointer (some ⟨c, 0, none⟩)] 26).cell 0 rfl
  have bX := Lib.hid ((Below.refl w.heap.size w).alloc (Nat.le_refl _) (.cells #[.pointer (some ⟨c, 0, none⟩)] 26))
  go_enter Tryz.func16, Tryz.ntmps16
  go_wp2_with fail
  generalize w.alloc (.cells #[.pointer (some ⟨c, 0, none⟩)] 26) = u0 at *
  go_ret
  exact ⟨rfl, bX.out⟩
end Go.Proofs.YtoichcickcgbgaaGreatDoor
namespace Go.Proofs.YtoichcickcgbgaaGreatDoor
open Go.RowKit
attribute [local go_sem] Oper.semAt_some
attribute [local go_sem] run_f1
section
variable {w : World} {col : Nat → Nat} {K : Ck} {n0 t : Int} {rs : List Rk} {gm : Int → Option (Int × Int)} {js : List Jb} {u : Nat}
set_option maxRecDepth 100000 in
set_option maxHeartbeats 1000000 in
theorem cin_any (H : Ctl w col K n0 t rs gm js u) (hl : rs.length ≤ 2) (x : Rk) (hm : x.k.m = 1 ∨ x.k.m = 15) : Calls Tryz.prog 56 #[.pointer (some ⟨K.c, 0, none⟩), .agg #[.int .i64 x.k.id, .int .i64 x.k.c, .int .i64 x.k.d, .int .i64 x.k.t, .int .i64 x.k.m, .bool x.s]] w fun e w' => e = .returned (.bool true) ∧ Below w.heap.size w w' := by
  obtain ⟨⟨i, c, d, ti, m⟩, s⟩ := x
  simp only at hm ⊢
  rcases hm with rfl | rfl
  · have b0 := (Below.refl w.heap.size w).alloc (Nat.le_refl _) (.cells #[.int .i64 i, .int .i64 c, .int .i64 d, .int .i64 ti, .int .i64 1, .bool s] 37)
    have HZ := Lib.hid (Bx.new w [.int .i64 i, .int .i64 c, .int .i64 d, .int .i64 ti, .int .i64 1, .bool s] 37)
    have HH := Lib.hid (H.below b0)
    have HB := Lib.hid b0
    clear b0 H
    go_enter Tryz.func56, Tryz.ntmps56
    go_wp2_with fail
    generalize w.alloc (.cells #[.int .i64 i, .int .i64 c, .int .i64 d, .int .i64 ti, .int .i64 1, .bool s] 37) = u0 at *
    have KC : Hid (∀ y, Hid (Below u0.heap.size u0 y) → (y.cell? ⟨w.heap.size, 4, none⟩ = some (.int .i64 1))) := fun y h => (HZ.out.bl h).cell 4 rfl
    have B1 : Hid (Below u0.heap.size u0 u0.drew) := bl_drew (bl0 _)
    refine wp_region_held_drew (S := fun y => (y.cell? ⟨w.heap.size, 4, none⟩ = some (.int .i64 1)) ∧ Hid (Below u0.heap.size u0 y)) (by kernel_rfl) (skeep KC B1) (fun hHeld => ?_)
    refine wtk 0 5 (.pointer (some ⟨w.heap.size, 0, none⟩)) rfl (by kernel_rfl) (fun _ _ _ h => h) (by rfl) (fun x hSw => by obtain ⟨d0, _⟩ := id hSw; (go_simp) <;> first | decide | exact IntWalk.i64_in _ (by omega)) (by assumption) ?_
    try simp only [Act.put, pw]
    refine wtk 1 6 (.pointer (some ⟨w.heap.size, 4, none⟩)) rfl (by kernel_rfl) (fun _ _ _ h => h) (by rfl) (fun x hSw => by obtain ⟨d0, _⟩ := id hSw; (go_simp) <;> first | decide | exact IntWalk.i64_in _ (by omega)) (by assumption) ?_
    try simp only [Act.put, pw]
    refine wtk 2 7 (.int .i64 1) rfl (by kernel_rfl) (fun _ _ _ h => h) (by rfl) (fun x hSw => by obtain ⟨d0, _⟩ := id hSw; (go_simp) <;> first | decide | exact IntWalk.i64_in _ (by omega)) (by assumption) ?_
    try simp only [Act.put, pw]
    refine wtk 3 8 (.pointer (some ⟨K.c, 0, none⟩)) rfl (by kernel_rfl) (fun _ _ _ h => h) (by rfl) (fun x hSw => by obtain ⟨d0, _⟩ := id hSw; (go_simp) <;> first | decide | exact IntWalk.i64_in _ (by omega)) (by assumption) ?_
    try simp only [Act.put, pw]
    refine wpAnyH_ready (rs := [4]) (by kernel_rfl) (by simp) (AllReadyH.cons rfl (fun K hK => ?_) AllReadyH.nil)
    go_simp
    refine (ctable_any (HH.out.below B1.out) hl).mono ?_
    rintro e w2 ⟨oa, n, cap, rfl, -, -, b2⟩
    have B3 := bl_below B1 b2
    refine hK.out _ _ (skeep KC B3) (fun hHeld => ?_)
    clear hK K
    clear b2 B1
    try simp only [Act.put, pw]
    refine wtk 5 10 (.int .i64 0) rfl (by kernel_rfl) (fun _ _ _ h => h) (by rfl) (fun x hSw => by obtain ⟨d0, _⟩ := id hSw; (go_simp) <;> first | decide | exact IntWalk.i64_in _ (by omega)) (by assumption) ?_
    try simp only [Act.put, pw]
    refine wtk 6 11 (.int .i64 1) rfl (by kernel_rfl) (fun _ _ _ h => h) (by rfl) (fun x hSw => by obtain ⟨d0, _⟩ := id hSw; (go_simp) <;> first | decide | exact IntWalk.i64_in _ (by omega)) (by assumption) ?_
    try simp only [Act.put, pw]
    refine wtk 7 12 (.int .i64 1) rfl (by kernel_rfl) (fun _ _ _ h => h) (by rfl) (fun x hSw => by obtain ⟨d0, _⟩ := id hSw; (go_simp) <;> first | decide | exact IntWalk.i64_in _ (by omega)) (by assumption) ?_
    try simp only [Act.put, pw]
    refine wtk 8 13 (.bool true) rfl (by kernel_rfl) (fun _ _ _ h => h) (by rfl) (fun x hSw => by obtain ⟨d0, _⟩ := id hSw; (go_simp) <;> first | decide | exact IntWalk.i64_in _ (by omega)) (by assumption) ?_
    try simp only [Act.put, pw]
    refine wtk 9 4 (.bool true) rfl (by kernel_rfl) (fun _ _ _ h => h) (by rfl) (fun x hSw => by obtain ⟨d0, _⟩ := id hSw; (go_simp) <;> first | decide | exact IntWalk.i64_in _ (by omega)) (by assumption) ?_
    try simp only [Act.put, pw]
    refine wpAnyH_done (by kernel_rfl) ?_ _
    go_wp2_with fail
    go_ret
    exact ⟨rfl, HB.out.trans (B3.out.mono HB.out.size)⟩
  · have b0 := (Below.refl w.heap.size w).alloc (Nat.le_refl _) (.cells #[.int .i64 i, .int .i64 c, .int .i64 d, .int .i64 ti, .int .i64 15, .bool s] 37)
    have HZ := Lib.hid (Bx.new w [.int .i64 i, .int .i64 c, .int .i64 d, .int .i64 ti, .int .i64 15, .bool s] 37)
    have HH := Lib.hid (H.below b0)
    have HB := Lib.hid b0
    clear b0 H
    go_enter Tryz.func56, Tryz.ntmps56
    go_wp2_with fail
    generalize w.alloc (.cells #[.int .i64 i, .int .i64 c, .int .i64 d, .int .i64 ti, .int .i64 15, .bool s] 37) = u0 at *
    have KC : Hid (∀ y, Hid (Below u0.heap.size u0 y) → (y.cell? ⟨w.heap.size, 4, none⟩ = some (.int .i64 15))) := fun y h => (HZ.out.bl h).cell 4 rfl
    have B1 : Hid (Below u0.heap.size u0 u0.drew) := bl_drew (bl0 _)
    refine wp_region_held_drew (S := fun y => (y.cell? ⟨w.heap.size, 4, none⟩ = some (.int .i64 15)) ∧ Hid (Below u0.heap.size u0 y)) (by kernel_rfl) (skeep KC B1) (fun hHeld => ?_)
    refine wtk 0 5 (.pointer (some ⟨w.heap.size, 0, none⟩)) rfl (by kernel_rfl) (fun _ _ _ h => h) (by rfl) (fun x hSw => by obtain ⟨d0, _⟩ := id hSw; (go_simp) <;> first | decide | exact IntWalk.i64_in _ (by omega)) (by assumption) ?_
    try simp only [Act.put, pw]
    refine wtk 1 6 (.pointer (some ⟨w.heap.size, 4, none⟩)) rfl (by kernel_rfl) (fun _ _ _ h => h) (by rfl) (fun x hSw => by obtain ⟨d0, _⟩ := id hSw; (go_simp) <;> first | decide | exact IntWalk.i64_in _ (by omega)) (by assumption) ?_
    try simp only [Act.put, pw]
    refine wtk 2 7 (.int .i64 15) rfl (by kernel_rfl) (fun _ _ _ h => h) (by rfl) (fun x hSw => by obtain ⟨d0, _⟩ := id hSw; (go_simp) <;> first | decide | exact IntWalk.i64_in _ (by omega)) (by assumption) ?_
    try simp only [Act.put, pw]
    refine wtk 3 8 (.pointer (some ⟨K.c, 0, none⟩)) rfl (by kernel_rfl) (fun _ _ _ h => h) (by rfl) (fun x hSw => by obtain ⟨d0, _⟩ := id hSw; (go_simp) <;> first | decide | exact IntWalk.i64_in _ (by omega)) (by assumption) ?_
    try simp only [Act.put, pw]
    refine wpAnyH_ready (rs := [4]) (by kernel_rfl) (by simp) (AllReadyH.cons rfl (fun K hK => ?_) AllReadyH.nil)
    go_simp
    refine (ctable_any (HH.out.below B1.out) hl).mono ?_
    rintro e w2 ⟨oa, n, cap, rfl, -, -, b2⟩
    have B3 := bl_below B1 b2
    refine hK.out _ _ (skeep KC B3) (fun hHeld => ?_)
    clear hK K
    clear b2 B1
    try simp only [Act.put, pw]
    refine wtk 5 10 (.int .i64 0) rfl (by kernel_rfl) (fun _ _ _ h => h) (by rfl) (fun x hSw => by obtain ⟨d0, _⟩ := id hSw; (go_simp) <;> first | decide | exact IntWalk.i64_in _ (by omega)) (by assumption) ?_
    try simp only [Act.put, pw]
    refine wtk 6 11 (.int .i64 15) rfl (by kernel_rfl) (fun _ _ _ h => h) (by rfl) (fun x hSw => by obtain ⟨d0, _⟩ := id hSw; (go_simp) <;> first | decide | exact IntWalk.i64_in _ (by omega)) (by assumption) ?_
    try simp only [Act.put, pw]
    refine wtk 7 12 (.int .i64 1) rfl (by kernel_rfl) (fun _ _ _ h => h) (by rfl) (fun x hSw => by obtain ⟨d0, _⟩ := id hSw; (go_simp) <;> first | decide | exact IntWalk.i64_in _ (by omega)) (by assumption) ?_
    try simp only [Act.put, pw]
    refine wtk 8 13 (.bool true) rfl (by kernel_rfl) (fun _ _ _ h => h) (by rfl) (fun x hSw => by obtain ⟨d0, _⟩ := id hSw; (go_simp) <;> first | decide | exact IntWalk.i64_in _ (by omega)) (by assumption) ?_
    try simp only [Act.put, pw]
    refine wtk 9 4 (.bool true) rfl (by kernel_rfl) (fun _ _ _ h => h) (by rfl) (fun x hSw => by obtain ⟨d0, _⟩ := id hSw; (go_simp) <;> first | decide | exact IntWalk.i64_in _ (by omega)) (by assumption) ?_
    try simp only [Act.put, pw]
    refine wpAnyH_done (by kernel_rfl) ?_ _
    go_wp2_with fail
    go_ret
    exact ⟨rfl, HB.out.trans (B3.out.mono HB.out.size)⟩
end
end Go.Proofs.YtoichcickcgbgaaGreatDoor
