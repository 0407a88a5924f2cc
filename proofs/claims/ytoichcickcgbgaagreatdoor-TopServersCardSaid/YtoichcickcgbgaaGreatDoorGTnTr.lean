/-
  TopServers: plain facts: the numbers that are drawn, the servers asked for.
  TopServers: what a slot does to one server's account.
  TopServers: a mask; the block that counts what ran; what the rows say of both servers.
  TopServers: what stays where a count turns.
-/
import Derived.Test.YtoichcickcgbgaaGreatDoorGCePn
namespace Go.Proofs.YtoichcickcgbgaaGreatDoor
open Go.RowKit
theorem w64 {n : Int} (h : -4611686018427387904 ≤ n ∧ n ≤ 4611686018427387904) : wrap64 n = n := by
  unfold wrap64
  omega
theorem tmod_in (x T : Int) (h : 0 < T) : -T < x.tmod T ∧ x.tmod T < T := ⟨Int.lt_tmod_of_pos x h, Int.tmod_lt_of_pos x h⟩
theorem tmod_up (x T : Int) (h : 0 < T) (hT : T ≤ 1000000) : 0 ≤ (wrap64 (x.tmod T + T)).tmod T ∧ (wrap64 (x.tmod T + T)).tmod T < T := by
  have h1 := tmod_in x T h
  rw [w64 (by omega)]
  exact ⟨Int.tmod_nonneg _ (by omega), Int.tmod_lt_of_pos _ h⟩
theorem tt_of (p : Int) : ∃ T, wrap64 (2 + (wrap64 (p.tmod 9 + 9)).tmod 9) = T ∧ 2 ≤ T ∧ T ≤ 10 := by
  have h := tmod_up p 9 (by decide) (by decide)
  refine ⟨_, rfl, ?_⟩
  rw [w64 (by omega)]
  omega
theorem cc_of (p T : Int) (h2 : 2 ≤ T) (h10 : T ≤ 10) : ∃ C, wrap64 (1 + (wrap64 (p.tmod T + T)).tmod T) = C ∧ 1 ≤ C ∧ C ≤ T := by
  have h := tmod_up p T (by omega) (by omega)
  refine ⟨_, rfl, ?_⟩
  rw [w64 (by omega)]
  omega
/-- A slice of numbers is there. -/
def SeenI (w : World) (a : Option Addr) (len : Nat) : Prop := ∀ k, k < len → ∃ b off, a = some ⟨b, off, none⟩ ∧ b < w.heap.size ∧ ∃ x : Int, w.cell? ⟨b, off + k, none⟩ = some (.int .i64 x) ∧ (Lit.int .i64 x).wf = true
/-- A server as it is asked for. -/
def xs (i : Int) (c t : Int) : Rk := ⟨⟨i, c, t, t, 15⟩, true⟩
structure CT (c t : Int) : Prop where
  c0 : 1 ≤ c
  c1 : c ≤ t
  t0 : 2 ≤ t
  t1 : t ≤ 10
theorem CT.lo {i c t : Int} (h : CT c t) (hi : i = 0 ∨ i = 1) : Lo (xs i c t) := by
  obtain ⟨h1, h2, h3, h4⟩ := h
  unfold Lo xs
  simp only
  omega
theorem CT.row {i c t : Int} (h : CT c t) (hi : i = 0 ∨ i = 1) : RowOk (xs i c t) := by
  obtain ⟨h1, h2, h3, h4⟩ := h
  exact ⟨hi, h1, by show c ≤ 10; omega, by show 1 ≤ t; omega, h4, by show 1 ≤ t; omega, h4, .inr rfl⟩
theorem CT.tk {i c t : Int} (h : CT c t) (hi : i = 0 ∨ i = 1) : (xs i c t).k.ok ∧ (xs i c t).k.t ≤ 10 := by
  obtain ⟨h1, h2, h3, h4⟩ := h
  unfold xs Tk.ok
  simp only
  omega
theorem rws_1 {c t : Int} (h : CT c t) : Rws ([] ++ [xs 0 c t]) := ⟨⟨by simp, fun x hx => by
  simp at hx
  subst hx
  exact h.tk (.inl rfl)⟩, fun r hr hs => by
  simp at hr
  subst hr
  rfl, fun a b hh => by simp at hh, .inl (fun r hr => by
  simp at hr
  subst hr
  rfl)⟩
theorem rws_2 {c t c2 t2 : Int} (h : CT c t) (h2 : CT c2 t2) : Rws ([xs 0 c t] ++ [xs 1 c2 t2]) := ⟨⟨by simp, fun x hx => by
  simp at hx
  rcases hx with rfl | rfl
  · exact h.tk (.inl rfl)
  · exact h2.tk (.inr rfl)⟩, fun r hr hs => by
  simp at hr
  rcases hr with rfl | rfl <;> rfl, fun a b hh => by
  simp at hh
  obtain ⟨rfl, rfl⟩ := hh
  exact ⟨rfl, rfl, by show (0 : Int) < 1; decide⟩, .inl (fun r hr => by
  simp at hr
  rcases hr with rfl | rfl <;> rfl)⟩
/-- What has come of the servers behind k of them. -/
def Adm (k : Int) (rs : List Rk) (l : List Value) : Prop :=
  (k = 0 ∧ rs = [] ∧ l = [.int .i64 0, .int .i64 0, .int .i64 0, .int .i64 0, .int .i64 0, .int .i64 0, .int .i64 0, .int .i64 0, .int .i64 0, .int .i64 0]) ∨
  (k = 1 ∧ ∃ c t, CT c t ∧ rs = [xs 0 c t] ∧ l = [.int .i64 0, .int .i64 c, .int .i64 t, .int .i64 t, .int .i64 15, .int .i64 0, .int .i64 0, .int .i64 0, .int .i64 0, .int .i64 0]) ∨
  (k = 2 ∧ ∃ c t d c2 t2, CT c t ∧ CT c2 t2 ∧ l = [.int .i64 0, .int .i64 c, .int .i64 t, .int .i64 t, .int .i64 15, .int .i64 1, .int .i64 d, .int .i64 t2, .int .i64 t2, .int .i64 15] ∧ ((d = c2 ∧ rs = [xs 0 c t, xs 1 c2 t2]) ∨ (d = 0 ∧ rs = [xs 0 c t])))
end Go.Proofs.YtoichcickcgbgaaGreatDoor
namespace Go.Proofs.YtoichcickcgbgaaGreatDoor
open Go.RowKit
/-- What the jobs of number i have left. -/
def lf (js : List Jb) (i : Int) : Int := (js.map fun j => if j.id = i then j.left else 0).sum
theorem lf_cons (j : Jb) (js : List Jb) (i : Int) : lf (j :: js) i = (if j.id = i then j.left else 0) + lf js i := by simp [lf]
theorem lf_app (j : Jb) (js : List Jb) (i : Int) : lf (js ++ [j]) i = lf js i + (if j.id = i then j.left else 0) := by simp [lf]
theorem lf_none {js : List Jb} {i : Int} (h : (js.any fun y => y.id == i) = false) : lf js i = 0 := by
  induction js with
  | nil => rfl
  | cons a l ih =>
    simp only [List.any_cons, Bool.or_eq_false_iff, beq_eq_false_iff_ne] at h
    rw [lf_cons, if_neg h.1, ih h.2]
    rfl
theorem lf_pos {js : List Jb} (h : JI js) (i : Int) : 0 ≤ lf js i := by
  have hh := h.ok
  clear h
  induction js with
  | nil => exact Int.le_refl _
  | cons a l ih =>
    have h1 := ih (fun j hj => hh j (by simp [hj]))
    have h2 := (hh a (by simp)).2.1
    rw [lf_cons]
    split <;> omega
theorem adds_lf {js js' : List Jb} {j : Jb} (h : Adds js js' j) (i : Int) : lf js' i = lf js i ∨ (j.id = i ∧ lf js i = 0 ∧ lf js' i = j.left) := by
  rcases h with ⟨_, rfl⟩ | ⟨hn, hh⟩
  · exact .inl rfl
  · by_cases e : j.id = i
    · refine .inr ⟨e, lf_none (by rw [← e]; exact hn), ?_⟩
      have h0 := lf_none hn
      rw [e] at h0
      rcases hh with rfl | rfl
      · rw [lf_app, if_pos e, h0]; omega
      · rw [lf_cons, if_pos e, h0]; omega
    · left
      rcases hh with rfl | rfl
      · rw [lf_app, if_neg e]; omega
      · rw [lf_cons, if_neg e]; omega
/-- What a slot's releases may do for number i. -/
def Rel1 (t c T : Int) (gm gm' : Int → Option (Int × Int)) (js js' : List Jb) (i : Int) : Prop :=
  (lf js' i = lf js i ∧ Grd.nx gm' i = Grd.nx gm i) ∨ (Grd.nx gm i ≤ t ∧ Grd.nx gm' i = t + T ∧ (lf js' i = lf js i ∨ (lf js i = 0 ∧ lf js' i ≤ c)))
theorem Sv1.other {t : Int} {x : Rk} {gm gm' : Int → Option (Int × Int)} {js js' : List Jb} (h : Sv1 t x gm js gm' js') {i : Int} (hi : x.k.id ≠ i) : lf js' i = lf js i ∧ Grd.nx gm' i = Grd.nx gm i := by
  rcases h with ⟨rfl, rfl⟩ | ⟨_, _, rfl, r, _, _, ha⟩
  · exact ⟨rfl, rfl⟩
  · refine ⟨?_, by unfold Grd.nx Grd.upd; rw [if_neg (fun e => hi e.symm)]⟩
    rcases adds_lf ha i with h | ⟨h, _⟩
    · exact h
    · exact (hi h).elim
theorem Sv1.own {t i c T : Int} {gm gm' : Int → Option (Int × Int)} {js js' : List Jb} (h : Sv1 t (xs i c T) gm js gm' js') : Rel1 t c T gm gm' js js' i := by
  rcases h with ⟨rfl, rfl⟩ | ⟨_, hn, rfl, r, h1, h2, ha⟩
  · exact .inl ⟨rfl, rfl⟩
  · refine .inr ⟨hn, by simp [Grd.nx, Grd.upd, xs], ?_⟩
    rcases adds_lf ha i with h | ⟨_, h0, hl⟩
    · exact .inl h
    · exact .inr ⟨h0, by rw [hl]; exact h2⟩
theorem svl_two {t c T c2 T2 : Int} {gm gm' : Int → Option (Int × Int)} {js js' : List Jb} (h : SvL t gm js [xs 0 c T, xs 1 c2 T2] gm' js') : Rel1 t c T gm gm' js js' 0 ∧ Rel1 t c2 T2 gm gm' js js' 1 := by
  obtain ⟨g1, j1, h1, h2⟩ := SvL.last (l := [xs 0 c T]) h
  obtain ⟨g0, j0, h3, h4⟩ := SvL.last (l := []) h1
  obtain ⟨rfl, rfl⟩ := h3.none
  have a1 := h2.other (i := 0) (by show (1 : Int) ≠ 0; decide)
  have a2 := h4.other (i := 1) (by show (0 : Int) ≠ 1; decide)
  have o1 := h4.own
  have o2 := h2.own
  unfold Rel1 at o1 o2 ⊢
  rw [a1.1, a1.2]
  rw [a2.1, a2.2] at o2
  exact ⟨o1, o2⟩
theorem svl_one {t c T : Int} {gm gm' : Int → Option (Int × Int)} {js js' : List Jb} (h : SvL t gm js [xs 0 c T] gm' js') (c2 T2 : Int) : Rel1 t c T gm gm' js js' 0 ∧ Rel1 t c2 T2 gm gm' js js' 1 := by
  obtain ⟨g0, j0, h3, h4⟩ := SvL.last (l := []) h
  obtain ⟨rfl, rfl⟩ := h3.none
  exact ⟨h4.own, .inl (h4.other (i := 1) (by show (0 : Int) ≠ 1; decide))⟩
theorem RunR.lf {js js' : List Jb} {i : Int} {b : Bool} (h : RunR js i b js') {s : Int} (hs : 0 ≤ s) : lf js' s + (if i = s then 1 else 0) = lf js s := by
  rcases h with ⟨rfl, rfl, _, rfl⟩ | ⟨a, l, rfl, rfl, _, ⟨h1, rfl⟩ | ⟨_, rfl | rfl⟩⟩
  · rw [if_neg (by omega)]; rfl
  · rw [lf_cons, h1]; omega
  · rw [lf_app, lf_cons]
    simp only [Jb.less]
    split <;> omega
  · rw [lf_cons, lf_cons]
    simp only [Jb.less]
    split <;> omega
/-- One server's account: F lists how much of it ran ahead of each slot. -/
structure Acc (c T : Int) (p : Nat) (F : Nat → Int) (gm : Int → Option (Int × Int)) (js : List Jb) (i : Int) : Prop where
  c0 : 0 ≤ c
  t0 : 0 < T
  nx : 0 ≤ Grd.nx gm i
  ran : ∀ k, k ≤ p → 0 ≤ F k ∧ F k ≤ k
  led : Led c.toNat T.toNat p (fun k => (F k).toNat) (lf js i).toNat (Grd.nx gm i).toNat
theorem Acc.start {c T : Int} (hc : 0 ≤ c) (hT : 0 < T) {F : Nat → Int} (hF : F 0 = 0) (i : Int) : Acc c T 0 F (fun _ => none) [] i :=
  ⟨hc, hT, Int.le_refl _, fun k hk => by
    obtain rfl : k = 0 := by omega
    omega, Led.start _ _ _ _⟩
theorem Acc.step {c T : Int} {p : Nat} {F F' : Nat → Int} {gm gm' : Int → Option (Int × Int)} {js j1 js' : List Jb} {i id : Int} {b : Bool} (h : Acc c T p F gm js i) (hi : 0 ≤ i) (hj : JI js) (hj1 : JI j1) (hj' : JI js')
    (hr : Rel1 p c T gm gm' js j1 i) (hrun : RunR j1 id b js') (hF : ∀ k, k ≤ p → F' k = F k) (hn : F' (p + 1) = F p + (if id = i then 1 else 0)) : Acc c T (p + 1) F' gm' js' i := by
  obtain ⟨hc, hT, hnx, hran, hled⟩ := h
  have hl := hrun.lf hi
  have p0 := lf_pos hj i
  have p1 := lf_pos hj1 i
  have p2 := lf_pos hj' i
  have hp := hran p (Nat.le_refl _)
  have hnx' : 0 ≤ Grd.nx gm' i := by
    unfold Rel1 at hr
    rcases hr with ⟨_, h⟩ | ⟨_, h, _⟩ <;> omega
  have hrn : ∀ k, k ≤ p + 1 → 0 ≤ F' k ∧ F' k ≤ k := fun k hk => by
    by_cases e : k = p + 1
    · subst e
      rw [hn]
      split <;> omega
    · rw [hF k (by omega)]
      exact hran k (by omega)
  refine ⟨hc, hT, hnx', hrn, hled.step (ran := if id = i then 1 else 0) (l1 := (lf j1 i).toNat) (by omega) ?_ ?_ (fun k hk => by rw [hF k hk]) ?_⟩
  · unfold Rel1 at hr
    rcases hr with ⟨h1, h2⟩ | ⟨h1, h2, h3⟩
    · exact .inl ⟨by rw [h1], by rw [h2]⟩
    · refine .inr ⟨by omega, by omega, ?_⟩
      rcases h3 with h3 | ⟨h3, h4⟩
      · exact .inl (by rw [h3])
      · exact .inr ⟨by omega, by omega⟩
  · split at hl
    · rw [if_pos (by assumption)]; omega
    · rw [if_neg (by assumption)]; omega
  · rw [hn]
    split <;> omega
theorem Acc.law {c T : Int} {p : Nat} {F : Nat → Int} {gm : Int → Option (Int × Int)} {js : List Jb} {i : Int} (h : Acc c T p F gm js i) {a b : Nat} (hab : a ≤ b) (hb : b ≤ p) : F b - F a ≤ c * (((b : Int) - a) / T + 2) := by
  obtain ⟨hc, hT, _, hran, hled⟩ := h
  have h1 := hled.past a b hab hb
  have ha := hran a (by omega)
  have hb' := hran b hb
  obtain ⟨C, rfl⟩ := Int.eq_ofNat_of_zero_le hc
  obtain ⟨t, rfl⟩ := Int.eq_ofNat_of_zero_le (Int.le_of_lt hT)
  simp only [Int.toNat_natCast] at h1
  have h2 : ((C * ((b - a) / t + 2) : Nat) : Int) = (C : Int) * (((b : Int) - a) / (t : Int) + 2) := by
    rw [Int.natCast_mul, Int.natCast_add, Int.natCast_ediv, Int.ofNat_sub hab]
    rfl
  rw [← h2]
  omega
end Go.Proofs.YtoichcickcgbgaaGreatDoor
namespace Go.Proofs.YtoichcickcgbgaaGreatDoor
open Go.RowKit
theorem i64_mask (n : Int) (j m : Nat) (hm : m = 2 ^ j) (hj : j ≤ 40) (hc : (BitVec.ofInt 64 ((m : Int) - 1)).toNat = 2 ^ j - 1) : bits .and .i64 n ((m : Int) - 1) = n % m := by
  have key : (BitVec.ofInt 64 n &&& BitVec.ofInt 64 ((m : Int) - 1)).toNat = (n % ((2 ^ 64 : Nat) : Int)).toNat % 2 ^ j := by
    rw [BitVec.toNat_and, BitVec.toNat_ofInt, hc, Nat.and_two_pow_sub_one_eq_mod]
  show IntKind.i64.wrap ((BitVec.ofInt 64 n &&& BitVec.ofInt 64 ((m : Int) - 1)).toNat : Nat) = n % m
  rw [key, IntKind.wrap_i64, hm]
  have h1 : ((n % ((2 ^ 64 : Nat) : Int)).toNat % 2 ^ j : Nat) < 2 ^ j := Nat.mod_lt _ (Nat.two_pow_pos j)
  have h2 : 2 ^ j ≤ 2 ^ 40 := Nat.pow_le_pow_right (by omega) hj
  have h3 : (((n % ((2 ^ 64 : Nat) : Int)).toNat % 2 ^ j : Nat) : Int) = n % ((2 ^ j : Nat) : Int) := by
    have hpos : 0 ≤ n % ((2 ^ 64 : Nat) : Int) := Int.emod_nonneg _ (by decide)
    rw [Int.natCast_emod, Int.toNat_of_nonneg hpos]
    exact Int.emod_emod_of_dvd n (by exact_mod_cast Nat.pow_dvd_pow 2 (by omega))
  rw [← h3]
  generalize (n % ((2 ^ 64 : Nat) : Int)).toNat % 2 ^ j = x at *
  omega
theorem and15 (n : Int) : ∃ q : Int, bits .and .i64 n 15 = q ∧ 0 ≤ q ∧ q ≤ 15 :=
  ⟨n % 16, i64_mask n 4 16 rfl (by omega) (by decide), by omega, by omega⟩
/-- Block b counts what ran: F by place. -/
def Rn (w : World) (b : Nat) (F : Nat → Int) : Prop := Bx w b 48 ((List.range 202).map fun j => Value.int .i64 (F j))
theorem Rn.cell {w : World} {b : Nat} {F : Nat → Int} (h : Rn w b F) (j : Nat) (hj : j < 202) : w.cell? ⟨b, j, none⟩ = some (.int .i64 (F j)) :=
  Bx.cell h j (by simp [hj])
theorem Rn.free {w : World} {b : Nat} {F : Nat → Int} (h : Rn w b F) (j : Nat) : w.frozen? ⟨b, j, none⟩ = false := Bx.free h j
theorem Rn.set {w : World} {b : Nat} {F : Nat → Int} (h : Rn w b F) (j : Nat) (v : Int) : Rn (w.setCell ⟨b, j, none⟩ (.int .i64 v)) b (fun i => if i = j then v else F i) := by
  refine Bx.set h j _ _ ?_
  refine List.ext_getElem (by simp) (fun k h1 h2 => ?_)
  rw [List.getElem_set]
  simp only [List.getElem_map, List.getElem_range]
  by_cases e : j = k
  · subst e
    simp
  · rw [if_neg e, if_neg (fun e' => e e'.symm)]
theorem Rn.new (w : World) : Rn (w.alloc (.cells Tryz.zeroCells48 48)) w.heap.size (fun _ => 0) := by
  have h : Tryz.zeroCells48 = ((List.range 202).map fun _ => Value.int .i64 0).toArray := by kernel_rfl
  unfold Rn
  rw [h]
  exact Bx.new w _ 48
/-- What the rows say. -/
structure Both (rs : List Rk) (c t d c2 t2 : Int) : Prop where
  len : rs.length ≤ 2
  row : ∀ x ∈ rs, RowOk x
  f0 : Fnd rs 0 (xs 0 c t)
  f1 : 0 < d → Fnd rs 1 (xs 1 c2 t2)
  d0 : 0 ≤ d
  d1 : d ≤ 10
  sv : ∀ (p : Int) gm js gm' js', SvL p gm js rs gm' js' → Rel1 p c t gm gm' js js' 0 ∧ Rel1 p d t2 gm gm' js js' 1
theorem both_of {rs : List Rk} {c t d c2 t2 : Int} (h : CT c t) (h2 : CT c2 t2) (hh : (d = c2 ∧ rs = [xs 0 c t, xs 1 c2 t2]) ∨ (d = 0 ∧ rs = [xs 0 c t])) : Both rs c t d c2 t2 := by
  have a1 := h2.c0
  have a2 := h2.c1
  have a3 := h2.t1
  rcases hh with ⟨rfl, rfl⟩ | ⟨rfl, rfl⟩
  · refine ⟨by simp, fun x hx => ?_, .inl ⟨by simp [Lib.idxBy, Lib.idxByFrom, xs], rfl⟩, fun _ => .inr ⟨by simp [Lib.idxBy, Lib.idxByFrom, xs], rfl⟩, by omega, by omega, fun p gm js gm' js' hs => svl_two hs⟩
    simp at hx
    rcases hx with rfl | rfl
    · exact h.row (.inl rfl)
    · exact h2.row (.inr rfl)
  · refine ⟨by simp, fun x hx => ?_, .inl ⟨by simp [Lib.idxBy, Lib.idxByFrom, xs], rfl⟩, fun h => by omega, by omega, by omega, fun p gm js gm' js' hs => svl_one hs _ _⟩
    simp at hx
    subst hx
    exact h.row (.inl rfl)
end Go.Proofs.YtoichcickcgbgaaGreatDoor
namespace Go.Proofs.YtoichcickcgbgaaGreatDoor
open Go.RowKit
structure Pk (w wr : World) (col : Nat → Nat) (K : Ck) (p : Int) (rs : List Rk) (gm : Int → Option (Int × Int)) (js : List Jb) (u S R RP g : Nat) (ll tv qq : List Value) (F : Nat → Int) (ri : Int) : Prop where
  c : Ctl wr col K 34 p rs gm js u
  s : Bx wr S 33 ll
  r : Rn wr R F
  z : Bx wr RP 40 tv
  g : wr.cell? ⟨g, 0, none⟩ = some (.int .i64 ri)
  q : Bx wr (w.heap.size + 1) 22 qq
  b : Below w.heap.size w wr
theorem Pk.set {w wr : World} {col : Nat → Nat} {K : Ck} {p : Int} {rs : List Rk} {gm : Int → Option (Int × Int)} {js : List Jb} {u S R RP g : Nat} {ll tv qq : List Value} {F : Nat → Int} {ri : Int}
    (h : Pk w wr col K p rs gm js u S R RP g ll tv qq F ri) (hR : col R = 0) (hS : S < R) (hZ : R < RP) (hg : R < g) (hgl : g < RP) (hq : w.heap.size + 1 < R) (j : Nat) (v : Int) :
    Pk w (wr.setCell ⟨R, j, none⟩ (.int .i64 v)).drew col K p rs gm js u S R RP g ll tv qq (fun i => if i = j then v else F i) ri := by
  have ts : Turn (fun i => i = R) wr (wr.setCell ⟨R, j, none⟩ (.int .i64 v)).drew := (Turn.set (S := fun i => i = R) _ _ _ _ rfl).drew
  have hr : Rn (wr.setCell ⟨R, j, none⟩ (.int .i64 v)) R (fun i => if i = j then v else F i) := h.r.set j v
  have hlt := h.z.lt
  exact ⟨h.c.away ts hR (fun l hl => Bx.ne hl h.r (by decide) rfl), h.s.turn ts (by omega), hr, h.z.turn ts (by omega), (World.cell?_of_block (a := ⟨g, 0, none⟩) (ts.block g (by omega) (by omega))).trans h.g, h.q.turn ts (by omega),
    ((Turn.below h.b).then (S := fun i => i = R) ts (fun i _ h => h)).fresh (fun i hi e => by omega)⟩
theorem rem_of (q : Int) (p : Nat) : ∃ x, q.tmod ((p : Int) + 1) = x ∧ -(p : Int) ≤ x ∧ x ≤ p := by
  have h := tmod_in q ((p : Int) + 1) (by omega)
  exact ⟨_, rfl, by omega, by omega⟩
theorem up_of (x : Int) (p : Nat) (h1 : -(p : Int) ≤ x) : ∃ A : Nat, (x + (p : Int) + 1).tmod ((p : Int) + 1) = (A : Int) ∧ A ≤ p := by
  have h3 := Int.tmod_nonneg (a := x + (p : Int) + 1) ((p : Int) + 1) (by omega)
  have h4 := Int.tmod_lt_of_pos (x + (p : Int) + 1) (b := (p : Int) + 1) (by omega)
  obtain ⟨A, hA⟩ := Int.eq_ofNat_of_zero_le h3
  exact ⟨A, hA, by omega⟩
theorem rem_of2 (q : Int) (p A : Nat) (hA : A ≤ p) : ∃ x, q.tmod ((p : Int) - (A : Int) + 1) = x ∧ -((p : Int) - A) ≤ x ∧ x ≤ (p : Int) - A := by
  have h := tmod_in q ((p : Int) - A + 1) (by omega)
  exact ⟨_, rfl, by omega, by omega⟩
theorem up_of2 (x : Int) (p A : Nat) (hA : A ≤ p) (h1 : -((p : Int) - A) ≤ x) : ∃ Z : Nat, (x + (p : Int) - (A : Int) + 1).tmod ((p : Int) - (A : Int) + 1) = (Z : Int) ∧ A + Z ≤ p := by
  have h3 := Int.tmod_nonneg (a := x + (p : Int) - (A : Int) + 1) ((p : Int) - (A : Int) + 1) (by omega)
  have h4 := Int.tmod_lt_of_pos (x + (p : Int) - (A : Int) + 1) (b := (p : Int) - (A : Int) + 1) (by omega)
  obtain ⟨Z, hZ⟩ := Int.eq_ofNat_of_zero_le h3
  exact ⟨Z, hZ, by omega⟩
theorem quo_of (A B : Nat) (T : Int) (h : A ≤ B) (hB : B ≤ 100) (hT : 2 ≤ T) : ∃ Q, ((B : Int) - (A : Int)).tdiv T = Q ∧ 0 ≤ Q ∧ Q ≤ 100 := by
  refine ⟨_, rfl, Int.tdiv_nonneg (by omega) (by omega), ?_⟩
  rw [Int.tdiv_eq_ediv_of_nonneg (by omega)]
  have := Int.ediv_le_self T (a := (B : Int) - A) (by omega)
  omega
theorem mul_of (C Q : Int) (h0 : 0 ≤ C) (h1 : C ≤ 10) (h2 : 0 ≤ Q) (h3 : Q ≤ 100) : ∃ M, C * (Q + 2) = M ∧ 0 ≤ M ∧ M ≤ 1020 := by
  refine ⟨_, rfl, Int.mul_nonneg h0 (by omega), ?_⟩
  have := Int.mul_le_mul h1 (show Q + 2 ≤ 102 by omega) (by omega) (by omega)
  omega
end Go.Proofs.YtoichcickcgbgaaGreatDoor
