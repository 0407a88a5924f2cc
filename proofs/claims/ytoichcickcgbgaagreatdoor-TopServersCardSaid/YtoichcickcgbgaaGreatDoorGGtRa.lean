/-
  One or two small tasks, whichever: their load, their work, the sequence of their works; the contracts of busy and demand in these words.
  A range over a function whose iterator may turn blocks of its own between two rounds: what the iterator owes, what the body owes.
-/
import Derived.Test.YtoichcickcgbgaaGreatDoorGBe
import Derived.RangeFuncNested
import Derived.RangeFuncCalls
import Derived.RangeFuncLeaves
namespace Go.Proofs.YtoichcickcgbgaaGreatDoor
open Go.RowKit
attribute [local go_sem] Oper.semAt_some
/-- Two tasks at most, of short periods. -/
structure Tks (ts : List Tk) : Prop where
  len : ts.length ≤ 2
  ok : ∀ t ∈ ts, t.ok ∧ t.t ≤ 10
def Tk.cn (x : Tk) : Nat := x.c.toNat
def Tk.dn (x : Tk) : Nat := x.d.toNat
def Tk.tn (x : Tk) : Nat := x.t.toNat
def loadP (ts : List Tk) : Nat := ts.foldl (fun p t => lcm1 p t.tn) 1
def loadN (ts : List Tk) : Nat := ts.foldl (fun n t => n + t.cn * (loadP ts / t.tn)) 0
def workF (ts : List Tk) (X : Nat) : Nat := ts.foldl (fun n t => n + t.cn * ((X + t.tn - 1) / t.tn)) 0
def ofF (ts : List Tk) (X : Nat) : Nat := ts.foldl (fun n t => n + t.cn * manyF t.dn t.tn X) 0
def befA (ts : List Tk) (X : Nat) : Nat := ts.foldl (fun n t => befF n t.dn t.tn X) 0
def sumC (ts : List Tk) : Nat := ts.foldl (fun n t => n + t.cn) 0
def itW (ts : List Tk) : Nat → Nat
  | 0 => sumC ts
  | i + 1 => workF ts (itW ts i)
theorem lcm1_eq (m n : Nat) : lcm1 m n = Nat.lcm m n := by
  unfold lcm1 Nat.lcm
  exact (Nat.mul_div_assoc _ (Nat.gcd_dvd_right m n)).symm
/-- A task in plain numbers. -/
theorem Tk.nums {x : Tk} (h : x.ok ∧ x.t ≤ 10) : x.c = x.cn ∧ x.d = x.dn ∧ x.t = x.tn ∧ 0 < x.cn ∧ x.cn ≤ x.dn ∧ x.dn ≤ x.tn ∧ x.tn ≤ 10 := by
  obtain ⟨⟨h1, h2, h3, h4, h5, h6, h7, h8⟩, h9⟩ := h
  unfold Tk.cn Tk.dn Tk.tn
  omega
theorem ceil_mono (t : Nat) {X Y : Nat} (h : X ≤ Y) : (X + t - 1) / t ≤ (Y + t - 1) / t := Nat.div_le_div_right (by omega)
theorem ceil_dvd {t P : Nat} (ht : 0 < t) (h : t ∣ P) : (P + t - 1) / t = P / t := by
  obtain ⟨k, rfl⟩ := h
  rw [Nat.mul_div_cancel_left _ ht, show t * k + t - 1 = (t - 1) + t * k by omega, Nat.add_mul_div_left _ _ ht, Nat.div_eq_of_lt (by omega), Nat.zero_add]
theorem ceil_pos {t X : Nat} (ht : 0 < t) (hX : 0 < X) : 1 ≤ (X + t - 1) / t := by
  rw [Nat.le_div_iff_mul_le ht]; omega
theorem one_two {ts : List Tk} (h : Tks ts) (hne : ts ≠ []) : (∃ a, ts = [a]) ∨ ∃ a b, ts = [a, b] := by
  have hl := h.len
  match ts, hne, hl with
  | [a], _, _ => exact .inl ⟨a, rfl⟩
  | [a, b], _, _ => exact .inr ⟨a, b, rfl⟩
theorem workF_mono {ts : List Tk} (h : Tks ts) {X Y : Nat} (hXY : X ≤ Y) : workF ts X ≤ workF ts Y := by
  by_cases hne : ts = []
  · subst hne; exact Nat.le_refl _
  rcases one_two h hne with ⟨a, rfl⟩ | ⟨a, b, rfl⟩ <;> simp only [workF, List.foldl]
  · exact Nat.add_le_add_left (Nat.mul_le_mul_left _ (ceil_mono _ hXY)) _
  · exact Nat.add_le_add (Nat.add_le_add_left (Nat.mul_le_mul_left _ (ceil_mono _ hXY)) _) (Nat.mul_le_mul_left _ (ceil_mono _ hXY))
theorem loadP_le {ts : List Tk} (h : Tks ts) : loadP ts ≤ 100 := by
  by_cases hne : ts = []
  · subst hne; decide
  rcases one_two h hne with ⟨a, rfl⟩ | ⟨a, b, rfl⟩ <;> simp only [loadP, List.foldl]
  · have := Tk.nums (h.ok a (by simp))
    have := lcm1_le 1 a.tn
    omega
  · have ha := Tk.nums (h.ok a (by simp))
    have hb := Tk.nums (h.ok b (by simp))
    have h1 := lcm1_le 1 a.tn
    have h2 := lcm1_le (lcm1 1 a.tn) b.tn
    have h3 : lcm1 1 a.tn * b.tn ≤ 10 * 10 := Nat.mul_le_mul (by omega) (by omega)
    omega
/-- Work ahead of the period's end is the load; all begins below it. -/
theorem load_work {ts : List Tk} (h : Tks ts) (hne : ts ≠ []) : workF ts (loadP ts) = loadN ts ∧ sumC ts ≤ loadN ts ∧ 0 < sumC ts ∧ sumC ts ≤ workF ts (sumC ts) := by
  rcases one_two h hne with ⟨a, rfl⟩ | ⟨a, b, rfl⟩
  · have ha := Tk.nums (h.ok a (by simp))
    have hta : 0 < a.tn := by omega
    have hP : loadP [a] = lcm1 1 a.tn := rfl
    have hd : a.tn ∣ loadP [a] := by rw [hP, lcm1_eq]; exact Nat.dvd_lcm_right _ _
    have hPp : 0 < loadP [a] := by rw [hP]; exact lcm1_pos (by omega) hta
    have hq : 1 ≤ loadP [a] / a.tn := (Nat.le_div_iff_mul_le hta).2 (by have := Nat.le_of_dvd hPp hd; omega)
    have hm : a.cn * 1 ≤ a.cn * (loadP [a] / a.tn) := Nat.mul_le_mul_left _ hq
    have hc : a.cn * 1 ≤ a.cn * ((sumC [a] + a.tn - 1) / a.tn) := Nat.mul_le_mul_left _ (ceil_pos hta (by simp only [sumC, List.foldl]; omega))
    simp only [workF, loadN, List.foldl, ceil_dvd hta hd]
    simp only [sumC, List.foldl] at hc ⊢
    exact ⟨trivial, by omega, by omega, by omega⟩
  · have ha := Tk.nums (h.ok a (by simp))
    have hb := Tk.nums (h.ok b (by simp))
    have hta : 0 < a.tn := by omega
    have htb : 0 < b.tn := by omega
    have hP : loadP [a, b] = lcm1 (lcm1 1 a.tn) b.tn := rfl
    have hda : a.tn ∣ loadP [a, b] := by rw [hP, lcm1_eq, lcm1_eq]; exact Nat.dvd_trans (Nat.dvd_lcm_right 1 a.tn) (Nat.dvd_lcm_left _ _)
    have hdb : b.tn ∣ loadP [a, b] := by rw [hP, lcm1_eq]; exact Nat.dvd_lcm_right _ _
    have hPp : 0 < loadP [a, b] := by rw [hP]; exact lcm1_pos (lcm1_pos (by omega) hta) htb
    have hqa : 1 ≤ loadP [a, b] / a.tn := (Nat.le_div_iff_mul_le hta).2 (by have := Nat.le_of_dvd hPp hda; omega)
    have hqb : 1 ≤ loadP [a, b] / b.tn := (Nat.le_div_iff_mul_le htb).2 (by have := Nat.le_of_dvd hPp hdb; omega)
    have hma : a.cn * 1 ≤ a.cn * (loadP [a, b] / a.tn) := Nat.mul_le_mul_left _ hqa
    have hmb : b.cn * 1 ≤ b.cn * (loadP [a, b] / b.tn) := Nat.mul_le_mul_left _ hqb
    have hs : 0 < sumC [a, b] := by simp only [sumC, List.foldl]; omega
    have hca : a.cn * 1 ≤ a.cn * ((sumC [a, b] + a.tn - 1) / a.tn) := Nat.mul_le_mul_left _ (ceil_pos hta hs)
    have hcb : b.cn * 1 ≤ b.cn * ((sumC [a, b] + b.tn - 1) / b.tn) := Nat.mul_le_mul_left _ (ceil_pos htb hs)
    simp only [workF, loadN, List.foldl, ceil_dvd hta hda, ceil_dvd htb hdb]
    simp only [sumC, List.foldl] at hca hcb ⊢
    exact ⟨trivial, by omega, by omega, by omega⟩
theorem itW_up {ts : List Tk} (h : Tks ts) (hne : ts ≠ []) (hl : loadN ts ≤ loadP ts) : ∀ i, itW ts i ≤ loadP ts ∧ itW ts i ≤ itW ts (i + 1)
  | 0 => by
    obtain ⟨h1, h2, h3, h4⟩ := load_work h hne
    exact ⟨Nat.le_trans h2 hl, h4⟩
  | i + 1 => by
    obtain ⟨h1, h2⟩ := itW_up h hne hl i
    have h3 := (load_work h hne).1
    have h4 : workF ts (itW ts i) ≤ workF ts (loadP ts) := workF_mono h h1
    exact ⟨by show workF ts (itW ts i) ≤ _; omega, by show workF ts (itW ts i) ≤ workF ts (workF ts (itW ts i)); exact workF_mono h h2⟩
theorem itW_one {a : Tk} (h : Tks [a]) : ∀ i, itW [a] i = a.cn
  | 0 => by simp [itW, sumC]
  | i + 1 => by
    have ha := Tk.nums (h.ok a (by simp))
    show workF [a] (itW [a] i) = _
    rw [itW_one h i]
    simp only [workF, List.foldl]
    rw [show (a.cn + a.tn - 1) / a.tn = 1 from Nat.div_eq_of_lt_le (by omega) (by omega)]
    omega
theorem load_one {a : Tk} (h : Tks [a]) : loadN [a] ≤ loadP [a] := by
  have ha := Tk.nums (h.ok a (by simp))
  simp only [loadN, loadP, List.foldl]
  have h1 : lcm1 1 a.tn = a.tn := by rw [lcm1_eq, Nat.lcm_one_left]
  rw [h1, Nat.div_self (by omega)]
  omega
section
variable {w : World} {v : Value} {ts : List Tk}
theorem load_any (h : Sx tc w v ts) (hk : Tks ts) : Calls Tryz.prog 259 #[v] w fun e w' => e = .returned (.tuple #[.int .i64 (loadN ts : Nat), .int .i64 (loadP ts : Nat), .int .i64 0]) ∧ Below w.heap.size w w' := by
  by_cases hne : ts = []
  · subst hne
    obtain ⟨oa, cap, rfl, ha, _⟩ := h
    exact load_0 ha
  rcases one_two hk hne with ⟨a, rfl⟩ | ⟨a, b, rfl⟩
  · obtain ⟨g, cap, rfl, hg, hc, hr⟩ := h.one
    have ha := Tk.nums (hk.ok a (by simp))
    exact load_1 hg hc hr (hk.ok a (by simp)).1 ha.2.2.1 (by omega) (by omega) ha.1 (by omega)
  · obtain ⟨g, cap, rfl, hg, hc, hr⟩ := h.two
    have ha := Tk.nums (hk.ok a (by simp))
    have hb := Tk.nums (hk.ok b (by simp))
    exact load_2 hg hc hr (hk.ok a (by simp)).1 ha.2.2.1 (by omega) (by omega) ha.1 (by omega) (hk.ok b (by simp)).1 hb.2.2.1 (by omega) (by omega) hb.1 (by omega)
theorem right_tks (h : Sx tc w v ts) (hk : Tks ts) : Calls Tryz.prog 234 #[v] w fun e w' => e = .returned (.int .i64 (if loadP ts < loadN ts then 17 else 0)) ∧ Below w.heap.size w w' := by
  have := right_of (load_any h hk)
  simp only [Int.ofNat_lt] at this
  exact this
theorem work_any (h : Sx tc w v ts) (hk : Tks ts) (hne : ts ≠ []) (X : Nat) (hX : X ≤ 100000) : Calls Tryz.prog 250 #[v, .int .i64 X] w fun e w' => e = .returned (.int .i64 (workF ts X : Nat)) ∧ Below w.heap.size w w' := by
  rcases one_two hk hne with ⟨a, rfl⟩ | ⟨a, b, rfl⟩
  · obtain ⟨g, cap, rfl, hg, hc, hr⟩ := h.one
    have ha := Tk.nums (hk.ok a (by simp))
    exact work_1 hg hc hr (hk.ok a (by simp)).1 ha.2.2.1 (by omega) (by omega) ha.1 (by omega) X hX
  · obtain ⟨g, cap, rfl, hg, hc, hr⟩ := h.two
    have ha := Tk.nums (hk.ok a (by simp))
    have hb := Tk.nums (hk.ok b (by simp))
    exact work_2 hg hc hr (hk.ok a (by simp)).1 ha.2.2.1 (by omega) (by omega) ha.1 (by omega) (hk.ok b (by simp)).1 hb.2.2.1 (by omega) (by omega) hb.1 (by omega) X hX
theorem ofs_any (h : Sx tc w v ts) (hk : Tks ts) (hne : ts ≠ []) (X : Nat) (hX : X ≤ 100000) : Calls Tryz.prog 239 #[v, .int .i64 X] w fun e w' => e = .returned (.int .i64 (ofF ts X : Nat)) ∧ Below w.heap.size w w' := by
  rcases one_two hk hne with ⟨a, rfl⟩ | ⟨a, b, rfl⟩
  · obtain ⟨g, cap, rfl, hg, hc, hr⟩ := h.one
    have ha := Tk.nums (hk.ok a (by simp))
    exact of_1 hg hc hr (hk.ok a (by simp)).1 ha.2.2.1 (by omega) ha.1 (by omega) ha.2.1 X hX
  · obtain ⟨g, cap, rfl, hg, hc, hr⟩ := h.two
    have ha := Tk.nums (hk.ok a (by simp))
    have hb := Tk.nums (hk.ok b (by simp))
    exact of_2 hg hc hr (hk.ok a (by simp)).1 ha.2.2.1 (by omega) ha.1 (by omega) ha.2.1 (hk.ok b (by simp)).1 hb.2.2.1 (by omega) hb.1 (by omega) hb.2.1 X hX
set_option maxRecDepth 100000 in
theorem before_none (h : Sx tc w v []) (X : Nat) (hX : X ≤ 100000) : Calls Tryz.prog 238 #[v, .int .i64 X] w fun e w' => e = .returned (.tuple #[.int .i64 0, .bool false]) ∧ Below w.heap.size w w' := by
  have HM := Lib.hid (dmay_any h (by simp) (by simp) X (by omega) (by omega))
  obtain ⟨oa, cap, rfl, ha, _⟩ := h
  rcases ha with rfl | ⟨g, rfl⟩
  all_goals
    go_enter Tryz.func238, Tryz.ntmps238
    go_wp2_with fail
    refine HM.out.mono ?_
    rintro e w0 ⟨rfl, b0⟩
    have B0 := Lib.hid b0
    clear b0 HM
    go_wp2_with fail
    refine wp_loop_rounds 1 ?_
    rw [rounds_succ]
    go_wp2_with fail
    go_ret2
    exact ⟨rfl, B0.out⟩
theorem before_any (h : Sx tc w v ts) (hk : Tks ts) (X : Nat) (hX : X ≤ 100000) : Calls Tryz.prog 238 #[v, .int .i64 X] w fun e w' => e = .returned (.tuple #[.int .i64 (befA ts X : Nat), .bool (decide (0 < ((befA ts X : Nat) : Int)))]) ∧ Below w.heap.size w w' := by
  by_cases hne : ts = []
  · subst hne
    exact before_none h X hX
  rcases one_two hk hne with ⟨a, rfl⟩ | ⟨a, b, rfl⟩
  · obtain ⟨g, cap, rfl, hg, hc, hr⟩ := h.one
    have ha := Tk.nums (hk.ok a (by simp))
    exact before_1 hg hc hr (hk.ok a (by simp)).1 ha.2.2.1 (by omega) (by omega) ha.2.1 (by omega) X hX _ rfl
  · obtain ⟨g, cap, rfl, hg, hc, hr⟩ := h.two
    have ha := Tk.nums (hk.ok a (by simp))
    have hb := Tk.nums (hk.ok b (by simp))
    exact before_2 hg hc hr (hk.ok a (by simp)).1 ha.2.2.1 (by omega) (by omega) ha.2.1 (by omega) (hk.ok b (by simp)).1 hb.2.2.1 (by omega) (by omega) hb.2.1 (by omega) X hX _ rfl
/-- What is last ahead of a time is ahead of it. -/
theorem befF_lt {acc d t X : Nat} (hX : 0 < X) (ha : acc < X) : befF acc d t X < X := by
  by_cases h : ((X : Int) - 1) < (d : Int)
  · have h0 : manyF d t ((X : Int) - 1) = 0 := by unfold manyF; rw [if_pos h]
    unfold befF
    rw [h0, if_pos rfl]
    exact ha
  · have h1 : ((X : Int) - 1).toNat = X - 1 := by omega
    have h0 : manyF d t ((X : Int) - 1) = (X - 1 - d) / t + 1 := by unfold manyF; rw [if_neg h, h1]
    unfold befF
    rw [h0, if_neg (Nat.succ_ne_zero _), Nat.add_sub_cancel]
    have h2 : t * ((X - 1 - d) / t) ≤ X - 1 - d := Nat.mul_div_le _ _
    exact Nat.max_lt.2 ⟨ha, by omega⟩
theorem befA_lt (hk : Tks ts) {X : Nat} (hX : 0 < X) : befA ts X < X := by
  by_cases hne : ts = []
  · subst hne; exact hX
  rcases one_two hk hne with ⟨a, rfl⟩ | ⟨a, b, rfl⟩ <;> simp only [befA, List.foldl]
  · have ha := Tk.nums (hk.ok a (by simp))
    exact befF_lt hX hX
  · have ha := Tk.nums (hk.ok a (by simp))
    have hb := Tk.nums (hk.ok b (by simp))
    exact befF_lt hX (befF_lt hX hX)
/-- One task: nothing is due ahead of its work's end. -/
theorem befA_one {a : Tk} (h : Tks [a]) : befA [a] a.cn = 0 := by
  have ha := Tk.nums (h.ok a (by simp))
  have h0 : manyF a.dn a.tn ((a.cn : Int) - 1) = 0 := by unfold manyF; rw [if_pos (by omega)]
  simp only [befA, List.foldl, befF, h0, if_true]
end
end Go.Proofs.YtoichcickcgbgaaGreatDoor
namespace Go.Proofs.YtoichcickcgbgaaGreatDoor
open Go.RowKit
/-- What an iterator owes whose own steps turn blocks of Si alone, and whose rounds keep Kp. -/
def SeqT {α : Type} (n : Nat) (P : Program) (g : Nat) (lb : Array Value) (encs : α → Array Value) (Si : Nat → Prop) (Kp : World → World → Prop) (Px : List α → α → Prop) (S Sp : List α → World → Prop) (w : World) : Prop :=
  ∀ (l : Nat) (J Jx : List α → World → Prop) (W : World), Kp w W →
    (∀ xs A B, J xs A → Turn Si A B → J xs B) → (∀ xs A B, Jx xs A → Turn Si A B → Jx xs B) →
    (∀ pre x W1, J pre W1 → Px pre x → YieldAt Fence.wide (n - 1) P l (encs x) W1 fun e W' =>
      (e = .returned (.bool true) ∧ J (pre ++ [x]) W' ∧ Kp W1 W') ∨ (e = .returned (.bool false) ∧ Jx (pre ++ [x]) W' ∧ Kp W1 W')) →
    J [] W →
    CallsIn Fence.wide n P g (#[.func (.yield l) #[] #[]] ++ lb) W fun e W' => (∃ v, e = .returned v) ∧ ((∃ xs, S xs W' ∧ J xs W') ∨ (∃ pre, Sp pre W' ∧ Jx pre W'))
/-- How a round's body may be left; the loop's own two blocks lie as they lay. -/
def rPost {α : Type} (B : Nat) (Kp : World → World → Prop) (I : List α → World → Prop) (Ix : Code → List α → World → Prop) (xs : List α) (W : World) : Exit → Act → World → Prop
  | .normal, _, W' => (W'.heap[B]? = W.heap[B]? ∧ W'.heap[B + 1]? = W.heap[B + 1]?) ∧ Kp W W' ∧ I xs W'
  | .ret, _, W' => (W'.heap[B]? = W.heap[B]? ∧ W'.heap[B + 1]? = W.heap[B + 1]?) ∧ Kp W W' ∧ Ix .ret xs W'
  | .exit id, _, W' => (W'.heap[B]? = W.heap[B]? ∧ W'.heap[B + 1]? = W.heap[B + 1]?) ∧ Kp W W' ∧ Ix (.exit id) xs W'
  | .goto t, _, W' => (W'.heap[B]? = W.heap[B]? ∧ W'.heap[B + 1]? = W.heap[B + 1]?) ∧ Kp W W' ∧ Ix (.goto t) xs W'
  | .panic _, _, _ => False
  | .outgrown, _, _ => False
theorem range_law {α : Type} {P : Program} {n : Nat} {g : Operand} {ps : Array Tmp} {assign body : Code} {Q : Exit → Act → World → Prop} {a : Act} {w : World}
    {gf : Nat} {lb : Array Value} (hg : a.eval g = .func (.func gf) #[] lb) (eg : ∀ args w, (callFunc gf args).run P w = .ok (.enter gf args) w)
    {encs : α → Array Value} (hps : ∀ x, (encs x).size = ps.size) {Si : Nat → Prop} {Kp : World → World → Prop} {Px : List α → α → Prop} {S Sp : List α → World → Prop} {w0 : World}
    (hseq : SeqT (n - 1) P gf lb encs Si Kp Px S Sp w0) (hk0 : Kp w0 w) (hSi : ∀ k, Si k → k < w.heap.size)
    (hKt : ∀ {A B C : World}, Kp A B → Kp B C → Kp A C)
    (hKb : ∀ A B : World, (∀ k o, (k = w.heap.size ∨ k = w.heap.size + 1) → A.heap[k]? = some o → o.isCells = false) → Turn (fun k => k = w.heap.size ∨ k = w.heap.size + 1) A B → Kp A B)
    (hS : ∀ xs A B, S xs A → Turn (fun k => k = w.heap.size + 1) A B → S xs B) (hSp : ∀ xs A B, Sp xs A → Turn (fun k => k = w.heap.size + 1) A B → Sp xs B)
    (I : List α → World → Prop) (Ix : Code → List α → World → Prop)
    (hI : ∀ xs A B, I xs A → Turn (fun k => Si k ∨ k = w.heap.size ∨ k = w.heap.size + 1) A B → I xs B)
    (hIx : ∀ c xs A B, Ix c xs A → Turn (fun k => Si k ∨ k = w.heap.size ∨ k = w.heap.size + 1) A B → Ix c xs B)
    (h0 : I [] w) (a₁ : α → Act)
    (hassign : ∀ (l : Nat) (x : α) (W : World) (K : Act → World → Prop), K (a₁ x) W →
      assign.wpIn (Fence.wide.inRound l) (n - 1 - 1) P (Exit.then K (fun _ _ _ => False)) { tmps := (ps.zip (encs x)).foldl (fun t (p, v) => t.setIfInBounds p v) a.tmps, defers := [] } W)
    (hbody : ∀ (l : Nat) (pre : List α) (x : α) (W : World), I pre W → Px pre x → w.heap.size + 1 < W.heap.size → (∀ k o, (k = w.heap.size ∨ k = w.heap.size + 1) → W.heap[k]? = some o → o.isCells = false) →
      body.wpIn (Fence.wide.inRound l) (n - 1 - 1) P (rPost w.heap.size Kp I Ix (pre ++ [x]) W) (a₁ x) W)
    (hdone : ∀ (xs : List α) (W : World), S xs W → I xs W → W.heap[w.heap.size]? = some (.deferred (some [])) → Q .normal { a with defers := { target := .collected w.heap.size, args := #[] } :: a.defers } W)
    (hstop : ∀ (c : Code) (pre : List α) (W : World), Sp pre W → Ix c pre W → W.heap[w.heap.size]? = some (.deferred (some [])) → c.wpIn Fence.wide n P Q { a with defers := { target := .collected w.heap.size, args := #[] } :: a.defers } W) :
    (Code.rangeFunc g ps assign body).wpIn Fence.wide n P Q a w := by
  refine wpIn_rangeFunc fun fn _ => ?_
  generalize hB : w.heap.size = B at *
  let rec' : LoopState → Option Code → Loop := fun st pe => { state := st, pending := pe, fn := fn, tmps := a.tmps, params := ps, assign := assign, body := body, defers := B }
  -- the two blocks of the loop
  let W1 : World := (w.alloc (.deferred (some []))).alloc (.loop (rec' .ready none))
  have hD1 : W1.heap[B]? = some (.deferred (some [])) := by
    show ((w.alloc (.deferred (some []))).alloc (.loop (rec' .ready none))).heap[B]? = _
    rw [Below.heap_alloc _ _ _ (by simp [hB]), ← hB]
    exact World.alloc_heap_new w _
  have hL1 : W1.heap[B + 1]? = some (.loop (rec' .ready none)) := by
    have := World.alloc_heap_new (w.alloc (.deferred (some []))) (.loop (rec' .ready none))
    rwa [World.size_alloc, hB] at this
  have ht1 : Turn (fun _ => False) w W1 := Turn.below (((Below.refl _ w).alloc (Nat.le_refl _) _).alloc (by simp) _)
  have hk1 : Kp w0 W1 := hKt hk0 (hKb w W1 (fun k o hk ho => by
    have := (Array.getElem?_eq_some_iff.1 ho).1
    omega) (ht1.wide fun _ _ h => h.elim))
  -- what lies between two rounds, with the loop's record
  let J : List α → World → Prop := fun xs W => I xs W ∧ W.heap[B]? = some (.deferred (some [])) ∧ W.heap[B + 1]? = some (.loop (rec' .ready none))
  let Jx : List α → World → Prop := fun xs W => ∃ c, Ix c xs W ∧ W.heap[B]? = some (.deferred (some [])) ∧ W.heap[B + 1]? = some (.loop (rec' .done (some c)))
  have hfar : ∀ (A A' : World) (k : Nat) (o : Obj), k = B ∨ k = B + 1 → Turn Si A A' → A.heap[k]? = some o → A'.heap[k]? = some o := fun A A' k o hk t h =>
    (t.block k (Array.getElem?_eq_some_iff.1 h).1 (fun e => by have := hSi k e; omega)).trans h
  have hput : ∀ (xs : List α) (A : World) (o : Obj), Turn (fun k => k = B ∨ k = B + 1) A (A.putObj (B + 1) o) := fun _ A o => Turn.put A (B + 1) o (.inr rfl)
  refine ⟨B + 1, [{ target := .collected B, args := #[] }], W1, { target := .fn (.func gf) lb, args := #[.func (.yield (B + 1)) #[] #[]] }, W1, gf,
    #[.func (.yield (B + 1)) #[] #[]] ++ lb, W1, ?_, ?_, fun _ _ => trivial, ?_, fun h => by simp [Fence.wide] at h, ?_⟩
  · have := run_enterLoop_outer (P := P) (w := w) fn a.tmps ps assign body
    rw [hB] at this
    exact this
  · simp only [resolve, hg]
    simp [go_sem]
  · simp [invoke, go_sem, eg]
  · refine (hseq (B + 1) J Jx W1 hk1 (fun xs A A' h t => ⟨hI xs A A' h.1 (t.wide fun _ _ e => .inl e), hfar _ _ _ _ (.inl rfl) t h.2.1, hfar _ _ _ _ (.inr rfl) t h.2.2⟩)
      (fun xs A A' ⟨c, h⟩ t => ⟨c, hIx c xs A A' h.1 (t.wide fun _ _ e => .inl e), hfar _ _ _ _ (.inl rfl) t h.2.1, hfar _ _ _ _ (.inr rfl) t h.2.2⟩) ?_
      ⟨hI [] w W1 h0 (ht1.wide fun _ _ h => h.elim), hD1, hL1⟩).mono ?_
    · rintro pre x W ⟨hi, hd, hl⟩ hx
      have hlt := (Array.getElem?_eq_some_iff.1 hl).1
      have hnc : ∀ k o, (k = B ∨ k = B + 1) → W.heap[k]? = some o → o.isCells = false := by
        rintro k o (rfl | rfl) ho
        · rw [hd] at ho; cases ho; rfl
        · rw [hl] at ho; cases ho; rfl
      have hy := run_yield (P := P) (args := encs x) hl (hps x)
      refine ⟨fn, _, assign, body, hy, roundIn_of_wpIn (F := Fence.wide) trivial (hassign (B + 1) x W _ ⟨_, run_beginRound hl rfl, ?_⟩)⟩
      -- the record is busy while the body runs
      have hl2 : (W.putObj (B + 1) (.loop { rec' .ready none with state := .busy })).heap[B + 1]? = some (.loop { rec' .ready none with state := .busy }) := World.putObj_heap_same hlt
      have hd2 : (W.putObj (B + 1) (.loop { rec' .ready none with state := .busy })).heap[B]? = some (.deferred (some [])) := (World.putObj_heap_other (by omega)).trans hd
      have hnc2 : ∀ k o, (k = B ∨ k = B + 1) → (W.putObj (B + 1) (.loop { rec' .ready none with state := .busy })).heap[k]? = some o → o.isCells = false := by
        rintro k o (rfl | rfl) ho
        · rw [hd2] at ho; cases ho; rfl
        · rw [hl2] at ho; cases ho; rfl
      have hka := hKb _ _ hnc (hput pre W (.loop { rec' .ready none with state := .busy }))
      refine wpIn_mono (hbody (B + 1) pre x _ (hI pre _ _ hi ((hput pre W _).wide fun _ _ e => .inr e)) hx (by simpa using hlt) hnc2) ?_
      -- the round's end, however it was left
      have fin : ∀ (jump : Option Code) (W3 : World), (W3.heap[B]? = (W.putObj (B + 1) (.loop { rec' .ready none with state := .busy })).heap[B]? ∧ W3.heap[B + 1]? = (W.putObj (B + 1) (.loop { rec' .ready none with state := .busy })).heap[B + 1]?) →
          Kp (W.putObj (B + 1) (.loop { rec' .ready none with state := .busy })) W3 →
          ∃ W4, (Instr.endRound (B + 1) jump).run P W3 = .ok (.bool jump.isNone) W4 ∧ Turn (fun k => k = B ∨ k = B + 1) W3 W4 ∧ Kp W W4 ∧ W4.heap[B]? = some (.deferred (some [])) ∧ W4.heap[B + 1]? = some (.loop (rec' (if jump.isNone then .ready else .done) jump)) := fun jump W3 he hk3 => by
        have hl3 := he.2.trans hl2
        have hd3 := he.1.trans hd2
        refine ⟨_, run_endRound jump hl3, hput pre W3 _, hKt hka (hKt hk3 (hKb _ _ ?_ (hput pre W3 _))), (World.putObj_heap_other (by omega)).trans hd3, World.putObj_heap_same (Array.getElem?_eq_some_iff.1 hl3).1⟩
        rintro k o (rfl | rfl) ho
        · rw [hd3] at ho; cases ho; rfl
        · rw [hl3] at ho; cases ho; rfl
      rintro e a3 W3 hp
      cases e with
      | normal =>
        obtain ⟨he, hk3, hi3⟩ := hp
        obtain ⟨W4, hr, ht, hk4, hd4, hl4⟩ := fin none W3 he hk3
        exact ⟨_, _, hr, .inl ⟨rfl, ⟨hI _ _ _ hi3 (ht.wide fun _ _ e => .inr e), hd4, hl4⟩, hk4⟩⟩
      | ret =>
        obtain ⟨he, hk3, hi3⟩ := hp
        obtain ⟨W4, hr, ht, hk4, hd4, hl4⟩ := fin (some .ret) W3 he hk3
        exact ⟨_, _, hr, .inr ⟨rfl, ⟨_, hIx _ _ _ _ hi3 (ht.wide fun _ _ e => .inr e), hd4, hl4⟩, hk4⟩⟩
      | exit id =>
        obtain ⟨he, hk3, hi3⟩ := hp
        obtain ⟨W4, hr, ht, hk4, hd4, hl4⟩ := fin (some (.exit id)) W3 he hk3
        exact ⟨_, _, hr, .inr ⟨rfl, ⟨_, hIx _ _ _ _ hi3 (ht.wide fun _ _ e => .inr e), hd4, hl4⟩, hk4⟩⟩
      | goto t =>
        obtain ⟨he, hk3, hi3⟩ := hp
        obtain ⟨W4, hr, ht, hk4, hd4, hl4⟩ := fin (some (.goto t)) W3 he hk3
        exact ⟨_, _, hr, .inr ⟨rfl, ⟨_, hIx _ _ _ _ hi3 (ht.wide fun _ _ e => .inr e), hd4, hl4⟩, hk4⟩⟩
      | panic ch => exact hp.elim
      | outgrown => exact hp.elim
    · rintro e W2 ⟨⟨v, rfl⟩, ⟨xs, hs, hi, hd, hl⟩ | ⟨pre, hs, c, hi, hd, hl⟩⟩
      · exact ⟨none, _, run_endLoop hl (by simp [rec']), hdone xs _ (hS _ _ _ hs (Turn.put _ _ _ rfl)) (hI _ _ _ hi ((hput xs _ _).wide fun _ _ e => .inr e)) ((World.putObj_heap_other (by omega)).trans hd)⟩
      · exact ⟨some c, _, run_endLoop hl (by simp [rec']), hstop c pre _ (hSp _ _ _ hs (Turn.put _ _ _ rfl)) (hIx c _ _ _ hi ((hput pre _ _).wide fun _ _ e => .inr e)) ((World.putObj_heap_other (by omega)).trans hd)⟩
/-- What is behind a loop when its function returns: the block for deferred calls is shut. -/
theorem shut_turn {S : Nat → Prop} (W : World) (D : Nat) (o : Obj) (h : S D) : Turn S W (W.putObj D o) := Turn.put W D o h
end Go.Proofs.YtoichcickcgbgaaGreatDoor
