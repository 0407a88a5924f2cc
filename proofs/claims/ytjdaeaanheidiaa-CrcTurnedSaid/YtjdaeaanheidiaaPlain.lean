/-
  The sum of a text in plain numbers: one step of a bit, the table, the sum; that it is linear, that a turned byte or two turn it, that bytes and numbers come back from one another.
-/
namespace Go.Proofs.Ytjdaeaanheidiaa.Crc

/-- One bit. -/
def st (n : Nat) : Nat := (n >>> 1) ^^^ (if n % 2 = 1 then 3988292384 else 0)
/-- Eight bits. -/
def tab (n : Nat) : Nat := st (st (st (st (st (st (st (st n)))))))
/-- One byte more. -/
def upd (n b : Nat) : Nat := tab ((n % 256) ^^^ b) ^^^ (n / 256)
def run (n : Nat) (l : List UInt8) : Nat := l.foldl (fun n b => upd n b.toNat) n
def cpl (n : Nat) : Nat := 4294967295 - n
def more (n : Nat) (l : List UInt8) : Nat := cpl (run (cpl n) l)

theorem xor_mod_two (a b : Nat) : (a ^^^ b) % 2 = (a % 2 + b % 2) % 2 := by
  have := Nat.xor_mod_two_pow (a := a) (b := b) (n := 1)
  simp only [Nat.pow_one] at this
  rw [this]
  rcases Nat.mod_two_eq_zero_or_one a with h | h <;> rcases Nat.mod_two_eq_zero_or_one b with h' | h' <;> simp [h, h']

theorem st_xor (a b : Nat) : st (a ^^^ b) = st a ^^^ st b := by
  unfold st
  rw [Nat.shiftRight_xor_distrib, xor_mod_two]
  generalize a >>> 1 = x
  generalize b >>> 1 = y
  rcases Nat.mod_two_eq_zero_or_one a with h | h <;> rcases Nat.mod_two_eq_zero_or_one b with h' | h' <;> simp only [h, h'] <;> simp only [Nat.reduceAdd, Nat.reduceMod, if_true, if_false, Nat.xor_zero, Nat.zero_ne_one]
  · ac_rfl
  · ac_rfl
  · have : x ^^^ 3988292384 ^^^ (y ^^^ 3988292384) = x ^^^ y ^^^ (3988292384 ^^^ 3988292384) := by ac_rfl
    rw [this, Nat.xor_self, Nat.xor_zero]

theorem tab_xor (a b : Nat) : tab (a ^^^ b) = tab a ^^^ tab b := by
  unfold tab
  simp only [st_xor]

theorem st_even (n : Nat) : st (2 * n) = n := by
  unfold st
  rw [if_neg (by omega), Nat.xor_zero, Nat.shiftRight_succ, Nat.shiftRight_zero]
  omega

theorem tab_high (n : Nat) : tab (256 * n) = n := by
  unfold tab
  rw [show 256 * n = 2 * (128 * n) from by omega, st_even, show 128 * n = 2 * (64 * n) from by omega, st_even, show 64 * n = 2 * (32 * n) from by omega, st_even,
    show 32 * n = 2 * (16 * n) from by omega, st_even, show 16 * n = 2 * (8 * n) from by omega, st_even, show 8 * n = 2 * (4 * n) from by omega, st_even,
    show 4 * n = 2 * (2 * n) from by omega, st_even, st_even]

theorem split (n : Nat) : n = (n % 256) ^^^ (256 * (n / 256)) := by
  have h : n % 256 < 2 ^ 8 := by omega
  have e : (256 * (n / 256)) = (n / 256) <<< 8 := by rw [Nat.shiftLeft_eq]; omega
  rw [e]
  apply Nat.eq_of_testBit_eq
  intro i
  rw [Nat.testBit_xor, Nat.testBit_shiftLeft, show n / 256 = n / 2 ^ 8 from rfl, ← Nat.shiftRight_eq_div_pow, Nat.testBit_shiftRight, show n % 256 = n % 2 ^ 8 from rfl, Nat.testBit_mod_two_pow]
  by_cases hi : i < 8
  · simp [hi, Nat.not_le.2 hi]
  · have : 8 ≤ i := by omega
    simp [hi, this]

/-- The table does what eight bits do. -/
theorem upd_eq (n b : Nat) : upd n b = tab (n ^^^ b) := by
  unfold upd
  have e : n ^^^ b = ((n % 256) ^^^ b) ^^^ (256 * (n / 256)) := by
    have := split n
    calc n ^^^ b = ((n % 256) ^^^ (256 * (n / 256))) ^^^ b := by rw [← this]
      _ = _ := by ac_rfl
  rw [e, tab_xor (n % 256 ^^^ b), tab_high]

theorem st_lt (n : Nat) (h : n < 2 ^ 32) : st n < 2 ^ 32 := by
  unfold st
  refine Nat.xor_lt_two_pow ?_ ?_
  · rw [Nat.shiftRight_succ, Nat.shiftRight_zero]; omega
  · split <;> omega
theorem tab_lt (n : Nat) (h : n < 2 ^ 32) : tab n < 2 ^ 32 := by
  unfold tab
  exact st_lt _ (st_lt _ (st_lt _ (st_lt _ (st_lt _ (st_lt _ (st_lt _ (st_lt _ h)))))))
theorem upd_lt (n b : Nat) (h : n < 2 ^ 32) (hb : b < 256) : upd n b < 2 ^ 32 := by
  rw [upd_eq]
  exact tab_lt _ (Nat.xor_lt_two_pow h (by omega))
theorem run_lt (l : List UInt8) : ∀ n, n < 2 ^ 32 → run n l < 2 ^ 32 := by
  induction l with
  | nil => intro n h; exact h
  | cons b l ih => intro n h; exact ih _ (upd_lt _ _ h b.toNat_lt)

theorem st_inj {n : Nat} (h : n < 2 ^ 32) (h0 : st n = 0) : n = 0 := by
  unfold st at h0
  rw [Nat.shiftRight_succ, Nat.shiftRight_zero] at h0
  by_cases h1 : n % 2 = 1
  · rw [if_pos h1] at h0
    have : n / 2 = 3988292384 := by
      have := congrArg (· ^^^ 3988292384) h0
      simpa [Nat.xor_assoc] using this
    omega
  · rw [if_neg h1, Nat.xor_zero] at h0
    omega
theorem tab_inj0 {n : Nat} (h : n < 2 ^ 32) (h0 : tab n = 0) : n = 0 := by
  have l1 := st_lt _ h; have l2 := st_lt _ l1; have l3 := st_lt _ l2; have l4 := st_lt _ l3; have l5 := st_lt _ l4; have l6 := st_lt _ l5; have l7 := st_lt _ l6
  exact st_inj h (st_inj l1 (st_inj l2 (st_inj l3 (st_inj l4 (st_inj l5 (st_inj l6 (st_inj l7 h0)))))))

theorem xor_eq_zero {a b : Nat} (h : a ^^^ b = 0) : a = b := by
  have := congrArg (· ^^^ b) h
  simpa [Nat.xor_assoc] using this

/-- Where two sums meet they were one. -/
theorem upd_inj {n m b : Nat} (hn : n < 2 ^ 32) (hm : m < 2 ^ 32) (h : upd n b = upd m b) : n = m := by
  rw [upd_eq, upd_eq] at h
  have h2 : tab ((n ^^^ b) ^^^ (m ^^^ b)) = 0 := by rw [tab_xor, h, Nat.xor_self]
  have e : (n ^^^ b) ^^^ (m ^^^ b) = n ^^^ m := by
    have : (n ^^^ b) ^^^ (m ^^^ b) = (n ^^^ m) ^^^ (b ^^^ b) := by ac_rfl
    rw [this, Nat.xor_self, Nat.xor_zero]
  rw [e] at h2
  exact xor_eq_zero (tab_inj0 (Nat.xor_lt_two_pow hn hm) h2)
theorem run_inj (l : List UInt8) : ∀ n m, n < 2 ^ 32 → m < 2 ^ 32 → run n l = run m l → n = m := by
  induction l with
  | nil => intro n m _ _ h; exact h
  | cons b l ih => intro n m hn hm h; exact upd_inj hn hm (ih _ _ (upd_lt _ _ hn b.toNat_lt) (upd_lt _ _ hm b.toNat_lt) h)

theorem run_append (n : Nat) (a b : List UInt8) : run n (a ++ b) = run (run n a) b := by simp [run, List.foldl_append]

theorem tab_high_all : ∀ d : Fin 256, 0 < d.val → 256 ≤ tab d.val := by decide +kernel

/-- One byte turned, or two that stand beside one another: another sum. -/
theorem turned (n : Nat) (hn : n < 2 ^ 32) (a b c d : UInt8) (h : upd (upd n a.toNat) b.toNat = upd (upd n c.toNat) d.toNat) : a = c ∧ b = d := by
  have ha := a.toNat_lt; have hb := b.toNat_lt; have hc := c.toNat_lt; have hd := d.toNat_lt
  rw [upd_eq _ b.toNat, upd_eq _ d.toNat] at h
  have h2 : tab ((upd n a.toNat ^^^ b.toNat) ^^^ (upd n c.toNat ^^^ d.toNat)) = 0 := by rw [tab_xor, h, Nat.xor_self]
  have h3 := tab_inj0 (Nat.xor_lt_two_pow (Nat.xor_lt_two_pow (upd_lt _ _ hn ha) (by omega)) (Nat.xor_lt_two_pow (upd_lt _ _ hn hc) (by omega))) h2
  rw [upd_eq, upd_eq] at h3
  have e : (tab (n ^^^ a.toNat) ^^^ b.toNat) ^^^ (tab (n ^^^ c.toNat) ^^^ d.toNat) = tab (a.toNat ^^^ c.toNat) ^^^ (b.toNat ^^^ d.toNat) := by
    rw [tab_xor, tab_xor, tab_xor]
    have : (tab n ^^^ tab a.toNat ^^^ b.toNat) ^^^ (tab n ^^^ tab c.toNat ^^^ d.toNat) = (tab n ^^^ tab n) ^^^ ((tab a.toNat ^^^ tab c.toNat) ^^^ (b.toNat ^^^ d.toNat)) := by ac_rfl
    rw [this, Nat.xor_self, Nat.zero_xor]
  rw [e] at h3
  have h4 := xor_eq_zero h3
  have hx : a.toNat ^^^ c.toNat < 2 ^ 8 := Nat.xor_lt_two_pow (by omega) (by omega)
  have hy : b.toNat ^^^ d.toNat < 2 ^ 8 := Nat.xor_lt_two_pow (by omega) (by omega)
  have hz : a.toNat ^^^ c.toNat = 0 := by
    rcases Nat.eq_zero_or_pos (a.toNat ^^^ c.toNat) with h5 | h5
    · exact h5
    · have := tab_high_all ⟨a.toNat ^^^ c.toNat, by omega⟩ h5
      simp only at this
      omega
  have e1 := xor_eq_zero hz
  rw [hz] at h4
  have e2 : b.toNat ^^^ d.toNat = 0 := by
    rw [← h4]
    decide
  exact ⟨UInt8.toNat_inj.1 e1, UInt8.toNat_inj.1 (xor_eq_zero e2)⟩

/-- One byte turned: another sum. -/
theorem turned1 (n : Nat) (hn : n < 2 ^ 32) (a c : UInt8) (h : upd n a.toNat = upd n c.toNat) : a = c := by
  have := turned n hn a 0 c 0 (by rw [h])
  exact this.1

theorem cpl_lt (n : Nat) : cpl n < 2 ^ 32 := by unfold cpl; omega
theorem cpl_cpl (n : Nat) (h : n < 2 ^ 32) : cpl (cpl n) = n := by unfold cpl; omega
theorem cpl_inj {n m : Nat} (hn : n < 2 ^ 32) (hm : m < 2 ^ 32) (h : cpl n = cpl m) : n = m := by unfold cpl at h; omega
theorem more_lt (n : Nat) (l : List UInt8) : more n l < 2 ^ 32 := cpl_lt _

theorem more_append (n : Nat) (a b : List UInt8) : more (more n a) b = more n (a ++ b) := by
  unfold more
  rw [cpl_cpl _ (run_lt _ _ (cpl_lt _)), run_append]
theorem more_nil (n : Nat) (h : n < 2 ^ 32) : more n [] = n := by
  unfold more
  exact cpl_cpl n h

theorem cpl_xor (n : Nat) (h : n < 2 ^ 32) : cpl n = 4294967295 ^^^ n := by
  unfold cpl
  apply Nat.eq_of_testBit_eq
  intro i
  rw [Nat.testBit_xor, show 4294967295 = 2 ^ 32 - 1 from rfl, show 2 ^ 32 - 1 - n = 2 ^ 32 - (n + 1) from by omega, Nat.testBit_two_pow_sub_succ h, Nat.testBit_two_pow_sub_one]
  by_cases hi : i < 32
  · simp [hi]
  · have : n.testBit i = false := Nat.testBit_lt_two_pow (Nat.lt_of_lt_of_le h (Nat.pow_le_pow_right (by omega) (by omega)))
    simp [hi, this]

theorem upd3 (n m k a b c : Nat) : upd (n ^^^ m ^^^ k) (a ^^^ b ^^^ c) = upd n a ^^^ upd m b ^^^ upd k c := by
  rw [upd_eq, upd_eq, upd_eq, upd_eq, ← tab_xor, ← tab_xor]
  congr 1
  ac_rfl

/-- Three texts of one length, all turned together. -/
def tri : List UInt8 → List UInt8 → List UInt8 → List UInt8
  | a :: l, b :: m, c :: k => (a ^^^ b ^^^ c) :: tri l m k
  | _, _, _ => []

theorem run3 : ∀ (l m k : List UInt8) (x y z : Nat), l.length = m.length → m.length = k.length → run (x ^^^ y ^^^ z) (tri l m k) = run x l ^^^ run y m ^^^ run z k
  | [], [], [], _, _, _, _, _ => rfl
  | a :: l, b :: m, c :: k, x, y, z, h1, h2 => by
    show run (upd (x ^^^ y ^^^ z) (a ^^^ b ^^^ c).toNat) (tri l m k) = run (upd x a.toNat) l ^^^ run (upd y b.toNat) m ^^^ run (upd z c.toNat) k
    rw [UInt8.toNat_xor, UInt8.toNat_xor, upd3]
    exact run3 l m k _ _ _ (by simpa using h1) (by simpa using h2)

theorem more3 (n : Nat) (l m k : List UInt8) (h1 : l.length = m.length) (h2 : m.length = k.length) : more n (tri l m k) = more n l ^^^ more n m ^^^ more n k := by
  unfold more
  have e : cpl n = cpl n ^^^ cpl n ^^^ cpl n := by rw [Nat.xor_self, Nat.zero_xor]
  have h := run3 l m k (cpl n) (cpl n) (cpl n) h1 h2
  rw [← e] at h
  have i1 := run_lt l _ (cpl_lt n); have i2 := run_lt m _ (cpl_lt n); have i3 := run_lt k _ (cpl_lt n)
  rw [h, cpl_xor _ i1, cpl_xor _ i2, cpl_xor _ i3, cpl_xor _ (Nat.xor_lt_two_pow (Nat.xor_lt_two_pow i1 i2) i3)]
  generalize run (cpl n) l = a
  generalize run (cpl n) m = b
  generalize run (cpl n) k = c
  have : (4294967295 ^^^ a) ^^^ (4294967295 ^^^ b) ^^^ (4294967295 ^^^ c) = (4294967295 ^^^ 4294967295) ^^^ (4294967295 ^^^ (a ^^^ b ^^^ c)) := by ac_rfl
  rw [this, Nat.xor_self, Nat.zero_xor]

/-- A text, and the same with a byte, or two, turned: where the sums are one the texts are. -/
theorem more_turned (n : Nat) (p q : List UInt8) (a b c d : UInt8) (h : more n (p ++ a :: b :: q) = more n (p ++ c :: d :: q)) : a = c ∧ b = d := by
  unfold more at h
  have h1 := cpl_inj (run_lt _ _ (cpl_lt _)) (run_lt _ _ (cpl_lt _)) h
  rw [run_append, run_append] at h1
  have hr := run_lt p _ (cpl_lt n)
  have h2 := run_inj q _ _ (upd_lt _ _ (upd_lt _ _ hr a.toNat_lt) b.toNat_lt) (upd_lt _ _ (upd_lt _ _ hr c.toNat_lt) d.toNat_lt) h1
  exact turned _ hr _ _ _ _ h2
theorem more_turned1 (n : Nat) (p q : List UInt8) (a c : UInt8) (h : more n (p ++ a :: q) = more n (p ++ c :: q)) : a = c := by
  unfold more at h
  have h1 := cpl_inj (run_lt _ _ (cpl_lt _)) (run_lt _ _ (cpl_lt _)) h
  rw [run_append, run_append] at h1
  have hr := run_lt p _ (cpl_lt n)
  have h2 := run_inj q _ _ (upd_lt _ _ hr a.toNat_lt) (upd_lt _ _ hr c.toNat_lt) h1
  exact turned1 _ hr _ _ h2

theorem nine : more 0 [49, 50, 51, 52, 53, 54, 55, 56, 57] = 3421780262 := by decide +kernel
theorem nilSum : more 0 [] = 0 := by decide +kernel
end Go.Proofs.Ytjdaeaanheidiaa.Crc
