/- The register of a CRC-32 over numbers: linear, and never 0 again once it is not: a burst of at most 32 bits changes the sum. -/
namespace Go.Proofs.YtpjdgndbcjinjaaDoor.Crc
/-- one bit of a register -/
def stp (r : Nat) : Nat := if r % 2 = 1 then (r / 2) ^^^ 0xedb88320 else r / 2
def its : Nat → Nat → Nat
  | 0, r => r
  | n + 1, r => its n (stp r)
theorem its_add (m n r : Nat) : its (m + n) r = its n (its m r) := by
  induction m generalizing r with
  | zero => simp [its]
  | succ m ih => rw [Nat.succ_add]; exact ih (stp r)
theorem div2_xor (a b : Nat) : (a ^^^ b) / 2 = (a / 2) ^^^ (b / 2) := by
  have h := Nat.shiftRight_xor_distrib (a := a) (b := b) (i := 1)
  simpa [Nat.shiftRight_eq_div_pow] using h
theorem mod2_xor (a b : Nat) : (a ^^^ b) % 2 = (a + b) % 2 := by
  have h := Nat.testBit_xor a b 0
  simp only [Nat.testBit_zero] at h
  rcases Nat.mod_two_eq_zero_or_one a with ha | ha <;> rcases Nat.mod_two_eq_zero_or_one b with hb | hb <;> rcases Nat.mod_two_eq_zero_or_one (a ^^^ b) with hc | hc <;> simp [ha, hb, hc] at h <;> omega
theorem stp_xor (a b : Nat) : stp (a ^^^ b) = stp a ^^^ stp b := by
  unfold stp
  rw [div2_xor, mod2_xor]
  rcases Nat.mod_two_eq_zero_or_one a with ha | ha <;> rcases Nat.mod_two_eq_zero_or_one b with hb | hb
  · rw [if_neg (by omega), if_neg (by omega), if_neg (by omega)]
  · rw [if_pos (by omega), if_neg (by omega), if_pos (by omega), Nat.xor_assoc]
  · rw [if_pos (by omega), if_pos (by omega), if_neg (by omega), Nat.xor_assoc, Nat.xor_comm (b / 2), ← Nat.xor_assoc]
  · rw [if_neg (by omega), if_pos (by omega), if_pos (by omega)]
    rw [Nat.xor_assoc (a / 2), Nat.xor_comm (0xedb88320) ((b / 2) ^^^ 0xedb88320), Nat.xor_assoc (b / 2), Nat.xor_self, Nat.xor_zero]
theorem its_xor (n a b : Nat) : its n (a ^^^ b) = its n a ^^^ its n b := by
  induction n generalizing a b with
  | zero => rfl
  | succ n ih => simp only [its]; rw [stp_xor, ih]
theorem stp_lt {r : Nat} (h : r < 4294967296) : stp r < 4294967296 := by
  unfold stp
  split
  · exact Nat.xor_lt_two_pow (n := 32) (by omega) (by omega)
  · omega
theorem its_lt (n : Nat) : ∀ {r : Nat}, r < 4294967296 → its n r < 4294967296 := by
  induction n with
  | zero => intro r h; exact h
  | succ n ih => intro r h; exact ih (stp_lt h)
theorem stp_zero : stp 0 = 0 := rfl
theorem its_zero (n : Nat) : its n 0 = 0 := by induction n with
  | zero => rfl
  | succ n ih => simp only [its, stp_zero, ih]
theorem stp_even (r : Nat) : stp (2 * r) = r := by unfold stp; rw [if_neg (by omega)]; omega
/-- a register that is not 0 stays so -/
theorem stp_ne {r : Nat} (h : r < 4294967296) (h0 : r ≠ 0) : stp r ≠ 0 := by
  unfold stp
  split
  · intro e
    have h1 : r / 2 = 0xedb88320 := (by have h2 : (r / 2 ^^^ 0xedb88320) ^^^ 0xedb88320 = 0 ^^^ 0xedb88320 := by rw [e]
                                        rwa [Nat.xor_assoc, Nat.xor_self, Nat.xor_zero, Nat.zero_xor] at h2)
    omega
  · omega
theorem its_ne (n : Nat) : ∀ {r : Nat}, r < 4294967296 → r ≠ 0 → its n r ≠ 0 := by
  induction n with
  | zero => intro r _ h; exact h
  | succ n ih => intro r h h0; exact ih (stp_lt h) (stp_ne h h0)
/-- the table of the program -/
def tab : List Nat := [0x00000000, 0x1DB71064, 0x3B6E20C8, 0x26D930AC, 0x76DC4190, 0x6B6B51F4, 0x4DB26158, 0x5005713C, 0xEDB88320, 0xF00F9344, 0xD6D6A3E8, 0xCB61B38C, 0x9B64C2B0, 0x86D3D2D4, 0xA00AE278, 0xBDBDF21C]
theorem tab_ok : ∀ i < 16, its 4 i = tab.getD i 0 := by decide +kernel
theorem low_high (r : Nat) : r = (r % 16) ^^^ (16 * (r / 16)) := by
  apply Nat.eq_of_testBit_eq
  intro i
  rw [Nat.testBit_xor, show (16 : Nat) = 2 ^ 4 from rfl, Nat.testBit_mod_two_pow, Nat.testBit_two_pow_mul, Nat.testBit_div_two_pow]
  by_cases h : i < 4
  · simp [h, show ¬ 4 ≤ i by omega]
  · simp [h, show 4 ≤ i by omega, show i - 4 + 4 = i by omega]
theorem nibble (r : Nat) : its 4 r = tab.getD (r % 16) 0 ^^^ (r / 16) := by
  conv => lhs; rw [low_high r]
  rw [its_xor, tab_ok _ (by omega)]
  have : its 4 (16 * (r / 16)) = r / 16 := by
    simp only [its]
    rw [show 16 * (r / 16) = 2 * (2 * (2 * (2 * (r / 16)))) by omega, stp_even, stp_even, stp_even, stp_even]
  rw [this]
/-- a byte taken in -/
def upd (r b : Nat) : Nat := its 8 (r ^^^ b)
def reg (r : Nat) (l : List Nat) : Nat := l.foldl upd r
theorem reg_nil (r : Nat) : reg r [] = r := by unfold reg; rw [List.foldl_nil]
theorem reg_cons (r b : Nat) (l : List Nat) : reg r (b :: l) = reg (upd r b) l := by unfold reg; rw [List.foldl_cons]
theorem reg_append (r : Nat) (l m : List Nat) : reg r (l ++ m) = reg (reg r l) m := by unfold reg; rw [List.foldl_append]
theorem upd_lt {r b : Nat} (h : r < 4294967296) (hb : b < 256) : upd r b < 4294967296 := by
  have h1 : r ^^^ b < 4294967296 := Nat.xor_lt_two_pow (n := 32) h (by omega)
  unfold upd
  generalize r ^^^ b = q at h1 ⊢
  exact its_lt 8 h1
theorem reg_lt (l : List Nat) : ∀ {r : Nat}, r < 4294967296 → (∀ b ∈ l, b < 256) → reg r l < 4294967296 := by
  induction l with
  | nil => intro r h _; rw [reg_nil]; exact h
  | cons b l ih =>
    intro r h hl
    rw [reg_cons]
    have h1 := upd_lt h (hl b (by simp))
    generalize upd r b = q at h1 ⊢
    exact ih h1 (fun c hc => hl c (by simp [hc]))
/-- the sum -/
def sum (l : List Nat) : Nat := reg 0xffffffff l ^^^ 0xffffffff
theorem upd_xor (r s b c : Nat) : upd r b ^^^ upd s c = upd (r ^^^ s) (b ^^^ c) := by
  unfold upd
  rw [← its_xor]
  have e2 : (r ^^^ b) ^^^ (s ^^^ c) = (r ^^^ s) ^^^ (b ^^^ c) := by
    rw [Nat.xor_assoc, Nat.xor_assoc, ← Nat.xor_assoc b, Nat.xor_comm b s, Nat.xor_assoc s]
  rw [e2]
/-- two texts of one length: their registers part as the register of what they part in -/
theorem reg_xor (l : List Nat) : ∀ (m : List Nat) (r s : Nat), l.length = m.length → reg r l ^^^ reg s m = reg (r ^^^ s) (List.zipWith (· ^^^ ·) l m) := by
  induction l with
  | nil =>
    intro m r s h
    cases m with
    | nil => rw [List.zipWith_nil_left, reg_nil, reg_nil, reg_nil]
    | cons c m => simp at h
  | cons b l ih =>
    intro m r s h
    cases m with
    | nil => simp at h
    | cons c m => rw [List.zipWith_cons_cons, reg_cons, reg_cons, reg_cons, ih m _ _ (by simpa using h), upd_xor]
theorem upd_zero (r : Nat) : upd r 0 = its 8 r := by unfold upd; rw [Nat.xor_zero]
theorem reg_zeros (n : Nat) : ∀ r, reg r (List.replicate n 0) = its (8 * n) r := by
  induction n with
  | zero => intro r; rw [List.replicate_zero, reg_nil]; rfl
  | succ n ih => intro r; rw [List.replicate_succ, reg_cons, upd_zero, ih, Nat.mul_succ, Nat.add_comm, its_add]
/-! ### a text as one number -/
def num : List Nat → Nat
  | [] => 0
  | b :: l => b + 256 * num l
theorem add_xor {a n : Nat} (b : Nat) (h : a < 2 ^ n) : a + 2 ^ n * b = a ^^^ (2 ^ n * b) := by
  apply Nat.eq_of_testBit_eq
  intro i
  rw [Nat.add_comm, Nat.testBit_two_pow_mul_add _ h, Nat.testBit_xor, Nat.testBit_two_pow_mul]
  by_cases hi : i < n
  · simp [hi, show ¬ n ≤ i by omega]
  · simp only [hi, if_false, show n ≤ i by omega, decide_true, Bool.true_and]
    rw [Nat.testBit_lt_two_pow (Nat.lt_of_lt_of_le h (Nat.pow_le_pow_right (by omega) (by omega)))]
    simp
theorem its_shift (n : Nat) : ∀ x, its n (2 ^ n * x) = x := by
  induction n with
  | zero => intro x; rw [Nat.pow_zero, Nat.one_mul]; rfl
  | succ n ih => intro x; rw [Nat.pow_succ, Nat.mul_comm (2 ^ n) 2, Nat.mul_assoc]; show its n (stp (2 * (2 ^ n * x))) = x; rw [stp_even, ih]
theorem reg_num (l : List Nat) : ∀ r, (∀ b ∈ l, b < 256) → reg r l = its (8 * l.length) (r ^^^ num l) := by
  induction l with
  | nil => intro r _; rw [reg_nil]; show r = its 0 (r ^^^ 0); rw [Nat.xor_zero]; rfl
  | cons b l ih =>
    intro r h
    rw [reg_cons, ih _ (fun c hc => h c (by simp [hc])), List.length_cons, Nat.mul_succ, Nat.add_comm, its_add]
    have hb : b < 2 ^ 8 := h b (by simp)
    have e : its 8 (r ^^^ num (b :: l)) = upd r b ^^^ num l := by
      have e1 : num (b :: l) = b + 2 ^ 8 * num l := rfl
      have e2 := its_shift 8 (num l)
      rw [e1, add_xor _ hb, ← Nat.xor_assoc, its_xor, e2]
      unfold upd
      generalize its 8 (r ^^^ b) = q
      rfl
    rw [e]
theorem num_set (l : List Nat) : ∀ (j x : Nat), j < l.length → (∀ b ∈ l, b < 256) → x < 256 → num (l.set j (l.getD j 0 ^^^ x)) = num l ^^^ (2 ^ (8 * j) * x) := by
  induction l with
  | nil => intro j x h; simp at h
  | cons b l ih =>
    intro j x h hl hx
    have hb : b < 2 ^ 8 := hl b (by simp)
    cases j with
    | zero =>
      show (b ^^^ x) + 2 ^ 8 * num l = (b + 2 ^ 8 * num l) ^^^ (2 ^ 0 * x)
      rw [add_xor _ hb, add_xor _ (Nat.xor_lt_two_pow hb hx), Nat.pow_zero, Nat.one_mul, Nat.xor_assoc, Nat.xor_assoc, Nat.xor_comm x]
    | succ j =>
      show b + 2 ^ 8 * num (l.set j (l.getD j 0 ^^^ x)) = (b + 2 ^ 8 * num l) ^^^ (2 ^ (8 * (j + 1)) * x)
      rw [ih j x (by simpa using h) (fun c hc => hl c (by simp [hc])) hx, add_xor _ hb, add_xor _ hb, Nat.xor_assoc]
      have e : 2 ^ 8 * (num l ^^^ (2 ^ (8 * j) * x)) = (2 ^ 8 * num l) ^^^ (2 ^ (8 * (j + 1)) * x) := by
        have h2 : 2 ^ (8 * (j + 1)) * x = 2 ^ 8 * (2 ^ (8 * j) * x) := by rw [Nat.mul_succ, Nat.pow_add, Nat.mul_comm (2 ^ (8 * j)), Nat.mul_assoc]
        rw [h2]
        apply Nat.eq_of_testBit_eq
        intro i
        generalize 2 ^ (8 * j) * x = y
        rw [Nat.testBit_two_pow_mul, Nat.testBit_xor, Nat.testBit_xor, Nat.testBit_two_pow_mul, Nat.testBit_two_pow_mul]
        by_cases hi : 8 ≤ i <;> simp [hi]
      rw [e]
theorem set_lt {l : List Nat} {j x : Nat} (hl : ∀ b ∈ l, b < 256) (hx : x < 256) : ∀ b ∈ l.set j x, b < 256 := fun b hb => by
  rcases List.mem_or_eq_of_mem_set hb with h | h
  · exact hl b h
  · omega
theorem xor_ne {a b : Nat} (h : a ^^^ b ≠ 0) : a ≠ b := fun e => h (by rw [e, Nat.xor_self])
/-- two texts of one length that part in a burst of at most 32 bits have two sums -/
theorem burst {l m : List Nat} {n E : Nat} (hlen : l.length = m.length) (hl : ∀ b ∈ l, b < 256) (hm : ∀ b ∈ m, b < 256) (hn : n ≤ 8 * l.length) (hE : E < 4294967296) (h0 : E ≠ 0) (h : num m = num l ^^^ (2 ^ n * E)) : sum l ≠ sum m := by
  refine xor_ne ?_
  have e : sum l ^^^ sum m = reg 0xffffffff l ^^^ reg 0xffffffff m := by
    unfold sum
    generalize reg 0xffffffff l = a
    generalize reg 0xffffffff m = b
    rw [Nat.xor_comm b, Nat.xor_assoc, ← Nat.xor_assoc 0xffffffff, Nat.xor_self, Nat.zero_xor]
  rw [e, reg_num l _ hl, reg_num m _ hm, ← hlen, ← its_xor, h]
  have e2 : (0xffffffff ^^^ num l) ^^^ (0xffffffff ^^^ (num l ^^^ (2 ^ n * E))) = 2 ^ n * E := by
    generalize num l = a
    generalize 2 ^ n * E = b
    rw [Nat.xor_comm 0xffffffff a, Nat.xor_assoc, ← Nat.xor_assoc 0xffffffff, Nat.xor_self, Nat.zero_xor, ← Nat.xor_assoc, Nat.xor_self, Nat.zero_xor]
  rw [e2, show 8 * l.length = n + (8 * l.length - n) by omega, its_add, its_shift]
  exact its_ne _ hE h0
end Go.Proofs.YtpjdgndbcjinjaaDoor.Crc
