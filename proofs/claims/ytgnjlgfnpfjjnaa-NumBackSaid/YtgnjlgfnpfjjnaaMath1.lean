/- Plain facts on cells of sixteen bits: every primitive of one and of two cells, as the program and as the document computes it, comes to one answer. -/
import Derived.Test.YtgnjlgfnpfjjnaaPx4
import Derived.OpenShut
namespace Go.Proofs.Ytgnjlgfnpfjjnaa.Pure
set_option linter.unusedSimpArgs false
set_option linter.unusedVariables false
open Go.RowKit Go.Proofs.Ytgnjlgfnpfjjnaa.P Go.Proofs.YtgnjlgfnpfjjnaaW.PrintWords Go.Proofs.YtgnjlgfnpfjjnaaW.PrintLast Go.Proofs.YtgnjlgfnpfjjnaaW.PrintMore

theorem u16_wrap (n : Int) : IntKind.u16.wrap n = n % 65536 := by simp [IntKind.wrap, IntKind.bits, IntKind.signed]
theorem i16_wrap (n : Int) : IntKind.i16.wrap n = (n + 32768) % 65536 - 32768 := by
  simp only [IntKind.wrap, IntKind.bits, IntKind.signed]
  simp
  split <;> omega
/-- What the three operations on bits tell of two cells. -/
theorem bits_u16 (op : BinOp) (f : Nat → Nat → Nat) (hb : ∀ a b : Nat, a < 65536 → b < 65536 → f a b < 65536)
    (h : ∀ x y : BitVec 16, (match op with | .and => x &&& y | .or => x ||| y | .xor => x ^^^ y | _ => x &&& ~~~y).toNat = f x.toNat y.toNat)
    (a b : Nat) (ha : a < 65536) (hb' : b < 65536) : Go.bits op .u16 a b = (f a b : Nat) := by
  unfold Go.bits
  rw [u16_wrap]
  have e := h (BitVec.ofInt 16 a) (BitVec.ofInt 16 b)
  have ta : (BitVec.ofInt 16 (a : Int)).toNat = a := by simp; omega
  have tb : (BitVec.ofInt 16 (b : Int)).toNat = b := by simp; omega
  rw [ta, tb] at e
  have := hb a b ha hb'
  show (((match op with | .and => BitVec.ofInt 16 (a : Int) &&& BitVec.ofInt 16 (b : Int) | .or => BitVec.ofInt 16 (a : Int) ||| BitVec.ofInt 16 (b : Int) | .xor => BitVec.ofInt 16 (a : Int) ^^^ BitVec.ofInt 16 (b : Int) | _ => BitVec.ofInt 16 (a : Int) &&& ~~~BitVec.ofInt 16 (b : Int)).toNat : Nat) : Int) % 65536 = _
  rw [e]; omega
theorem and_u16 (a b : Nat) (ha : a < 65536) (hb : b < 65536) : Go.bits .and .u16 a b = (a &&& b : Nat) :=
  bits_u16 .and (· &&& ·) (fun a b h _ => Nat.and_lt_two_pow (n := 16) a (by omega)) (fun x y => by simp) a b ha hb
theorem or_u16 (a b : Nat) (ha : a < 65536) (hb : b < 65536) : Go.bits .or .u16 a b = (a ||| b : Nat) :=
  bits_u16 .or (· ||| ·) (fun a b h h' => Nat.or_lt_two_pow (n := 16) h h') (fun x y => by simp) a b ha hb
theorem xor_u16 (a b : Nat) (ha : a < 65536) (hb : b < 65536) : Go.bits .xor .u16 a b = (a ^^^ b : Nat) :=
  bits_u16 .xor (· ^^^ ·) (fun a b h h' => Nat.xor_lt_two_pow (n := 16) h h') (fun x y => by simp) a b ha hb
theorem not_u16 (x : Int) (h0 : 0 ≤ x) (h1 : x ≤ 65535) : Go.bits .xor .u16 65535 x = 65535 - x := by
  obtain ⟨n, rfl⟩ := Int.eq_ofNat_of_zero_le h0
  have h := xor_u16 65535 n (by omega) (by omega)
  rw [show ((65535 : Nat) : Int) = 65535 from rfl] at h
  rw [h]
  have e : (65535 ^^^ n : Nat) = 65535 - n := by
    have z : (BitVec.ofNat 16 65535 ^^^ BitVec.ofNat 16 n).toNat = 65535 ^^^ n := by
      rw [BitVec.toNat_xor, BitVec.toNat_ofNat, BitVec.toNat_ofNat]
      rw [Nat.mod_eq_of_lt (by omega : 65535 < 2 ^ 16), Nat.mod_eq_of_lt (by omega : n < 2 ^ 16)]
    rw [← z, show BitVec.ofNat 16 65535 = BitVec.allOnes 16 from rfl, BitVec.allOnes_xor, BitVec.toNat_not, BitVec.toNat_ofNat, Nat.mod_eq_of_lt (by omega : n < 2 ^ 16)]
  rw [e]; omega
theorem ite_same {α : Type} {c d : Prop} [Decidable c] [Decidable d] {a a' b b' : α} (hc : c ↔ d) (h1 : d → a = a') (h2 : ¬ d → b = b') : (if c then a else b) = (if d then a' else b') := by
  by_cases h : d
  · rw [if_pos (hc.2 h), if_pos h, h1 h]
  · rw [if_neg (fun z => h (hc.1 z)), if_neg h, h2 h]

def sg (x : Int) : Int := if 32768 ≤ x then x - 65536 else x
theorem sg_bd {x : Int} (h0 : 0 ≤ x) (h1 : x ≤ 65535) : -32768 ≤ sg x ∧ sg x ≤ 32767 := by unfold sg; split <;> omega
theorem nSigned {x : Int} (h0 : 0 ≤ x) (h1 : x ≤ 65535) : num_Signed.f x = some (sg x) := by
  unfold num_Signed.f sg wrap64
  rw [i16_wrap]
  split <;> (congr 1; omega)
theorem rSigned {x : Int} (h0 : 0 ≤ x) (h1 : x ≤ 65535) : wispref01_Signed.f x = some (sg x) := by
  unfold wispref01_Signed.f sg wrap64
  by_cases h : x ≥ 32768
  · rw [if_pos h, if_pos h]; congr 1; omega
  · rw [if_neg h, if_neg h]; congr 1; omega
theorem nCell (n : Int) : num_Cell.f n = some (n % 65536) := by unfold num_Cell.f; rw [u16_wrap]
theorem rCell (n : Int) : wispref01_Cell.f n = some (n % 65536) := by
  unfold wispref01_Cell.f wrap64
  rw [u16_wrap, u16_wrap]
  have := Int.tmod_eq_emod (a := n) (b := 65536)
  split at this <;> split <;> (congr 1; omega)
theorem nFlag (b : Bool) : num_Flag.f b = some (if b then 65535 else 0) := by cases b <;> rfl
theorem rFlag (b : Bool) : wispref01_Flag.f b = some (if b then 65535 else 0) := by cases b <;> rfl

theorem rHalf {s : Int} (h0 : -32768 ≤ s) (h1 : s ≤ 32767) : wispref01_half.f s = some (s / 2) := by
  unfold wispref01_half.f wrap64
  have := Int.tdiv_eq_ediv (a := s) (b := 2)
  simp only [show Int.sign 2 = 1 from rfl] at this
  split at this <;> split <;> (congr 1; omega)
theorem wrap64_u {x : Int} (h0 : -4611686018427387904 ≤ x) (h1 : x ≤ 4611686018427387904) : wrap64 x = x := by unfold wrap64; omega

theorem unary_same (op x : Int) (h0 : 0 ≤ x) (h1 : x ≤ 65535) : ∃ r, num_Unary.f op x = some r ∧ wispref01_Unary.f op x = some r := by
  have hs := sg_bd h0 h1
  unfold num_Unary.f wispref01_Unary.f
  rw [rSigned h0 h1, nSigned h0 h1]
  simp only [Option.bind_some, nCell, rCell, nFlag, rFlag, rHalf hs.1 hs.2, u16_wrap]
  by_cases e : op = 29
  · subst e
    simp
    by_cases h : x < 32768
    · have : ¬ sg x < 0 := by unfold sg; split <;> omega
      simp [h, this]
    · have : sg x < 0 := by unfold sg; split <;> omega
      simp [h, this]
      rw [not_u16 _ (by omega) (by omega)]
      unfold sg wrap64; split <;> omega
  by_cases e : op = 28
  · subst e
    simp
    rw [not_u16 _ (by omega) (by omega)]
    unfold wrap64; omega
  by_cases e : op = 39
  · subst e
    simp
    rw [not_u16 _ (by omega) (by omega)]
    unfold wrap64; omega
  by_cases e : op = 32
  · subst e; simp; unfold wrap64; omega
  by_cases e : op = 33
  · subst e; simp; unfold wrap64; omega
  by_cases e : op = 34
  · subst e; simp; unfold wrap64; omega
  by_cases e : op = 35
  · subst e; simp
  by_cases e : op = 48
  · subst e; simp
  by_cases e : op = 49
  · subst e; simp; unfold sg; split <;> split <;> (first | rfl | omega)
  simp [*]
/-! ### bits, one by one -/
theorem tbit (a i : Nat) (ha : a < 65536) : Int.tmod (wrap64 (Int.tdiv (wrap64 (a : Int)) ((2 ^ i : Nat) : Int))) 2 = ((a / 2 ^ i % 2 : Nat) : Int) := by
  have h := Nat.div_le_self a (2 ^ i)
  have e : Int.tdiv (a : Int) ((2 ^ i : Nat) : Int) = ((a / 2 ^ i : Nat) : Int) := (Int.ofNat_tdiv _ _).symm
  rw [wrap64_u (x := (a : Int)) (by omega) (by omega), e]
  generalize a / 2 ^ i = q at h ⊢
  rw [wrap64_u (by omega) (by omega), Int.tmod_eq_emod_of_nonneg (by omega)]
  omega
theorem two_pow_bd (i : Nat) (h : i ≤ 16) : 1 ≤ 2 ^ i ∧ 2 ^ i ≤ 65536 := ⟨Nat.one_le_two_pow, Nat.pow_le_pow_right (n := 2) (by omega) h⟩
theorem bits_step (z v u : Nat) (c : Bool) (hv : 0 < v) (hv2 : v ≤ 32768) (hu : u = v * 2) (hb : z / v % 2 = if c = true then 1 else 0) : ((z % u : Nat) : Int) = if c = true then wrap64 (((z % v : Nat) : Int) + (v : Int)) else ((z % v : Nat) : Int) := by
  have hs : z % (v * 2) = z % v + v * (z / v % 2) := Nat.mod_mul
  have hm : z % v < v := Nat.mod_lt _ hv
  rw [hu, hs, hb]
  generalize z % v = m at *
  cases c
  · simp
  · simp only [if_true]
    rw [wrap64_u (by omega) (by omega)]; omega
theorem bits_loop (x0 : Int) (f : Nat → Nat → Nat) (t : Nat → Nat → Bool) (a b : Nat) (ha : a < 65536) (hb : b < 65536) (hf : f a b < 65536)
    (hbit : ∀ i, f a b / 2 ^ i % 2 = if t (a / 2 ^ i % 2) (b / 2 ^ i % 2) = true then 1 else 0)
    (hl : ∀ (k : Nat) (o i v : Int) (p q : Nat), i < 16 → v ≠ 0 → Int.tmod (wrap64 (Int.tdiv (wrap64 (a : Int)) v)) 2 = (p : Int) → Int.tmod (wrap64 (Int.tdiv (wrap64 (b : Int)) v)) 2 = (q : Int) → p < 2 → q < 2 →
      wispref01_bits.l0 (k + 1) x0 a b o i v = wispref01_bits.l0 k x0 a b (if t p q = true then wrap64 (o + v) else o) (wrap64 (i + 1)) (wrap64 (v * 2))) (d : Nat) :
    ∀ (k i : Nat), i + d = 16 → d < k → wispref01_bits.l0 k x0 a b ((f a b % 2 ^ i : Nat) : Int) (i : Int) ((2 ^ i : Nat) : Int) = some ((f a b : Nat) : Int) := by
  induction d with
  | zero =>
    intro k i hi hk
    obtain ⟨k, rfl⟩ : ∃ m, k = m + 1 := ⟨k - 1, by omega⟩
    obtain rfl : i = 16 := by omega
    simp only [wispref01_bits.l0]
    rw [if_neg (by omega), rCell, Nat.mod_eq_of_lt hf]
    simp only [Option.bind_some]
    congr 1; omega
  | succ d ih =>
    intro k i hi hk
    obtain ⟨k, rfl⟩ : ∃ m, k = m + 1 := ⟨k - 1, by omega⟩
    have hp := two_pow_bd i (by omega)
    have hp1 : 2 ^ i ≤ 32768 := Nat.pow_le_pow_right (n := 2) (j := 15) (by omega) (by omega)
    have e2 : (2 : Nat) ^ (i + 1) = 2 ^ i * 2 := Nat.pow_succ ..
    have st := bits_step (f a b) (2 ^ i) (2 ^ (i + 1)) _ hp.1 hp1 e2 (hbit i)
    have w1 : wrap64 ((i : Int) + 1) = ((i + 1 : Nat) : Int) := by rw [wrap64_u (by omega) (by omega)]; omega
    have w2 : wrap64 (((2 ^ i : Nat) : Int) * 2) = ((2 ^ (i + 1) : Nat) : Int) := by
      rw [e2]
      generalize 2 ^ i = v at *
      rw [wrap64_u (by omega) (by omega)]; omega
    have nz : ((2 ^ i : Nat) : Int) ≠ 0 := by generalize 2 ^ i = v at *; omega
    rw [hl k _ _ _ _ _ (by omega) nz (tbit a i ha) (tbit b i hb) (Nat.mod_lt _ (by omega)) (Nat.mod_lt _ (by omega)), w1, w2, ← st]
    exact ih k (i + 1) (by omega) (by omega)
theorem rBits (x0 : Int) (hx : x0 = 36 ∨ x0 = 37 ∨ x0 = 38) (a b : Nat) (ha : a < 65536) (hb : b < 65536) (k : Nat) (hk : 16 < k) :
    wispref01_bits.f k x0 a b = some (((if x0 = 36 then a &&& b else if x0 = 37 then a ||| b else a ^^^ b : Nat)) : Int) := by
  unfold wispref01_bits.f
  rcases hx with rfl | rfl | rfl
  · have h := bits_loop 36 (· &&& ·) (fun p q => decide (p + q = 2)) a b ha hb (Nat.and_lt_two_pow (n := 16) a (by omega)) ?_ ?_ 16 k 0 rfl hk
    · simpa [Nat.mod_one] using h
    · intro i
      have e : (a &&& b) / 2 ^ i % 2 = (a / 2 ^ i % 2) &&& (b / 2 ^ i % 2) := by
        rw [Nat.and_div_two_pow]; exact Nat.and_mod_two_pow (n := 1)
      show (a &&& b) / 2 ^ i % 2 = _
      rw [e]
      rcases Nat.mod_two_eq_zero_or_one (a / 2 ^ i) with p | p <;> rcases Nat.mod_two_eq_zero_or_one (b / 2 ^ i) with q | q <;> rw [p, q] <;> rfl
    · intro k o i v p q hi hv h1 h2 hp hq
      simp only [wispref01_bits.l0]
      rw [if_pos hi, if_neg hv, h1, h2, wrap64_u (by omega) (by omega)]
      by_cases c : p + q = 2
      · have c' : (p : Int) + (q : Int) = 2 := by omega
        simp [c, c']
      · have c' : ¬ ((p : Int) + (q : Int) = 2) := by omega
        simp only [c', decide_eq_true_eq, c, if_false, if_true]
        simp
  · have h := bits_loop 37 (· ||| ·) (fun p q => decide (p + q > 0)) a b ha hb (Nat.or_lt_two_pow (n := 16) (by omega) (by omega)) ?_ ?_ 16 k 0 rfl hk
    · simpa [Nat.mod_one] using h
    · intro i
      have e : (a ||| b) / 2 ^ i % 2 = (a / 2 ^ i % 2) ||| (b / 2 ^ i % 2) := by
        rw [Nat.or_div_two_pow]; exact Nat.or_mod_two_pow (n := 1)
      show (a ||| b) / 2 ^ i % 2 = _
      rw [e]
      rcases Nat.mod_two_eq_zero_or_one (a / 2 ^ i) with p | p <;> rcases Nat.mod_two_eq_zero_or_one (b / 2 ^ i) with q | q <;> rw [p, q] <;> rfl
    · intro k o i v p q hi hv h1 h2 hp hq
      simp only [wispref01_bits.l0]
      rw [if_pos hi, if_neg hv, h1, h2, wrap64_u (by omega) (by omega)]
      by_cases c : p + q > 0
      · have c' : (p : Int) + (q : Int) > 0 := by omega
        simp [c, c']
      · have c' : ¬ ((p : Int) + (q : Int) > 0) := by omega
        simp only [c', decide_eq_true_eq, c, if_false, if_true]
        simp
  · have h := bits_loop 38 (· ^^^ ·) (fun p q => decide (p + q = 1)) a b ha hb (Nat.xor_lt_two_pow (n := 16) (by omega) (by omega)) ?_ ?_ 16 k 0 rfl hk
    · simpa [Nat.mod_one] using h
    · intro i
      have e : (a ^^^ b) / 2 ^ i % 2 = (a / 2 ^ i % 2) ^^^ (b / 2 ^ i % 2) := by
        rw [Nat.xor_div_two_pow]; exact Nat.xor_mod_two_pow (n := 1)
      show (a ^^^ b) / 2 ^ i % 2 = _
      rw [e]
      rcases Nat.mod_two_eq_zero_or_one (a / 2 ^ i) with p | p <;> rcases Nat.mod_two_eq_zero_or_one (b / 2 ^ i) with q | q <;> rw [p, q] <;> rfl
    · intro k o i v p q hi hv h1 h2 hp hq
      simp only [wispref01_bits.l0]
      rw [if_pos hi, if_neg hv, h1, h2, wrap64_u (by omega) (by omega)]
      by_cases c : p + q = 1
      · have c' : (p : Int) + (q : Int) = 1 := by omega
        simp [c, c']
      · have c' : ¬ ((p : Int) + (q : Int) = 1) := by omega
        simp only [c', decide_eq_true_eq, c, if_false, if_true]
        simp
theorem rPower (y : Nat) (hy : y ≤ 15) (d : Nat) : ∀ k i : Nat, i + d = y → d < k → wispref01_power.l0 k y ((2 ^ i : Nat) : Int) i = some ((2 ^ y : Nat) : Int) := by
  induction d with
  | zero =>
    intro k i hi hk
    obtain ⟨k, rfl⟩ : ∃ m, k = m + 1 := ⟨k - 1, by omega⟩
    obtain rfl : i = y := by omega
    simp only [wispref01_power.l0]
    rw [if_neg (by omega)]
  | succ d ih =>
    intro k i hi hk
    obtain ⟨k, rfl⟩ : ∃ m, k = m + 1 := ⟨k - 1, by omega⟩
    have hp1 := two_pow_bd i (by omega)
    have e2 : (2 : Nat) ^ (i + 1) = 2 ^ i * 2 := Nat.pow_succ ..
    have w1 : wrap64 ((i : Int) + 1) = ((i + 1 : Nat) : Int) := by rw [wrap64_u (by omega) (by omega)]; omega
    have w2 : wrap64 (2 * ((2 ^ i : Nat) : Int)) = ((2 ^ (i + 1) : Nat) : Int) := by
      rw [e2]
      generalize 2 ^ i = v at *
      rw [wrap64_u (by omega) (by omega)]; omega
    simp only [wispref01_power.l0]
    rw [if_pos (by omega), w1, w2]
    exact ih k (i + 1) (by omega) (by omega)
/-! ### quotients -/
theorem tdiv_bd (s t : Int) (n : Nat) (h0 : s.natAbs ≤ n) : (Int.tdiv s t).natAbs ≤ n := by
  rw [Int.natAbs_tdiv]; exact Nat.le_trans (Nat.div_le_self _ _) h0
theorem rQuotient {s t : Int} (hs0 : -32768 ≤ s) (hs1 : s ≤ 32767) (ht0 : -32768 ≤ t) (ht1 : t ≤ 32767) (ht : t ≠ 0) : wispref01_quotient.f s t = some (Int.tdiv s t) := by
  have aw : ∀ n : Int, -32768 ≤ n → n ≤ 32767 → wispref01_away.f n = some (if n < 0 then -n else n) := by
    intro n h0 h1
    unfold wispref01_away.f
    split
    · rw [wrap64_u (by omega) (by omega)]
    · rfl
  unfold wispref01_quotient.f
  rw [aw s hs0 hs1, aw t ht0 ht1]
  simp only [Option.bind_some]
  rw [if_neg (by split <;> omega)]
  have bd := tdiv_bd s t 32768 (by omega)
  by_cases a : s < 0 <;> by_cases b : t < 0 <;> simp only [a, b, if_true, if_false, decide_true, decide_false, bne_self_eq_false, Bool.false_eq_true]
  · rw [Int.neg_tdiv, Int.tdiv_neg, Int.neg_neg, wrap64_u (by omega) (by omega)]
  · rw [if_pos (by decide), Int.neg_tdiv, wrap64_u (x := -s.tdiv t) (by omega) (by omega), Int.neg_neg, wrap64_u (by omega) (by omega)]
  · rw [if_pos (by decide), Int.tdiv_neg, wrap64_u (x := -s.tdiv t) (by omega) (by omega), Int.neg_neg, wrap64_u (by omega) (by omega)]
  · rw [wrap64_u (by omega) (by omega)]
theorem div_same (op x y : Int) (hx0 : 0 ≤ x) (hx1 : x ≤ 65535) (hy0 : 0 ≤ y) (hy1 : y ≤ 65535) (hy : y ≠ 0) (hop : op = 24 ∨ op = 25 ∨ op = 26 ∨ op = 27) :
    ∃ r, num_divided.f op x y = some r ∧ wispref01_divides.f op x y = some r := by
  have hs := sg_bd hx0 hx1
  have ht := sg_bd hy0 hy1
  have hn : sg y ≠ 0 := by unfold sg; split <;> omega
  have wx : wrap64 x = x := wrap64_u (by omega) (by omega)
  have wy : wrap64 y = y := wrap64_u (by omega) (by omega)
  have bd := tdiv_bd (sg x) (sg y) 32768 (by omega)
  have bd2 := tdiv_bd x y 65535 (by omega)
  have wq : wrap64 ((sg x).tdiv (sg y)) = (sg x).tdiv (sg y) := wrap64_u (by omega) (by omega)
  have wq2 : wrap64 (x.tdiv y) = x.tdiv y := wrap64_u (by omega) (by omega)
  unfold num_divided.f wispref01_divides.f
  rw [if_neg hy, nSigned hx0 hx1, nSigned hy0 hy1, rSigned hx0 hx1, rSigned hy0 hy1]
  simp only [Option.bind_some, nCell, rCell, rQuotient hs.1 hs.2 ht.1 ht.2 hn, wx, wy, wq, wq2, if_neg hy, if_neg hn]
  rcases hop with rfl | rfl | rfl | rfl
  · simp
  · simp
    rw [Int.tmod_def, Int.mul_comm (sg y)]
    have m1 := Int.tmod_def (sg x) (sg y)
    have m2 : ((sg x).tmod (sg y)).natAbs ≤ 32768 := by rw [Int.natAbs_tmod]; exact Nat.le_trans (Nat.mod_le _ _) (by omega)
    rw [m1, Int.mul_comm (sg y)] at m2
    generalize (sg x).tdiv (sg y) * sg y = z at *
    rw [wrap64_u (x := z) (by omega) (by omega), wrap64_u (by omega) (by omega)]
  · simp
  · simp
    rw [Int.tmod_def, Int.mul_comm y]
    have m1 := Int.tmod_def x y
    have m2 : (x.tmod y).natAbs ≤ 65535 := by rw [Int.natAbs_tmod]; exact Nat.le_trans (Nat.mod_le _ _) (by omega)
    rw [m1, Int.mul_comm y] at m2
    generalize x.tdiv y * y = z at *
    rw [wrap64_u (x := z) (by omega) (by omega), wrap64_u (by omega) (by omega)]
/-! ### each primitive of two cells -/
def Both (op x y : Int) : Prop := ∃ r, ∃ K, ∀ k, K ≤ k → num_Binary.f k op x y = some r ∧ wispref01_Binary.f k op x y = some r
theorem Both.of {op x y : Int} (r : Int × Bool) (h : ∀ k, num_Binary.f (k + 20) op x y = some r ∧ wispref01_Binary.f (k + 20) op x y = some r) : Both op x y :=
  ⟨r, 20, fun k hk => by obtain ⟨k, rfl⟩ : ∃ m, k = m + 20 := ⟨k - 20, by omega⟩; exact h k⟩
theorem mn_sg {x y : Int} : mn x y = if y < x then y else x := rfl
theorem mx_sg {x y : Int} : mx x y = if x < y then y else x := rfl
theorem sg_mod {x : Int} (h0 : 0 ≤ x) (h1 : x ≤ 65535) : sg x % 65536 = x := by unfold sg; split <;> omega
theorem same_a (x y : Int) (hx0 : 0 ≤ x) (hx1 : x ≤ 65535) (hy0 : 0 ≤ y) (hy1 : y ≤ 65535) : Both 21 x y := by
  have wx : wrap64 x = x := wrap64_u (by omega) (by omega)
  have wy : wrap64 y = y := wrap64_u (by omega) (by omega)
  refine Both.of ((x + y) % 65536, true) fun k => ⟨by simp [num_Binary.f, u16_wrap], ?_⟩
  simp [wispref01_Binary.f, rSigned hx0 hx1, rSigned hy0 hy1, rCell, wx, wy, wrap64_u (x := x + y) (by omega) (by omega)]
theorem same_b (x y : Int) (hx0 : 0 ≤ x) (hx1 : x ≤ 65535) (hy0 : 0 ≤ y) (hy1 : y ≤ 65535) : Both 22 x y := by
  have wx : wrap64 x = x := wrap64_u (by omega) (by omega)
  have wy : wrap64 y = y := wrap64_u (by omega) (by omega)
  refine Both.of ((x - y) % 65536, true) fun k => ⟨by simp [num_Binary.f, u16_wrap]; omega, ?_⟩
  simp [wispref01_Binary.f, rSigned hx0 hx1, rSigned hy0 hy1, rCell, wx, wy, wrap64_u (x := x - y) (by omega) (by omega)]
theorem same_c (x y : Int) (hx0 : 0 ≤ x) (hx1 : x ≤ 65535) (hy0 : 0 ≤ y) (hy1 : y ≤ 65535) : Both 23 x y := by
  have wx : wrap64 x = x := wrap64_u (by omega) (by omega)
  have wy : wrap64 y = y := wrap64_u (by omega) (by omega)
  have m0 : 0 ≤ x * y := Int.mul_nonneg hx0 hy0
  have m1 : x * y ≤ 4294836225 := Int.mul_le_mul hx1 hy1 hy0 (by omega)
  refine Both.of (x * y % 65536, true) fun k => ⟨by simp [num_Binary.f, u16_wrap], ?_⟩
  simp [wispref01_Binary.f, rSigned hx0 hx1, rSigned hy0 hy1, rCell, wx, wy]
  rw [wrap64_u (by omega) (by omega)]
theorem same_d (op x y : Int) (hx0 : 0 ≤ x) (hx1 : x ≤ 65535) (hy0 : 0 ≤ y) (hy1 : y ≤ 65535) (e : op = 24 ∨ op = 25 ∨ op = 26 ∨ op = 27) : Both op x y := by
  by_cases hy : y = 0
  · subst hy
    refine Both.of (0, true) fun k => ?_
    rcases e with rfl | rfl | rfl | rfl <;> simp [num_Binary.f, num_Binary.j0, num_divided.f, wispref01_Binary.f, wispref01_Binary.j0, rSigned hx0 hx1, rSigned hy0 hy1]
  · obtain ⟨r, h1, h2⟩ := div_same op x y hx0 hx1 hy0 hy1 hy e
    refine Both.of (r, true) fun k => ?_
    rcases e with rfl | rfl | rfl | rfl <;> simp [num_Binary.f, num_Binary.j0, h1, h2, hy, wispref01_Binary.f, wispref01_Binary.j0, rSigned hx0 hx1, rSigned hy0 hy1]
theorem same_e (x y : Int) (hx0 : 0 ≤ x) (hx1 : x ≤ 65535) (hy0 : 0 ≤ y) (hy1 : y ≤ 65535) : Both 30 x y := by
  refine Both.of (if sg y < sg x then y else x, true) fun k => ?_
  simp [num_Binary.f, num_Binary.j0, num_compared.f, wispref01_Binary.f, wispref01_Binary.j0, rSigned hx0 hx1, rSigned hy0 hy1, nSigned hx0 hx1, nSigned hy0 hy1, rCell, mn_sg]
  split <;> simp [sg_mod, *]
theorem same_f (x y : Int) (hx0 : 0 ≤ x) (hx1 : x ≤ 65535) (hy0 : 0 ≤ y) (hy1 : y ≤ 65535) : Both 31 x y := by
  refine Both.of (if sg x < sg y then y else x, true) fun k => ?_
  simp [num_Binary.f, num_Binary.j0, num_compared.f, wispref01_Binary.f, wispref01_Binary.j0, rSigned hx0 hx1, rSigned hy0 hy1, nSigned hx0 hx1, nSigned hy0 hy1, rCell, mx_sg]
  split <;> simp [sg_mod, *]
theorem same_g (op x y : Int) (hx0 : 0 ≤ x) (hx1 : x ≤ 65535) (hy0 : 0 ≤ y) (hy1 : y ≤ 65535) (e3 : op = 36 ∨ op = 37 ∨ op = 38) : Both op x y := by
  obtain ⟨a, rfl⟩ := Int.eq_ofNat_of_zero_le hx0
  obtain ⟨b, rfl⟩ := Int.eq_ofNat_of_zero_le hy0
  refine Both.of (((if op = 36 then a &&& b else if op = 37 then a ||| b else a ^^^ b : Nat) : Int), true) fun k => ?_
  have hb := rBits op e3 a b (by omega) (by omega) (k + 18) (by omega)
  rcases e3 with rfl | rfl | rfl <;> simp [num_Binary.f, num_Binary.j0, wispref01_Binary.f, wispref01_Binary.j0, wispref01_Binary.j1, rSigned hx0 hx1, rSigned hy0 hy1, hb, and_u16 a b (by omega) (by omega), or_u16 a b (by omega) (by omega), xor_u16 a b (by omega) (by omega)]
theorem same_h (op x y : Int) (hx0 : 0 ≤ x) (hx1 : x ≤ 65535) (hy0 : 0 ≤ y) (hy1 : y ≤ 65535) (e4 : op = 40 ∨ op = 41) (hy : y > 15) : Both op x y := by
  refine Both.of (0, true) fun k => ?_
  have hm : min y.toNat 16 = 16 := by omega
  have s1 : shl .u16 x y = 0 := by
    simp only [shl, u16_wrap, IntKind.bits, hm]; omega
  have s2 : shr .u16 x y = 0 := by
    simp only [shr, IntKind.bits, hm]; omega
  rcases e4 with rfl | rfl <;> simp [num_Binary.f, num_Binary.j0, wispref01_Binary.f, wispref01_Binary.j0, wispref01_Binary.j1, wispref01_Binary.j2, rSigned hx0 hx1, rSigned hy0 hy1, hy, hy0, s1, s2]
theorem pw_cast (b : Nat) : (2 : Int) ^ b = ((2 ^ b : Nat) : Int) := by simp
theorem same_i (op x : Int) (b : Nat) (hx0 : 0 ≤ x) (hx1 : x ≤ 65535) (hy : b ≤ 15) (e4 : op = 40 ∨ op = 41) : Both op x b := by
  have wx : wrap64 x = x := wrap64_u (by omega) (by omega)
  have wy : wrap64 (b : Int) = b := wrap64_u (by omega) (by omega)
  have hy0 : (0 : Int) ≤ b := by omega
  have hy1 : (b : Int) ≤ 65535 := by omega
  have hpb := two_pow_bd b (by omega)
  have hm : min ((b : Int).toNat) 16 = b := by omega
  have s1 : shl .u16 x b = x * ((2 ^ b : Nat) : Int) % 65536 := by simp only [shl, u16_wrap, IntKind.bits, hm, pw_cast]
  have s2 : shr .u16 x b = x / ((2 ^ b : Nat) : Int) := by simp only [shr, IntKind.bits, hm, pw_cast]
  have hpw : ∀ k, wispref01_power.f (k + 17) (b : Int) = some ((2 ^ b : Nat) : Int) := fun k => rPower b hy b (k + 17) 0 (by omega) (by omega)
  generalize (2 ^ b : Nat) = p at *
  have m0 : 0 ≤ x * (p : Int) := Int.mul_nonneg hx0 (by omega)
  have m1 : x * (p : Int) ≤ 65535 * 65536 := Int.mul_le_mul hx1 (by omega) (by omega) (by omega)
  have bd2 := tdiv_bd x (p : Int) 65535 (by omega)
  have td : Int.tdiv x (p : Int) = x / (p : Int) := Int.tdiv_eq_ediv_of_nonneg hx0
  have lt : (p : Int) ≠ 0 := by omega
  have hy' : ¬ (b : Int) > 15 := by omega
  have wm : wrap64 (x * (p : Int)) = x * (p : Int) := wrap64_u (by omega) (by omega)
  have d0 : 0 ≤ x / (p : Int) := Int.ediv_nonneg hx0 (by omega)
  have wd : wrap64 (Int.tdiv x (p : Int)) = x / (p : Int) := by rw [wrap64_u (by omega) (by omega), td]
  have dm : x / (p : Int) % 65536 = x / (p : Int) := by rw [← td] at d0 ⊢; omega
  rcases e4 with rfl | rfl
  · refine Both.of (x * (p : Int) % 65536, true) fun k => ?_
    constructor
    · simp [num_Binary.f, num_Binary.j0, hy0, s1]
    · have := hpw k
      simp [wispref01_Binary.f, wispref01_Binary.j0, wispref01_Binary.j1, wispref01_Binary.j2, rSigned hx0 hx1, rSigned hy0 hy1, this, rCell, wx, wy, hy', wm]
  · refine Both.of (x / (p : Int), true) fun k => ?_
    constructor
    · simp [num_Binary.f, num_Binary.j0, hy0, s2]
    · have := hpw k
      simp [wispref01_Binary.f, wispref01_Binary.j0, wispref01_Binary.j1, wispref01_Binary.j2, rSigned hx0 hx1, rSigned hy0 hy1, this, rCell, wx, wy, hy', lt, wd, dm]
      omega
theorem binary_same (op x y : Int) (hx0 : 0 ≤ x) (hx1 : x ≤ 65535) (hy0 : 0 ≤ y) (hy1 : y ≤ 65535) : Both op x y := by
  by_cases e : op = 21
  · subst e; exact same_a x y hx0 hx1 hy0 hy1
  by_cases e : op = 22
  · subst e; exact same_b x y hx0 hx1 hy0 hy1
  by_cases e : op = 23
  · subst e; exact same_c x y hx0 hx1 hy0 hy1
  by_cases e : op = 24 ∨ op = 25 ∨ op = 26 ∨ op = 27
  · exact same_d op x y hx0 hx1 hy0 hy1 e
  by_cases e : op = 30
  · subst e; exact same_e x y hx0 hx1 hy0 hy1
  by_cases e : op = 31
  · subst e; exact same_f x y hx0 hx1 hy0 hy1
  by_cases e : op = 36 ∨ op = 37 ∨ op = 38
  · exact same_g op x y hx0 hx1 hy0 hy1 e
  by_cases e : op = 40 ∨ op = 41
  · by_cases hy : y > 15
    · exact same_h op x y hx0 hx1 hy0 hy1 e hy
    · obtain ⟨b, rfl⟩ := Int.eq_ofNat_of_zero_le hy0
      exact same_i op x b hx0 hx1 (by omega) e
  have h27 : (op == 27) = false := by simp; omega
  have h38 : (op == 38) = false := by simp; omega
  have h41 : (op == 41) = false := by simp; omega
  have n24 : op ≠ 24 := by omega
  have n25 : op ≠ 25 := by omega
  have n26 : op ≠ 26 := by omega
  have n36 : op ≠ 36 := by omega
  have n37 : op ≠ 37 := by omega
  have n38 : op ≠ 38 := by omega
  have n40 : op ≠ 40 := by omega
  have n41 : op ≠ 41 := by omega
  by_cases e2 : op = 42
  · subst e2; exact Both.of (if x = y then 65535 else 0, true) fun k => by simp [num_Binary.f, num_Binary.j0, num_compared.f, nFlag, wispref01_Binary.f, wispref01_Binary.j0, wispref01_Binary.j1, wispref01_Binary.j2, rSigned hx0 hx1, rSigned hy0 hy1, rFlag]
  by_cases e2 : op = 43
  · subst e2; exact Both.of (if x = y then 0 else 65535, true) fun k => by simp [num_Binary.f, num_Binary.j0, num_compared.f, nFlag, wispref01_Binary.f, wispref01_Binary.j0, wispref01_Binary.j1, wispref01_Binary.j2, rSigned hx0 hx1, rSigned hy0 hy1, rFlag]
  by_cases e2 : op = 44
  · subst e2; exact Both.of (if sg x < sg y then 65535 else 0, true) fun k => by simp [num_Binary.f, num_Binary.j0, num_compared.f, num_compared.j0, nFlag, nSigned hx0 hx1, nSigned hy0 hy1, wispref01_Binary.f, wispref01_Binary.j0, wispref01_Binary.j1, wispref01_Binary.j2, rSigned hx0 hx1, rSigned hy0 hy1, rFlag]
  by_cases e2 : op = 45
  · subst e2; exact Both.of (if sg y < sg x then 65535 else 0, true) fun k => by simp [num_Binary.f, num_Binary.j0, num_compared.f, num_compared.j0, nFlag, nSigned hx0 hx1, nSigned hy0 hy1, wispref01_Binary.f, wispref01_Binary.j0, wispref01_Binary.j1, wispref01_Binary.j2, rSigned hx0 hx1, rSigned hy0 hy1, rFlag]
  by_cases e2 : op = 46
  · subst e2; exact Both.of (if x < y then 65535 else 0, true) fun k => by simp [num_Binary.f, num_Binary.j0, num_compared.f, num_compared.j0, nFlag, nSigned hx0 hx1, nSigned hy0 hy1, wispref01_Binary.f, wispref01_Binary.j0, wispref01_Binary.j1, wispref01_Binary.j2, rSigned hx0 hx1, rSigned hy0 hy1, rFlag]
  by_cases e2 : op = 47
  · subst e2; exact Both.of (if y < x then 65535 else 0, true) fun k => by simp [num_Binary.f, num_Binary.j0, num_compared.f, num_compared.j0, nFlag, nSigned hx0 hx1, nSigned hy0 hy1, wispref01_Binary.f, wispref01_Binary.j0, wispref01_Binary.j1, wispref01_Binary.j2, rSigned hx0 hx1, rSigned hy0 hy1, rFlag]
  exact Both.of (0, false) fun k => by simp [num_Binary.f, num_Binary.j0, num_compared.f, num_compared.j0, wispref01_Binary.f, wispref01_Binary.j0, wispref01_Binary.j1, wispref01_Binary.j2, rSigned hx0 hx1, rSigned hy0 hy1, *]
/-! ### the statement's loops -/
theorem fixed_num (k : Nat) : wisplaw01_fixed.f (k + 5) = some true := by
  simp [wisplaw01_fixed.f, num_Binary.f, num_Binary.j0, num_divided.f, num_Unary.f, nSigned (x := 65529) (by omega) (by omega), nSigned (x := 2) (by omega) (by omega), nSigned (x := 65533) (by omega) (by omega), nSigned (x := 65535) (by omega) (by omega), nCell, nFlag, sg, wrap64]
end Go.Proofs.Ytgnjlgfnpfjjnaa.Pure
