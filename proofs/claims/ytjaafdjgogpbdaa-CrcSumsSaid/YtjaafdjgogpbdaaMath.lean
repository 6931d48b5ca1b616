/- Plain mathematics: polynomials over two values, the remainder by division, sums. No Go in it. -/
namespace Go.Proofs.Ytjaafdjgogpbdaa.Math
namespace Gf
section
variable (d P : Nat)
/-- times x, by a polynomial P of degree d -/
def xt (v : Nat) : Nat := if v.testBit (d - 1) then (2 * v) ^^^ P else 2 * v
def mulN : Nat → Nat → Nat → Nat
  | 0, _, _ => 0
  | n + 1, a, b => (if b % 2 = 1 then a else 0) ^^^ mulN n (xt d P a) (b / 2)
def mul (a b : Nat) : Nat := mulN d P d a b

theorem two_mul_xor (a b : Nat) : 2 * (a ^^^ b) = (2 * a) ^^^ (2 * b) := by
  apply Nat.eq_of_testBit_eq; intro i
  rw [Nat.testBit_xor]
  cases i with
  | zero => simp [Nat.testBit_zero]
  | succ i => simp [Nat.testBit_succ, Nat.testBit_xor]

theorem xlc (a b c : Nat) : a ^^^ (b ^^^ c) = b ^^^ (a ^^^ c) := by rw [← Nat.xor_assoc, Nat.xor_comm a b, Nat.xor_assoc]
theorem xcl (a b : Nat) : a ^^^ (a ^^^ b) = b := by rw [← Nat.xor_assoc, Nat.xor_self, Nat.zero_xor]
theorem xxc (a b c : Nat) : (a ^^^ b) ^^^ (a ^^^ c) = b ^^^ c := by
  rw [show (a ^^^ b) ^^^ (a ^^^ c) = (a ^^^ a) ^^^ (b ^^^ c) from by ac_rfl, Nat.xor_self, Nat.zero_xor]
theorem xt_xor (a b : Nat) : xt d P (a ^^^ b) = xt d P a ^^^ xt d P b := by
  unfold xt
  rw [Nat.testBit_xor, two_mul_xor]
  cases a.testBit (d - 1) <;> cases b.testBit (d - 1) <;>
    simp only [Bool.xor_false, Bool.xor_true, Bool.not_false, Bool.not_true, if_true, if_false, Bool.false_eq_true] <;>
    first | rfl | ac_rfl | (rw [Nat.xor_comm (2 * a) P, Nat.xor_comm (2 * b) P, xxc])
theorem xt_zero : xt d P 0 = 0 := by simp [xt]

theorem mulN_zero_left (n b : Nat) : mulN d P n 0 b = 0 := by
  induction n generalizing b with
  | zero => rfl
  | succ n ih => simp [mulN, xt_zero, ih]
theorem mulN_zero_right (n a : Nat) : mulN d P n a 0 = 0 := by
  induction n generalizing a with
  | zero => rfl
  | succ n ih => simp [mulN, ih]
theorem mulN_xor_left (n a b c : Nat) : mulN d P n (a ^^^ b) c = mulN d P n a c ^^^ mulN d P n b c := by
  induction n generalizing a b c with
  | zero => simp [mulN]
  | succ n ih =>
    simp only [mulN, xt_xor, ih]
    split
    · ac_rfl
    · simp only [Nat.zero_xor]
theorem xor_mod2 (a b : Nat) : (a ^^^ b) % 2 = (a % 2 + b % 2) % 2 := by
  have h := Nat.testBit_xor a b 0
  rw [Nat.testBit_zero, Nat.testBit_zero, Nat.testBit_zero] at h
  rcases Nat.mod_two_eq_zero_or_one a with ha | ha <;> rcases Nat.mod_two_eq_zero_or_one b with hb | hb <;>
    rcases Nat.mod_two_eq_zero_or_one (a ^^^ b) with hc | hc <;> simp [ha, hb, hc] at h ⊢
theorem xor_div2 (a b : Nat) : (a ^^^ b) / 2 = (a / 2) ^^^ (b / 2) := by
  apply Nat.eq_of_testBit_eq; intro i
  rw [Nat.testBit_xor, ← Nat.testBit_succ, ← Nat.testBit_succ, ← Nat.testBit_succ, Nat.testBit_xor]
theorem sel_xor (b c x : Nat) : (if (b % 2 + c % 2) % 2 = 1 then x else 0) = (if b % 2 = 1 then x else 0) ^^^ (if c % 2 = 1 then x else 0) := by
  rcases Nat.mod_two_eq_zero_or_one b with hb | hb <;> rcases Nat.mod_two_eq_zero_or_one c with hc | hc <;> simp [hb, hc]
theorem mulN_xor_right (n a b c : Nat) : mulN d P n a (b ^^^ c) = mulN d P n a b ^^^ mulN d P n a c := by
  induction n generalizing a b c with
  | zero => simp [mulN]
  | succ n ih =>
    simp only [mulN, xor_div2, ih, xor_mod2, sel_xor]
    ac_rfl
theorem mulN_xt (n a b : Nat) : mulN d P n (xt d P a) b = xt d P (mulN d P n a b) := by
  induction n generalizing a b with
  | zero => simp [mulN, xt_zero]
  | succ n ih =>
    simp only [mulN, xt_xor, ih]
    split <;> simp [xt_zero]
theorem mulN_swap (n m a b c : Nat) : mulN d P n (mulN d P m c a) b = mulN d P m (mulN d P n c b) a := by
  induction m generalizing c a with
  | zero => simp [mulN, mulN_zero_left]
  | succ m ih =>
    simp only [mulN, mulN_xor_left, ih, mulN_xt]
    split <;> simp [mulN_zero_left]
theorem mulN_pow (n j b : Nat) (hb : b < 2 ^ n) (hj : j + n ≤ d) : mulN d P n (2 ^ j) b = 2 ^ j * b := by
  induction n generalizing j b with
  | zero => simp at hb; subst hb; simp [mulN]
  | succ n ih =>
    have hb2 : b / 2 < 2 ^ n := by rw [Nat.pow_succ] at hb; omega
    have key : mulN d P n (xt d P (2 ^ j)) (b / 2) = 2 ^ (j + 1) * (b / 2) := by
      cases n with
      | zero => have : b / 2 = 0 := by simpa using hb2
                rw [this]; simp [mulN]
      | succ n =>
        have : xt d P (2 ^ j) = 2 ^ (j + 1) := by
          unfold xt
          rw [if_neg]
          · rw [Nat.pow_succ]; omega
          · rw [Nat.testBit_two_pow]; simp; omega
        rw [this]; exact ih (j + 1) _ hb2 (by omega)
    simp only [mulN, key]
    apply Nat.eq_of_testBit_eq; intro i
    rw [Nat.testBit_xor]
    have h2 := Nat.testBit_two_pow_mul (i := j + 1) (a := b / 2) (j := i)
    have h3 := Nat.testBit_two_pow_mul (i := j) (a := b) (j := i)
    rw [h2, h3]
    rcases Nat.lt_trichotomy i j with h | h | h
    · have e1 : ¬ (j ≤ i) := by omega
      have e2 : ¬ (j + 1 ≤ i) := by omega
      simp only [ge_iff_le, e1, e2, decide_false, Bool.false_and]
      split
      · rw [Nat.testBit_two_pow]; simp; omega
      · simp
    · subst h
      have e2 : ¬ (i + 1 ≤ i) := by omega
      simp only [ge_iff_le, e2, decide_false, Bool.false_and, Nat.le_refl, decide_true, Bool.true_and, Nat.sub_self, Nat.testBit_zero]
      split <;> simp_all
    · have e1 : j ≤ i := by omega
      have e2 : j + 1 ≤ i := by omega
      simp only [ge_iff_le, e1, e2, decide_true, Bool.true_and]
      have e3 : i - j = (i - (j + 1)) + 1 := by omega
      rw [e3, Nat.testBit_succ]
      split
      · rw [Nat.testBit_two_pow, decide_eq_false (by omega), Bool.false_xor]
      · simp
theorem mul_one_left (a : Nat) (h : a < 2 ^ d) : mul d P 1 a = a := by
  have := mulN_pow d P d 0 a h (by omega)
  simpa [mul] using this
theorem mul_comm (a b : Nat) (ha : a < 2 ^ d) (hb : b < 2 ^ d) : mul d P a b = mul d P b a := by
  have h := mulN_swap d P d d a b 1
  have h1 := mul_one_left d P a ha
  have h2 := mul_one_left d P b hb
  unfold mul at *
  rw [h1, h2] at h; exact h
theorem mul_one (a : Nat) (hd : 0 < d) (h : a < 2 ^ d) : mul d P a 1 = a := by
  rw [mul_comm d P a 1 h (Nat.one_lt_two_pow (by omega)), mul_one_left d P a h]
theorem mul_right_comm (a b c : Nat) : mul d P (mul d P a b) c = mul d P (mul d P a c) b := mulN_swap d P d d b c a
theorem mul_xor_left (a b c : Nat) : mul d P (a ^^^ b) c = mul d P a c ^^^ mul d P b c := mulN_xor_left d P d a b c
theorem mul_xor_right (a b c : Nat) : mul d P a (b ^^^ c) = mul d P a b ^^^ mul d P a c := mulN_xor_right d P d a b c
theorem mul_zero_left (b : Nat) : mul d P 0 b = 0 := mulN_zero_left d P d b
theorem mul_zero_right (b : Nat) : mul d P b 0 = 0 := mulN_zero_right d P d b
theorem mul_xt_left (a b : Nat) : mul d P (xt d P a) b = xt d P (mul d P a b) := mulN_xt d P d a b

variable (hd : 0 < d) (hP1 : 2 ^ d ≤ P) (hP2 : P < 2 ^ (d + 1))
include hd hP1 hP2
theorem xt_lt (v : Nat) (h : v < 2 ^ d) : xt d P v < 2 ^ d := by
  unfold xt
  have e : 2 ^ d = 2 * 2 ^ (d - 1) := by rw [← Nat.pow_succ']; congr 1; omega
  have e2 : 2 ^ (d + 1) = 2 * 2 ^ d := by rw [Nat.pow_succ']
  split
  · rename_i ht
    have hv : 2 ^ (d - 1) ≤ v := Nat.ge_two_pow_of_testBit ht
    -- both have the bit d
    apply Nat.lt_pow_two_of_testBit
    intro i hi
    rw [Nat.testBit_xor]
    rcases Nat.lt_or_eq_of_le hi with h1 | h1
    · have a1 : (2 * v).testBit i = false := Nat.testBit_lt_two_pow (Nat.lt_of_lt_of_le (by omega : 2 * v < 2 ^ (d + 1)) (Nat.pow_le_pow_right (by decide) h1))
      have a2 : P.testBit i = false := Nat.testBit_lt_two_pow (Nat.lt_of_lt_of_le hP2 (Nat.pow_le_pow_right (by decide) h1))
      simp [a1, a2]
    · subst h1
      have a1 : (2 * v).testBit d = true := by
        rw [show d = (d - 1) + 1 from by omega, Nat.testBit_succ, Nat.mul_div_cancel_left _ (by decide), ]
        exact ht
      have a2 : P.testBit d = true := by
        rw [Nat.testBit_eq_decide_div_mod_eq]
        have : P / 2 ^ d = 1 := by
          apply Nat.div_eq_of_lt_le <;> omega
        simp [this]
      simp [a1, a2]
  · rename_i ht
    have : v < 2 ^ (d - 1) := by
      apply Nat.lt_pow_two_of_testBit
      intro i hi
      rcases Nat.lt_or_eq_of_le hi with h1 | h1
      · exact Nat.testBit_lt_two_pow (Nat.lt_of_lt_of_le h (Nat.pow_le_pow_right (by decide) (by omega)))
      · subst h1; simpa using ht
    omega
theorem mulN_lt (n a b : Nat) (h : a < 2 ^ d) : mulN d P n a b < 2 ^ d := by
  induction n generalizing a b with
  | zero => exact Nat.two_pow_pos d
  | succ n ih =>
    simp only [mulN]
    refine Nat.xor_lt_two_pow ?_ (ih _ _ (xt_lt d P hd hP1 hP2 _ h))
    split
    · exact h
    · exact Nat.two_pow_pos d
theorem mul_lt (a b : Nat) (h : a < 2 ^ d) : mul d P a b < 2 ^ d := mulN_lt d P hd hP1 hP2 d a b h
theorem mul_assoc (a b c : Nat) (ha : a < 2 ^ d) (hb : b < 2 ^ d) : mul d P (mul d P a b) c = mul d P a (mul d P b c) := by
  rw [mul_comm d P a b ha hb, mul_right_comm, mul_comm d P _ a (mul_lt d P hd hP1 hP2 b c hb) ha]
end
theorem bit_xor (a b k : Nat) : (a ^^^ b) / 2 ^ k % 2 = (a / 2 ^ k % 2) ^^^ (b / 2 ^ k % 2) := by
  have h := Nat.testBit_xor a b k
  rw [Nat.testBit_eq_decide_div_mod_eq, Nat.testBit_eq_decide_div_mod_eq, Nat.testBit_eq_decide_div_mod_eq] at h
  rcases Nat.mod_two_eq_zero_or_one (a / 2 ^ k) with ha | ha <;> rcases Nat.mod_two_eq_zero_or_one (b / 2 ^ k) with hb | hb <;>
    rcases Nat.mod_two_eq_zero_or_one ((a ^^^ b) / 2 ^ k) with hc | hc <;> simp [ha, hb, hc] at h ⊢
end Gf
namespace Gf
section
variable (d P : Nat)
/-- from the highest bit down: p becomes X p, and a is put to it where the bit is 1; n bits are still to come -/
def horner (a b : Nat) : Nat → Nat → Nat
  | 0, p => p
  | n + 1, p => horner a b n (xt d P p ^^^ (if b / 2 ^ n % 2 = 1 then a else 0))
theorem mulN_succ (n a b : Nat) : mulN d P (n + 1) a b = xt d P (mulN d P n a (b / 2)) ^^^ (if b % 2 = 1 then a else 0) := by
  simp only [mulN, mulN_xt]; rw [Nat.xor_comm]
theorem horner_is (a b n m : Nat) : horner d P a b n (mulN d P m a (b / 2 ^ n)) = mulN d P (m + n) a b := by
  induction n generalizing m with
  | zero => simp [horner]
  | succ n ih =>
    simp only [horner]
    rw [Nat.pow_succ, ← Nat.div_div_eq_div_mul, ← mulN_succ, ih]
    congr 1; omega
theorem horner_mul (a b : Nat) : horner d P a b d 0 = mul d P a b := by
  have := horner_is d P a b d 0
  simpa [mulN, mul] using this
end
end Gf
namespace Crc
open Gf (xlc xcl)
def P : Nat := 0x104c11db7
def X (v : Nat) : Nat := Gf.xt 32 P v
def Xn : Nat → Nat → Nat
  | 0, v => v
  | n + 1, v => Xn n (X v)
theorem X_xor (a b : Nat) : X (a ^^^ b) = X a ^^^ X b := Gf.xt_xor 32 P a b
theorem X_zero : X 0 = 0 := Gf.xt_zero 32 P
theorem X_lt {v : Nat} (h : v < 2 ^ 32) : X v < 2 ^ 32 := Gf.xt_lt 32 P (by decide) (by decide) (by decide) v h
theorem Xn_xor (n a b : Nat) : Xn n (a ^^^ b) = Xn n a ^^^ Xn n b := by
  induction n generalizing a b with
  | zero => rfl
  | succ n ih => simp only [Xn, X_xor, ih]
theorem Xn_zero (n : Nat) : Xn n 0 = 0 := by
  induction n with
  | zero => rfl
  | succ n ih => simp only [Xn, X_zero, ih]
theorem Xn_lt (n : Nat) {v : Nat} (h : v < 2 ^ 32) : Xn n v < 2 ^ 32 := by
  induction n generalizing v with
  | zero => exact h
  | succ n ih => exact ih (X_lt h)
theorem Xn_add (m n v : Nat) : Xn (m + n) v = Xn m (Xn n v) := by
  induction n generalizing v with
  | zero => rfl
  | succ n ih => rw [Nat.add_succ]; simp only [Xn, ih]
theorem Xn_succ (n v : Nat) : Xn (n + 1) v = X (Xn n v) := by rw [Nat.add_comm, Xn_add]; rfl
/-- below 2^31 the step is a doubling -/
theorem X_small {v : Nat} (h : v < 2 ^ 31) : X v = 2 * v := by
  unfold X Gf.xt
  rw [if_neg]
  rw [Nat.testBit_lt_two_pow h]; simp
theorem Xn_small (n v : Nat) (h : v * 2 ^ n < 2 ^ 32) : Xn n v = v * 2 ^ n := by
  induction n generalizing v with
  | zero => simp [Xn]
  | succ n ih =>
    have e : v * 2 ^ (n + 1) = (2 * v) * 2 ^ n := by rw [Nat.pow_succ, Nat.mul_comm 2 v, Nat.mul_assoc, Nat.mul_comm 2]
    have hp := Nat.two_pow_pos n
    have hv : v < 2 ^ 31 := by
      have : (2 * v) * 1 ≤ (2 * v) * 2 ^ n := Nat.mul_le_mul_left _ hp
      omega
    simp only [Xn]
    rw [X_small hv, ih _ (by omega), e]
theorem X_odd {v : Nat} (h : v < 2 ^ 32) (h31 : 2 ^ 31 ≤ v) : X v % 2 = 1 := by
  unfold X Gf.xt
  rw [if_pos]
  · rw [Gf.xor_mod2]; simp [P]
  · rw [show (32 - 1 : Nat) = 31 from rfl, Nat.testBit_eq_decide_div_mod_eq]
    have : v / 2 ^ 31 = 1 := by omega
    simp [this]
theorem X_eq_zero {v : Nat} (h : v < 2 ^ 32) (e : X v = 0) : v = 0 := by
  by_cases h31 : v < 2 ^ 31
  · rw [X_small h31] at e; omega
  · have := X_odd h (by omega); omega
theorem Xn_eq_zero (n : Nat) {v : Nat} (h : v < 2 ^ 32) (e : Xn n v = 0) : v = 0 := by
  induction n generalizing v with
  | zero => exact e
  | succ n ih => exact X_eq_zero h (ih (X_lt h) e)
theorem xor_eq_zero {a b : Nat} (h : a ^^^ b = 0) : a = b := by
  have := congrArg (a ^^^ ·) h
  simp only [xcl, Nat.xor_zero] at this; exact this.symm

/-- one byte, as the program takes it -/
def byteStep (s c : Nat) : Nat := Xn 8 (s ^^^ (c * 2 ^ 24))
def dv (s : Nat) (l : List Nat) : Nat := l.foldl byteStep s
theorem byteStep_lt {s c : Nat} (hs : s < 2 ^ 32) (hc : c < 256) : byteStep s c < 2 ^ 32 := Xn_lt _ (Nat.xor_lt_two_pow hs (by omega))
theorem dv_lt {s : Nat} (l : List Nat) (hs : s < 2 ^ 32) (hl : ∀ c ∈ l, c < 256) : dv s l < 2 ^ 32 := by
  induction l generalizing s with
  | nil => exact hs
  | cons c l ih => exact ih (byteStep_lt hs (hl c (by simp))) (fun d hd => hl d (by simp [hd]))
theorem dv_append (s : Nat) (l m : List Nat) : dv s (l ++ m) = dv (dv s l) m := by unfold dv; rw [List.foldl_append]
/-- linear in both -/
theorem dv_xor (s t : Nat) (l m : List Nat) (h : l.length = m.length) : dv (s ^^^ t) (List.zipWith (· ^^^ ·) l m) = dv s l ^^^ dv t m := by
  induction l generalizing s t m with
  | nil => cases m with
    | nil => rfl
    | cons _ _ => simp at h
  | cons c l ih => cases m with
    | nil => simp at h
    | cons d m =>
      simp only [List.zipWith_cons_cons]
      show dv (byteStep (s ^^^ t) (c ^^^ d)) _ = dv (byteStep s c) l ^^^ dv (byteStep t d) m
      rw [← ih _ _ _ (by simpa using h)]
      congr 1
      unfold byteStep
      rw [← Xn_xor]
      congr 1
      have : (c ^^^ d) * 2 ^ 24 = (c * 2 ^ 24) ^^^ (d * 2 ^ 24) := by
        rw [← Nat.shiftLeft_eq, ← Nat.shiftLeft_eq, ← Nat.shiftLeft_eq, Nat.shiftLeft_xor_distrib]
      rw [this]
      simp only [Nat.xor_assoc, xlc]
theorem dv_state (s t : Nat) (l : List Nat) : dv (s ^^^ t) l = Xn (8 * l.length) s ^^^ dv t l := by
  induction l generalizing s t with
  | nil => rfl
  | cons c l ih =>
    show dv (byteStep (s ^^^ t) c) l = _ ^^^ dv (byteStep t c) l
    have : byteStep (s ^^^ t) c = Xn 8 s ^^^ byteStep t c := by unfold byteStep; rw [Nat.xor_assoc, Xn_xor]
    rw [this, ih, ← Xn_add, List.length_cons]; rfl

/-- bits, the highest of each byte first; behind them noughts -/
def bit (l : List Nat) (i : Nat) : Nat := (l.getD (i / 8) 0 / 2 ^ (7 - i % 8)) % 2
/-- the document's division: the rest after i coefficients -/
def rr (state : Nat) (l : List Nat) : Nat → Nat
  | 0 => 0
  | i + 1 => X (rr state l i) ^^^ (bit l i ^^^ (if i < 32 then state / 2 ^ (31 - i) % 2 else 0))

/-- 8 steps take a byte -/
theorem eight (r c : Nat) (hc : c < 256) : X (X (X (X (X (X (X (X r ^^^ c / 2 ^ 7 % 2) ^^^ c / 2 ^ 6 % 2) ^^^ c / 2 ^ 5 % 2) ^^^ c / 2 ^ 4 % 2) ^^^ c / 2 ^ 3 % 2) ^^^ c / 2 ^ 2 % 2) ^^^ c / 2 ^ 1 % 2) ^^^ c / 2 ^ 0 % 2 = Xn 8 r ^^^ c := by
  have hs : ∀ b, b < 2 ^ 31 → X b = 2 * b := fun b h => X_small h
  have key : ∀ c < 256, X (X (X (X (X (X (X (c / 2 ^ 7 % 2) ^^^ c / 2 ^ 6 % 2) ^^^ c / 2 ^ 5 % 2) ^^^ c / 2 ^ 4 % 2) ^^^ c / 2 ^ 3 % 2) ^^^ c / 2 ^ 2 % 2) ^^^ c / 2 ^ 1 % 2) ^^^ c / 2 ^ 0 % 2 = c := by decide +kernel
  have := key c hc
  simp only [X_xor, Nat.xor_assoc] at this ⊢
  show _ = X (X (X (X (X (X (X (X r))))))) ^^^ c
  rw [this]
end Crc
namespace Crc
open Gf (xlc xcl bit_xor)
theorem split_at (k s : Nat) : s = (s / 2 ^ k * 2 ^ k) ^^^ (s % 2 ^ k) := by
  apply Nat.eq_of_testBit_eq; intro i
  rw [Nat.testBit_xor, Nat.testBit_mod_two_pow, Nat.testBit_mul_two_pow, Nat.testBit_div_two_pow]
  by_cases h : i < k
  · simp [h, Nat.not_le.2 h]
  · have : k ≤ i := by omega
    simp [h, this]
theorem bit_at (l : List Nat) (j i : Nat) (hi : i < 8) : bit l (8 * j + i) = l.getD j 0 / 2 ^ (7 - i) % 2 := by
  unfold bit
  rw [show (8 * j + i) / 8 = j from by omega, show (8 * j + i) % 8 = i from by omega]
/-- the state's byte that is put to the byte j -/
def sb (state j : Nat) : Nat := if j < 4 then state / 2 ^ (24 - 8 * j) % 256 else 0
theorem sb_bit (state j i : Nat) (hi : i < 8) : (if 8 * j + i < 32 then state / 2 ^ (31 - (8 * j + i)) % 2 else 0) = sb state j / 2 ^ (7 - i) % 2 := by
  unfold sb
  by_cases h : j < 4
  · rw [if_pos (by omega), if_pos h, show 31 - (8 * j + i) = (24 - 8 * j) + (7 - i) from by omega, Nat.pow_add, ← Nat.div_div_eq_div_mul]
    generalize state / 2 ^ (24 - 8 * j) = s
    have : ∀ i < 8, s / 2 ^ (7 - i) % 2 = s % 256 / 2 ^ (7 - i) % 2 := by
      intro i hi
      match i, hi with
      | 0, _ => omega
      | 1, _ => omega
      | 2, _ => omega
      | 3, _ => omega
      | 4, _ => omega
      | 5, _ => omega
      | 6, _ => omega
      | 7, _ => omega
    exact this i hi
  · rw [if_neg (by omega), if_neg h]; simp
theorem sb_lt (state j : Nat) : sb state j < 256 := by unfold sb; split <;> omega
theorem getD_lt {l : List Nat} (hl : ∀ c ∈ l, c < 256) (j : Nat) : l.getD j 0 < 256 := by
  rw [List.getD_eq_getElem?_getD]
  by_cases h : j < l.length
  · rw [List.getElem?_eq_getElem h]; exact hl _ (List.getElem_mem h)
  · rw [List.getElem?_eq_none (by omega)]; decide
theorem rr_byte (state : Nat) (l : List Nat) (hl : ∀ c ∈ l, c < 256) (j : Nat) : rr state l (8 * (j + 1)) = Xn 8 (rr state l (8 * j)) ^^^ (l.getD j 0 ^^^ sb state j) := by
  rw [show 8 * (j + 1) = 8 * j + 7 + 1 from by omega, ← eight _ _ (Nat.xor_lt_two_pow (n := 8) (getD_lt hl j) (sb_lt state j))]
  have b0 := bit_at l j 0 (by omega); have b1 := bit_at l j 1 (by omega); have b2 := bit_at l j 2 (by omega); have b3 := bit_at l j 3 (by omega)
  have b4 := bit_at l j 4 (by omega); have b5 := bit_at l j 5 (by omega); have b6 := bit_at l j 6 (by omega); have b7 := bit_at l j 7 (by omega)
  have s0 := sb_bit state j 0 (by omega); have s1 := sb_bit state j 1 (by omega); have s2 := sb_bit state j 2 (by omega); have s3 := sb_bit state j 3 (by omega)
  have s4 := sb_bit state j 4 (by omega); have s5 := sb_bit state j 5 (by omega); have s6 := sb_bit state j 6 (by omega); have s7 := sb_bit state j 7 (by omega)
  simp only [Nat.add_zero] at b0 s0
  simp only [rr, b0, b1, b2, b3, b4, b5, b6, b7, s0, s1, s2, s3, s4, s5, s6, s7, bit_xor]
/-- four bytes, as one number -/
def win (l : List Nat) (j : Nat) : Nat := l.getD j 0 * 2 ^ 24 ^^^ (l.getD (j + 1) 0 * 2 ^ 16 ^^^ (l.getD (j + 2) 0 * 2 ^ 8 ^^^ l.getD (j + 3) 0))
theorem state_bytes (s : Nat) (h : s < 2 ^ 32) : s = sb s 0 * 2 ^ 24 ^^^ (sb s 1 * 2 ^ 16 ^^^ (sb s 2 * 2 ^ 8 ^^^ sb s 3)) := by
  have e1 := split_at 24 s
  have e2 := split_at 16 (s % 2 ^ 24)
  have e3 := split_at 8 (s % 2 ^ 24 % 2 ^ 16)
  rw [e3] at e2; rw [e2] at e1
  have f0 : sb s 0 = s / 2 ^ 24 := by unfold sb; rw [if_pos (by decide)]; show s / 2 ^ 24 % 256 = _; omega
  have f1 : sb s 1 = s % 2 ^ 24 / 2 ^ 16 := by simp [sb]; omega
  have f2 : sb s 2 = s % 2 ^ 24 % 2 ^ 16 / 2 ^ 8 := by simp [sb]; omega
  have f3 : sb s 3 = s % 2 ^ 24 % 2 ^ 16 % 2 ^ 8 := by simp [sb]
  rw [f0, f1, f2, f3]; exact e1
theorem mul_pow_xor (a b k : Nat) : (a ^^^ b) * 2 ^ k = (a * 2 ^ k) ^^^ (b * 2 ^ k) := by
  rw [← Nat.shiftLeft_eq, ← Nat.shiftLeft_eq, ← Nat.shiftLeft_eq, Nat.shiftLeft_xor_distrib]
theorem rr_32 (state : Nat) (hs : state < 2 ^ 32) (l : List Nat) (hl : ∀ c ∈ l, c < 256) : rr state l 32 = state ^^^ win l 0 := by
  have h0 := rr_byte state l hl 0
  have h1 := rr_byte state l hl 1
  have h2 := rr_byte state l hl 2
  have h3 := rr_byte state l hl 3
  have z : rr state l (8 * 0) = 0 := rfl
  rw [z, Xn_zero, Nat.zero_xor] at h0
  have b0 := Nat.xor_lt_two_pow (n := 8) (getD_lt hl 0) (sb_lt state 0)
  have b1 := Nat.xor_lt_two_pow (n := 8) (getD_lt hl 1) (sb_lt state 1)
  have b2 := Nat.xor_lt_two_pow (n := 8) (getD_lt hl 2) (sb_lt state 2)
  rw [h0] at h1
  rw [h1, Xn_xor, ← Xn_add, Xn_small _ _ (by omega), Xn_small _ _ (by omega)] at h2
  rw [h2, Xn_xor, Xn_xor, Xn_small _ _ (by omega), Xn_small _ _ (by omega), Xn_small _ _ (by omega)] at h3
  rw [show (32 : Nat) = 8 * (3 + 1) from rfl, h3]
  conv => rhs; rw [state_bytes state hs]
  unfold win
  simp only [mul_pow_xor, Nat.mul_assoc, ← Nat.pow_add, Nat.reduceAdd]
  ac_rfl
theorem win_step (s : Nat) (l : List Nat) (hl : ∀ c ∈ l, c < 256) (j : Nat) : Xn 8 (s ^^^ win l j) ^^^ l.getD (j + 4) 0 = byteStep s (l.getD j 0) ^^^ win l (j + 1) := by
  have g1 := getD_lt hl (j + 1); have g2 := getD_lt hl (j + 2); have g3 := getD_lt hl (j + 3)
  unfold win byteStep
  rw [← Nat.xor_assoc, Xn_xor, Xn_xor, Xn_xor, Xn_xor, Xn_small _ (_ * 2 ^ 16) (by omega), Xn_small _ (_ * 2 ^ 8) (by omega), Xn_small _ (l.getD (j + 3) 0) (by omega)]
  simp only [Nat.mul_assoc, ← Nat.pow_add, Nat.xor_assoc]
theorem rr_at (state : Nat) (hs : state < 2 ^ 32) (l : List Nat) (hl : ∀ c ∈ l, c < 256) (j : Nat) (hj : j ≤ l.length) : rr state l (8 * (j + 4)) = dv state (l.take j) ^^^ win l j := by
  induction j with
  | zero => exact rr_32 state hs l hl
  | succ j ih =>
    rw [show 8 * (j + 1 + 4) = 8 * ((j + 4) + 1) from rfl, rr_byte state l hl, ih (by omega)]
    have : sb state (j + 4) = 0 := by unfold sb; rw [if_neg (by omega)]
    rw [this, Nat.xor_zero, win_step _ _ hl, List.take_succ_eq_append_getElem (by omega), dv_append]
    congr 2
    rw [List.getD_eq_getElem?_getD, List.getElem?_eq_getElem (by omega)]; rfl
theorem rr_dv (state : Nat) (hs : state < 2 ^ 32) (l : List Nat) (hl : ∀ c ∈ l, c < 256) : rr state l (8 * l.length + 32) = dv state l := by
  have h := rr_at state hs l hl l.length (Nat.le_refl _)
  rw [show 8 * l.length + 32 = 8 * (l.length + 4) from by omega, h, List.take_length]
  have z : ∀ k, l.getD (l.length + k) 0 = 0 := fun k => by rw [List.getD_eq_getElem?_getD, List.getElem?_eq_none (by omega)]; rfl
  have : win l l.length = 0 := by
    unfold win
    have z0 := z 0; simp only [Nat.add_zero] at z0
    rw [z0, z 1, z 2, z 3]; rfl
  rw [this, Nat.xor_zero]

/-- a number as four bytes, the highest first -/
def four (n : Nat) : List Nat := [n / 2 ^ 24 % 256, n / 2 ^ 16 % 256, n / 2 ^ 8 % 256, n % 256]
theorem dv_four (s w : Nat) (hw : w < 2 ^ 32) : dv s (four w) = Xn 32 (s ^^^ w) := by
  have e := state_bytes w hw
  have f0 : sb w 0 = w / 2 ^ 24 % 256 := by simp [sb]
  have f1 : sb w 1 = w / 2 ^ 16 % 256 := by simp [sb]
  have f2 : sb w 2 = w / 2 ^ 8 % 256 := by simp [sb]
  have f3 : sb w 3 = w % 256 := by simp [sb]
  rw [f0, f1, f2, f3] at e
  conv => rhs; rw [e]
  show byteStep (byteStep (byteStep (byteStep s _) _) _) _ = _
  unfold byteStep
  have g1 : w / 2 ^ 16 % 256 < 256 := by omega
  have g2 : w / 2 ^ 8 % 256 < 256 := by omega
  have g3 : w % 256 < 256 := by omega
  generalize w / 2 ^ 24 % 256 = a at *
  generalize w / 2 ^ 16 % 256 = b at *
  generalize w / 2 ^ 8 % 256 = c at *
  generalize w % 256 = d at *
  have eb : b * 2 ^ 24 = Xn 8 (b * 2 ^ 16) := by rw [Xn_small 8 (b * 2 ^ 16) (by omega), Nat.mul_assoc, ← Nat.pow_add]
  have ec : c * 2 ^ 24 = Xn 16 (c * 2 ^ 8) := by rw [Xn_small 16 (c * 2 ^ 8) (by omega), Nat.mul_assoc, ← Nat.pow_add]
  have ed : d * 2 ^ 24 = Xn 24 d := (Xn_small 24 d (by omega)).symm
  rw [eb, ec, ed, ← Xn_xor, ← Xn_add, ← Xn_xor, ← Xn_add, ← Xn_xor, ← Xn_add]
  simp only [Nat.xor_assoc]
end Crc
namespace Crc
open Gf (xlc xcl)
/-- x^n as a rest -/
def M (a b : Nat) : Nat := Gf.mul 32 P a b
theorem M_lt (a b : Nat) (h : a < 2 ^ 32) : M a b < 2 ^ 32 := Gf.mul_lt 32 P (by decide) (by decide) (by decide) a b h
theorem M_assoc (a b c : Nat) (ha : a < 2 ^ 32) (hb : b < 2 ^ 32) : M (M a b) c = M a (M b c) := Gf.mul_assoc 32 P (by decide) (by decide) (by decide) a b c ha hb
theorem M_comm (a b : Nat) (ha : a < 2 ^ 32) (hb : b < 2 ^ 32) : M a b = M b a := Gf.mul_comm 32 P a b ha hb
theorem M_one (a : Nat) (ha : a < 2 ^ 32) : M 1 a = a := Gf.mul_one_left 32 P a ha
theorem M_Xn (n a b : Nat) : M (Xn n a) b = Xn n (M a b) := by
  induction n generalizing a with
  | zero => rfl
  | succ n ih =>
    simp only [Xn]
    rw [ih]; congr 1; exact Gf.mul_xt_left 32 P a b
theorem M_pow (i j : Nat) : M (Xn i 1) (Xn j 1) = Xn (i + j) 1 := by
  rw [M_Xn, M_one _ (Xn_lt _ (by decide)), ← Xn_add]
theorem M_by (a n : Nat) (ha : a < 2 ^ 32) : M a (Xn n 1) = Xn n a := by
  rw [M_comm a _ ha (Xn_lt _ (by decide)), M_Xn, M_one a ha]
/-- the loop of Join: x is x^(8 * 2^i) -/
def joinL : Nat → Nat → Nat → Nat → Nat
  | 0, a, _, _ => a
  | k + 1, a, x, n => if n = 0 then a else joinL k (if n % 2 = 1 then M a x else a) (M x x) (n / 2)
theorem joinL_is (k a e n : Nat) (ha : a < 2 ^ 32) (hn : n < 2 ^ k) : joinL k a (Xn e 1) n = Xn (e * n) a := by
  induction k generalizing a e n with
  | zero => have : n = 0 := by simpa using hn
            subst this; simp [joinL, Xn]
  | succ k ih =>
    simp only [joinL]
    by_cases h : n = 0
    · subst h; simp [Xn]
    · rw [if_neg h, M_pow]
      have h2 : n / 2 < 2 ^ k := by rw [Nat.pow_succ] at hn; omega
      have hm := Nat.div_add_mod n 2
      by_cases h1 : n % 2 = 1
      · rw [if_pos h1, M_by a e ha, ih _ _ _ (Xn_lt _ ha) h2, ← Xn_add]
        congr 1
        conv => rhs; rw [← hm, h1]
        rw [Nat.mul_add, Nat.mul_one, ← Nat.mul_assoc, ← Nat.two_mul, Nat.mul_comm e 2]
      · rw [if_neg h1, ih _ _ _ ha h2]
        congr 1
        conv => rhs; rw [← hm, show n % 2 = 0 from by omega]
        rw [Nat.add_zero, ← Nat.mul_assoc, ← Nat.two_mul, Nat.mul_comm e 2]
def ones : Nat := 2 ^ 32 - 1
def more (s : Nat) (l : List Nat) : Nat := ones ^^^ dv (ones ^^^ s) l
def join (a b n : Nat) : Nat := Xn (8 * n) a ^^^ b
theorem ones_lt : ones < 2 ^ 32 := by decide
theorem ones_ones (s : Nat) : ones ^^^ (ones ^^^ s) = s := xcl _ _
theorem more_append (s : Nat) (l m : List Nat) : more s (l ++ m) = more (more s l) m := by unfold more; rw [dv_append, ones_ones]
theorem more_lt (s : Nat) (l : List Nat) (hs : s < 2 ^ 32) (hl : ∀ c ∈ l, c < 256) : more s l < 2 ^ 32 :=
  Nat.xor_lt_two_pow ones_lt (dv_lt l (Nat.xor_lt_two_pow ones_lt hs) hl)
theorem more_join (s t : Nat) (m : List Nat) : more (s ^^^ t) m = join s (more t m) m.length := by
  unfold more join
  rw [show ones ^^^ (s ^^^ t) = s ^^^ (ones ^^^ t) from xlc _ _ _, dv_state, xlc]
/-- sums are joined -/
theorem sum_join (l m : List Nat) : more 0 (l ++ m) = join (more 0 l) (more 0 m) m.length := by
  rw [more_append]; have := more_join (more 0 l) 0 m; rwa [Nat.xor_zero] at this
theorem join_lt (a b n : Nat) (ha : a < 2 ^ 32) (hb : b < 2 ^ 32) : join a b n < 2 ^ 32 := Nat.xor_lt_two_pow (Xn_lt _ ha) hb
theorem join_join (a b c m n : Nat) : join (join a b m) c n = join a (join b c n) (m + n) := by
  unfold join
  rw [Xn_xor, ← Xn_add, Nat.xor_assoc, show 8 * n + 8 * m = 8 * (m + n) from by omega]

/-- one step back -/
def back (s : Nat) : Nat := if s % 2 = 1 then (s ^^^ 0x04c11db7) / 2 + 2 ^ 31 else s / 2
theorem back_lt {s : Nat} (h : s < 2 ^ 32) : back s < 2 ^ 32 := by
  unfold back
  have : s ^^^ 0x04c11db7 < 2 ^ 32 := Nat.xor_lt_two_pow h (by decide)
  split <;> omega
theorem X_big {v : Nat} (h : v < 2 ^ 31) : X (v + 2 ^ 31) = (2 * v) ^^^ 0x04c11db7 := by
  have e : v + 2 ^ 31 = v ^^^ 2 ^ 31 := by
    have e := split_at 31 (v + 2 ^ 31)
    rw [show (v + 2 ^ 31) / 2 ^ 31 = 1 from by omega, show (v + 2 ^ 31) % 2 ^ 31 = v from by omega, Nat.one_mul] at e
    rw [e, Nat.xor_comm]
  rw [e, X_xor, X_small h]
  congr 1
theorem X_back {s : Nat} (h : s < 2 ^ 32) : X (back s) = s := by
  unfold back
  split
  · rename_i h1
    have hx : s ^^^ 0x04c11db7 < 2 ^ 32 := Nat.xor_lt_two_pow h (by decide)
    have h2 : (s ^^^ 0x04c11db7) % 2 = 0 := by rw [Gf.xor_mod2, h1]
    rw [X_big (by omega), show 2 * ((s ^^^ 0x04c11db7) / 2) = s ^^^ 0x04c11db7 from by omega, Nat.xor_assoc, Nat.xor_self, Nat.xor_zero]
  · rw [X_small (by omega)]; omega
def backN : Nat → Nat → Nat
  | 0, s => s
  | n + 1, s => backN n (back s)
theorem backN_lt (n : Nat) {s : Nat} (h : s < 2 ^ 32) : backN n s < 2 ^ 32 := by
  induction n generalizing s with
  | zero => exact h
  | succ n ih => exact ih (back_lt h)
theorem Xn_backN (n : Nat) {s : Nat} (h : s < 2 ^ 32) : Xn n (backN n s) = s := by
  induction n generalizing s with
  | zero => rfl
  | succ n ih => rw [Xn_succ]; show X (Xn n (backN n (back s))) = s; rw [ih (back_lt h), X_back h]
/-- four bytes bring a sum to any number -/
theorem forged (s want : Nat) (hs : s < 2 ^ 32) (hw : want < 2 ^ 32) : more s (four (backN 32 (ones ^^^ want) ^^^ (ones ^^^ s))) = want := by
  have h1 : ones ^^^ want < 2 ^ 32 := Nat.xor_lt_two_pow ones_lt hw
  have h2 : ones ^^^ s < 2 ^ 32 := Nat.xor_lt_two_pow ones_lt hs
  unfold more
  rw [dv_four _ _ (Nat.xor_lt_two_pow (backN_lt 32 h1) h2), Nat.xor_comm (backN 32 (ones ^^^ want)), xcl, Xn_backN 32 h1, ones_ones]
/-- bytes with their own remainder behind leave nothing -/
theorem none_left (s : Nat) (hs : s < 2 ^ 32) : dv s (four s) = 0 := by rw [dv_four s s hs, Nat.xor_self, Xn_zero]

/-- a rest of noughts, then w within m places, then noughts -/
theorem rr_zero (l : List Nat) (n : Nat) (h : ∀ i, i < n → bit l i = 0) : rr 0 l n = 0 := by
  induction n with
  | zero => rfl
  | succ n ih =>
    simp only [rr]
    rw [ih (fun i hi => h i (by omega)), X_zero, h n (by omega)]; simp
theorem rr_end (l : List Nat) (a n : Nat) (h : ∀ i, a ≤ i → bit l i = 0) : rr 0 l (a + n) = Xn n (rr 0 l a) := by
  induction n with
  | zero => rfl
  | succ n ih =>
    rw [← Nat.add_assoc, Xn_succ, ← ih]
    simp only [rr]
    rw [h (a + n) (by omega)]; simp
theorem rr_run (l : List Nat) (a m : Nat) (hm : m ≤ 32) (h : ∀ i, i < a → bit l i = 0) : rr 0 l (a + m) < 2 ^ m ∧ (rr 0 l (a + m) = 0 → ∀ i, a ≤ i → i < a + m → bit l i = 0) := by
  induction m with
  | zero => exact ⟨by rw [Nat.add_zero, rr_zero l a h]; decide, fun _ i h1 h2 => by omega⟩
  | succ m ih =>
    obtain ⟨i1, i2⟩ := ih (by omega)
    have e : rr 0 l (a + (m + 1)) = 2 * rr 0 l (a + m) ^^^ bit l (a + m) := by
      rw [← Nat.add_assoc]
      simp only [rr]
      rw [X_small (Nat.lt_of_lt_of_le i1 (Nat.pow_le_pow_right (by decide) (by omega)))]; simp
    have hb : bit l (a + m) < 2 := by unfold bit; omega
    constructor
    · rw [e]
      refine Nat.xor_lt_two_pow (by rw [Nat.pow_succ]; omega) (Nat.lt_of_lt_of_le hb ?_)
      rw [Nat.pow_succ]; have := Nat.two_pow_pos m; omega
    · intro hz i h1 h2
      rw [e] at hz
      have hq := xor_eq_zero hz
      have hz2 : rr 0 l (a + m) = 0 ∧ bit l (a + m) = 0 := by omega
      by_cases hi : i = a + m
      · subst hi; exact hz2.2
      · exact i2 hz2.1 i h1 (by omega)
/-- bits that are set within 32 that stand together leave something -/
theorem burst (l : List Nat) (hl : ∀ c ∈ l, c < 256) (a : Nat) (h0 : ∀ i, bit l i = 1 → a ≤ i ∧ i < a + 32) (hz : dv 0 l = 0) : ∀ i, bit l i = 0 := by
  have b01 : ∀ i, bit l i = 0 ∨ bit l i = 1 := fun i => by unfold bit; omega
  have out : ∀ i, bit l i = 1 → i < 8 * l.length := by
    intro i hi
    apply Nat.lt_of_not_le
    intro hle
    unfold bit at hi
    rw [List.getD_eq_getElem?_getD, List.getElem?_eq_none (by omega)] at hi
    simp at hi
  have lo : ∀ i, i < a → bit l i = 0 := fun i hi => (b01 i).resolve_right (fun e => by have := h0 i e; omega)
  have hi' : ∀ i, a + 32 ≤ i → bit l i = 0 := fun i hi => (b01 i).resolve_right (fun e => by have := h0 i e; omega)
  intro i
  rcases b01 i with hb | hb
  · exact hb
  · have ha := h0 i hb
    have hlt := out i hb
    obtain ⟨r1, r2⟩ := rr_run l a 32 (Nat.le_refl _) lo
    have e := rr_end l (a + 32) (8 * l.length - a) hi'
    rw [show a + 32 + (8 * l.length - a) = 8 * l.length + 32 from by omega, rr_dv 0 (by decide) l hl, hz] at e
    exact r2 (Xn_eq_zero _ r1 e.symm) i ha.1 ha.2
end Crc

end Go.Proofs.Ytjaafdjgogpbdaa.Math
