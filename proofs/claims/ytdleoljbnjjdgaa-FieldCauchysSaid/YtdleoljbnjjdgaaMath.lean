/- Plain mathematics: polynomials over two values, the field of 256 elements, its linear algebra. No Go in it. -/
namespace Go.Proofs.Ytdleoljbnjjdgaa.Math
namespace Gf
section
variable (d P : Nat)
/-- times x, by a polynomial P of degree d -/
def xt (v : Nat) : Nat := if v.testBit (d - 1) then (2 * v) ^^^ P else 2 * v
def mulN : Nat → Nat → Nat → Nat
  | 0, _, _ => 0
  | n + 1, a, b => (if b % 2 = 1 then a else 0) ^^^ mulN n (xt d P a) (b / 2)
def mul (a b : Nat) : Nat := mulN d P d a b

theorem two_mul_xor (a b : Nat) : 2 * (a ^^^ b) = (2 * a) ^^^ (2 * b) := by
  apply Nat.eq_of_testBit_eq; intro i
  rw [Nat.testBit_xor]
  cases i with
  | zero => simp [Nat.testBit_zero]
  | succ i => simp [Nat.testBit_succ, Nat.testBit_xor]

theorem xlc (a b c : Nat) : a ^^^ (b ^^^ c) = b ^^^ (a ^^^ c) := by rw [← Nat.xor_assoc, Nat.xor_comm a b, Nat.xor_assoc]
theorem xcl (a b : Nat) : a ^^^ (a ^^^ b) = b := by rw [← Nat.xor_assoc, Nat.xor_self, Nat.zero_xor]
theorem xxc (a b c : Nat) : (a ^^^ b) ^^^ (a ^^^ c) = b ^^^ c := by
  rw [show (a ^^^ b) ^^^ (a ^^^ c) = (a ^^^ a) ^^^ (b ^^^ c) from by ac_rfl, Nat.xor_self, Nat.zero_xor]
theorem xt_xor (a b : Nat) : xt d P (a ^^^ b) = xt d P a ^^^ xt d P b := by
  unfold xt
  rw [Nat.testBit_xor, two_mul_xor]
  cases a.testBit (d - 1) <;> cases b.testBit (d - 1) <;>
    simp only [Bool.xor_false, Bool.xor_true, Bool.not_false, Bool.not_true, if_true, if_false, Bool.false_eq_true] <;>
    first | rfl | ac_rfl | (rw [Nat.xor_comm (2 * a) P, Nat.xor_comm (2 * b) P, xxc])
theorem xt_zero : xt d P 0 = 0 := by simp [xt]

theorem mulN_zero_left (n b : Nat) : mulN d P n 0 b = 0 := by
  induction n generalizing b with
  | zero => rfl
  | succ n ih => simp [mulN, xt_zero, ih]
theorem mulN_zero_right (n a : Nat) : mulN d P n a 0 = 0 := by
  induction n generalizing a with
  | zero => rfl
  | succ n ih => simp [mulN, ih]
theorem mulN_xor_left (n a b c : Nat) : mulN d P n (a ^^^ b) c = mulN d P n a c ^^^ mulN d P n b c := by
  induction n generalizing a b c with
  | zero => simp [mulN]
  | succ n ih =>
    simp only [mulN, xt_xor, ih]
    split
    · ac_rfl
    · simp only [Nat.zero_xor]
theorem xor_mod2 (a b : Nat) : (a ^^^ b) % 2 = (a % 2 + b % 2) % 2 := by
  have h := Nat.testBit_xor a b 0
  rw [Nat.testBit_zero, Nat.testBit_zero, Nat.testBit_zero] at h
  rcases Nat.mod_two_eq_zero_or_one a with ha | ha <;> rcases Nat.mod_two_eq_zero_or_one b with hb | hb <;>
    rcases Nat.mod_two_eq_zero_or_one (a ^^^ b) with hc | hc <;> simp [ha, hb, hc] at h ⊢
theorem xor_div2 (a b : Nat) : (a ^^^ b) / 2 = (a / 2) ^^^ (b / 2) := by
  apply Nat.eq_of_testBit_eq; intro i
  rw [Nat.testBit_xor, ← Nat.testBit_succ, ← Nat.testBit_succ, ← Nat.testBit_succ, Nat.testBit_xor]
theorem sel_xor (b c x : Nat) : (if (b % 2 + c % 2) % 2 = 1 then x else 0) = (if b % 2 = 1 then x else 0) ^^^ (if c % 2 = 1 then x else 0) := by
  rcases Nat.mod_two_eq_zero_or_one b with hb | hb <;> rcases Nat.mod_two_eq_zero_or_one c with hc | hc <;> simp [hb, hc]
theorem mulN_xor_right (n a b c : Nat) : mulN d P n a (b ^^^ c) = mulN d P n a b ^^^ mulN d P n a c := by
  induction n generalizing a b c with
  | zero => simp [mulN]
  | succ n ih =>
    simp only [mulN, xor_div2, ih, xor_mod2, sel_xor]
    ac_rfl
theorem mulN_xt (n a b : Nat) : mulN d P n (xt d P a) b = xt d P (mulN d P n a b) := by
  induction n generalizing a b with
  | zero => simp [mulN, xt_zero]
  | succ n ih =>
    simp only [mulN, xt_xor, ih]
    split <;> simp [xt_zero]
theorem mulN_swap (n m a b c : Nat) : mulN d P n (mulN d P m c a) b = mulN d P m (mulN d P n c b) a := by
  induction m generalizing c a with
  | zero => simp [mulN, mulN_zero_left]
  | succ m ih =>
    simp only [mulN, mulN_xor_left, ih, mulN_xt]
    split <;> simp [mulN_zero_left]
theorem mulN_pow (n j b : Nat) (hb : b < 2 ^ n) (hj : j + n ≤ d) : mulN d P n (2 ^ j) b = 2 ^ j * b := by
  induction n generalizing j b with
  | zero => simp at hb; subst hb; simp [mulN]
  | succ n ih =>
    have hb2 : b / 2 < 2 ^ n := by rw [Nat.pow_succ] at hb; omega
    have key : mulN d P n (xt d P (2 ^ j)) (b / 2) = 2 ^ (j + 1) * (b / 2) := by
      cases n with
      | zero => have : b / 2 = 0 := by simpa using hb2
                rw [this]; simp [mulN]
      | succ n =>
        have : xt d P (2 ^ j) = 2 ^ (j + 1) := by
          unfold xt
          rw [if_neg]
          · rw [Nat.pow_succ]; omega
          · rw [Nat.testBit_two_pow]; simp; omega
        rw [this]; exact ih (j + 1) _ hb2 (by omega)
    simp only [mulN, key]
    apply Nat.eq_of_testBit_eq; intro i
    rw [Nat.testBit_xor]
    have h2 := Nat.testBit_two_pow_mul (i := j + 1) (a := b / 2) (j := i)
    have h3 := Nat.testBit_two_pow_mul (i := j) (a := b) (j := i)
    rw [h2, h3]
    rcases Nat.lt_trichotomy i j with h | h | h
    · have e1 : ¬ (j ≤ i) := by omega
      have e2 : ¬ (j + 1 ≤ i) := by omega
      simp only [ge_iff_le, e1, e2, decide_false, Bool.false_and]
      split
      · rw [Nat.testBit_two_pow]; simp; omega
      · simp
    · subst h
      have e2 : ¬ (i + 1 ≤ i) := by omega
      simp only [ge_iff_le, e2, decide_false, Bool.false_and, Nat.le_refl, decide_true, Bool.true_and, Nat.sub_self, Nat.testBit_zero]
      split <;> simp_all
    · have e1 : j ≤ i := by omega
      have e2 : j + 1 ≤ i := by omega
      simp only [ge_iff_le, e1, e2, decide_true, Bool.true_and]
      have e3 : i - j = (i - (j + 1)) + 1 := by omega
      rw [e3, Nat.testBit_succ]
      split
      · rw [Nat.testBit_two_pow, decide_eq_false (by omega), Bool.false_xor]
      · simp
theorem mul_one_left (a : Nat) (h : a < 2 ^ d) : mul d P 1 a = a := by
  have := mulN_pow d P d 0 a h (by omega)
  simpa [mul] using this
theorem mul_comm (a b : Nat) (ha : a < 2 ^ d) (hb : b < 2 ^ d) : mul d P a b = mul d P b a := by
  have h := mulN_swap d P d d a b 1
  have h1 := mul_one_left d P a ha
  have h2 := mul_one_left d P b hb
  unfold mul at *
  rw [h1, h2] at h; exact h
theorem mul_one (a : Nat) (hd : 0 < d) (h : a < 2 ^ d) : mul d P a 1 = a := by
  rw [mul_comm d P a 1 h (Nat.one_lt_two_pow (by omega)), mul_one_left d P a h]
theorem mul_right_comm (a b c : Nat) : mul d P (mul d P a b) c = mul d P (mul d P a c) b := mulN_swap d P d d b c a
theorem mul_xor_left (a b c : Nat) : mul d P (a ^^^ b) c = mul d P a c ^^^ mul d P b c := mulN_xor_left d P d a b c
theorem mul_xor_right (a b c : Nat) : mul d P a (b ^^^ c) = mul d P a b ^^^ mul d P a c := mulN_xor_right d P d a b c
theorem mul_zero_left (b : Nat) : mul d P 0 b = 0 := mulN_zero_left d P d b
theorem mul_zero_right (b : Nat) : mul d P b 0 = 0 := mulN_zero_right d P d b
theorem mul_xt_left (a b : Nat) : mul d P (xt d P a) b = xt d P (mul d P a b) := mulN_xt d P d a b

variable (hd : 0 < d) (hP1 : 2 ^ d ≤ P) (hP2 : P < 2 ^ (d + 1))
include hd hP1 hP2
theorem xt_lt (v : Nat) (h : v < 2 ^ d) : xt d P v < 2 ^ d := by
  unfold xt
  have e : 2 ^ d = 2 * 2 ^ (d - 1) := by rw [← Nat.pow_succ']; congr 1; omega
  have e2 : 2 ^ (d + 1) = 2 * 2 ^ d := by rw [Nat.pow_succ']
  split
  · rename_i ht
    have hv : 2 ^ (d - 1) ≤ v := Nat.ge_two_pow_of_testBit ht
    -- both have the bit d
    apply Nat.lt_pow_two_of_testBit
    intro i hi
    rw [Nat.testBit_xor]
    rcases Nat.lt_or_eq_of_le hi with h1 | h1
    · have a1 : (2 * v).testBit i = false := Nat.testBit_lt_two_pow (Nat.lt_of_lt_of_le (by omega : 2 * v < 2 ^ (d + 1)) (Nat.pow_le_pow_right (by decide) h1))
      have a2 : P.testBit i = false := Nat.testBit_lt_two_pow (Nat.lt_of_lt_of_le hP2 (Nat.pow_le_pow_right (by decide) h1))
      simp [a1, a2]
    · subst h1
      have a1 : (2 * v).testBit d = true := by
        rw [show d = (d - 1) + 1 from by omega, Nat.testBit_succ, Nat.mul_div_cancel_left _ (by decide), ]
        exact ht
      have a2 : P.testBit d = true := by
        rw [Nat.testBit_eq_decide_div_mod_eq]
        have : P / 2 ^ d = 1 := by
          apply Nat.div_eq_of_lt_le <;> omega
        simp [this]
      simp [a1, a2]
  · rename_i ht
    have : v < 2 ^ (d - 1) := by
      apply Nat.lt_pow_two_of_testBit
      intro i hi
      rcases Nat.lt_or_eq_of_le hi with h1 | h1
      · exact Nat.testBit_lt_two_pow (Nat.lt_of_lt_of_le h (Nat.pow_le_pow_right (by decide) (by omega)))
      · subst h1; simpa using ht
    omega
theorem mulN_lt (n a b : Nat) (h : a < 2 ^ d) : mulN d P n a b < 2 ^ d := by
  induction n generalizing a b with
  | zero => exact Nat.two_pow_pos d
  | succ n ih =>
    simp only [mulN]
    refine Nat.xor_lt_two_pow ?_ (ih _ _ (xt_lt d P hd hP1 hP2 _ h))
    split
    · exact h
    · exact Nat.two_pow_pos d
theorem mul_lt (a b : Nat) (h : a < 2 ^ d) : mul d P a b < 2 ^ d := mulN_lt d P hd hP1 hP2 d a b h
theorem mul_assoc (a b c : Nat) (ha : a < 2 ^ d) (hb : b < 2 ^ d) : mul d P (mul d P a b) c = mul d P a (mul d P b c) := by
  rw [mul_comm d P a b ha hb, mul_right_comm, mul_comm d P _ a (mul_lt d P hd hP1 hP2 b c hb) ha]
end
theorem bit_xor (a b k : Nat) : (a ^^^ b) / 2 ^ k % 2 = (a / 2 ^ k % 2) ^^^ (b / 2 ^ k % 2) := by
  have h := Nat.testBit_xor a b k
  rw [Nat.testBit_eq_decide_div_mod_eq, Nat.testBit_eq_decide_div_mod_eq, Nat.testBit_eq_decide_div_mod_eq] at h
  rcases Nat.mod_two_eq_zero_or_one (a / 2 ^ k) with ha | ha <;> rcases Nat.mod_two_eq_zero_or_one (b / 2 ^ k) with hb | hb <;>
    rcases Nat.mod_two_eq_zero_or_one ((a ^^^ b) / 2 ^ k) with hc | hc <;> simp [ha, hb, hc] at h ⊢
end Gf
namespace Gf
section
variable (d P : Nat)
/-- from the highest bit down: p becomes X p, and a is put to it where the bit is 1; n bits are still to come -/
def horner (a b : Nat) : Nat → Nat → Nat
  | 0, p => p
  | n + 1, p => horner a b n (xt d P p ^^^ (if b / 2 ^ n % 2 = 1 then a else 0))
theorem mulN_succ (n a b : Nat) : mulN d P (n + 1) a b = xt d P (mulN d P n a (b / 2)) ^^^ (if b % 2 = 1 then a else 0) := by
  simp only [mulN, mulN_xt]; rw [Nat.xor_comm]
theorem horner_is (a b n m : Nat) : horner d P a b n (mulN d P m a (b / 2 ^ n)) = mulN d P (m + n) a b := by
  induction n generalizing m with
  | zero => simp [horner]
  | succ n ih =>
    simp only [horner]
    rw [Nat.pow_succ, ← Nat.div_div_eq_div_mul, ← mulN_succ, ih]
    congr 1; omega
theorem horner_mul (a b : Nat) : horner d P a b d 0 = mul d P a b := by
  have := horner_is d P a b d 0
  simpa [mulN, mul] using this
end
end Gf
namespace Fq
open Gf
def mul (a b : Nat) : Nat := Gf.mul 8 357 a b
def sq (a : Nat) : Nat := mul a a
/-- a ^ 254 -/
def inv (a : Nat) : Nat :=
  let a2 := sq a; let a4 := sq a2; let a8 := sq a4; let a16 := sq a8; let a32 := sq a16; let a64 := sq a32; let a128 := sq a64
  mul a128 (mul a64 (mul a32 (mul a16 (mul a8 (mul a4 a2)))))
theorem mul_lt (a b : Nat) (h : a < 256) : mul a b < 256 := Gf.mul_lt 8 357 (by decide) (by decide) (by decide) a b h
theorem mul_comm (a b : Nat) (ha : a < 256) (hb : b < 256) : mul a b = mul b a := Gf.mul_comm 8 357 a b ha hb
theorem mul_assoc (a b c : Nat) (ha : a < 256) (hb : b < 256) : mul (mul a b) c = mul a (mul b c) := Gf.mul_assoc 8 357 (by decide) (by decide) (by decide) a b c ha hb
theorem mul_right_comm (a b c : Nat) : mul (mul a b) c = mul (mul a c) b := Gf.mul_right_comm 8 357 a b c
theorem one_mul (a : Nat) (h : a < 256) : mul 1 a = a := Gf.mul_one_left 8 357 a h
theorem mul_one (a : Nat) (h : a < 256) : mul a 1 = a := Gf.mul_one 8 357 a (by decide) h
theorem zero_mul (a : Nat) : mul 0 a = 0 := Gf.mul_zero_left 8 357 a
theorem mul_zero (a : Nat) : mul a 0 = 0 := Gf.mul_zero_right 8 357 a
theorem xor_mul (a b c : Nat) : mul (a ^^^ b) c = mul a c ^^^ mul b c := Gf.mul_xor_left 8 357 a b c
theorem mul_xor (a b c : Nat) : mul a (b ^^^ c) = mul a b ^^^ mul a c := Gf.mul_xor_right 8 357 a b c
theorem inv_lt (a : Nat) (h : a < 256) : inv a < 256 := by
  unfold inv sq
  exact mul_lt _ _ (by repeat (first | exact h | apply mul_lt))
theorem inv_all : ∀ a < 256, a = 0 ∨ mul a (inv a) = 1 := by decide +kernel
theorem mul_inv (a : Nat) (h : a < 256) (h0 : a ≠ 0) : mul a (inv a) = 1 := (inv_all a h).resolve_left h0
theorem inv_mul (a : Nat) (h : a < 256) (h0 : a ≠ 0) : mul (inv a) a = 1 := by rw [mul_comm _ _ (inv_lt a h) h]; exact mul_inv a h h0
theorem inv_zero : inv 0 = 0 := by decide +kernel
theorem mul_eq_zero (a b : Nat) (ha : a < 256) (hb : b < 256) (h : mul a b = 0) : a = 0 ∨ b = 0 := by
  by_cases h0 : a = 0
  · exact Or.inl h0
  · right
    have := congrArg (mul (inv a)) h
    rw [← mul_assoc _ _ _ (inv_lt a ha) ha, inv_mul a ha h0, one_mul b hb, mul_zero] at this
    exact this
theorem inv_uniq (a b : Nat) (ha : a < 256) (hb : b < 256) (h : mul a b = 1) : b = inv a := by
  have h0 : a ≠ 0 := by rintro rfl; rw [zero_mul] at h; cases h
  have := congrArg (mul (inv a)) h
  rwa [← mul_assoc _ _ _ (inv_lt a ha) ha, inv_mul a ha h0, one_mul b hb, mul_one _ (inv_lt a ha)] at this
end Fq
namespace Fq
/-- a ^ m -/
def pw (a : Nat) : Nat → Nat
  | 0 => 1
  | m + 1 => mul (pw a m) a
theorem pw_lt (a m : Nat) (_ : a < 256) : pw a m < 256 := by
  induction m with
  | zero => exact (by decide : 1 < 256)
  | succ m ih => exact mul_lt _ _ ih
theorem pw_add (a m n : Nat) (h : a < 256) : pw a (m + n) = mul (pw a m) (pw a n) := by
  induction n with
  | zero => exact (mul_one _ (pw_lt a m h)).symm
  | succ n ih =>
    rw [← Nat.add_assoc]
    simp only [pw]
    rw [ih, mul_assoc _ _ _ (pw_lt a m h) (pw_lt a n h)]
theorem pw_sq (a m : Nat) (h : a < 256) : pw (mul a a) m = pw a (2 * m) := by
  induction m with
  | zero => rfl
  | succ m ih =>
    rw [show 2 * (m + 1) = 2 * m + 1 + 1 from by omega]
    simp only [pw]
    rw [ih, mul_assoc _ _ _ (pw_lt a _ h) h]
theorem zero_pw (m : Nat) (h : m ≠ 0) : pw 0 m = 0 := by
  obtain ⟨m, rfl⟩ : ∃ n, m = n + 1 := ⟨m - 1, by omega⟩
  exact mul_zero _
def powLoop : Nat → Nat → Nat → Nat → Nat
  | 0, _, _, p => p
  | k + 1, a, m, p => if m = 0 then p else powLoop k (mul a a) (m / 2) (if m % 2 = 1 then mul p a else p)
theorem powLoop_is (k a m p : Nat) (ha : a < 256) (hp : p < 256) (hm : m < 2 ^ k) : powLoop k a m p = mul p (pw a m) := by
  induction k generalizing a m p with
  | zero => have : m = 0 := by simpa using hm
            subst this; exact (mul_one _ hp).symm
  | succ k ih =>
    simp only [powLoop]
    by_cases h : m = 0
    · subst h; rw [if_pos rfl]; exact (mul_one _ hp).symm
    · rw [if_neg h]
      have h2 : m / 2 < 2 ^ k := by rw [Nat.pow_succ] at hm; omega
      by_cases h1 : m % 2 = 1
      · rw [if_pos h1, ih _ _ _ (mul_lt _ _ ha) (mul_lt _ _ hp) h2, pw_sq _ _ ha, mul_assoc _ _ _ hp ha]
        congr 1
        have e : m = 1 + 2 * (m / 2) := by omega
        conv => rhs; rw [e]
        rw [pw_add _ _ _ ha]; simp only [pw]; rw [one_mul _ ha]
      · rw [if_neg h1, ih _ _ _ (mul_lt _ _ ha) hp h2, pw_sq _ _ ha]
        congr 2; omega
theorem pw_254 (a : Nat) (ha : a < 256) : pw a 254 = inv a := by
  unfold inv sq
  have s : ∀ m n, mul (pw a m) (pw a n) = pw a (m + n) := fun m n => (pw_add a m n ha).symm
  have h1 : a = pw a 1 := by simp only [pw]; exact (one_mul a ha).symm
  have h2 : mul a a = pw a 2 := by conv => lhs; rw [h1, s]
  rw [h2]
  simp only [s]
theorem pw_255 (a : Nat) (ha : a < 256) (h0 : a ≠ 0) : pw a 255 = 1 := by
  have e : pw a 255 = mul (pw a 254) a := rfl
  rw [e, pw_254 a ha, inv_mul a ha h0]
theorem pw_mod (a m : Nat) (ha : a < 256) (h0 : a ≠ 0) : pw a (m % 255) = pw a m := by
  have e := Nat.div_add_mod m 255
  have z : ∀ q, pw a (255 * q) = 1 := by
    intro q
    induction q with
    | zero => rfl
    | succ q ih => rw [Nat.mul_succ, pw_add _ _ _ ha, ih, pw_255 a ha h0]; decide +kernel
  conv => rhs; rw [← e]
  rw [pw_add _ _ _ ha, z, one_mul _ (pw_lt _ _ ha)]
end Fq
/-- elements of the field -/
structure El where
  v : Nat
  lt : v < 256
namespace El
theorem ext {a b : El} (h : a.v = b.v) : a = b := by cases a; cases b; cases h; rfl
instance : Add El := ⟨fun a b => ⟨a.v ^^^ b.v, Nat.xor_lt_two_pow (n := 8) a.lt b.lt⟩⟩
instance : Mul El := ⟨fun a b => ⟨Fq.mul a.v b.v, Fq.mul_lt _ _ a.lt⟩⟩
instance : OfNat El 0 := ⟨⟨0, by decide⟩⟩
instance : OfNat El 1 := ⟨⟨1, by decide⟩⟩
def inv (a : El) : El := ⟨Fq.inv a.v, Fq.inv_lt _ a.lt⟩
theorem add_v (a b : El) : (a + b).v = a.v ^^^ b.v := rfl
theorem mul_v (a b : El) : (a * b).v = Fq.mul a.v b.v := rfl
theorem zero_v : (0 : El).v = 0 := rfl
theorem one_v : (1 : El).v = 1 := rfl
theorem inv_v (a : El) : a.inv.v = Fq.inv a.v := rfl
theorem add_comm (a b : El) : a + b = b + a := ext (Nat.xor_comm _ _)
theorem add_assoc (a b c : El) : a + b + c = a + (b + c) := ext (Nat.xor_assoc _ _ _)
theorem mul_comm (a b : El) : a * b = b * a := ext (Fq.mul_comm _ _ a.lt b.lt)
theorem mul_assoc (a b c : El) : a * b * c = a * (b * c) := ext (Fq.mul_assoc _ _ _ a.lt b.lt)
theorem add_self (a : El) : a + a = 0 := ext (Nat.xor_self _)
theorem zero_add (a : El) : 0 + a = a := ext (Nat.zero_xor _)
theorem add_zero (a : El) : a + 0 = a := ext (Nat.xor_zero _)
theorem one_mul (a : El) : 1 * a = a := ext (Fq.one_mul _ a.lt)
theorem mul_one (a : El) : a * 1 = a := ext (Fq.mul_one _ a.lt)
theorem zero_mul (a : El) : 0 * a = 0 := ext (Fq.zero_mul _)
theorem mul_zero (a : El) : a * 0 = 0 := ext (Fq.mul_zero _)
theorem mul_add (a b c : El) : a * (b + c) = a * b + a * c := ext (Fq.mul_xor _ _ _)
theorem add_mul (a b c : El) : (a + b) * c = a * c + b * c := ext (Fq.xor_mul _ _ _)
theorem ne_zero_v {a : El} (h : a ≠ 0) : a.v ≠ 0 := fun e => h (ext e)
theorem mul_inv {a : El} (h : a ≠ 0) : a * a.inv = 1 := ext (Fq.mul_inv _ a.lt (ne_zero_v h))
theorem inv_mul {a : El} (h : a ≠ 0) : a.inv * a = 1 := ext (Fq.inv_mul _ a.lt (ne_zero_v h))
theorem eq_of_add_eq_zero {a b : El} (h : a + b = 0) : a = b := by
  have := congrArg (· + b) h
  simp only [add_assoc, add_self, add_zero, zero_add] at this; exact this
theorem add_ne_zero {a b : El} (h : a ≠ b) : a + b ≠ 0 := fun e => h (eq_of_add_eq_zero e)
theorem eq_zero_of_mul {a b : El} (ha : a ≠ 0) (h : a * b = 0) : b = 0 := by
  have := congrArg (a.inv * ·) h
  simp only [← mul_assoc, inv_mul ha, one_mul, mul_zero] at this; exact this
theorem inv_ne_zero {a : El} (h : a ≠ 0) : a.inv ≠ 0 := by
  intro e; have := mul_inv h; rw [e, mul_zero] at this; cases this
instance : Std.Associative (α := El) (· + ·) := ⟨add_assoc⟩
instance : Std.Commutative (α := El) (· + ·) := ⟨add_comm⟩
instance : Std.Associative (α := El) (· * ·) := ⟨mul_assoc⟩
instance : Std.Commutative (α := El) (· * ·) := ⟨mul_comm⟩
theorem add_left_comm (a b c : El) : a + (b + c) = b + (a + c) := by ac_rfl
theorem mul_left_comm (a b c : El) : a * (b * c) = b * (a * c) := by ac_rfl
theorem add_add_self (a b : El) : a + (a + b) = b := by rw [← add_assoc, add_self, zero_add]
instance : Inhabited El := ⟨0⟩
instance : DecidableEq El := fun a b => if h : a.v = b.v then .isTrue (ext h) else .isFalse (fun e => h (e ▸ rfl))

/-- the sum of f 0, .., f (n - 1) -/
def sum (n : Nat) (f : Nat → El) : El := match n with
  | 0 => 0
  | n + 1 => sum n f + f n
theorem sum_congr {n : Nat} {f g : Nat → El} (h : ∀ i, i < n → f i = g i) : sum n f = sum n g := by
  induction n with
  | zero => rfl
  | succ n ih => simp only [sum]; rw [ih (fun i hi => h i (by omega)), h n (by omega)]
theorem sum_add (n : Nat) (f g : Nat → El) : sum n (fun i => f i + g i) = sum n f + sum n g := by
  induction n with
  | zero => exact (zero_add 0).symm
  | succ n ih => simp only [sum, ih]; ac_rfl
theorem mul_sum (n : Nat) (a : El) (f : Nat → El) : a * sum n f = sum n (fun i => a * f i) := by
  induction n with
  | zero => exact mul_zero a
  | succ n ih => simp only [sum, mul_add, ih]
theorem sum_zero (n : Nat) : sum n (fun _ => 0) = 0 := by
  induction n with
  | zero => rfl
  | succ n ih => simp only [sum, ih, add_zero]
theorem sum_zero' {n : Nat} {f : Nat → El} (h : ∀ i, i < n → f i = 0) : sum n f = 0 := by rw [sum_congr h, sum_zero]
theorem sum_single {n k : Nat} (hk : k < n) (f : Nat → El) (h : ∀ i, i < n → i ≠ k → f i = 0) : sum n f = f k := by
  induction n with
  | zero => omega
  | succ n ih =>
    simp only [sum]
    by_cases e : n = k
    · subst e; rw [sum_zero' (fun i hi => h i (by omega) (by omega)), zero_add]
    · rw [ih (by omega) (fun i hi => h i (by omega)), h n (by omega) e, add_zero]

theorem frac {u v w : El} (hu : u ≠ 0) (e : v = u + w) : v * u.inv = 1 + w * u.inv := by rw [e, add_mul, mul_inv hu]
theorem inv_add {u v : El} (hu : u ≠ 0) (hv : v ≠ 0) : u.inv + v.inv = (u + v) * (u.inv * v.inv) := by
  have h1 : u * (u.inv * v.inv) = v.inv := by rw [← mul_assoc, mul_inv hu, one_mul]
  have h2 : v * (u.inv * v.inv) = u.inv := by rw [mul_comm u.inv, ← mul_assoc, mul_inv hv, one_mul]
  rw [add_mul, h1, h2, add_comm]

/-- a Cauchy matrix's kernel is trivial -/
theorem cauchy_kernel (k : Nat) (a b x : Nat → El) (ha : ∀ i j, i < k → j < k → i ≠ j → a i ≠ a j) (hb : ∀ i j, i < k → j < k → i ≠ j → b i ≠ b j)
    (hab : ∀ i j, i < k → j < k → a i ≠ b j) (h : ∀ i, i < k → sum k (fun j => x j * (a i + b j).inv) = 0) : ∀ j, j < k → x j = 0 := by
  induction k generalizing x with
  | zero => intro j hj; omega
  | succ k ih =>
    have nz : ∀ i j, i < k + 1 → j < k + 1 → a i + b j ≠ 0 := fun i j hi hj => add_ne_zero (hab i j hi hj)
    -- the row i, times a i + b k
    have row : ∀ i, i < k + 1 → sum k (fun j => x j * (1 + (b j + b k) * (a i + b j).inv)) + x k = 0 := by
      intro i hi
      have h1 := congrArg ((a i + b k) * ·) (h i hi)
      simp only [sum, mul_add, mul_zero, mul_sum] at h1
      have e2 : (a i + b k) * (x k * (a i + b k).inv) = x k := by
        rw [mul_left_comm, mul_inv (nz i k hi (by omega)), mul_one]
      have e1 : sum k (fun j => (a i + b k) * (x j * (a i + b j).inv)) = sum k (fun j => x j * (1 + (b j + b k) * (a i + b j).inv)) := by
        apply sum_congr; intro j hj
        rw [mul_left_comm, frac (nz i j hi (by omega)) (by rw [add_assoc, add_add_self] : a i + b k = (a i + b j) + (b j + b k))]
      rw [← e1]
      have e3 : (a i + b k) * (x k * (a i + b k).inv) = a i * (x k * (a i + b k).inv) + b k * (x k * (a i + b k).inv) := add_mul _ _ _
      rw [e2] at e3
      rw [e3]
      simpa only [add_mul] using h1
    have small := ih (fun j => x j * ((b j + b k) * (a k + b j).inv)) (fun i j hi hj => ha i j (by omega) (by omega)) (fun i j hi hj => hb i j (by omega) (by omega))
      (fun i j hi hj => hab i j (by omega) (by omega)) (by
        intro i hi
        have r1 := row i (by omega)
        have r2 := row k (by omega)
        have r3 : sum k (fun j => x j * (1 + (b j + b k) * (a i + b j).inv)) + sum k (fun j => x j * (1 + (b j + b k) * (a k + b j).inv)) = 0 := by
          rw [eq_of_add_eq_zero r1, eq_of_add_eq_zero r2, add_self]
        rw [← sum_add] at r3
        apply eq_zero_of_mul (add_ne_zero (ha i k (by omega) (by omega) (by omega)))
        rw [mul_sum, ← r3]
        apply sum_congr; intro j hj
        have e := inv_add (nz i j (by omega) (by omega)) (nz k j (by omega) (by omega))
        have e4 : (a i + b j) + (a k + b j) = a i + a k := by
          rw [show a i + b j + (a k + b j) = (a i + a k) + (b j + b j) from by ac_rfl, add_self, add_zero]
        rw [e4] at e
        rw [show x j * (1 + (b j + b k) * (a i + b j).inv) + x j * (1 + (b j + b k) * (a k + b j).inv) = x j * (b j + b k) * ((a i + b j).inv + (a k + b j).inv) from by
          simp only [mul_add, mul_one, add_mul]
          rw [show ∀ p q r s t : El, p + (q + r) + (p + (s + t)) = (p + p) + (q + s + (r + t)) from fun p q r s t => by ac_rfl, add_self, zero_add]
          simp only [mul_assoc]; ac_rfl, e]
        ac_rfl)
    have xs : ∀ j, j < k → x j = 0 := by
      intro j hj
      have := small j hj
      rw [mul_comm] at this
      refine eq_zero_of_mul ?_ this
      intro e
      exact inv_ne_zero (nz k j (by omega) (by omega)) (eq_zero_of_mul (add_ne_zero (hb j k (by omega) (by omega) (by omega))) e)
    intro j hj
    by_cases e : j = k
    · subst e
      have := row j (by omega)
      rw [sum_zero' (fun i hi => by rw [xs i hi, zero_mul]), zero_add] at this
      exact this
    · exact xs j (by omega)
end El
namespace Fq
/-- the program's product -/
def mulLoop : Nat → Nat → Nat → Nat → Nat
  | 0, p, _, _ => p
  | k + 1, p, x, y => if y = 0 then p else mulLoop k (if y % 2 = 1 then p ^^^ x else p) (Gf.xt 8 357 x) (y / 2)
theorem mulLoop_is (k p x y : Nat) (h : y < 2 ^ k) : mulLoop k p x y = p ^^^ Gf.mulN 8 357 k x y := by
  induction k generalizing p x y with
  | zero => simp [mulLoop, Gf.mulN]
  | succ k ih =>
    simp only [mulLoop, Gf.mulN]
    by_cases hy : y = 0
    · subst hy; simp [Gf.mulN_zero_right]
    · rw [if_neg hy, ih _ _ _ (by rw [Nat.pow_succ] at h; omega)]
      by_cases h1 : y % 2 = 1
      · rw [if_pos h1, if_pos h1, Nat.xor_assoc]
      · rw [if_neg h1, if_neg h1, Nat.zero_xor]
/-- the document's product: the polynomials', then what is left by the modulus -/
def polyMul (a b : Nat) : Nat → Nat → Nat
  | 0, p => p
  | n + 1, p => polyMul a b n (if b / 2 ^ (7 - n) % 2 = 1 then p ^^^ (a * 2 ^ (7 - n)) else p)
def red : Nat → Nat → Nat
  | 0, p => p
  | n + 1, p => red n (if p / 2 ^ (8 + n) % 2 = 1 then p ^^^ (357 * 2 ^ n) else p)
theorem sel_put (b c x p q : Nat) : (if (b ^^^ c) % 2 = 1 then (p ^^^ q) ^^^ x else p ^^^ q) = (if b % 2 = 1 then p ^^^ x else p) ^^^ (if c % 2 = 1 then q ^^^ x else q) := by
  have h := Gf.sel_xor b c x
  rw [← Gf.xor_mod2] at h
  have e : ∀ (b p : Nat), (if b % 2 = 1 then p ^^^ x else p) = p ^^^ (if b % 2 = 1 then x else 0) := fun b p => by split <;> simp
  rw [e, e, e, h]; ac_rfl
theorem mod_mod2 (a b : Nat) : ((a % 2) ^^^ (b % 2)) = (a ^^^ b) % 2 := by
  rw [Gf.xor_mod2]
  rcases Nat.mod_two_eq_zero_or_one a with hb | hb <;> rcases Nat.mod_two_eq_zero_or_one b with hc | hc <;> rw [hb, hc] <;> rfl
theorem red_xor (n p q : Nat) : red n (p ^^^ q) = red n p ^^^ red n q := by
  induction n generalizing p q with
  | zero => rfl
  | succ n ih =>
    simp only [red]
    rw [Gf.bit_xor, ← ih, mod_mod2, sel_put]
theorem red_zero (n : Nat) : red n 0 = 0 := by
  induction n with
  | zero => rfl
  | succ n ih => simp [red, ih]
def terms (a b : Nat) : Nat → Nat
  | 0 => 0
  | n + 1 => (if b / 2 ^ (7 - n) % 2 = 1 then a * 2 ^ (7 - n) else 0) ^^^ terms a b n
theorem polyMul_is (a b n p : Nat) : polyMul a b n p = p ^^^ terms a b n := by
  induction n generalizing p with
  | zero => simp [polyMul, terms]
  | succ n ih =>
    simp only [polyMul, terms]
    rw [ih _]
    split <;> simp [Nat.xor_assoc]
theorem red_base : ∀ a < 256, ∀ i < 8, red 7 (a * 2 ^ i) = mul a (2 ^ i) := by decide +kernel
theorem byte_bits : ∀ b < 256, b = (if b / 2 ^ 0 % 2 = 1 then 2 ^ 0 else 0) ^^^ ((if b / 2 ^ 1 % 2 = 1 then 2 ^ 1 else 0) ^^^ ((if b / 2 ^ 2 % 2 = 1 then 2 ^ 2 else 0) ^^^ ((if b / 2 ^ 3 % 2 = 1 then 2 ^ 3 else 0) ^^^ ((if b / 2 ^ 4 % 2 = 1 then 2 ^ 4 else 0) ^^^ ((if b / 2 ^ 5 % 2 = 1 then 2 ^ 5 else 0) ^^^ ((if b / 2 ^ 6 % 2 = 1 then 2 ^ 6 else 0) ^^^ (if b / 2 ^ 7 % 2 = 1 then 2 ^ 7 else 0))))))) := by decide +kernel
theorem red_mul (a b : Nat) (ha : a < 256) (hb : b < 256) : red 7 (polyMul a b 8 0) = mul a b := by
  rw [polyMul_is]
  have e := byte_bits b hb
  have t : ∀ i < 8, red 7 (if b / 2 ^ i % 2 = 1 then a * 2 ^ i else 0) = mul a (if b / 2 ^ i % 2 = 1 then 2 ^ i else 0) := by
    intro i hi
    split
    · exact red_base a ha i hi
    · rw [red_zero, mul_zero]
  conv => rhs; rw [e]
  simp only [terms, Nat.zero_xor, red_xor, mul_xor, Nat.xor_zero, Nat.sub_self, Nat.sub_zero, Nat.reduceSub]
  rw [t 0 (by omega), t 1 (by omega), t 2 (by omega), t 3 (by omega), t 4 (by omega), t 5 (by omega), t 6 (by omega), t 7 (by omega)]
end Fq

end Go.Proofs.Ytdleoljbnjjdgaa.Math
