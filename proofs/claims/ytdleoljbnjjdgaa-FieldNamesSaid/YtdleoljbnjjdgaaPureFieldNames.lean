/- The numbers of the field's errors are the document's: the law FieldNames is true. No conditions. -/
import Derived.Test.YtdleoljbnjjdgaaPFieldNamesx1
import Derived.Test.YtdleoljbnjjdgaaMath
import Derived.Test.YtdleoljbnjjdgaaBits
namespace Go.Proofs.Ytdleoljbnjjdgaa.Pure
open Go.RowKit Go.Proofs.Ytdleoljbnjjdgaa.PFieldNames Go.Proofs.YtdleoljbnjjdgaaW.PrintWords Go.Proofs.YtdleoljbnjjdgaaW.PrintLast
open Go.Proofs.Ytdleoljbnjjdgaa.Math Go.Proofs.Ytdleoljbnjjdgaa.Bits
theorem w64 {n : Int} (h0 : -9223372036854775808 ≤ n) (h1 : n ≤ 9223372036854775807) : wrap64 n = n := by unfold wrap64; omega
theorem xt_hi {x : Nat} (h : x < 256) (h1 : 128 ≤ x) : Gf.xt 8 357 x = (2 * x) ^^^ 357 := by
  unfold Gf.xt; rw [if_pos]; rw [show 8 - 1 = 7 from rfl, Nat.testBit_eq_decide_div_mod_eq]; simp; omega
theorem xt_lo {x : Nat} (h1 : x < 128) : Gf.xt 8 357 x = 2 * x := by
  unfold Gf.xt; rw [if_neg]; rw [show 8 - 1 = 7 from rfl, Nat.testBit_eq_decide_div_mod_eq]; simp; omega
theorem xt_lt8 {x : Nat} (h : x < 256) : Gf.xt 8 357 x < 256 := Gf.xt_lt 8 357 (by decide) (by decide) (by decide) x h
theorem Mul_l0 (n : Nat) : ∀ (k p x y : Nat), p < 256 → x < 256 → y < 2 ^ n → y < 256 → n < k → field_Mul.l0 k p x y = some ((Fq.mulLoop n p x y : Nat) : Int) := by
  induction n with
  | zero =>
    intro k p x y hp hx hy hy2 hk
    obtain ⟨k, rfl⟩ : ∃ m, k = m + 1 := ⟨k - 1, by omega⟩
    have : y = 0 := by simpa using hy
    subst this
    simp only [field_Mul.l0, Fq.mulLoop]
    rw [if_pos (by rfl)]
    congr 1; omega
  | succ n ih =>
    intro k p x y hp hx hy hy2 hk
    obtain ⟨k, rfl⟩ : ∃ m, k = m + 1 := ⟨k - 1, by omega⟩
    simp only [field_Mul.l0, Fq.mulLoop]
    by_cases h0 : y = 0
    · subst h0
      rw [if_pos (by rfl), if_pos rfl]
      congr 1; omega
    · rw [if_neg (by omega), if_neg h0, and1_u8 y hy2, w64 (by omega) (by omega)]
      have e2 : ((x : Int) * 2) = ((2 * x : Nat) : Int) := by omega
      have ey : (y : Int) / 2 = ((y / 2 : Nat) : Int) := by omega
      have hy' : y / 2 < 2 ^ n := by rw [Nat.pow_succ] at hy; omega
      have hpx : p ^^^ x < 256 := Nat.xor_lt_two_pow (n := 8) hp hx
      have hxt := xt_lt8 hx
      rw [e2, ey]
      by_cases h1 : y % 2 = 1
      · rw [if_pos (by omega), if_pos h1, xor_i64 p x (by omega) (by omega)]
        by_cases h2 : 128 ≤ x
        · rw [if_pos (by omega), show (357 : Int) = ((357 : Nat) : Int) from rfl, xor_i64 _ _ (by omega) (by omega), ← xt_hi hx h2]
          exact ih k _ _ _ hpx hxt hy' (by omega) (by omega)
        · rw [if_neg (by omega), ← xt_lo (by omega)]
          exact ih k _ _ _ hpx hxt hy' (by omega) (by omega)
      · rw [if_neg (by omega), if_neg h1]
        by_cases h2 : 128 ≤ x
        · rw [if_pos (by omega), show (357 : Int) = ((357 : Nat) : Int) from rfl, xor_i64 _ _ (by omega) (by omega), ← xt_hi hx h2]
          exact ih k _ _ _ hp hxt hy' (by omega) (by omega)
        · rw [if_neg (by omega), ← xt_lo (by omega)]
          exact ih k _ _ _ hp hxt hy' (by omega) (by omega)
theorem Mul_f (k a b : Nat) (ha : a < 256) (hb : b < 256) (hk : 8 < k) : field_Mul.f k a b = some ((Fq.mul a b : Nat) : Int) := by
  unfold field_Mul.f
  rw [w64 (by omega) (by omega)]
  have := Mul_l0 8 k 0 a b (by decide) ha hb hb hk
  rw [Fq.mulLoop_is _ _ _ _ hb, Nat.zero_xor] at this
  exact this
theorem power_l0 (n : Nat) : ∀ (k a m p : Nat), a < 256 → p < 256 → m < 2 ^ n → m < 9223372036854775808 → n + 9 ≤ k → field_power.l0 k a m p = some ((Fq.powLoop n a m p : Nat) : Int) := by
  induction n with
  | zero =>
    intro k a m p ha hp hm hm2 hk
    obtain ⟨k, rfl⟩ : ∃ m, k = m + 1 := ⟨k - 1, by omega⟩
    have : m = 0 := by simpa using hm
    subst this
    simp only [field_power.l0, Fq.powLoop]
    rw [if_neg (by omega)]
  | succ n ih =>
    intro k a m p ha hp hm hm2 hk
    obtain ⟨k, rfl⟩ : ∃ m, k = m + 1 := ⟨k - 1, by omega⟩
    simp only [field_power.l0, Fq.powLoop]
    by_cases h0 : m = 0
    · subst h0
      rw [if_neg (by omega), if_pos rfl]
    · rw [if_pos (by omega), if_neg h0, and1_i64 m hm2, Mul_f k a a ha ha (by omega), Mul_f k p a hp ha (by omega)]
      have ey : (m : Int) / 2 = ((m / 2 : Nat) : Int) := by omega
      have hy' : m / 2 < 2 ^ n := by rw [Nat.pow_succ] at hm; omega
      simp only [Option.bind_some]
      rw [ey]
      by_cases h1 : m % 2 = 1
      · rw [if_pos (by omega), if_pos h1]
        exact ih k _ _ _ (Fq.mul_lt _ _ ha) (Fq.mul_lt _ _ hp) hy' (by omega) (by omega)
      · rw [if_neg (by omega), if_neg h1]
        exact ih k _ _ _ (Fq.mul_lt _ _ ha) hp hy' (by omega) (by omega)
theorem power_f (k a m : Nat) (ha : a < 256) (hm : m < 256) (hk : 17 ≤ k) : field_power.f k a m = some ((Fq.pw a m : Nat) : Int) := by
  unfold field_power.f
  have := power_l0 8 k a m 1 ha (by decide) hm (by omega) hk
  rw [Fq.powLoop_is _ _ _ _ ha (by decide) hm, Fq.one_mul _ (Fq.pw_lt _ _ ha)] at this
  exact this
theorem Inv_f (k a : Nat) (ha : a < 256) (hk : 17 ≤ k) : field_Inv.f k a = some (((Fq.inv a : Nat) : Int), if a = 0 then 41 else 0) := by
  unfold field_Inv.f
  by_cases h : a = 0
  · subst h; rw [if_pos (by rfl), if_pos rfl, Fq.inv_zero]; rfl
  · rw [if_neg (by omega), if_neg h, show (254 : Int) = ((254 : Nat) : Int) from rfl, power_f k a 254 ha (by decide) hk, Fq.pw_254 a ha]; rfl
theorem alive_f (k : Nat) (hk : 17 ≤ k) : dailieslaw04_alive.f k = some true := by
  unfold dailieslaw04_alive.f
  have h1 := Mul_f k 2 128 (by decide) (by decide) (by omega)
  have h2 := Inv_f k 2 (by decide) hk
  rw [show Fq.mul 2 128 = 101 from by decide +kernel] at h1
  rw [show Fq.inv 2 = 178 from by decide +kernel] at h2
  rw [show (2 : Int) = ((2 : Nat) : Int) from rfl, show (128 : Int) = ((128 : Nat) : Int) from rfl, h1, h2]
  rfl
theorem u8_nat {a : Int} (h : (Lit.int .u8 a).wf = true) : ∃ n : Nat, a = n ∧ n < 256 := by
  simp [Lit.wf, IntKind.min, IntKind.max, IntKind.signed, IntKind.bits] at h
  exact ⟨a.toNat, by omega, by omega⟩
theorem i64_range {a : Int} (h : (Lit.int .i64 a).wf = true) : -9223372036854775808 ≤ a ∧ a ≤ 9223372036854775807 := by
  simp [Lit.wf, IntKind.min, IntKind.max, IntKind.signed, IntKind.bits] at h
  omega
theorem FieldNames : dailieslaw04_FieldNames.Pure := by
  refine ⟨17, ?_⟩
  unfold dailieslaw04_FieldNames.f
  rw [alive_f 17 (by decide)]; rfl

end Go.Proofs.Ytdleoljbnjjdgaa.Pure
