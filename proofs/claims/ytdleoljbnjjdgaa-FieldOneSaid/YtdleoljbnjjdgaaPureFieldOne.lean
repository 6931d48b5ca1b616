/- Products, inverses, quotients and powers of the field are the document's, for any two elements and any number: the law FieldOne is true. No conditions. -/
import Derived.Test.YtdleoljbnjjdgaaPFieldOnex2
import Derived.Test.YtdleoljbnjjdgaaMath
import Derived.Test.YtdleoljbnjjdgaaBits
namespace Go.Proofs.Ytdleoljbnjjdgaa.Pure
open Go.RowKit Go.Proofs.Ytdleoljbnjjdgaa.PFieldOne Go.Proofs.YtdleoljbnjjdgaaW.PrintWords Go.Proofs.YtdleoljbnjjdgaaW.PrintLast
open Go.Proofs.Ytdleoljbnjjdgaa.Math Go.Proofs.Ytdleoljbnjjdgaa.Bits
theorem w64 {n : Int} (h0 : -9223372036854775808 ≤ n) (h1 : n ≤ 9223372036854775807) : wrap64 n = n := by unfold wrap64; omega
theorem xt_hi {x : Nat} (h : x < 256) (h1 : 128 ≤ x) : Gf.xt 8 357 x = (2 * x) ^^^ 357 := by
  unfold Gf.xt; rw [if_pos]; rw [show 8 - 1 = 7 from rfl, Nat.testBit_eq_decide_div_mod_eq]; simp; omega
theorem xt_lo {x : Nat} (h1 : x < 128) : Gf.xt 8 357 x = 2 * x := by
  unfold Gf.xt; rw [if_neg]; rw [show 8 - 1 = 7 from rfl, Nat.testBit_eq_decide_div_mod_eq]; simp; omega
theorem xt_lt8 {x : Nat} (h : x < 256) : Gf.xt 8 357 x < 256 := Gf.xt_lt 8 357 (by decide) (by decide) (by decide) x h
theorem Mul_l0 (n : Nat) : ∀ (k p x y : Nat), p < 256 → x < 256 → y < 2 ^ n → y < 256 → n < k → field_Mul.l0 k p x y = some ((Fq.mulLoop n p x y : Nat) : Int) := by
  induction n with
  | zero =>
    intro k p x y hp hx hy hy2 hk
    obtain ⟨k, rfl⟩ : ∃ m, k = m + 1 := ⟨k - 1, by omega⟩
    have : y = 0 := by simpa using hy
    subst this
    simp only [field_Mul.l0, Fq.mulLoop]
    rw [if_pos (by rfl)]
    congr 1; omega
  | succ n ih =>
    intro k p x y hp hx hy hy2 hk
    obtain ⟨k, rfl⟩ : ∃ m, k = m + 1 := ⟨k - 1, by omega⟩
    simp only [field_Mul.l0, Fq.mulLoop]
    by_cases h0 : y = 0
    · subst h0
      rw [if_pos (by rfl), if_pos rfl]
      congr 1; omega
    · rw [if_neg (by omega), if_neg h0, and1_u8 y hy2, w64 (by omega) (by omega)]
      have e2 : ((x : Int) * 2) = ((2 * x : Nat) : Int) := by omega
      have ey : (y : Int) / 2 = ((y / 2 : Nat) : Int) := by omega
      have hy' : y / 2 < 2 ^ n := by rw [Nat.pow_succ] at hy; omega
      have hpx : p ^^^ x < 256 := Nat.xor_lt_two_pow (n := 8) hp hx
      have hxt := xt_lt8 hx
      rw [e2, ey]
      by_cases h1 : y % 2 = 1
      · rw [if_pos (by omega), if_pos h1, xor_i64 p x (by omega) (by omega)]
        by_cases h2 : 128 ≤ x
        · rw [if_pos (by omega), show (357 : Int) = ((357 : Nat) : Int) from rfl, xor_i64 _ _ (by omega) (by omega), ← xt_hi hx h2]
          exact ih k _ _ _ hpx hxt hy' (by omega) (by omega)
        · rw [if_neg (by omega), ← xt_lo (by omega)]
          exact ih k _ _ _ hpx hxt hy' (by omega) (by omega)
      · rw [if_neg (by omega), if_neg h1]
        by_cases h2 : 128 ≤ x
        · rw [if_pos (by omega), show (357 : Int) = ((357 : Nat) : Int) from rfl, xor_i64 _ _ (by omega) (by omega), ← xt_hi hx h2]
          exact ih k _ _ _ hp hxt hy' (by omega) (by omega)
        · rw [if_neg (by omega), ← xt_lo (by omega)]
          exact ih k _ _ _ hp hxt hy' (by omega) (by omega)
theorem Mul_f (k a b : Nat) (ha : a < 256) (hb : b < 256) (hk : 8 < k) : field_Mul.f k a b = some ((Fq.mul a b : Nat) : Int) := by
  unfold field_Mul.f
  rw [w64 (by omega) (by omega)]
  have := Mul_l0 8 k 0 a b (by decide) ha hb hb hk
  rw [Fq.mulLoop_is _ _ _ _ hb, Nat.zero_xor] at this
  exact this
theorem power_l0 (n : Nat) : ∀ (k a m p : Nat), a < 256 → p < 256 → m < 2 ^ n → m < 9223372036854775808 → n + 9 ≤ k → field_power.l0 k a m p = some ((Fq.powLoop n a m p : Nat) : Int) := by
  induction n with
  | zero =>
    intro k a m p ha hp hm hm2 hk
    obtain ⟨k, rfl⟩ : ∃ m, k = m + 1 := ⟨k - 1, by omega⟩
    have : m = 0 := by simpa using hm
    subst this
    simp only [field_power.l0, Fq.powLoop]
    rw [if_neg (by omega)]
  | succ n ih =>
    intro k a m p ha hp hm hm2 hk
    obtain ⟨k, rfl⟩ : ∃ m, k = m + 1 := ⟨k - 1, by omega⟩
    simp only [field_power.l0, Fq.powLoop]
    by_cases h0 : m = 0
    · subst h0
      rw [if_neg (by omega), if_pos rfl]
    · rw [if_pos (by omega), if_neg h0, and1_i64 m hm2, Mul_f k a a ha ha (by omega), Mul_f k p a hp ha (by omega)]
      have ey : (m : Int) / 2 = ((m / 2 : Nat) : Int) := by omega
      have hy' : m / 2 < 2 ^ n := by rw [Nat.pow_succ] at hm; omega
      simp only [Option.bind_some]
      rw [ey]
      by_cases h1 : m % 2 = 1
      · rw [if_pos (by omega), if_pos h1]
        exact ih k _ _ _ (Fq.mul_lt _ _ ha) (Fq.mul_lt _ _ hp) hy' (by omega) (by omega)
      · rw [if_neg (by omega), if_neg h1]
        exact ih k _ _ _ (Fq.mul_lt _ _ ha) hp hy' (by omega) (by omega)
theorem power_f (k a m : Nat) (ha : a < 256) (hm : m < 256) (hk : 17 ≤ k) : field_power.f k a m = some ((Fq.pw a m : Nat) : Int) := by
  unfold field_power.f
  have := power_l0 8 k a m 1 ha (by decide) hm (by omega) hk
  rw [Fq.powLoop_is _ _ _ _ ha (by decide) hm, Fq.one_mul _ (Fq.pw_lt _ _ ha)] at this
  exact this
theorem Inv_f (k a : Nat) (ha : a < 256) (hk : 17 ≤ k) : field_Inv.f k a = some (((Fq.inv a : Nat) : Int), if a = 0 then 41 else 0) := by
  unfold field_Inv.f
  by_cases h : a = 0
  · subst h; rw [if_pos (by rfl), if_pos rfl, Fq.inv_zero]; rfl
  · rw [if_neg (by omega), if_neg h, show (254 : Int) = ((254 : Nat) : Int) from rfl, power_f k a 254 ha (by decide) hk, Fq.pw_254 a ha]; rfl
theorem alive_f (k : Nat) (hk : 17 ≤ k) : dailieslaw04_alive.f k = some true := by
  unfold dailieslaw04_alive.f
  have h1 := Mul_f k 2 128 (by decide) (by decide) (by omega)
  have h2 := Inv_f k 2 (by decide) hk
  rw [show Fq.mul 2 128 = 101 from by decide +kernel] at h1
  rw [show Fq.inv 2 = 178 from by decide +kernel] at h2
  rw [show (2 : Int) = ((2 : Nat) : Int) from rfl, show (128 : Int) = ((128 : Nat) : Int) from rfl, h1, h2]
  rfl
theorem u8_nat {a : Int} (h : (Lit.int .u8 a).wf = true) : ∃ n : Nat, a = n ∧ n < 256 := by
  simp [Lit.wf, IntKind.min, IntKind.max, IntKind.signed, IntKind.bits] at h
  exact ⟨a.toNat, by omega, by omega⟩
theorem i64_range {a : Int} (h : (Lit.int .i64 a).wf = true) : -9223372036854775808 ≤ a ∧ a ≤ 9223372036854775807 := by
  simp [Lit.wf, IntKind.min, IntKind.max, IntKind.signed, IntKind.bits] at h
  omega
theorem tmod255 (n : Int) (h0 : -9223372036854775808 ≤ n) (h1 : n ≤ 9223372036854775807) : Int.tmod (wrap64 ((Int.tmod n 255) + 255)) 255 = (((n % 255).toNat : Nat) : Int) := by
  have e : Int.tmod n 255 = if 0 ≤ n then n % 255 else -((-n) % 255) := by
    split
    · rw [Int.tmod_eq_emod_of_nonneg (by omega)]
    · have : Int.tmod n 255 = -(Int.tmod (-n) 255) := by rw [Int.neg_tmod]; simp
      rw [this, Int.tmod_eq_emod_of_nonneg (by omega)]
  rw [e]
  split
  · rw [w64 (by omega) (by omega), Int.tmod_eq_emod_of_nonneg (by omega)]; omega
  · rw [w64 (by omega) (by omega), Int.tmod_eq_emod_of_nonneg (by omega)]; omega
def powV (a : Nat) (n : Int) : Int × Int :=
  if n = 0 then (1, 0) else if a = 0 then (if n < 0 then (0, 41) else (0, 0)) else (((Fq.pw a (n % 255).toNat : Nat) : Int), 0)
theorem Pow_f (k a : Nat) (n : Int) (h0 : -9223372036854775808 ≤ n) (h1 : n ≤ 9223372036854775807) (ha : a < 256) (hk : 20 ≤ k) : field_Pow.f k a n = some (powV a n) := by
  unfold field_Pow.f powV
  obtain ⟨k, rfl⟩ : ∃ m, k = m + 1 := ⟨k - 1, by omega⟩
  by_cases hn : n = 0
  · rw [if_pos hn, if_pos hn]
  · rw [if_neg hn, if_neg hn]
    by_cases h : a = 0
    · subst h
      rw [if_pos (by rfl), if_pos rfl]
      simp only [field_Pow.j0]
      by_cases hl : n < 0
      · rw [decide_eq_true hl, if_pos rfl, if_pos hl]
      · rw [decide_eq_false hl, if_neg (by decide), if_pos (by rfl), if_neg hl]
    · rw [if_neg (by omega), if_neg h]
      simp only [field_Pow.j0]
      rw [if_neg (by decide), if_neg (by omega), tmod255 n h0 h1, power_f _ a _ ha (by omega) (by omega)]
      rfl
theorem shr_nat (a i : Nat) (hi : i < 64) : shr .i64 (a : Int) (i : Int) = ((a / 2 ^ i : Nat) : Int) := by
  unfold shr
  rw [Int.toNat_natCast, Nat.min_eq_left (by show i ≤ 64; omega)]
  rw [Int.natCast_ediv, Int.natCast_pow]; rfl
theorem shl_nat (a i : Nat) (hi : i < 64) (h : a * 2 ^ i < 9223372036854775808) : shl .i64 (a : Int) (i : Int) = ((a * 2 ^ i : Nat) : Int) := by
  unfold shl
  rw [Int.toNat_natCast, Nat.min_eq_left (by show i ≤ 64; omega), IntKind.wrap_i64]
  have : (a : Int) * 2 ^ i = ((a * 2 ^ i : Nat) : Int) := by rw [Int.natCast_mul, Int.natCast_pow]; rfl
  rw [this]; omega
theorem tmod2 (c : Nat) : Int.tmod (c : Int) 2 = ((c % 2 : Nat) : Int) := by
  rw [Int.tmod_eq_emod_of_nonneg (by omega)]; omega
theorem pow2_le (n : Nat) (h : n < 8) : 2 ^ n ≤ 128 := by
  have := Nat.pow_le_pow_right (n := 2) (by decide) (by omega : n ≤ 7); omega
theorem red_l1 (n : Nat) : ∀ k p : Nat, n ≤ 7 → p < 32768 → n < k → dailiesref04_Mul.l1 k p ((7 + n : Nat) : Int) = some ((Fq.red n p % 256 : Nat) : Int) := by
  induction n with
  | zero =>
    intro k p hn hp hk
    obtain ⟨k, rfl⟩ : ∃ m, k = m + 1 := ⟨k - 1, by omega⟩
    simp only [dailiesref04_Mul.l1, Fq.red]
    rw [if_neg (by omega)]
    congr 1
  | succ n ih =>
    intro k p hn hp hk
    obtain ⟨k, rfl⟩ : ∃ m, k = m + 1 := ⟨k - 1, by omega⟩
    simp only [dailiesref04_Mul.l1, Fq.red]
    have hp2 := pow2_le n (by omega)
    have e7 : (((7 + (n + 1) : Nat) : Int) - 8) = ((n : Nat) : Int) := by omega
    have e1 : (((7 + (n + 1) : Nat) : Int) - 1) = ((7 + n : Nat) : Int) := by omega
    rw [if_pos (by omega), if_pos (by omega), shr_nat _ _ (by omega), tmod2, w64 (by omega) (by omega), w64 (by omega) (by omega), e7, e1, show (357 : Int) = ((357 : Nat) : Int) from rfl, shl_nat 357 n (by omega) (by omega),
      show 8 + n = 7 + (n + 1) from by omega]
    have hb : 357 * 2 ^ n < 32768 ∨ n = 7 := by
      rcases Nat.lt_or_ge n 7 with h | h
      · left; have := Nat.pow_le_pow_right (n := 2) (by decide) (by omega : n ≤ 6); omega
      · right; omega
    have hb : 357 * 2 ^ n < 2 ^ 15 := by
      have : n ≤ 6 := by omega
      have := Nat.pow_le_pow_right (n := 2) (by decide) this; omega
    by_cases h1 : p / 2 ^ (7 + (n + 1)) % 2 = 1
    · rw [if_pos (by omega), if_pos h1, if_pos (by omega), xor_i64 _ _ (by omega) (by omega)]
      exact ih k _ (by omega) (Nat.xor_lt_two_pow (n := 15) hp hb) (by omega)
    · rw [if_neg (by omega), if_neg h1]
      exact ih k _ (by omega) hp (by omega)
theorem ref_l0 (a b : Nat) (ha : a < 256) (hb : b < 256) (n : Nat) : ∀ k p i : Nat, i + n = 8 → p < 32768 → n + 10 ≤ k → dailiesref04_Mul.l0 k a b p (i : Int) = some ((Fq.red 7 (Fq.polyMul a b n p) % 256 : Nat) : Int) := by
  induction n with
  | zero =>
    intro k p i hi hp hk
    obtain ⟨k, rfl⟩ : ∃ m, k = m + 1 := ⟨k - 1, by omega⟩
    simp only [dailiesref04_Mul.l0, Fq.polyMul]
    rw [if_neg (by omega)]
    exact red_l1 7 k p (by omega) hp (by omega)
  | succ n ih =>
    intro k p i hi hp hk
    obtain ⟨k, rfl⟩ : ∃ m, k = m + 1 := ⟨k - 1, by omega⟩
    simp only [dailiesref04_Mul.l0, Fq.polyMul]
    have hpi := pow2_le i (by omega)
    have hm : a * 2 ^ i ≤ 255 * 128 := Nat.mul_le_mul (by omega) hpi
    rw [show 7 - n = i from by omega, if_pos (by omega), if_pos (by omega), w64 (by omega) (by omega), w64 (by omega) (by omega), w64 (by omega) (by omega),
      shr_nat _ _ (by omega), tmod2, shl_nat a i (by omega) (by omega), show ((i : Int) + 1) = ((i + 1 : Nat) : Int) from rfl]
    by_cases h1 : b / 2 ^ i % 2 = 1
    · rw [if_pos (by omega), if_pos h1, xor_i64 _ _ (by omega) (by omega)]
      exact ih k _ _ (by omega) (Nat.xor_lt_two_pow (n := 15) hp (by omega)) (by omega)
    · rw [if_neg (by omega), if_neg h1]
      exact ih k _ _ (by omega) hp (by omega)
theorem refMul_f (k a b : Nat) (ha : a < 256) (hb : b < 256) (hk : 20 ≤ k) : dailiesref04_Mul.f k a b = some ((Fq.mul a b : Nat) : Int) := by
  unfold dailiesref04_Mul.f
  have h := ref_l0 a b ha hb 8 k 0 0 (by omega) (by omega) (by omega)
  rw [Fq.red_mul a b ha hb, Nat.mod_eq_of_lt (Fq.mul_lt a b ha)] at h
  exact h
theorem refInv_l0 (a : Nat) (ha : a < 256) (n : Nat) : ∀ k x : Nat, x + n = 256 → 1 ≤ x → n + 25 ≤ k → (∀ y, 1 ≤ y → y < x → Fq.mul a y ≠ 1) → dailiesref04_Inv.l0 k a x = some (((Fq.inv a : Nat) : Int), if a = 0 then 41 else 0) := by
  induction n with
  | zero =>
    intro k x hx h1 hk hy
    obtain ⟨k, rfl⟩ : ∃ m, k = m + 1 := ⟨k - 1, by omega⟩
    have h0 : a = 0 := Classical.byContradiction fun h => by
      have := Fq.mul_inv a ha h
      have hi := Fq.inv_lt a ha
      refine hy (Fq.inv a) ?_ (by omega) this
      rcases Nat.eq_zero_or_pos (Fq.inv a) with e | e
      · rw [e, Fq.mul_zero] at this; cases this
      · exact e
    subst h0
    simp only [dailiesref04_Inv.l0]
    rw [if_neg (by omega), Fq.inv_zero]; rfl
  | succ n ih =>
    intro k x hx h1 hk hy
    obtain ⟨k, rfl⟩ : ∃ m, k = m + 1 := ⟨k - 1, by omega⟩
    simp only [dailiesref04_Inv.l0]
    have ex : ((x : Int) % 256) = (x : Int) := by omega
    rw [if_pos (by omega), ex, refMul_f k a x ha (by omega) (by omega)]
    simp only [Option.bind_some]
    by_cases hm : Fq.mul a x = 1
    · rw [if_pos (by omega)]
      have h0 : a ≠ 0 := by rintro rfl; rw [Fq.zero_mul] at hm; cases hm
      rw [← Fq.inv_uniq a x ha (by omega) hm, if_neg h0]
    · rw [if_neg (by omega), w64 (by omega) (by omega)]
      refine ih k (x + 1) (by omega) (by omega) (by omega) ?_
      intro y hy1 hy2
      by_cases e : y = x
      · subst e; exact hm
      · exact hy y hy1 (by omega)
theorem refInv_f (k a : Nat) (ha : a < 256) (hk : 280 ≤ k) : dailiesref04_Inv.f k a = some (((Fq.inv a : Nat) : Int), if a = 0 then 41 else 0) := by
  unfold dailiesref04_Inv.f
  exact refInv_l0 a ha 255 k 1 (by omega) (by omega) (by omega) (fun y h1 h2 => by omega)
theorem refPow_l0 (a : Nat) (ha : a < 256) (n : Nat) : ∀ k m i : Nat, i + n = m → m < 256 → n + 21 ≤ k → dailiesref04_Pow.l0 k a m ((Fq.pw a i : Nat) : Int) i = some (((Fq.pw a m : Nat) : Int), 0) := by
  induction n with
  | zero =>
    intro k m i hi hm hk
    obtain ⟨k, rfl⟩ : ∃ m, k = m + 1 := ⟨k - 1, by omega⟩
    simp only [dailiesref04_Pow.l0]
    rw [if_neg (by omega), show i = m from by omega]
  | succ n ih =>
    intro k m i hi hm hk
    obtain ⟨k, rfl⟩ : ∃ m, k = m + 1 := ⟨k - 1, by omega⟩
    simp only [dailiesref04_Pow.l0]
    rw [if_pos (by omega), refMul_f k _ a (Fq.pw_lt _ _ ha) ha (by omega), w64 (by omega) (by omega)]
    simp only [Option.bind_some]
    exact ih k m (i + 1) (by omega) hm (by omega)
theorem tmod255' (n : Int) (h0 : -9223372036854775808 ≤ n) (h1 : n ≤ 9223372036854775807) : (if Int.tmod n 255 < 0 then wrap64 (Int.tmod n 255 + 255) else Int.tmod n 255) = (((n % 255).toNat : Nat) : Int) := by
  have e : Int.tmod n 255 = if 0 ≤ n then n % 255 else -((-n) % 255) := by
    split
    · rw [Int.tmod_eq_emod_of_nonneg (by omega)]
    · have : Int.tmod n 255 = -(Int.tmod (-n) 255) := by rw [Int.neg_tmod]; simp
      rw [this, Int.tmod_eq_emod_of_nonneg (by omega)]
  rw [e]
  by_cases h : 0 ≤ n
  · rw [if_pos h, if_neg (by omega)]; omega
  · rw [if_neg h]
    split
    · rw [w64 (by omega) (by omega)]; omega
    · omega
theorem refPow_f (k a : Nat) (n : Int) (h0 : -9223372036854775808 ≤ n) (h1 : n ≤ 9223372036854775807) (ha : a < 256) (hk : 280 ≤ k) : dailiesref04_Pow.f k a n = some (powV a n) := by
  unfold dailiesref04_Pow.f powV
  obtain ⟨k, rfl⟩ : ∃ m, k = m + 1 := ⟨k - 1, by omega⟩
  by_cases hn : n = 0
  · rw [if_pos hn, if_pos hn]
  · rw [if_neg hn, if_neg hn]
    by_cases h : a = 0
    · subst h
      rw [if_pos (by rfl), if_pos rfl]
      by_cases hl : n < 0
      · rw [if_pos hl, if_pos hl]
      · rw [if_neg hl, if_neg hl]
    · rw [if_neg (by omega), if_neg h]
      have e := tmod255' n h0 h1
      have hm : (n % 255).toNat < 256 := by omega
      have fin : dailiesref04_Pow.j0 (k + 1) a ((((n % 255).toNat : Nat) : Int)) = some (((Fq.pw a (n % 255).toNat : Nat) : Int), 0) := by
        simp only [dailiesref04_Pow.j0]
        exact refPow_l0 a ha (n % 255).toNat k _ 0 (by omega) hm (by omega)
      by_cases hc : Int.tmod n 255 < 0
      · rw [if_pos hc] at e ⊢; rw [e]; exact fin
      · rw [if_neg hc] at e ⊢; rw [e]; exact fin
theorem divs (k a b : Nat) (ha : a < 256) (hb : b < 256) (hk : 280 ≤ k) : field_Div.f k a b = some (((Fq.mul a (Fq.inv b) : Nat) : Int), if b = 0 then 41 else 0) ∧ dailiesref04_Div.f k a b = some (((Fq.mul a (Fq.inv b) : Nat) : Int), if b = 0 then 41 else 0) := by
  constructor
  · unfold field_Div.f
    rw [Inv_f k b hb (by omega)]; simp only [Option.bind_some]
    rw [Mul_f k a _ ha (Fq.inv_lt b hb) (by omega)]; rfl
  · unfold dailiesref04_Div.f
    rw [refInv_f k b hb hk]; simp only [Option.bind_some]
    by_cases h : b = 0
    · subst h
      rw [if_pos rfl, if_neg (by decide), Fq.inv_zero, Fq.mul_zero]; rfl
    · rw [if_neg h, if_pos rfl, refMul_f k a _ ha (Fq.inv_lt b hb) (by omega)]; rfl
theorem FieldOne : dailieslaw04_FieldOne.Pure := by
  intro a0 a1 n w0 w1 w2
  obtain ⟨a, rfl, ha⟩ := u8_nat w0
  obtain ⟨b, rfl, hb⟩ := u8_nat w1
  obtain ⟨h0, h1⟩ := i64_range w2
  suffices h : ∀ k, 280 ≤ k → dailieslaw04_FieldOne.f k a b n = some true from ⟨280, h 280 (Nat.le_refl _)⟩
  intro k hk
  obtain ⟨d1, d2⟩ := divs k a b ha hb hk
  unfold dailieslaw04_FieldOne.f
  rw [alive_f k (by omega)]; simp only [Option.bind_some]
  rw [Mul_f k a b ha hb (by omega)]; simp only [Option.bind_some]
  rw [refMul_f k a b ha hb (by omega)]; simp only [Option.bind_some]
  rw [Inv_f k a ha (by omega)]; simp only [Option.bind_some]
  rw [refInv_f k a ha (by omega)]; simp only [Option.bind_some]
  rw [d1]; simp only [Option.bind_some]
  rw [d2]; simp only [Option.bind_some]
  rw [Pow_f k a n h0 h1 ha (by omega)]; simp only [Option.bind_some]
  rw [refPow_f k a n h0 h1 ha (by omega)]; simp

end Go.Proofs.Ytdleoljbnjjdgaa.Pure
