/- field.Dot and the document's Dot answer alike. Conditions: as its theorems say. -/
import Derived.Test.YtdleoljbnjjdgaaQBaseFieldDotsx1
import Derived.Test.YtdleoljbnjjdgaaMath
import Derived.Test.YtdleoljbnjjdgaaBits
namespace Go.Proofs.Ytdleoljbnjjdgaa.DotsM
open Go.RowKit Go.Proofs.Ytdleoljbnjjdgaa.QBaseFieldDots Go.Proofs.YtdleoljbnjjdgaaW.PrintWords Go.Proofs.YtdleoljbnjjdgaaW.PrintLast
open Go.Proofs.Ytdleoljbnjjdgaa.Math Go.Proofs.Ytdleoljbnjjdgaa.Bits
theorem w64 {n : Int} (h0 : -9223372036854775808 ≤ n) (h1 : n ≤ 9223372036854775807) : wrap64 n = n := by unfold wrap64; omega
theorem xt_hi {x : Nat} (h : x < 256) (h1 : 128 ≤ x) : Gf.xt 8 357 x = (2 * x) ^^^ 357 := by
  unfold Gf.xt; rw [if_pos]; rw [show 8 - 1 = 7 from rfl, Nat.testBit_eq_decide_div_mod_eq]; simp; omega
theorem xt_lo {x : Nat} (h1 : x < 128) : Gf.xt 8 357 x = 2 * x := by
  unfold Gf.xt; rw [if_neg]; rw [show 8 - 1 = 7 from rfl, Nat.testBit_eq_decide_div_mod_eq]; simp; omega
theorem xt_lt8 {x : Nat} (h : x < 256) : Gf.xt 8 357 x < 256 := Gf.xt_lt 8 357 (by decide) (by decide) (by decide) x h
theorem Mul_l0 (n : Nat) : ∀ (k p x y : Nat), p < 256 → x < 256 → y < 2 ^ n → y < 256 → n < k → field_Mul.l0 k p x y = some ((Fq.mulLoop n p x y : Nat) : Int) := by
  induction n with
  | zero =>
    intro k p x y hp hx hy hy2 hk
    obtain ⟨k, rfl⟩ : ∃ m, k = m + 1 := ⟨k - 1, by omega⟩
    have : y = 0 := by simpa using hy
    subst this
    simp only [field_Mul.l0, Fq.mulLoop]
    rw [if_pos (by rfl)]
    congr 1; omega
  | succ n ih =>
    intro k p x y hp hx hy hy2 hk
    obtain ⟨k, rfl⟩ : ∃ m, k = m + 1 := ⟨k - 1, by omega⟩
    simp only [field_Mul.l0, Fq.mulLoop]
    by_cases h0 : y = 0
    · subst h0
      rw [if_pos (by rfl), if_pos rfl]
      congr 1; omega
    · rw [if_neg (by omega), if_neg h0, and1_u8 y hy2, w64 (by omega) (by omega)]
      have e2 : ((x : Int) * 2) = ((2 * x : Nat) : Int) := by omega
      have ey : (y : Int) / 2 = ((y / 2 : Nat) : Int) := by omega
      have hy' : y / 2 < 2 ^ n := by rw [Nat.pow_succ] at hy; omega
      have hpx : p ^^^ x < 256 := Nat.xor_lt_two_pow (n := 8) hp hx
      have hxt := xt_lt8 hx
      rw [e2, ey]
      by_cases h1 : y % 2 = 1
      · rw [if_pos (by omega), if_pos h1, xor_i64 p x (by omega) (by omega)]
        by_cases h2 : 128 ≤ x
        · rw [if_pos (by omega), show (357 : Int) = ((357 : Nat) : Int) from rfl, xor_i64 _ _ (by omega) (by omega), ← xt_hi hx h2]
          exact ih k _ _ _ hpx hxt hy' (by omega) (by omega)
        · rw [if_neg (by omega), ← xt_lo (by omega)]
          exact ih k _ _ _ hpx hxt hy' (by omega) (by omega)
      · rw [if_neg (by omega), if_neg h1]
        by_cases h2 : 128 ≤ x
        · rw [if_pos (by omega), show (357 : Int) = ((357 : Nat) : Int) from rfl, xor_i64 _ _ (by omega) (by omega), ← xt_hi hx h2]
          exact ih k _ _ _ hp hxt hy' (by omega) (by omega)
        · rw [if_neg (by omega), ← xt_lo (by omega)]
          exact ih k _ _ _ hp hxt hy' (by omega) (by omega)
theorem Mul_f (k a b : Nat) (ha : a < 256) (hb : b < 256) (hk : 8 < k) : field_Mul.f k a b = some ((Fq.mul a b : Nat) : Int) := by
  unfold field_Mul.f
  rw [w64 (by omega) (by omega)]
  have := Mul_l0 8 k 0 a b (by decide) ha hb hb hk
  rw [Fq.mulLoop_is _ _ _ _ hb, Nat.zero_xor] at this
  exact this
theorem power_l0 (n : Nat) : ∀ (k a m p : Nat), a < 256 → p < 256 → m < 2 ^ n → m < 9223372036854775808 → n + 9 ≤ k → field_power.l0 k a m p = some ((Fq.powLoop n a m p : Nat) : Int) := by
  induction n with
  | zero =>
    intro k a m p ha hp hm hm2 hk
    obtain ⟨k, rfl⟩ : ∃ m, k = m + 1 := ⟨k - 1, by omega⟩
    have : m = 0 := by simpa using hm
    subst this
    simp only [field_power.l0, Fq.powLoop]
    rw [if_neg (by omega)]
  | succ n ih =>
    intro k a m p ha hp hm hm2 hk
    obtain ⟨k, rfl⟩ : ∃ m, k = m + 1 := ⟨k - 1, by omega⟩
    simp only [field_power.l0, Fq.powLoop]
    by_cases h0 : m = 0
    · subst h0
      rw [if_neg (by omega), if_pos rfl]
    · rw [if_pos (by omega), if_neg h0, and1_i64 m hm2, Mul_f k a a ha ha (by omega), Mul_f k p a hp ha (by omega)]
      have ey : (m : Int) / 2 = ((m / 2 : Nat) : Int) := by omega
      have hy' : m / 2 < 2 ^ n := by rw [Nat.pow_succ] at hm; omega
      simp only [Option.bind_some]
      rw [ey]
      by_cases h1 : m % 2 = 1
      · rw [if_pos (by omega), if_pos h1]
        exact ih k _ _ _ (Fq.mul_lt _ _ ha) (Fq.mul_lt _ _ hp) hy' (by omega) (by omega)
      · rw [if_neg (by omega), if_neg h1]
        exact ih k _ _ _ (Fq.mul_lt _ _ ha) hp hy' (by omega) (by omega)
theorem power_f (k a m : Nat) (ha : a < 256) (hm : m < 256) (hk : 17 ≤ k) : field_power.f k a m = some ((Fq.pw a m : Nat) : Int) := by
  unfold field_power.f
  have := power_l0 8 k a m 1 ha (by decide) hm (by omega) hk
  rw [Fq.powLoop_is _ _ _ _ ha (by decide) hm, Fq.one_mul _ (Fq.pw_lt _ _ ha)] at this
  exact this
theorem Inv_f (k a : Nat) (ha : a < 256) (hk : 17 ≤ k) : field_Inv.f k a = some (((Fq.inv a : Nat) : Int), if a = 0 then 41 else 0) := by
  unfold field_Inv.f
  by_cases h : a = 0
  · subst h; rw [if_pos (by rfl), if_pos rfl, Fq.inv_zero]; rfl
  · rw [if_neg (by omega), if_neg h, show (254 : Int) = ((254 : Nat) : Int) from rfl, power_f k a 254 ha (by decide) hk, Fq.pw_254 a ha]; rfl
theorem alive_f (k : Nat) (hk : 17 ≤ k) : dailieslaw04_alive.f k = some true := by
  unfold dailieslaw04_alive.f
  have h1 := Mul_f k 2 128 (by decide) (by decide) (by omega)
  have h2 := Inv_f k 2 (by decide) hk
  rw [show Fq.mul 2 128 = 101 from by decide +kernel] at h1
  rw [show Fq.inv 2 = 178 from by decide +kernel] at h2
  rw [show (2 : Int) = ((2 : Nat) : Int) from rfl, show (128 : Int) = ((128 : Nat) : Int) from rfl, h1, h2]
  rfl
theorem u8_nat {a : Int} (h : (Lit.int .u8 a).wf = true) : ∃ n : Nat, a = n ∧ n < 256 := by
  simp [Lit.wf, IntKind.min, IntKind.max, IntKind.signed, IntKind.bits] at h
  exact ⟨a.toNat, by omega, by omega⟩
theorem i64_range {a : Int} (h : (Lit.int .i64 a).wf = true) : -9223372036854775808 ≤ a ∧ a ≤ 9223372036854775807 := by
  simp [Lit.wf, IntKind.min, IntKind.max, IntKind.signed, IntKind.bits] at h
  omega
theorem shr_nat (a i : Nat) (hi : i < 64) : shr .i64 (a : Int) (i : Int) = ((a / 2 ^ i : Nat) : Int) := by
  unfold shr
  rw [Int.toNat_natCast, Nat.min_eq_left (by show i ≤ 64; omega)]
  rw [Int.natCast_ediv, Int.natCast_pow]; rfl
theorem shl_nat (a i : Nat) (hi : i < 64) (h : a * 2 ^ i < 9223372036854775808) : shl .i64 (a : Int) (i : Int) = ((a * 2 ^ i : Nat) : Int) := by
  unfold shl
  rw [Int.toNat_natCast, Nat.min_eq_left (by show i ≤ 64; omega), IntKind.wrap_i64]
  have : (a : Int) * 2 ^ i = ((a * 2 ^ i : Nat) : Int) := by rw [Int.natCast_mul, Int.natCast_pow]; rfl
  rw [this]; omega
theorem tmod2 (c : Nat) : Int.tmod (c : Int) 2 = ((c % 2 : Nat) : Int) := by
  rw [Int.tmod_eq_emod_of_nonneg (by omega)]; omega
theorem pow2_le (n : Nat) (h : n < 8) : 2 ^ n ≤ 128 := by
  have := Nat.pow_le_pow_right (n := 2) (by decide) (by omega : n ≤ 7); omega
theorem red_l1 (n : Nat) : ∀ k p : Nat, n ≤ 7 → p < 32768 → n < k → dailiesref04_Mul.l1 k p ((7 + n : Nat) : Int) = some ((Fq.red n p % 256 : Nat) : Int) := by
  induction n with
  | zero =>
    intro k p hn hp hk
    obtain ⟨k, rfl⟩ : ∃ m, k = m + 1 := ⟨k - 1, by omega⟩
    simp only [dailiesref04_Mul.l1, Fq.red]
    rw [if_neg (by omega)]
    congr 1
  | succ n ih =>
    intro k p hn hp hk
    obtain ⟨k, rfl⟩ : ∃ m, k = m + 1 := ⟨k - 1, by omega⟩
    simp only [dailiesref04_Mul.l1, Fq.red]
    have hp2 := pow2_le n (by omega)
    have e7 : (((7 + (n + 1) : Nat) : Int) - 8) = ((n : Nat) : Int) := by omega
    have e1 : (((7 + (n + 1) : Nat) : Int) - 1) = ((7 + n : Nat) : Int) := by omega
    rw [if_pos (by omega), if_pos (by omega), shr_nat _ _ (by omega), tmod2, w64 (by omega) (by omega), w64 (by omega) (by omega), e7, e1, show (357 : Int) = ((357 : Nat) : Int) from rfl, shl_nat 357 n (by omega) (by omega),
      show 8 + n = 7 + (n + 1) from by omega]
    have hb : 357 * 2 ^ n < 32768 ∨ n = 7 := by
      rcases Nat.lt_or_ge n 7 with h | h
      · left; have := Nat.pow_le_pow_right (n := 2) (by decide) (by omega : n ≤ 6); omega
      · right; omega
    have hb : 357 * 2 ^ n < 2 ^ 15 := by
      have : n ≤ 6 := by omega
      have := Nat.pow_le_pow_right (n := 2) (by decide) this; omega
    by_cases h1 : p / 2 ^ (7 + (n + 1)) % 2 = 1
    · rw [if_pos (by omega), if_pos h1, if_pos (by omega), xor_i64 _ _ (by omega) (by omega)]
      exact ih k _ (by omega) (Nat.xor_lt_two_pow (n := 15) hp hb) (by omega)
    · rw [if_neg (by omega), if_neg h1]
      exact ih k _ (by omega) hp (by omega)
theorem ref_l0 (a b : Nat) (ha : a < 256) (hb : b < 256) (n : Nat) : ∀ k p i : Nat, i + n = 8 → p < 32768 → n + 10 ≤ k → dailiesref04_Mul.l0 k a b p (i : Int) = some ((Fq.red 7 (Fq.polyMul a b n p) % 256 : Nat) : Int) := by
  induction n with
  | zero =>
    intro k p i hi hp hk
    obtain ⟨k, rfl⟩ : ∃ m, k = m + 1 := ⟨k - 1, by omega⟩
    simp only [dailiesref04_Mul.l0, Fq.polyMul]
    rw [if_neg (by omega)]
    exact red_l1 7 k p (by omega) hp (by omega)
  | succ n ih =>
    intro k p i hi hp hk
    obtain ⟨k, rfl⟩ : ∃ m, k = m + 1 := ⟨k - 1, by omega⟩
    simp only [dailiesref04_Mul.l0, Fq.polyMul]
    have hpi := pow2_le i (by omega)
    have hm : a * 2 ^ i ≤ 255 * 128 := Nat.mul_le_mul (by omega) hpi
    rw [show 7 - n = i from by omega, if_pos (by omega), if_pos (by omega), w64 (by omega) (by omega), w64 (by omega) (by omega), w64 (by omega) (by omega),
      shr_nat _ _ (by omega), tmod2, shl_nat a i (by omega) (by omega), show ((i : Int) + 1) = ((i + 1 : Nat) : Int) from rfl]
    by_cases h1 : b / 2 ^ i % 2 = 1
    · rw [if_pos (by omega), if_pos h1, xor_i64 _ _ (by omega) (by omega)]
      exact ih k _ _ (by omega) (Nat.xor_lt_two_pow (n := 15) hp (by omega)) (by omega)
    · rw [if_neg (by omega), if_neg h1]
      exact ih k _ _ (by omega) hp (by omega)
theorem refMul_f (k a b : Nat) (ha : a < 256) (hb : b < 256) (hk : 20 ≤ k) : dailiesref04_Mul.f k a b = some ((Fq.mul a b : Nat) : Int) := by
  unfold dailiesref04_Mul.f
  have h := ref_l0 a b ha hb 8 k 0 0 (by omega) (by omega) (by omega)
  rw [Fq.red_mul a b ha hb, Nat.mod_eq_of_lt (Fq.mul_lt a b ha)] at h
  exact h
theorem rd_nat8 {l : List Int} (h : ∀ x ∈ l, 0 ≤ x ∧ x < 256) (i : Int) : ∃ n : Nat, rd l i = n ∧ n < 256 := by
  unfold rd
  rw [List.getD_eq_getElem?_getD]
  cases e : l[i.toNat]? with
  | none => exact ⟨0, rfl, by decide⟩
  | some y => have := h y (List.mem_of_getElem? e); exact ⟨y.toNat, by show y = _; omega, by omega⟩
theorem Dot_l0 (l0 l1 : List Int) (h0 : ∀ x ∈ l0, 0 ≤ x ∧ x < 256) (h1 : ∀ x ∈ l1, 0 ≤ x ∧ x < 256) (hl : l0.length = l1.length) (hb : l0.length ≤ 140737488351232) : ∀ (d i k s : Nat), i + d = l0.length → s < 256 → d + 30 < k →
    ∃ r : Nat, field_Dot.l0 k l1 (s : Int) l0 (l0.length : Int) (i : Int) = some ((r : Int), 0) ∧ dailiesref04_Dot.l0 k l0 l1 (s : Int) (i : Int) = some ((r : Int), 0) := by
  intro d
  induction d with
  | zero =>
    intro i k s hi hs hk
    obtain ⟨k, rfl⟩ : ∃ m, k = m + 1 := ⟨k - 1, by omega⟩
    refine ⟨s, ?_, ?_⟩
    · rw [field_Dot.l0, if_neg (by omega)]
    · rw [dailiesref04_Dot.l0, if_neg (by omega)]
  | succ d ih =>
    intro i k s hi hs hk
    obtain ⟨k, rfl⟩ : ∃ m, k = m + 1 := ⟨k - 1, by omega⟩
    obtain ⟨a, ea, ha⟩ := rd_nat8 h0 (i : Int)
    obtain ⟨b, eb, hb2⟩ := rd_nat8 h1 (i : Int)
    have hm := Fq.mul_lt a b ha
    obtain ⟨r, r1, r2⟩ := ih (i + 1) k (s ^^^ Fq.mul a b) (by omega) (Nat.xor_lt_two_pow (n := 8) hs hm) (by omega)
    have c1 : (i : Int) < (l0.length : Int) := by omega
    have c2 : (0 : Int) ≤ (i : Int) := by omega
    have c3 : (i : Int) < (l1.length : Int) := by omega
    have g1 : 8 < k := by omega
    have g2 : 20 ≤ k := by omega
    have hx := xor_u8 s (Fq.mul a b) hs hm
    have hw : wrap64 ((i : Int) + 1) = ((i + 1 : Nat) : Int) := by rw [w64 (by omega) (by omega)]; omega
    refine ⟨r, ?_, ?_⟩
    · rw [field_Dot.l0, if_pos c1, if_pos c2, if_pos c1, if_pos c3, ea, eb, Mul_f k a b ha hb2 g1, Option.bind_some, hx, hw, r1]
    · rw [dailiesref04_Dot.l0, if_pos c1, if_pos c2, if_pos c3, ea, eb, refMul_f k a b ha hb2 g2, Option.bind_some, hx, hw, r2]
theorem Dot_f (l0 l1 : List Int) (h0 : ∀ x ∈ l0, 0 ≤ x ∧ x < 256) (h1 : ∀ x ∈ l1, 0 ≤ x ∧ x < 256) (hb : l0.length ≤ 140737488351232) (k : Nat) (hk : l0.length + 40 < k) : ∃ r1 r2 : Int, field_Dot.f k l0 l1 = some (r1, r2) ∧ dailiesref04_Dot.f k l0 l1 = some (r1, r2) := by
  unfold field_Dot.f dailiesref04_Dot.f
  by_cases h : (l0.length : Int) = (l1.length : Int)
  · rw [if_pos h, if_pos h]
    obtain ⟨r, r1, r2⟩ := Dot_l0 l0 l1 h0 h1 (by omega) hb l0.length 0 k 0 (by omega) (by decide) (by omega)
    exact ⟨r, 0, r1, r2⟩
  · rw [if_neg h, if_neg h]
    exact ⟨0, 42, rfl, rfl⟩
end Go.Proofs.Ytdleoljbnjjdgaa.DotsM
