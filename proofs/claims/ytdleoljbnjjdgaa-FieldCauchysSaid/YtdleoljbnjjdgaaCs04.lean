/- A part of a proof: see the text's own remark. No conditions beyond its theorems' own. -/
import Derived.Test.YtdleoljbnjjdgaaQCFieldCauchysx
import Derived.Test.YtdleoljbnjjdgaaMath
import Derived.Test.YtdleoljbnjjdgaaBits
/-! what field.Cauchy and the document's own answer -/
namespace Go.Proofs.Ytdleoljbnjjdgaa.Cs
open Go.RowKit Go.Proofs.Ytdleoljbnjjdgaa.QCFieldCauchys Go.Proofs.YtdleoljbnjjdgaaW.PrintWords Go.Proofs.YtdleoljbnjjdgaaW.PrintLast
open Go.Proofs.Ytdleoljbnjjdgaa.Math Go.Proofs.Ytdleoljbnjjdgaa.Bits
set_option linter.unusedVariables false
theorem w64 {n : Int} (h0 : -9223372036854775808 ≤ n) (h1 : n ≤ 9223372036854775807) : wrap64 n = n := by unfold wrap64; omega
theorem xt_hi {x : Nat} (h : x < 256) (h1 : 128 ≤ x) : Gf.xt 8 357 x = (2 * x) ^^^ 357 := by
  unfold Gf.xt; rw [if_pos]; rw [show 8 - 1 = 7 from rfl, Nat.testBit_eq_decide_div_mod_eq]; simp; omega
theorem xt_lo {x : Nat} (h1 : x < 128) : Gf.xt 8 357 x = 2 * x := by
  unfold Gf.xt; rw [if_neg]; rw [show 8 - 1 = 7 from rfl, Nat.testBit_eq_decide_div_mod_eq]; simp; omega
theorem xt_lt8 {x : Nat} (h : x < 256) : Gf.xt 8 357 x < 256 := Gf.xt_lt 8 357 (by decide) (by decide) (by decide) x h
theorem Mul_l0 (n : Nat) : ∀ (k p x y : Nat), p < 256 → x < 256 → y < 2 ^ n → y < 256 → n < k → field_Mul.l0 k p x y = some ((Fq.mulLoop n p x y : Nat) : Int) := by
  induction n with
  | zero =>
    intro k p x y hp hx hy hy2 hk
    obtain ⟨k, rfl⟩ : ∃ m, k = m + 1 := ⟨k - 1, by omega⟩
    have : y = 0 := by simpa using hy
    subst this
    simp only [field_Mul.l0, Fq.mulLoop]
    rw [if_pos (by rfl)]
    congr 1; omega
  | succ n ih =>
    intro k p x y hp hx hy hy2 hk
    obtain ⟨k, rfl⟩ : ∃ m, k = m + 1 := ⟨k - 1, by omega⟩
    simp only [field_Mul.l0, Fq.mulLoop]
    by_cases h0 : y = 0
    · subst h0
      rw [if_pos (by rfl), if_pos rfl]
      congr 1; omega
    · rw [if_neg (by omega), if_neg h0, and1_u8 y hy2, w64 (by omega) (by omega)]
      have e2 : ((x : Int) * 2) = ((2 * x : Nat) : Int) := by omega
      have ey : (y : Int) / 2 = ((y / 2 : Nat) : Int) := by omega
      have hy' : y / 2 < 2 ^ n := by rw [Nat.pow_succ] at hy; omega
      have hpx : p ^^^ x < 256 := Nat.xor_lt_two_pow (n := 8) hp hx
      have hxt := xt_lt8 hx
      rw [e2, ey]
      by_cases h1 : y % 2 = 1
      · rw [if_pos (by omega), if_pos h1, xor_i64 p x (by omega) (by omega)]
        by_cases h2 : 128 ≤ x
        · rw [if_pos (by omega), show (357 : Int) = ((357 : Nat) : Int) from rfl, xor_i64 _ _ (by omega) (by omega), ← xt_hi hx h2]
          exact ih k _ _ _ hpx hxt hy' (by omega) (by omega)
        · rw [if_neg (by omega), ← xt_lo (by omega)]
          exact ih k _ _ _ hpx hxt hy' (by omega) (by omega)
      · rw [if_neg (by omega), if_neg h1]
        by_cases h2 : 128 ≤ x
        · rw [if_pos (by omega), show (357 : Int) = ((357 : Nat) : Int) from rfl, xor_i64 _ _ (by omega) (by omega), ← xt_hi hx h2]
          exact ih k _ _ _ hp hxt hy' (by omega) (by omega)
        · rw [if_neg (by omega), ← xt_lo (by omega)]
          exact ih k _ _ _ hp hxt hy' (by omega) (by omega)
theorem Mul_f (k a b : Nat) (ha : a < 256) (hb : b < 256) (hk : 8 < k) : field_Mul.f k a b = some ((Fq.mul a b : Nat) : Int) := by
  unfold field_Mul.f
  rw [w64 (by omega) (by omega)]
  have := Mul_l0 8 k 0 a b (by decide) ha hb hb hk
  rw [Fq.mulLoop_is _ _ _ _ hb, Nat.zero_xor] at this
  exact this
theorem power_l0 (n : Nat) : ∀ (k a m p : Nat), a < 256 → p < 256 → m < 2 ^ n → m < 9223372036854775808 → n + 9 ≤ k → field_power.l0 k a m p = some ((Fq.powLoop n a m p : Nat) : Int) := by
  induction n with
  | zero =>
    intro k a m p ha hp hm hm2 hk
    obtain ⟨k, rfl⟩ : ∃ m, k = m + 1 := ⟨k - 1, by omega⟩
    have : m = 0 := by simpa using hm
    subst this
    simp only [field_power.l0, Fq.powLoop]
    rw [if_neg (by omega)]
  | succ n ih =>
    intro k a m p ha hp hm hm2 hk
    obtain ⟨k, rfl⟩ : ∃ m, k = m + 1 := ⟨k - 1, by omega⟩
    simp only [field_power.l0, Fq.powLoop]
    by_cases h0 : m = 0
    · subst h0
      rw [if_neg (by omega), if_pos rfl]
    · rw [if_pos (by omega), if_neg h0, and1_i64 m hm2, Mul_f k a a ha ha (by omega), Mul_f k p a hp ha (by omega)]
      have ey : (m : Int) / 2 = ((m / 2 : Nat) : Int) := by omega
      have hy' : m / 2 < 2 ^ n := by rw [Nat.pow_succ] at hm; omega
      simp only [Option.bind_some]
      rw [ey]
      by_cases h1 : m % 2 = 1
      · rw [if_pos (by omega), if_pos h1]
        exact ih k _ _ _ (Fq.mul_lt _ _ ha) (Fq.mul_lt _ _ hp) hy' (by omega) (by omega)
      · rw [if_neg (by omega), if_neg h1]
        exact ih k _ _ _ (Fq.mul_lt _ _ ha) hp hy' (by omega) (by omega)
theorem power_f (k a m : Nat) (ha : a < 256) (hm : m < 256) (hk : 17 ≤ k) : field_power.f k a m = some ((Fq.pw a m : Nat) : Int) := by
  unfold field_power.f
  have := power_l0 8 k a m 1 ha (by decide) hm (by omega) hk
  rw [Fq.powLoop_is _ _ _ _ ha (by decide) hm, Fq.one_mul _ (Fq.pw_lt _ _ ha)] at this
  exact this
theorem Inv_f (k a : Nat) (ha : a < 256) (hk : 17 ≤ k) : field_Inv.f k a = some (((Fq.inv a : Nat) : Int), if a = 0 then 41 else 0) := by
  unfold field_Inv.f
  by_cases h : a = 0
  · subst h; rw [if_pos (by rfl), if_pos rfl, Fq.inv_zero]; rfl
  · rw [if_neg (by omega), if_neg h, show (254 : Int) = ((254 : Nat) : Int) from rfl, power_f k a 254 ha (by decide) hk, Fq.pw_254 a ha]; rfl
theorem alive_f (k : Nat) (hk : 17 ≤ k) : dailieslaw04_alive.f k = some true := by
  unfold dailieslaw04_alive.f
  have h1 := Mul_f k 2 128 (by decide) (by decide) (by omega)
  have h2 := Inv_f k 2 (by decide) hk
  rw [show Fq.mul 2 128 = 101 from by decide +kernel] at h1
  rw [show Fq.inv 2 = 178 from by decide +kernel] at h2
  rw [show (2 : Int) = ((2 : Nat) : Int) from rfl, show (128 : Int) = ((128 : Nat) : Int) from rfl, h1, h2]
  rfl
theorem shr_nat (a i : Nat) (hi : i < 64) : shr .i64 (a : Int) (i : Int) = ((a / 2 ^ i : Nat) : Int) := by
  unfold shr
  rw [Int.toNat_natCast, Nat.min_eq_left (by show i ≤ 64; omega)]
  rw [Int.natCast_ediv, Int.natCast_pow]; rfl
theorem shl_nat (a i : Nat) (hi : i < 64) (h : a * 2 ^ i < 9223372036854775808) : shl .i64 (a : Int) (i : Int) = ((a * 2 ^ i : Nat) : Int) := by
  unfold shl
  rw [Int.toNat_natCast, Nat.min_eq_left (by show i ≤ 64; omega), IntKind.wrap_i64]
  have : (a : Int) * 2 ^ i = ((a * 2 ^ i : Nat) : Int) := by rw [Int.natCast_mul, Int.natCast_pow]; rfl
  rw [this]; omega
theorem tmod2 (c : Nat) : Int.tmod (c : Int) 2 = ((c % 2 : Nat) : Int) := by
  rw [Int.tmod_eq_emod_of_nonneg (by omega)]; omega
theorem pow2_le (n : Nat) (h : n < 8) : 2 ^ n ≤ 128 := by
  have := Nat.pow_le_pow_right (n := 2) (by decide) (by omega : n ≤ 7); omega
theorem red_l1 (n : Nat) : ∀ k p : Nat, n ≤ 7 → p < 32768 → n < k → dailiesref04_Mul.l1 k p ((7 + n : Nat) : Int) = some ((Fq.red n p % 256 : Nat) : Int) := by
  induction n with
  | zero =>
    intro k p hn hp hk
    obtain ⟨k, rfl⟩ : ∃ m, k = m + 1 := ⟨k - 1, by omega⟩
    simp only [dailiesref04_Mul.l1, Fq.red]
    rw [if_neg (by omega)]
    congr 1
  | succ n ih =>
    intro k p hn hp hk
    obtain ⟨k, rfl⟩ : ∃ m, k = m + 1 := ⟨k - 1, by omega⟩
    simp only [dailiesref04_Mul.l1, Fq.red]
    have hp2 := pow2_le n (by omega)
    have e7 : (((7 + (n + 1) : Nat) : Int) - 8) = ((n : Nat) : Int) := by omega
    have e1 : (((7 + (n + 1) : Nat) : Int) - 1) = ((7 + n : Nat) : Int) := by omega
    rw [if_pos (by omega), if_pos (by omega), shr_nat _ _ (by omega), tmod2, w64 (by omega) (by omega), w64 (by omega) (by omega), e7, e1, show (357 : Int) = ((357 : Nat) : Int) from rfl, shl_nat 357 n (by omega) (by omega),
      show 8 + n = 7 + (n + 1) from by omega]
    have hb : 357 * 2 ^ n < 32768 ∨ n = 7 := by
      rcases Nat.lt_or_ge n 7 with h | h
      · left; have := Nat.pow_le_pow_right (n := 2) (by decide) (by omega : n ≤ 6); omega
      · right; omega
    have hb : 357 * 2 ^ n < 2 ^ 15 := by
      have : n ≤ 6 := by omega
      have := Nat.pow_le_pow_right (n := 2) (by decide) this; omega
    by_cases h1 : p / 2 ^ (7 + (n + 1)) % 2 = 1
    · rw [if_pos (by omega), if_pos h1, if_pos (by omega), xor_i64 _ _ (by omega) (by omega)]
      exact ih k _ (by omega) (Nat.xor_lt_two_pow (n := 15) hp hb) (by omega)
    · rw [if_neg (by omega), if_neg h1]
      exact ih k _ (by omega) hp (by omega)
theorem ref_l0 (a b : Nat) (ha : a < 256) (hb : b < 256) (n : Nat) : ∀ k p i : Nat, i + n = 8 → p < 32768 → n + 10 ≤ k → dailiesref04_Mul.l0 k a b p (i : Int) = some ((Fq.red 7 (Fq.polyMul a b n p) % 256 : Nat) : Int) := by
  induction n with
  | zero =>
    intro k p i hi hp hk
    obtain ⟨k, rfl⟩ : ∃ m, k = m + 1 := ⟨k - 1, by omega⟩
    simp only [dailiesref04_Mul.l0, Fq.polyMul]
    rw [if_neg (by omega)]
    exact red_l1 7 k p (by omega) hp (by omega)
  | succ n ih =>
    intro k p i hi hp hk
    obtain ⟨k, rfl⟩ : ∃ m, k = m + 1 := ⟨k - 1, by omega⟩
    simp only [dailiesref04_Mul.l0, Fq.polyMul]
    have hpi := pow2_le i (by omega)
    have hm : a * 2 ^ i ≤ 255 * 128 := Nat.mul_le_mul (by omega) hpi
    rw [show 7 - n = i from by omega, if_pos (by omega), if_pos (by omega), w64 (by omega) (by omega), w64 (by omega) (by omega), w64 (by omega) (by omega),
      shr_nat _ _ (by omega), tmod2, shl_nat a i (by omega) (by omega), show ((i : Int) + 1) = ((i + 1 : Nat) : Int) from rfl]
    by_cases h1 : b / 2 ^ i % 2 = 1
    · rw [if_pos (by omega), if_pos h1, xor_i64 _ _ (by omega) (by omega)]
      exact ih k _ _ (by omega) (Nat.xor_lt_two_pow (n := 15) hp (by omega)) (by omega)
    · rw [if_neg (by omega), if_neg h1]
      exact ih k _ _ (by omega) hp (by omega)
theorem refMul_f (k a b : Nat) (ha : a < 256) (hb : b < 256) (hk : 20 ≤ k) : dailiesref04_Mul.f k a b = some ((Fq.mul a b : Nat) : Int) := by
  unfold dailiesref04_Mul.f
  have h := ref_l0 a b ha hb 8 k 0 0 (by omega) (by omega) (by omega)
  rw [Fq.red_mul a b ha hb, Nat.mod_eq_of_lt (Fq.mul_lt a b ha)] at h
  exact h
theorem refInv_l0 (a : Nat) (ha : a < 256) (n : Nat) : ∀ k x : Nat, x + n = 256 → 1 ≤ x → n + 25 ≤ k → (∀ y, 1 ≤ y → y < x → Fq.mul a y ≠ 1) → dailiesref04_Inv.l0 k a x = some (((Fq.inv a : Nat) : Int), if a = 0 then 41 else 0) := by
  induction n with
  | zero =>
    intro k x hx h1 hk hy
    obtain ⟨k, rfl⟩ : ∃ m, k = m + 1 := ⟨k - 1, by omega⟩
    have h0 : a = 0 := Classical.byContradiction fun h => by
      have := Fq.mul_inv a ha h
      have hi := Fq.inv_lt a ha
      refine hy (Fq.inv a) ?_ (by omega) this
      rcases Nat.eq_zero_or_pos (Fq.inv a) with e | e
      · rw [e, Fq.mul_zero] at this; cases this
      · exact e
    subst h0
    simp only [dailiesref04_Inv.l0]
    rw [if_neg (by omega), Fq.inv_zero]; rfl
  | succ n ih =>
    intro k x hx h1 hk hy
    obtain ⟨k, rfl⟩ : ∃ m, k = m + 1 := ⟨k - 1, by omega⟩
    simp only [dailiesref04_Inv.l0]
    have ex : ((x : Int) % 256) = (x : Int) := by omega
    rw [if_pos (by omega), ex, refMul_f k a x ha (by omega) (by omega)]
    simp only [Option.bind_some]
    by_cases hm : Fq.mul a x = 1
    · rw [if_pos (by omega)]
      have h0 : a ≠ 0 := by rintro rfl; rw [Fq.zero_mul] at hm; cases hm
      rw [← Fq.inv_uniq a x ha (by omega) hm, if_neg h0]
    · rw [if_neg (by omega), w64 (by omega) (by omega)]
      refine ih k (x + 1) (by omega) (by omega) (by omega) ?_
      intro y hy1 hy2
      by_cases e : y = x
      · subst e; exact hm
      · exact hy y hy1 (by omega)
theorem refInv_f (k a : Nat) (ha : a < 256) (hk : 280 ≤ k) : dailiesref04_Inv.f k a = some (((Fq.inv a : Nat) : Int), if a = 0 then 41 else 0) := by
  unfold dailiesref04_Inv.f
  exact refInv_l0 a ha 255 k 1 (by omega) (by omega) (by omega) (fun y h1 h2 => by omega)

/-- an element of the matrix -/
def ent (i j : Nat) : Int := ((Fq.inv ((255 - i) ^^^ j) : Nat) : Int)
def rowE (C i : Nat) : List Int := (List.range C).map (ent i)
def matE (R C : Nat) : List (List Int) := (List.range R).map (rowE C)
theorem rowE_len (C i : Nat) : (rowE C i).length = C := by unfold rowE; rw [List.length_map, List.length_range]
theorem matE_len (R C : Nat) : (matE R C).length = R := by unfold matE; rw [List.length_map, List.length_range]
theorem matE_snoc (R C : Nat) : matE (R + 1) C = matE R C ++ [rowE C R] := by unfold matE; rw [List.range_succ, List.map_append]; rfl
theorem row_set (i j d : Nat) : ((List.range j).map (ent i) ++ List.replicate (d + 1) 0).set j (ent i j) = (List.range (j + 1)).map (ent i) ++ List.replicate d 0 := by
  rw [List.set_append_right _ _ (by rw [List.length_map, List.length_range]; exact Nat.le_refl _), List.length_map, List.length_range, Nat.sub_self, List.replicate_succ, List.set_cons_zero, List.range_succ, List.map_append, List.append_assoc]; rfl
theorem row_len (i j d : Nat) : ((List.range j).map (ent i) ++ List.replicate d 0).length = j + d := by rw [List.length_append, List.length_map, List.length_range, List.length_replicate]
theorem xor_e (i j : Nat) (hi : i < 256) (hj : j < 256) : Go.bits .xor .u8 ((wrap64 (255 - (i : Int))) % 256) ((j : Int) % 256) = (((255 - i) ^^^ j : Nat) : Int) := by
  have h1 : (wrap64 (255 - (i : Int))) % 256 = ((255 - i : Nat) : Int) := by rw [w64 (by omega) (by omega)]; omega
  have h2 : (j : Int) % 256 = (j : Int) := by omega
  rw [h1, h2]
  exact xor_u8 _ _ (by omega) hj
theorem xor_lt (i j : Nat) (hi : i < 256) (hj : j < 256) : (255 - i) ^^^ j < 256 := Nat.xor_lt_two_pow (n := 8) (by omega) (by omega)
theorem w1 (j : Nat) (h : j ≤ 100000000) : wrap64 ((j : Int) + 1) = ((j + 1 : Nat) : Int) := by rw [w64 (by omega) (by omega)]; omega
theorem fC_l1 (C : Nat) (hC : C ≤ 256) (out : List (List Int)) (ho : out.length < 5864062014805) (i : Nat) (hi : i < 256) (R : Int) : ∀ (d j k : Nat), j + d = C → d + 20 < k →
    field_Cauchy.l1 k (C : Int) out (i : Int) ((List.range j).map (ent i) ++ List.replicate d 0) R (i : Int) (C : Int) (j : Int) = field_Cauchy.l0 (k - d - 1) (C : Int) (out ++ [rowE C i]) R ((i + 1 : Nat) : Int) := by
  intro d
  induction d with
  | zero =>
    intro j k hj hk
    obtain ⟨k, rfl⟩ : ∃ m, k = m + 1 := ⟨k - 1, by omega⟩
    obtain rfl : j = C := by omega
    rw [field_Cauchy.l1, if_neg (by omega), if_pos ho, w1 i (by omega), List.replicate_zero, List.append_nil]
    rfl
  | succ d ih =>
    intro j k hj hk
    obtain ⟨k, rfl⟩ : ∃ m, k = m + 1 := ⟨k - 1, by omega⟩
    have hj8 : j < 256 := by omega
    have g : k + 1 - (d + 1) - 1 = k - d - 1 := by omega
    have hlen : (j : Int) < (((List.range j).map (ent i) ++ List.replicate (d + 1) 0).length : Int) := by rw [row_len]; omega
    rw [field_Cauchy.l1, if_pos (by omega), xor_e i j hi hj8, Inv_f k _ (xor_lt i j hi hj8) (by omega), Option.bind_some, if_pos (by omega), if_pos hlen, Int.toNat_natCast, w1 j (by omega)]
    have hs := row_set i j d
    unfold ent at hs ⊢
    rw [hs]
    have := ih (j + 1) k (by omega) (by omega)
    unfold ent at this
    rw [this, g]
theorem fC_l0 (R C : Nat) (hR : R + C ≤ 256) : ∀ (d i k : Nat), i + d = R → 300 * d + 300 ≤ k → field_Cauchy.l0 k (C : Int) (matE i C) (R : Int) (i : Int) = some (matE R C, 0) := by
  intro d
  induction d with
  | zero =>
    intro i k hi hk
    obtain ⟨k, rfl⟩ : ∃ m, k = m + 1 := ⟨k - 1, by omega⟩
    obtain rfl : i = R := by omega
    rw [field_Cauchy.l0, if_neg (by omega)]
  | succ d ih =>
    intro i k hi hk
    obtain ⟨k, rfl⟩ : ∃ m, k = m + 1 := ⟨k - 1, by omega⟩
    have h1 := fC_l1 C (by omega) (matE i C) (by rw [matE_len]; omega) i (by omega) (R : Int) C 0 k (by omega) (by omega)
    rw [List.range_zero, List.map_nil, List.nil_append, show ((0 : Nat) : Int) = 0 from rfl, ← matE_snoc] at h1
    rw [field_Cauchy.l0, if_pos (by omega), if_pos (by omega), if_pos (by rw [Int.toNat_natCast]; omega), Int.toNat_natCast, Option.bind_some, List.length_replicate, h1]
    exact ih (i + 1) (k - C - 1) (by omega) (by omega)
theorem rC_l1 (C : Nat) (hC : C ≤ 256) (out : List (List Int)) (ho : out.length < 5864062014805) (i : Nat) (hi : i < 256) (R : Int) : ∀ (d j k : Nat), j + d = C → d + 300 < k →
    dailiesref04_Cauchy.l1 k R (C : Int) out (i : Int) ((List.range j).map (ent i) ++ List.replicate d 0) (j : Int) = dailiesref04_Cauchy.l0 (k - d - 1) R (C : Int) (out ++ [rowE C i]) ((i + 1 : Nat) : Int) := by
  intro d
  induction d with
  | zero =>
    intro j k hj hk
    obtain ⟨k, rfl⟩ : ∃ m, k = m + 1 := ⟨k - 1, by omega⟩
    obtain rfl : j = C := by omega
    rw [dailiesref04_Cauchy.l1, if_neg (by omega), if_pos ho, w1 i (by omega), List.replicate_zero, List.append_nil]
    rfl
  | succ d ih =>
    intro j k hj hk
    obtain ⟨k, rfl⟩ : ∃ m, k = m + 1 := ⟨k - 1, by omega⟩
    have hj8 : j < 256 := by omega
    have g : k + 1 - (d + 1) - 1 = k - d - 1 := by omega
    have hlen : (j : Int) < (((List.range j).map (ent i) ++ List.replicate (d + 1) 0).length : Int) := by rw [row_len]; omega
    rw [dailiesref04_Cauchy.l1, if_pos (by omega), xor_e i j hi hj8, refInv_f k _ (xor_lt i j hi hj8) (by omega), Option.bind_some, if_pos (by omega), if_pos hlen, Int.toNat_natCast, w1 j (by omega)]
    have hs := row_set i j d
    unfold ent at hs ⊢
    rw [hs]
    have := ih (j + 1) k (by omega) (by omega)
    unfold ent at this
    rw [this, g]
theorem rC_l0 (R C : Nat) (hR : R + C ≤ 256) : ∀ (d i k : Nat), i + d = R → 600 * d + 600 ≤ k → dailiesref04_Cauchy.l0 k (R : Int) (C : Int) (matE i C) (i : Int) = some (matE R C, 0) := by
  intro d
  induction d with
  | zero =>
    intro i k hi hk
    obtain ⟨k, rfl⟩ : ∃ m, k = m + 1 := ⟨k - 1, by omega⟩
    obtain rfl : i = R := by omega
    rw [dailiesref04_Cauchy.l0, if_neg (by omega)]
  | succ d ih =>
    intro i k hi hk
    obtain ⟨k, rfl⟩ : ∃ m, k = m + 1 := ⟨k - 1, by omega⟩
    have h1 := rC_l1 C (by omega) (matE i C) (by rw [matE_len]; omega) i (by omega) (R : Int) C 0 k (by omega) (by omega)
    rw [List.range_zero, List.map_nil, List.nil_append, show ((0 : Nat) : Int) = 0 from rfl, ← matE_snoc] at h1
    rw [dailiesref04_Cauchy.l0, if_pos (by omega), if_pos (by omega), if_pos (by rw [Int.toNat_natCast]; omega), Int.toNat_natCast, h1]
    exact ih (i + 1) (k - C - 1) (by omega) (by omega)
/-- what both answer: a matrix, or that it cannot be -/
theorem both (n k : Int) (hn : -9223372036854775808 ≤ n ∧ n ≤ 9223372036854775807) (hk : -9223372036854775808 ≤ k ∧ k ≤ 9223372036854775807) :
    ∃ R C : Nat, R ≤ 256 ∧ C ≤ 256 ∧ (0 < R → 0 < C) ∧ ∃ er : Int, (∀ q, 200000 ≤ q → field_Cauchy.f q n k = some (matE R C, er)) ∧ ∀ q, 200000 ≤ q → dailiesref04_Cauchy.f q n k = some (matE R C, er) := by
  by_cases h : 1 ≤ n ∧ 1 ≤ k ∧ n ≤ 256 ∧ k ≤ 256 ∧ n + k ≤ 256
  · obtain ⟨h1, h2, h3, h4, h5⟩ := h
    obtain ⟨R, rfl⟩ := Int.eq_ofNat_of_zero_le (by omega : 0 ≤ n)
    obtain ⟨C, rfl⟩ := Int.eq_ofNat_of_zero_le (by omega : 0 ≤ k)
    have hw : wrap64 ((R : Int) + (C : Int)) = ((R + C : Nat) : Int) := by rw [w64 (by omega) (by omega)]; omega
    refine ⟨R, C, by omega, by omega, by omega, 0, fun q hq => ?_, fun q hq => ?_⟩
    · obtain ⟨q, rfl⟩ : ∃ m, q = m + 1 := ⟨q - 1, by omega⟩
      unfold field_Cauchy.f
      rw [hw, if_neg (by omega), if_neg (by omega), if_neg (by omega), if_neg (by omega), decide_eq_false (by omega), field_Cauchy.j0, if_neg (by decide)]
      exact fC_l0 R C (by omega) R 0 q (by omega) (by omega)
    · obtain ⟨q, rfl⟩ : ∃ m, q = m + 1 := ⟨q - 1, by omega⟩
      unfold dailiesref04_Cauchy.f
      rw [hw, if_neg (by omega), if_neg (by omega), if_neg (by omega), if_neg (by omega), decide_eq_false (by omega), dailiesref04_Cauchy.j0, if_neg (by decide)]
      exact rC_l0 R C (by omega) R 0 q (by omega) (by omega)
  · refine ⟨0, 0, by omega, by omega, by omega, 42, fun q hq => ?_, fun q hq => ?_⟩
    · obtain ⟨q, rfl⟩ : ∃ m, q = m + 1 := ⟨q - 1, by omega⟩
      unfold field_Cauchy.f
      have hj : field_Cauchy.j0 (q + 1) n k true = some (matE 0 0, 42) := by rw [field_Cauchy.j0, if_pos rfl]; rfl
      by_cases c1 : n < 1
      · rw [if_pos c1, hj]
      · rw [if_neg c1]
        by_cases c2 : k < 1
        · rw [if_pos c2, hj]
        · rw [if_neg c2]
          by_cases c3 : n > 256
          · rw [if_pos c3, hj]
          · rw [if_neg c3]
            by_cases c4 : k > 256
            · rw [if_pos c4, hj]
            · rw [if_neg c4, w64 (by omega) (by omega), decide_eq_true (by omega), hj]
    · obtain ⟨q, rfl⟩ : ∃ m, q = m + 1 := ⟨q - 1, by omega⟩
      unfold dailiesref04_Cauchy.f
      have hj : dailiesref04_Cauchy.j0 (q + 1) n k true = some (matE 0 0, 42) := by rw [dailiesref04_Cauchy.j0, if_pos rfl]; rfl
      by_cases c1 : n < 1
      · rw [if_pos c1, hj]
      · rw [if_neg c1]
        by_cases c2 : k < 1
        · rw [if_pos c2, hj]
        · rw [if_neg c2]
          by_cases c3 : n > 256
          · rw [if_pos c3, hj]
          · rw [if_neg c3]
            by_cases c4 : k > 256
            · rw [if_pos c4, hj]
            · rw [if_neg c4, w64 (by omega) (by omega), decide_eq_true (by omega), hj]
end Go.Proofs.Ytdleoljbnjjdgaa.Cs
