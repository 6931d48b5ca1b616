/- Join of any sums and length is the document's: the law CrcJoins is true. No conditions. -/
import Derived.Test.YtjaafdjgogpbdaaQCrcJoinsx1
import Derived.Test.YtjaafdjgogpbdaaMath
import Derived.Test.YtjaafdjgogpbdaaBits
namespace Go.Proofs.Ytjaafdjgogpbdaa.Pure
open Go.RowKit Go.Proofs.Ytjaafdjgogpbdaa.QCrcJoins Go.Proofs.YtjaafdjgogpbdaaW.PrintWords Go.Proofs.YtjaafdjgogpbdaaW.PrintLast Go.Proofs.YtjaafdjgogpbdaaW.PrintMore
open Go.Proofs.Ytjaafdjgogpbdaa.Math Go.Proofs.Ytjaafdjgogpbdaa.Bits
theorem w64 {n : Int} (h0 : -9223372036854775808 ≤ n) (h1 : n ≤ 9223372036854775807) : wrap64 n = n := by unfold wrap64; omega
theorem u32_nat {a : Int} (h : (Lit.int .u32 a).wf = true) : ∃ n : Nat, a = n ∧ n < 2 ^ 32 := by
  simp [Lit.wf, IntKind.min, IntKind.max, IntKind.signed, IntKind.bits] at h
  exact ⟨a.toNat, by omega, by omega⟩
theorem u8_range {a : Int} (h : (Lit.int .u8 a).wf = true) : 0 ≤ a ∧ a < 256 := by
  simp [Lit.wf, IntKind.min, IntKind.max, IntKind.signed, IntKind.bits] at h
  omega
theorem i64_range {a : Int} (h : (Lit.int .i64 a).wf = true) : -9223372036854775808 ≤ a ∧ a ≤ 9223372036854775807 := by
  simp [Lit.wf, IntKind.min, IntKind.max, IntKind.signed, IntKind.bits] at h
  omega
theorem bytes_of {l : List Int} (h : ∀ x ∈ l, (Lit.int .u8 x).wf = true) : ∀ x ∈ l, 0 ≤ x ∧ x < 256 := fun x hx => u8_range (h x hx)
theorem shr_nat32 (a i : Nat) (hi : i < 32) : shr .u32 (a : Int) (i : Int) = ((a / 2 ^ i : Nat) : Int) := by
  unfold shr
  rw [Int.toNat_natCast, Nat.min_eq_left (by show i ≤ 32; omega)]
  rw [Int.natCast_ediv, Int.natCast_pow]; rfl
theorem tmod2 (c : Nat) : Int.tmod (c : Int) 2 = ((c % 2 : Nat) : Int) := by
  rw [Int.tmod_eq_emod_of_nonneg (by omega)]; omega
/-- a step, as the program has it -/
theorem X_form (p : Nat) (hp : p < 2 ^ 32) : Go.bits .xor .u32 (((p : Int) * 2) % 4294967296) ((79764919 * ((p : Int) / 2147483648)) % 4294967296) = ((Crc.X p : Nat) : Int) := by
  by_cases h : 2 ^ 31 ≤ p
  · have e : ((p : Int) * 2) % 4294967296 = ((2 * (p - 2 ^ 31) : Nat) : Int) := by omega
    have e2 : (79764919 * ((p : Int) / 2147483648)) % 4294967296 = ((79764919 : Nat) : Int) := by
      have : (p : Int) / 2147483648 = 1 := by omega
      rw [this]; rfl
    rw [e, e2, xor_u32 _ _ (by omega) (by decide)]
    have := Crc.X_big (v := p - 2 ^ 31) (by omega)
    rw [show p - 2 ^ 31 + 2 ^ 31 = p from by omega] at this
    rw [this]
  · have e : ((p : Int) * 2) % 4294967296 = ((2 * p : Nat) : Int) := by omega
    have e2 : (79764919 * ((p : Int) / 2147483648)) % 4294967296 = ((0 : Nat) : Int) := by
      have : (p : Int) / 2147483648 = 0 := by omega
      rw [this]; rfl
    rw [e, e2, xor_u32 _ _ (by omega) (by decide), Nat.xor_zero, Crc.X_small (v := p) (Nat.not_le.1 h)]
theorem pow_lt32 (n : Nat) (h : n < 32) : 2 ^ n < 2 ^ 32 := Nat.pow_lt_pow_right (by decide) h
theorem mul_l0 (a b : Nat) (ha : a < 2 ^ 32) (hb : b < 2 ^ 32) (n : Nat) : ∀ k p : Nat, n ≤ 32 → p < 2 ^ 32 → n < k → crc_mul.l0 k a b p ((n : Int) - 1) = some ((Gf.horner 32 Crc.P a b n p : Nat) : Int) := by
  induction n with
  | zero =>
    intro k p hn hp hk
    obtain ⟨k, rfl⟩ : ∃ m, k = m + 1 := ⟨k - 1, by omega⟩
    simp only [crc_mul.l0, Gf.horner]
    rw [if_neg (by omega)]
  | succ n ih =>
    intro k p hn hp hk
    obtain ⟨k, rfl⟩ : ∃ m, k = m + 1 := ⟨k - 1, by omega⟩
    simp only [crc_mul.l0, Gf.horner]
    have hX := Crc.X_lt hp
    have hdiv : b / 2 ^ n ≤ b := Nat.div_le_self _ _
    rw [if_pos (by omega), if_pos (by omega), show (((n + 1 : Nat) : Int) - 1) = (n : Int) from by omega, shr_nat32 b n (by omega), and1_u32 _ (by omega), X_form p hp, w64 (by omega) (by omega)]
    by_cases h1 : b / 2 ^ n % 2 = 1
    · rw [if_pos (by omega), if_pos h1, xor_u32 _ _ hX ha]
      exact ih k _ (by omega) (Nat.xor_lt_two_pow hX ha) (by omega)
    · rw [if_neg (by omega), if_neg h1, Nat.xor_zero]
      exact ih k _ (by omega) hX (by omega)
theorem mul_f (k a b : Nat) (ha : a < 2 ^ 32) (hb : b < 2 ^ 32) (hk : 32 < k) : crc_mul.f k a b = some ((Crc.M a b : Nat) : Int) := by
  unfold crc_mul.f
  have := mul_l0 a b ha hb 32 k 0 (by omega) (by omega) hk
  rw [Gf.horner_mul] at this
  exact this
theorem Join_l0 (b : Nat) (hb : b < 2 ^ 32) (m : Nat) : ∀ k a x n : Nat, a < 2 ^ 32 → x < 2 ^ 32 → n < 2 ^ m → n < 9223372036854775808 → m + 40 ≤ k → crc_Join.l0 k a b n x = some (((Crc.joinL m a x n ^^^ b : Nat) : Int), 0) := by
  induction m with
  | zero =>
    intro k a x n ha hx hn hn2 hk
    obtain ⟨k, rfl⟩ : ∃ m, k = m + 1 := ⟨k - 1, by omega⟩
    have : n = 0 := by simpa using hn
    subst this
    simp only [crc_Join.l0, Crc.joinL]
    rw [if_neg (by omega), xor_u32 _ _ ha hb]
  | succ m ih =>
    intro k a x n ha hx hn hn2 hk
    obtain ⟨k, rfl⟩ : ∃ m, k = m + 1 := ⟨k - 1, by omega⟩
    simp only [crc_Join.l0, Crc.joinL]
    by_cases h0 : n = 0
    · subst h0
      rw [if_neg (by omega), if_pos rfl, xor_u32 _ _ ha hb]
    · rw [if_pos (by omega), if_neg h0, and1_i64 n hn2, mul_f k a x ha hx (by omega), mul_f k x x hx hx (by omega)]
      have ey : (n : Int) / 2 = ((n / 2 : Nat) : Int) := by omega
      have hy' : n / 2 < 2 ^ m := by rw [Nat.pow_succ] at hn; omega
      simp only [Option.bind_some]
      rw [ey]
      by_cases h1 : n % 2 = 1
      · rw [if_pos (by omega), if_pos h1]
        exact ih k _ _ _ (Crc.M_lt _ _ ha) (Crc.M_lt _ _ hx) hy' (by omega) (by omega)
      · rw [if_neg (by omega), if_neg h1]
        exact ih k _ _ _ ha (Crc.M_lt _ _ hx) hy' (by omega) (by omega)
theorem x8 : (256 : Nat) = Crc.Xn 8 1 := (Crc.Xn_small 8 1 (by decide)).symm
theorem Join_f (k a b n : Nat) (ha : a < 2 ^ 32) (hb : b < 2 ^ 32) (hn : n < 9223372036854775808) (hk : 103 ≤ k) : crc_Join.f k a b n = some (((Crc.join a b n : Nat) : Int), 0) := by
  unfold crc_Join.f
  rw [if_neg (by omega)]
  have := Join_l0 b hb 63 k a 256 n ha (by omega) (by omega) hn hk
  rw [x8, Crc.joinL_is 63 a 8 n ha (by omega)] at this
  exact this
theorem two_xor (q c : Nat) (hc : c < 2) : 2 * q + c = 2 * q ^^^ c := by
  have e := Crc.split_at 1 (2 * q + c)
  rw [show (2 * q + c) / 2 ^ 1 * 2 ^ 1 = 2 * q from by omega, show (2 * q + c) % 2 ^ 1 = c from by omega] at e
  exact e
theorem step_f (p c : Nat) (hp : p < 2 ^ 32) (hc : c < 2) : dailiesref03_step.f p c = some ((Crc.X p ^^^ c : Nat) : Int) := by
  unfold dailiesref03_step.f
  by_cases h : 2 ^ 31 ≤ p
  · have e : (((2 * (p : Int)) % 4294967296) + c) % 4294967296 = ((2 * (p - 2 ^ 31) + c : Nat) : Int) := by omega
    rw [if_pos (by omega), e, show (79764919 : Int) = ((79764919 : Nat) : Int) from rfl, xor_u32 _ _ (by omega) (by decide), two_xor _ _ hc]
    have := Crc.X_big (v := p - 2 ^ 31) (by omega)
    rw [show p - 2 ^ 31 + 2 ^ 31 = p from by omega] at this
    rw [this, Nat.xor_assoc, Nat.xor_assoc, Nat.xor_comm c]
  · have e : (((2 * (p : Int)) % 4294967296) + c) % 4294967296 = ((2 * p + c : Nat) : Int) := by omega
    rw [if_neg (by omega), e, two_xor _ _ hc, Crc.X_small (v := p) (Nat.not_le.1 h)]
theorem times_l0 (a b : Nat) (ha : a < 2 ^ 32) (n : Nat) : ∀ k p : Nat, n ≤ 32 → p < 2 ^ 32 → n < k → dailiesref03_times.l0 k a b p ((n : Int) - 1) = some ((Gf.horner 32 Crc.P a b n p : Nat) : Int) := by
  induction n with
  | zero =>
    intro k p hn hp hk
    obtain ⟨k, rfl⟩ : ∃ m, k = m + 1 := ⟨k - 1, by omega⟩
    simp only [dailiesref03_times.l0, Gf.horner]
    rw [if_neg (by omega)]
  | succ n ih =>
    intro k p hn hp hk
    obtain ⟨k, rfl⟩ : ∃ m, k = m + 1 := ⟨k - 1, by omega⟩
    simp only [dailiesref03_times.l0, Gf.horner]
    have hX := Crc.X_lt hp
    have hs := step_f p 0 hp (by omega)
    rw [Nat.xor_zero] at hs
    rw [if_pos (by omega), show dailiesref03_step.f (p : Int) 0 = _ from hs, show (((n + 1 : Nat) : Int) - 1) = (n : Int) from by omega, shr_nat32 b n (by omega), tmod2]
    simp only [Option.bind_some]
    rw [if_pos (by omega), w64 (by omega) (by omega)]
    by_cases h1 : b / 2 ^ n % 2 = 1
    · rw [if_pos (by omega), if_pos h1, xor_u32 _ _ hX ha]
      exact ih k _ (by omega) (Nat.xor_lt_two_pow hX ha) (by omega)
    · rw [if_neg (by omega), if_neg h1, Nat.xor_zero]
      exact ih k _ (by omega) hX (by omega)
theorem times_f (k a b : Nat) (ha : a < 2 ^ 32) (hk : 32 < k) : dailiesref03_times.f k a b = some ((Crc.M a b : Nat) : Int) := by
  unfold dailiesref03_times.f
  have := times_l0 a b ha 32 k 0 (by omega) (by omega) hk
  rw [Gf.horner_mul] at this
  exact this
theorem refJoin_l0 (a b : Nat) (ha : a < 2 ^ 32) (hb : b < 2 ^ 32) (m : Nat) : ∀ k f x n : Nat, f < 2 ^ 32 → x < 2 ^ 32 → n < 2 ^ m → n < 9223372036854775808 → m + 40 ≤ k →
    dailiesref03_Join.l0 k a b n f x = some (((b ^^^ Crc.M a (Crc.joinL m f x n) : Nat) : Int), 0) := by
  induction m with
  | zero =>
    intro k f x n hf hx hn hn2 hk
    obtain ⟨k, rfl⟩ : ∃ m, k = m + 1 := ⟨k - 1, by omega⟩
    have : n = 0 := by simpa using hn
    subst this
    simp only [dailiesref03_Join.l0, Crc.joinL]
    rw [if_neg (by omega), times_f k a f ha (by omega)]
    simp only [Option.bind_some]
    rw [xor_u32 _ _ hb (Crc.M_lt _ _ ha)]
  | succ m ih =>
    intro k f x n hf hx hn hn2 hk
    obtain ⟨k, rfl⟩ : ∃ m, k = m + 1 := ⟨k - 1, by omega⟩
    simp only [dailiesref03_Join.l0, Crc.joinL]
    by_cases h0 : n = 0
    · subst h0
      rw [if_neg (by omega), if_pos rfl, times_f k a f ha (by omega)]
      simp only [Option.bind_some]
      rw [xor_u32 _ _ hb (Crc.M_lt _ _ ha)]
    · rw [if_pos (by omega), if_neg h0, tmod2, times_f k f x hf (by omega), times_f k x x hx (by omega)]
      have ey : wrap64 (Int.tdiv (n : Int) 2) = ((n / 2 : Nat) : Int) := by
        rw [Int.tdiv_eq_ediv_of_nonneg (by omega), w64 (by omega) (by omega)]; omega
      have hy' : n / 2 < 2 ^ m := by rw [Nat.pow_succ] at hn; omega
      simp only [Option.bind_some]
      rw [ey]
      by_cases h1 : n % 2 = 1
      · rw [if_pos (by omega), if_pos h1]
        exact ih k _ _ _ (Crc.M_lt _ _ hf) (Crc.M_lt _ _ hx) hy' (by omega) (by omega)
      · rw [if_neg (by omega), if_neg h1]
        exact ih k _ _ _ hf (Crc.M_lt _ _ hx) hy' (by omega) (by omega)
theorem refJoin_f (k a b n : Nat) (ha : a < 2 ^ 32) (hb : b < 2 ^ 32) (hn : n < 9223372036854775808) (hk : 103 ≤ k) : dailiesref03_Join.f k a b n = some (((Crc.join a b n : Nat) : Int), 0) := by
  unfold dailiesref03_Join.f
  rw [if_neg (by omega)]
  have := refJoin_l0 a b ha hb 63 k 1 256 n (by omega) (by omega) (by omega) hn hk
  rw [x8, Crc.joinL_is 63 1 8 n (by decide) (by omega), Crc.M_by a _ ha, Nat.xor_comm b] at this
  exact this
theorem CrcJoins : dailieslaw03_CrcJoins.Pure := by
  intro a0 a1 n w0 w1 w2
  obtain ⟨a, rfl, ha⟩ := u32_nat w0
  obtain ⟨b, rfl, hb⟩ := u32_nat w1
  obtain ⟨h0, h1⟩ := i64_range w2
  suffices h : ∀ k, 103 ≤ k → dailieslaw03_CrcJoins.f k a b n = some true from ⟨103, h 103 (Nat.le_refl _)⟩
  intro k hk
  unfold dailieslaw03_CrcJoins.f dailieslaw03_shown.f
  simp only [Option.bind_some]
  by_cases hn : n < 0
  · unfold crc_Join.f dailiesref03_Join.f
    rw [if_pos hn, if_pos hn]; rfl
  · obtain ⟨m, rfl⟩ : ∃ m : Nat, n = m := ⟨n.toNat, by omega⟩
    rw [Join_f k a b m ha hb (by omega) hk, refJoin_f k a b m ha hb (by omega) hk]
    simp

end Go.Proofs.Ytjaafdjgogpbdaa.Pure
