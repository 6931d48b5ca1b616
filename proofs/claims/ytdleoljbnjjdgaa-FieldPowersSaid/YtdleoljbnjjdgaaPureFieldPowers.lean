/- The powers of 2 go round all elements but 0, and a power of a sum of numbers is the product of the powers: the law FieldPowers is true. No conditions. -/
import Derived.Test.YtdleoljbnjjdgaaPFieldPowersx2
import Derived.Test.YtdleoljbnjjdgaaMath
import Derived.Test.YtdleoljbnjjdgaaBits
namespace Go.Proofs.Ytdleoljbnjjdgaa.Pure
open Go.RowKit Go.Proofs.Ytdleoljbnjjdgaa.PFieldPowers Go.Proofs.YtdleoljbnjjdgaaW.PrintWords Go.Proofs.YtdleoljbnjjdgaaW.PrintLast
open Go.Proofs.Ytdleoljbnjjdgaa.Math Go.Proofs.Ytdleoljbnjjdgaa.Bits
theorem w64 {n : Int} (h0 : -9223372036854775808 ≤ n) (h1 : n ≤ 9223372036854775807) : wrap64 n = n := by unfold wrap64; omega
theorem xt_hi {x : Nat} (h : x < 256) (h1 : 128 ≤ x) : Gf.xt 8 357 x = (2 * x) ^^^ 357 := by
  unfold Gf.xt; rw [if_pos]; rw [show 8 - 1 = 7 from rfl, Nat.testBit_eq_decide_div_mod_eq]; simp; omega
theorem xt_lo {x : Nat} (h1 : x < 128) : Gf.xt 8 357 x = 2 * x := by
  unfold Gf.xt; rw [if_neg]; rw [show 8 - 1 = 7 from rfl, Nat.testBit_eq_decide_div_mod_eq]; simp; omega
theorem xt_lt8 {x : Nat} (h : x < 256) : Gf.xt 8 357 x < 256 := Gf.xt_lt 8 357 (by decide) (by decide) (by decide) x h
theorem Mul_l0 (n : Nat) : ∀ (k p x y : Nat), p < 256 → x < 256 → y < 2 ^ n → y < 256 → n < k → field_Mul.l0 k p x y = some ((Fq.mulLoop n p x y : Nat) : Int) := by
  induction n with
  | zero =>
    intro k p x y hp hx hy hy2 hk
    obtain ⟨k, rfl⟩ : ∃ m, k = m + 1 := ⟨k - 1, by omega⟩
    have : y = 0 := by simpa using hy
    subst this
    simp only [field_Mul.l0, Fq.mulLoop]
    rw [if_pos (by rfl)]
    congr 1; omega
  | succ n ih =>
    intro k p x y hp hx hy hy2 hk
    obtain ⟨k, rfl⟩ : ∃ m, k = m + 1 := ⟨k - 1, by omega⟩
    simp only [field_Mul.l0, Fq.mulLoop]
    by_cases h0 : y = 0
    · subst h0
      rw [if_pos (by rfl), if_pos rfl]
      congr 1; omega
    · rw [if_neg (by omega), if_neg h0, and1_u8 y hy2, w64 (by omega) (by omega)]
      have e2 : ((x : Int) * 2) = ((2 * x : Nat) : Int) := by omega
      have ey : (y : Int) / 2 = ((y / 2 : Nat) : Int) := by omega
      have hy' : y / 2 < 2 ^ n := by rw [Nat.pow_succ] at hy; omega
      have hpx : p ^^^ x < 256 := Nat.xor_lt_two_pow (n := 8) hp hx
      have hxt := xt_lt8 hx
      rw [e2, ey]
      by_cases h1 : y % 2 = 1
      · rw [if_pos (by omega), if_pos h1, xor_i64 p x (by omega) (by omega)]
        by_cases h2 : 128 ≤ x
        · rw [if_pos (by omega), show (357 : Int) = ((357 : Nat) : Int) from rfl, xor_i64 _ _ (by omega) (by omega), ← xt_hi hx h2]
          exact ih k _ _ _ hpx hxt hy' (by omega) (by omega)
        · rw [if_neg (by omega), ← xt_lo (by omega)]
          exact ih k _ _ _ hpx hxt hy' (by omega) (by omega)
      · rw [if_neg (by omega), if_neg h1]
        by_cases h2 : 128 ≤ x
        · rw [if_pos (by omega), show (357 : Int) = ((357 : Nat) : Int) from rfl, xor_i64 _ _ (by omega) (by omega), ← xt_hi hx h2]
          exact ih k _ _ _ hp hxt hy' (by omega) (by omega)
        · rw [if_neg (by omega), ← xt_lo (by omega)]
          exact ih k _ _ _ hp hxt hy' (by omega) (by omega)
theorem Mul_f (k a b : Nat) (ha : a < 256) (hb : b < 256) (hk : 8 < k) : field_Mul.f k a b = some ((Fq.mul a b : Nat) : Int) := by
  unfold field_Mul.f
  rw [w64 (by omega) (by omega)]
  have := Mul_l0 8 k 0 a b (by decide) ha hb hb hk
  rw [Fq.mulLoop_is _ _ _ _ hb, Nat.zero_xor] at this
  exact this
theorem power_l0 (n : Nat) : ∀ (k a m p : Nat), a < 256 → p < 256 → m < 2 ^ n → m < 9223372036854775808 → n + 9 ≤ k → field_power.l0 k a m p = some ((Fq.powLoop n a m p : Nat) : Int) := by
  induction n with
  | zero =>
    intro k a m p ha hp hm hm2 hk
    obtain ⟨k, rfl⟩ : ∃ m, k = m + 1 := ⟨k - 1, by omega⟩
    have : m = 0 := by simpa using hm
    subst this
    simp only [field_power.l0, Fq.powLoop]
    rw [if_neg (by omega)]
  | succ n ih =>
    intro k a m p ha hp hm hm2 hk
    obtain ⟨k, rfl⟩ : ∃ m, k = m + 1 := ⟨k - 1, by omega⟩
    simp only [field_power.l0, Fq.powLoop]
    by_cases h0 : m = 0
    · subst h0
      rw [if_neg (by omega), if_pos rfl]
    · rw [if_pos (by omega), if_neg h0, and1_i64 m hm2, Mul_f k a a ha ha (by omega), Mul_f k p a hp ha (by omega)]
      have ey : (m : Int) / 2 = ((m / 2 : Nat) : Int) := by omega
      have hy' : m / 2 < 2 ^ n := by rw [Nat.pow_succ] at hm; omega
      simp only [Option.bind_some]
      rw [ey]
      by_cases h1 : m % 2 = 1
      · rw [if_pos (by omega), if_pos h1]
        exact ih k _ _ _ (Fq.mul_lt _ _ ha) (Fq.mul_lt _ _ hp) hy' (by omega) (by omega)
      · rw [if_neg (by omega), if_neg h1]
        exact ih k _ _ _ (Fq.mul_lt _ _ ha) hp hy' (by omega) (by omega)
theorem power_f (k a m : Nat) (ha : a < 256) (hm : m < 256) (hk : 17 ≤ k) : field_power.f k a m = some ((Fq.pw a m : Nat) : Int) := by
  unfold field_power.f
  have := power_l0 8 k a m 1 ha (by decide) hm (by omega) hk
  rw [Fq.powLoop_is _ _ _ _ ha (by decide) hm, Fq.one_mul _ (Fq.pw_lt _ _ ha)] at this
  exact this
theorem Inv_f (k a : Nat) (ha : a < 256) (hk : 17 ≤ k) : field_Inv.f k a = some (((Fq.inv a : Nat) : Int), if a = 0 then 41 else 0) := by
  unfold field_Inv.f
  by_cases h : a = 0
  · subst h; rw [if_pos (by rfl), if_pos rfl, Fq.inv_zero]; rfl
  · rw [if_neg (by omega), if_neg h, show (254 : Int) = ((254 : Nat) : Int) from rfl, power_f k a 254 ha (by decide) hk, Fq.pw_254 a ha]; rfl
theorem alive_f (k : Nat) (hk : 17 ≤ k) : dailieslaw04_alive.f k = some true := by
  unfold dailieslaw04_alive.f
  have h1 := Mul_f k 2 128 (by decide) (by decide) (by omega)
  have h2 := Inv_f k 2 (by decide) hk
  rw [show Fq.mul 2 128 = 101 from by decide +kernel] at h1
  rw [show Fq.inv 2 = 178 from by decide +kernel] at h2
  rw [show (2 : Int) = ((2 : Nat) : Int) from rfl, show (128 : Int) = ((128 : Nat) : Int) from rfl, h1, h2]
  rfl
theorem u8_nat {a : Int} (h : (Lit.int .u8 a).wf = true) : ∃ n : Nat, a = n ∧ n < 256 := by
  simp [Lit.wf, IntKind.min, IntKind.max, IntKind.signed, IntKind.bits] at h
  exact ⟨a.toNat, by omega, by omega⟩
theorem i64_range {a : Int} (h : (Lit.int .i64 a).wf = true) : -9223372036854775808 ≤ a ∧ a ≤ 9223372036854775807 := by
  simp [Lit.wf, IntKind.min, IntKind.max, IntKind.signed, IntKind.bits] at h
  omega
theorem tmod255 (n : Int) (h0 : -9223372036854775808 ≤ n) (h1 : n ≤ 9223372036854775807) : Int.tmod (wrap64 ((Int.tmod n 255) + 255)) 255 = (((n % 255).toNat : Nat) : Int) := by
  have e : Int.tmod n 255 = if 0 ≤ n then n % 255 else -((-n) % 255) := by
    split
    · rw [Int.tmod_eq_emod_of_nonneg (by omega)]
    · have : Int.tmod n 255 = -(Int.tmod (-n) 255) := by rw [Int.neg_tmod]; simp
      rw [this, Int.tmod_eq_emod_of_nonneg (by omega)]
  rw [e]
  split
  · rw [w64 (by omega) (by omega), Int.tmod_eq_emod_of_nonneg (by omega)]; omega
  · rw [w64 (by omega) (by omega), Int.tmod_eq_emod_of_nonneg (by omega)]; omega
def powV (a : Nat) (n : Int) : Int × Int :=
  if n = 0 then (1, 0) else if a = 0 then (if n < 0 then (0, 41) else (0, 0)) else (((Fq.pw a (n % 255).toNat : Nat) : Int), 0)
theorem Pow_f (k a : Nat) (n : Int) (h0 : -9223372036854775808 ≤ n) (h1 : n ≤ 9223372036854775807) (ha : a < 256) (hk : 20 ≤ k) : field_Pow.f k a n = some (powV a n) := by
  unfold field_Pow.f powV
  obtain ⟨k, rfl⟩ : ∃ m, k = m + 1 := ⟨k - 1, by omega⟩
  by_cases hn : n = 0
  · rw [if_pos hn, if_pos hn]
  · rw [if_neg hn, if_neg hn]
    by_cases h : a = 0
    · subst h
      rw [if_pos (by rfl), if_pos rfl]
      simp only [field_Pow.j0]
      by_cases hl : n < 0
      · rw [decide_eq_true hl, if_pos rfl, if_pos hl]
      · rw [decide_eq_false hl, if_neg (by decide), if_pos (by rfl), if_neg hl]
    · rw [if_neg (by omega), if_neg h]
      simp only [field_Pow.j0]
      rw [if_neg (by decide), if_neg (by omega), tmod255 n h0 h1, power_f _ a _ ha (by omega) (by omega)]
      rfl
theorem pick_f (a n : Int) (h0 : -9223372036854775808 ≤ a) (h1 : a ≤ 9223372036854775807) (hn : 0 < n) : ∃ c, dailieslaw04_pick.f a n = some c ∧ 0 ≤ c ∧ c < n := by
  unfold dailieslaw04_pick.f
  by_cases h : a < 0
  · rw [if_pos h, if_neg (by omega), w64 (n := a + 1) (by omega) (by omega), w64 (by omega) (by omega)]
    refine ⟨_, rfl, ?_, ?_⟩
    · rw [Int.tmod_eq_emod_of_nonneg (by omega)]; exact Int.emod_nonneg _ (by omega)
    · rw [Int.tmod_eq_emod_of_nonneg (by omega)]; exact Int.emod_lt_of_pos _ hn
  · rw [if_neg h, if_neg (by omega)]
    refine ⟨_, rfl, ?_, ?_⟩
    · rw [Int.tmod_eq_emod_of_nonneg (by omega)]; exact Int.emod_nonneg _ (by omega)
    · rw [Int.tmod_eq_emod_of_nonneg (by omega)]; exact Int.emod_lt_of_pos _ hn
def chain : Nat → Nat → Bool
  | 0, _ => true
  | n + 1, x => x != 1 && chain n (Fq.mul x 2)
theorem chain_is (n : Nat) : ∀ i : Nat, chain n (Fq.pw 2 i) = true → ∀ j, j < n → Fq.pw 2 (i + j) ≠ 1 := by
  induction n with
  | zero => intro i _ j hj; omega
  | succ n ih =>
    intro i h j hj
    simp only [chain, Bool.and_eq_true, bne_iff_ne] at h
    cases j with
    | zero => exact h.1
    | succ j => have := ih (i + 1) h.2 j (by omega); rwa [show i + 1 + j = i + (j + 1) from by omega] at this
theorem pw2_ne_one (d : Nat) (h0 : 0 < d) (h : d < 255) : Fq.pw 2 d ≠ 1 := by
  have := chain_is 254 1 (by decide +kernel) (d - 1) (by omega)
  rwa [show 1 + (d - 1) = d from by omega] at this
theorem pw2_ne_zero (d : Nat) : Fq.pw 2 d ≠ 0 := by
  induction d with
  | zero => decide
  | succ d ih =>
    intro h
    rcases Fq.mul_eq_zero _ _ (Fq.pw_lt 2 d (by decide)) (by decide) h with h1 | h1
    · exact ih h1
    · cases h1
theorem pw2_ne (i j : Nat) (hj : j < i) (hi : i < 255) : Fq.pw 2 i ≠ Fq.pw 2 j := by
  intro h
  have e : Fq.pw 2 i = Fq.mul (Fq.pw 2 j) (Fq.pw 2 (i - j)) := by rw [← Fq.pw_add 2 _ _ (by decide)]; congr 1; omega
  rw [e] at h
  have h2 := congrArg (Fq.mul (Fq.inv (Fq.pw 2 j))) h
  have lt := Fq.pw_lt 2 j (by decide)
  have li := Fq.inv_lt _ lt
  rw [← Fq.mul_assoc _ _ _ li lt, Fq.inv_mul _ lt (pw2_ne_zero j), Fq.one_mul _ (Fq.pw_lt 2 _ (by decide))] at h2
  exact pw2_ne_one (i - j) (by omega) (by omega) h2
theorem rd_set (l : List Int) (i j : Nat) (v : Int) (hi : i < l.length) : rd (l.set i v) (j : Int) = if j = i then v else rd l j := by
  unfold rd
  rw [Int.toNat_natCast, List.getD_eq_getElem?_getD, List.getD_eq_getElem?_getD, List.getElem?_set]
  by_cases h : i = j
  · subst h; simp [hi]
  · rw [if_neg h, if_neg (fun e => h e.symm)]
theorem powV_ne {a : Nat} (h : a ≠ 0) (n : Int) : powV a n = (((Fq.pw a (n % 255).toNat : Nat) : Int), 0) := by
  unfold powV
  by_cases hn : n = 0
  · rw [if_pos hn, hn]; rfl
  · rw [if_neg hn, if_neg h]
theorem powV_zero (n : Int) : ((powV 0 n).2 == 0) = decide (n ≥ 0) := by
  unfold powV
  by_cases hn : n = 0
  · rw [if_pos hn, hn]; rfl
  · rw [if_neg hn, if_pos rfl]
    by_cases h : n < 0
    · rw [if_pos h, decide_eq_false (by omega)]; rfl
    · rw [if_neg h, decide_eq_true (by omega)]; rfl
theorem last_j (k a : Nat) (n m : Int) (ha : a < 256) (hn : -50000 ≤ n ∧ n < 50000) (hm : -50000 ≤ m ∧ m < 50000) (hk : 20 ≤ k) (x : Bool) (hx : x = false) :
    dailieslaw04_FieldPowers.j1 k a n m (powV a n).1 (powV a n).2 (powV a m).1 (powV a m).2 (powV a (n + m)).1 (powV a (n + m)).2 x = some true := by
  subst hx
  obtain ⟨k, rfl⟩ : ∃ m, k = m + 1 := ⟨k - 1, by omega⟩
  simp only [dailieslaw04_FieldPowers.j1]
  rw [if_neg (by decide)]
  by_cases h : a = 0
  · subst h
    rw [if_pos (by rfl), powV_zero, powV_zero, powV_zero, w64 (by omega) (by omega)]; simp
  · rw [if_neg (by omega), powV_ne h, powV_ne h, powV_ne h]
    simp only
    rw [Mul_f k _ _ (Fq.pw_lt _ _ ha) (Fq.pw_lt _ _ ha) (by omega)]
    simp only [Option.bind_some, if_true]
    have e : Fq.mul (Fq.pw a (n % 255).toNat) (Fq.pw a (m % 255).toNat) = Fq.pw a ((n + m) % 255).toNat := by
      rw [← Fq.pw_add a _ _ ha, ← Fq.pw_mod a _ ha h]; congr 1; omega
    rw [e]; simp
theorem loop_l0 (a : Nat) (b c : Int) (ha : a < 256) (hb : -9223372036854775808 ≤ b ∧ b ≤ 9223372036854775807) (hc : -9223372036854775808 ≤ c ∧ c ≤ 9223372036854775807) (n : Nat) :
    ∀ (k i : Nat) (l : List Int), i + n = 255 → n + 30 ≤ k → l.length = 256 → (∀ j, i ≤ j → j < 255 → rd l ((Fq.pw 2 j : Nat) : Int) = 0) →
    dailieslaw04_FieldPowers.l0 k a b c true l ((Fq.pw 2 i : Nat) : Int) i = some true := by
  induction n with
  | zero =>
    intro k i l hi hk hl hz
    obtain ⟨k, rfl⟩ : ∃ m, k = m + 1 := ⟨k - 1, by omega⟩
    have e : i = 255 := by omega
    subst e
    simp only [dailieslaw04_FieldPowers.l0]
    obtain ⟨n, en, n0, n1⟩ := pick_f b 100000 hb.1 hb.2 (by decide)
    obtain ⟨m, em, m0, m1⟩ := pick_f c 100000 hc.1 hc.2 (by decide)
    rw [if_neg (by omega), en, em]
    simp only [Option.bind_some]
    rw [w64 (by omega) (by omega), w64 (by omega) (by omega), w64 (by omega) (by omega), Pow_f k a (n - 50000) (by omega) (by omega) ha (by omega), Pow_f k a (m - 50000) (by omega) (by omega) ha (by omega),
      Pow_f k a (n - 50000 + (m - 50000)) (by omega) (by omega) ha (by omega)]
    simp only [Option.bind_some, if_true]
    exact last_j k a _ _ ha (by omega) (by omega) (by omega) _ (by rw [Fq.pw_255 2 (by decide) (by decide)]; rfl)
  | succ n ih =>
    intro k i l hi hk hl hz
    obtain ⟨k, rfl⟩ : ∃ m, k = m + 1 := ⟨k - 1, by omega⟩
    simp only [dailieslaw04_FieldPowers.l0]
    have p := Pow_f k 2 i (by omega) (by omega) (by decide) (by omega)
    rw [powV_ne (by decide), show (((i : Int) % 255).toNat) = i from by omega] at p
    have plt := Fq.pw_lt 2 i (by decide)
    have pz := pw2_ne_zero i
    rw [if_pos (by omega), show field_Pow.f k 2 (i : Int) = _ from p]
    simp only [Option.bind_some, if_true]
    have hm := Mul_f k (Fq.pw 2 i) 2 plt (by decide) (by omega)
    rw [if_neg (by omega), if_pos (by omega), if_pos (by omega), hz i (by omega) (by omega), if_pos rfl, show field_Mul.f k ((Fq.pw 2 i : Nat) : Int) 2 = _ from hm, w64 (by omega) (by omega)]
    simp only [Option.bind_some]
    refine ih k (i + 1) _ (by omega) (by omega) (by rw [List.length_set]; exact hl) ?_
    intro j h1 h2
    rw [Int.toNat_natCast, rd_set _ _ _ _ (by omega), if_neg (pw2_ne j i (by omega) h2)]
    exact hz j (by omega) h2
theorem FieldPowers : dailieslaw04_FieldPowers.Pure := by
  intro a0 b c w0 w1 w2
  obtain ⟨a, rfl, ha⟩ := u8_nat w0
  suffices h : ∀ k, 300 ≤ k → dailieslaw04_FieldPowers.f k a b c = some true from ⟨300, h 300 (Nat.le_refl _)⟩
  intro k hk
  unfold dailieslaw04_FieldPowers.f
  rw [alive_f k (by omega)]; simp only [Option.bind_some]
  rw [if_pos (by decide)]
  refine loop_l0 a b c ha (i64_range w1) (i64_range w2) 255 k 0 (List.replicate 256 0) (by omega) (by omega) List.length_replicate ?_
  intro j _ _
  unfold rd
  rw [Int.toNat_natCast, List.getD_eq_getElem?_getD, List.getElem?_replicate]
  split <;> rfl

end Go.Proofs.Ytdleoljbnjjdgaa.Pure
