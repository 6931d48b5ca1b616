/- Sums go on and are joined, in whatever parts a text is summed: the law CrcParts is true. No conditions. -/
import Derived.Test.YtjaafdjgogpbdaaQCrcPartsx1
import Derived.Test.YtjaafdjgogpbdaaMath
import Derived.Test.YtjaafdjgogpbdaaBits
namespace Go.Proofs.Ytjaafdjgogpbdaa.Pure
open Go.RowKit Go.Proofs.Ytjaafdjgogpbdaa.QCrcParts Go.Proofs.YtjaafdjgogpbdaaW.PrintWords Go.Proofs.YtjaafdjgogpbdaaW.PrintLast Go.Proofs.YtjaafdjgogpbdaaW.PrintMore
open Go.Proofs.Ytjaafdjgogpbdaa.Math Go.Proofs.Ytjaafdjgogpbdaa.Bits
theorem w64 {n : Int} (h0 : -9223372036854775808 ≤ n) (h1 : n ≤ 9223372036854775807) : wrap64 n = n := by unfold wrap64; omega
theorem u32_nat {a : Int} (h : (Lit.int .u32 a).wf = true) : ∃ n : Nat, a = n ∧ n < 2 ^ 32 := by
  simp [Lit.wf, IntKind.min, IntKind.max, IntKind.signed, IntKind.bits] at h
  exact ⟨a.toNat, by omega, by omega⟩
theorem u8_range {a : Int} (h : (Lit.int .u8 a).wf = true) : 0 ≤ a ∧ a < 256 := by
  simp [Lit.wf, IntKind.min, IntKind.max, IntKind.signed, IntKind.bits] at h
  omega
theorem i64_range {a : Int} (h : (Lit.int .i64 a).wf = true) : -9223372036854775808 ≤ a ∧ a ≤ 9223372036854775807 := by
  simp [Lit.wf, IntKind.min, IntKind.max, IntKind.signed, IntKind.bits] at h
  omega
theorem bytes_of {l : List Int} (h : ∀ x ∈ l, (Lit.int .u8 x).wf = true) : ∀ x ∈ l, 0 ≤ x ∧ x < 256 := fun x hx => u8_range (h x hx)
theorem shr_nat32 (a i : Nat) (hi : i < 32) : shr .u32 (a : Int) (i : Int) = ((a / 2 ^ i : Nat) : Int) := by
  unfold shr
  rw [Int.toNat_natCast, Nat.min_eq_left (by show i ≤ 32; omega)]
  rw [Int.natCast_ediv, Int.natCast_pow]; rfl
theorem tmod2 (c : Nat) : Int.tmod (c : Int) 2 = ((c % 2 : Nat) : Int) := by
  rw [Int.tmod_eq_emod_of_nonneg (by omega)]; omega
theorem bd {α β : Type} {x : Option α} {f : α → Option β} {v : α} {r : Option β} (h : x = some v) (h2 : f v = r) : x.bind f = r := by rw [h]; exact h2
/-- a step, as the program has it -/
theorem X_form (p : Nat) (hp : p < 2 ^ 32) : Go.bits .xor .u32 (((p : Int) * 2) % 4294967296) ((79764919 * ((p : Int) / 2147483648)) % 4294967296) = ((Crc.X p : Nat) : Int) := by
  by_cases h : 2 ^ 31 ≤ p
  · have e : ((p : Int) * 2) % 4294967296 = ((2 * (p - 2 ^ 31) : Nat) : Int) := by omega
    have e2 : (79764919 * ((p : Int) / 2147483648)) % 4294967296 = ((79764919 : Nat) : Int) := by
      have : (p : Int) / 2147483648 = 1 := by omega
      rw [this]; rfl
    rw [e, e2, xor_u32 _ _ (by omega) (by decide)]
    have := Crc.X_big (v := p - 2 ^ 31) (by omega)
    rw [show p - 2 ^ 31 + 2 ^ 31 = p from by omega] at this
    rw [this]
  · have e : ((p : Int) * 2) % 4294967296 = ((2 * p : Nat) : Int) := by omega
    have e2 : (79764919 * ((p : Int) / 2147483648)) % 4294967296 = ((0 : Nat) : Int) := by
      have : (p : Int) / 2147483648 = 0 := by omega
      rw [this]; rfl
    rw [e, e2, xor_u32 _ _ (by omega) (by decide), Nat.xor_zero, Crc.X_small (v := p) (Nat.not_le.1 h)]
theorem pow_lt32 (n : Nat) (h : n < 32) : 2 ^ n < 2 ^ 32 := Nat.pow_lt_pow_right (by decide) h
theorem mul_l0 (a b : Nat) (ha : a < 2 ^ 32) (hb : b < 2 ^ 32) (n : Nat) : ∀ k p : Nat, n ≤ 32 → p < 2 ^ 32 → n < k → crc_mul.l0 k a b p ((n : Int) - 1) = some ((Gf.horner 32 Crc.P a b n p : Nat) : Int) := by
  induction n with
  | zero =>
    intro k p hn hp hk
    obtain ⟨k, rfl⟩ : ∃ m, k = m + 1 := ⟨k - 1, by omega⟩
    simp only [crc_mul.l0, Gf.horner]
    rw [if_neg (by omega)]
  | succ n ih =>
    intro k p hn hp hk
    obtain ⟨k, rfl⟩ : ∃ m, k = m + 1 := ⟨k - 1, by omega⟩
    simp only [crc_mul.l0, Gf.horner]
    have hX := Crc.X_lt hp
    have hdiv : b / 2 ^ n ≤ b := Nat.div_le_self _ _
    rw [if_pos (by omega), if_pos (by omega), show (((n + 1 : Nat) : Int) - 1) = (n : Int) from by omega, shr_nat32 b n (by omega), and1_u32 _ (by omega), X_form p hp, w64 (by omega) (by omega)]
    by_cases h1 : b / 2 ^ n % 2 = 1
    · rw [if_pos (by omega), if_pos h1, xor_u32 _ _ hX ha]
      exact ih k _ (by omega) (Nat.xor_lt_two_pow hX ha) (by omega)
    · rw [if_neg (by omega), if_neg h1, Nat.xor_zero]
      exact ih k _ (by omega) hX (by omega)
theorem mul_f (k a b : Nat) (ha : a < 2 ^ 32) (hb : b < 2 ^ 32) (hk : 32 < k) : crc_mul.f k a b = some ((Crc.M a b : Nat) : Int) := by
  unfold crc_mul.f
  have := mul_l0 a b ha hb 32 k 0 (by omega) (by omega) hk
  rw [Gf.horner_mul] at this
  exact this
theorem Join_l0 (b : Nat) (hb : b < 2 ^ 32) (m : Nat) : ∀ k a x n : Nat, a < 2 ^ 32 → x < 2 ^ 32 → n < 2 ^ m → n < 9223372036854775808 → m + 40 ≤ k → crc_Join.l0 k a b n x = some (((Crc.joinL m a x n ^^^ b : Nat) : Int), 0) := by
  induction m with
  | zero =>
    intro k a x n ha hx hn hn2 hk
    obtain ⟨k, rfl⟩ : ∃ m, k = m + 1 := ⟨k - 1, by omega⟩
    have : n = 0 := by simpa using hn
    subst this
    simp only [crc_Join.l0, Crc.joinL]
    rw [if_neg (by omega), xor_u32 _ _ ha hb]
  | succ m ih =>
    intro k a x n ha hx hn hn2 hk
    obtain ⟨k, rfl⟩ : ∃ m, k = m + 1 := ⟨k - 1, by omega⟩
    simp only [crc_Join.l0, Crc.joinL]
    by_cases h0 : n = 0
    · subst h0
      rw [if_neg (by omega), if_pos rfl, xor_u32 _ _ ha hb]
    · rw [if_pos (by omega), if_neg h0, and1_i64 n hn2, mul_f k a x ha hx (by omega), mul_f k x x hx hx (by omega)]
      have ey : (n : Int) / 2 = ((n / 2 : Nat) : Int) := by omega
      have hy' : n / 2 < 2 ^ m := by rw [Nat.pow_succ] at hn; omega
      simp only [Option.bind_some]
      rw [ey]
      by_cases h1 : n % 2 = 1
      · rw [if_pos (by omega), if_pos h1]
        exact ih k _ _ _ (Crc.M_lt _ _ ha) (Crc.M_lt _ _ hx) hy' (by omega) (by omega)
      · rw [if_neg (by omega), if_neg h1]
        exact ih k _ _ _ ha (Crc.M_lt _ _ hx) hy' (by omega) (by omega)
theorem x8 : (256 : Nat) = Crc.Xn 8 1 := (Crc.Xn_small 8 1 (by decide)).symm
theorem Join_f (k a b n : Nat) (ha : a < 2 ^ 32) (hb : b < 2 ^ 32) (hn : n < 9223372036854775808) (hk : 103 ≤ k) : crc_Join.f k a b n = some (((Crc.join a b n : Nat) : Int), 0) := by
  unfold crc_Join.f
  rw [if_neg (by omega)]
  have := Join_l0 b hb 63 k a 256 n ha (by omega) (by omega) hn hk
  rw [x8, Crc.joinL_is 63 a 8 n ha (by omega)] at this
  exact this
def nat (l : List Int) : List Nat := l.map Int.toNat
theorem nat_lt {l : List Int} (hl : ∀ x ∈ l, 0 ≤ x ∧ x < 256) : ∀ c ∈ nat l, c < 256 := CrcWalk.bytes_lt hl
theorem nat_length (l : List Int) : (nat l).length = l.length := List.length_map _
theorem nat_append (l m : List Int) : nat (l ++ m) = nat l ++ nat m := List.map_append
theorem not_u32 (s : Nat) (hs : s < 2 ^ 32) : Go.bits .xor .u32 4294967295 (s : Int) = ((Crc.ones ^^^ s : Nat) : Int) := xor_u32 4294967295 s (by decide) hs
theorem divide_f (s : Nat) (hs : s < 2 ^ 32) (l : List Int) (hl : ∀ x ∈ l, 0 ≤ x ∧ x < 256) (hn : l.length ≤ 9223372036854775807) : crc_divide.f s l = some ((Crc.dv s (nat l) : Nat) : Int) := by
  unfold crc_divide.f CrcWalk.divF
  rw [if_pos ⟨⟨by omega, by omega⟩, hl, hn⟩, Int.toNat_natCast]; rfl
theorem More_f (s : Nat) (hs : s < 2 ^ 32) (l : List Int) (hl : ∀ x ∈ l, 0 ≤ x ∧ x < 256) (hn : l.length ≤ 9223372036854775807) : crc_More.f s l = some ((Crc.more s (nat l) : Nat) : Int) := by
  unfold crc_More.f
  have h1 : Crc.ones ^^^ s < 2 ^ 32 := Nat.xor_lt_two_pow Crc.ones_lt hs
  rw [not_u32 s hs]
  refine bd (divide_f _ h1 l hl hn) ?_
  rw [not_u32 _ (Crc.dv_lt _ h1 (nat_lt hl))]; rfl
theorem Sum_f (l : List Int) (hl : ∀ x ∈ l, 0 ≤ x ∧ x < 256) (hn : l.length ≤ 9223372036854775807) : crc_Sum.f l = some ((Crc.more 0 (nat l) : Nat) : Int) := by
  unfold crc_Sum.f
  exact bd (More_f 0 (by decide) l hl hn) rfl
theorem more_nil (s : Nat) : Crc.more s [] = s := Crc.ones_ones s
theorem both_f (l m : List Int) (h : l.length + m.length ≤ 140737488355000) : dailieslaw03_both.f l m = some (l ++ m) := by
  unfold dailieslaw03_both.f
  rw [if_pos (by simp; omega)]
  simp only [List.nil_append, Option.bind_some]
  rw [if_pos (by omega)]
theorem app_bytes {l m : List Int} (hl : ∀ x ∈ l, 0 ≤ x ∧ x < 256) (hm : ∀ x ∈ m, 0 ≤ x ∧ x < 256) : ∀ x ∈ l ++ m, 0 ≤ x ∧ x < 256 := by
  intro x hx
  rcases List.mem_append.1 hx with h | h
  · exact hl x h
  · exact hm x h
theorem sum_none : crc_Sum.f [] = some 0 := by
  have := Sum_f [] (by simp) (by simp)
  rw [show nat [] = [] from rfl, more_nil] at this
  exact this
theorem more_none (s : Nat) (hs : s < 2 ^ 32) : crc_More.f s [] = some (s : Int) := by
  have := More_f s hs [] (by simp) (by simp)
  rw [show nat [] = [] from rfl, more_nil] at this
  exact this
theorem parts_e (x y z : List Nat) : Crc.more (Crc.more (Crc.more 0 x) y) z = Crc.more 0 (x ++ y ++ z) ∧ Crc.join (Crc.join (Crc.more 0 x) (Crc.more 0 y) y.length) (Crc.more 0 z) z.length = Crc.more 0 (x ++ y ++ z) ∧
    Crc.join (Crc.more 0 x) (Crc.join (Crc.more 0 y) (Crc.more 0 z) z.length) (y.length + z.length) = Crc.more 0 (x ++ y ++ z) := by
  have e2 : Crc.join (Crc.join (Crc.more 0 x) (Crc.more 0 y) y.length) (Crc.more 0 z) z.length = Crc.more 0 (x ++ y ++ z) := by
    rw [Crc.sum_join (x ++ y), Crc.sum_join x]
  refine ⟨by rw [Crc.more_append, Crc.more_append], e2, ?_⟩
  rw [← e2, Crc.join_join]
/-- the statement's own reckoning, where all calls answer -/
theorem parts_c (k : Nat) (a b c ab abc : List Int) (x y z t u j1 j2 n : Int) (sa : crc_Sum.f a = some x) (sb : crc_Sum.f b = some y) (sc : crc_Sum.f c = some z) (hab : dailieslaw03_both.f a b = some ab) (habc : dailieslaw03_both.f ab c = some abc)
    (st : crc_Sum.f abc = some t) (mu : crc_More.f x b = some u) (mt : crc_More.f u c = some t) (q1 : crc_Join.f k x y (b.length : Int) = some (j1, 0)) (q2 : crc_Join.f k j1 z (c.length : Int) = some (t, 0)) (q3 : crc_Join.f k y z (c.length : Int) = some (j2, 0))
    (hn : wrap64 ((b.length : Int) + (c.length : Int)) = n) (q4 : crc_Join.f k x j2 n = some (t, 0)) (m0 : crc_More.f x [] = some x) : dailieslaw03_CrcParts.j0 (k + 1) a b c true false = some true := by
  simp only [dailieslaw03_CrcParts.j0]
  rw [if_neg (by decide)]
  refine bd sa (bd sb (bd sc (bd hab (bd habc (bd st (bd mu (bd mt (bd q1 (bd q2 (bd q3 ?_))))))))))
  rw [hn]
  refine bd q4 ?_
  simp only [if_true]
  refine bd sum_none ?_
  rw [if_pos rfl]
  refine bd m0 ?_
  simp
theorem parts_j (k : Nat) (a b c : List Int) (ha : ∀ x ∈ a, 0 ≤ x ∧ x < 256) (hb : ∀ x ∈ b, 0 ≤ x ∧ x < 256) (hc : ∀ x ∈ c, 0 ≤ x ∧ x < 256) (hn : a.length + b.length + c.length ≤ 2147483647) (hk : 110 ≤ k) :
    dailieslaw03_CrcParts.j0 k a b c true false = some true := by
  obtain ⟨k, rfl⟩ : ∃ m, k = m + 1 := ⟨k - 1, by omega⟩
  have lx := Crc.more_lt 0 (nat a) (by decide) (nat_lt ha)
  have ly := Crc.more_lt 0 (nat b) (by decide) (nat_lt hb)
  have lz := Crc.more_lt 0 (nat c) (by decide) (nat_lt hc)
  have lm := Crc.more_lt _ (nat b) lx (nat_lt hb)
  have hab := app_bytes ha hb
  have jxy := Crc.join_lt (Crc.more 0 (nat a)) (Crc.more 0 (nat b)) b.length lx ly
  have jyz := Crc.join_lt (Crc.more 0 (nat b)) (Crc.more 0 (nat c)) c.length ly lz
  obtain ⟨e1, e2, e3⟩ := parts_e (nat a) (nat b) (nat c)
  rw [nat_length, nat_length] at e2 e3
  have et : nat (a ++ b ++ c) = nat a ++ nat b ++ nat c := by rw [nat_append, nat_append]
  have st := Sum_f (a ++ b ++ c) (app_bytes hab hc) (by simp only [List.length_append]; omega)
  rw [et] at st
  have mt := More_f _ lm c hc (by omega)
  rw [e1] at mt
  have q2 := Join_f k _ _ c.length jxy lz (by omega) (by omega)
  rw [e2] at q2
  have q4 := Join_f k _ _ (b.length + c.length) lx jyz (by omega) (by omega)
  rw [e3] at q4
  exact parts_c k a b c (a ++ b) (a ++ b ++ c) _ _ _ _ _ _ _ _ (Sum_f a ha (by omega)) (Sum_f b hb (by omega)) (Sum_f c hc (by omega)) (both_f a b (by omega)) (both_f (a ++ b) c (by rw [List.length_append]; omega)) st
    (More_f _ lx b hb (by omega)) mt (Join_f k _ _ b.length lx ly (by omega) (by omega)) q2 (Join_f k _ _ c.length ly lz (by omega) (by omega)) (w64 (by omega) (by omega)) q4 (more_none _ lx)
theorem CrcParts : dailieslaw03_CrcParts.Pure := by
  intro a b c _ na ha _ nb hb _ nc hc
  suffices h : ∀ k, 110 ≤ k → dailieslaw03_CrcParts.f k a b c = some true from ⟨110, h 110 (Nat.le_refl _)⟩
  intro k hk
  have skip : ∀ k, 1 ≤ k → dailieslaw03_CrcParts.j0 k a b c true true = some true := by
    intro k hk
    obtain ⟨k, rfl⟩ : ∃ m, k = m + 1 := ⟨k - 1, by omega⟩
    simp only [dailieslaw03_CrcParts.j0, if_true]
  unfold dailieslaw03_CrcParts.f dailieslaw03_shown.f
  simp only [Option.bind_some]
  by_cases h1 : (a.length : Int) > 2147483647
  · rw [if_pos h1]; exact skip k (by omega)
  · rw [if_neg h1, w64 (by omega) (by omega)]
    by_cases h2 : (b.length : Int) > 2147483647 - (a.length : Int)
    · rw [if_pos h2]; exact skip k (by omega)
    · rw [if_neg h2, w64 (by omega) (by omega)]
      by_cases h3 : (c.length : Int) > 2147483647 - (a.length : Int) - (b.length : Int)
      · rw [decide_eq_true h3]; exact skip k (by omega)
      · rw [decide_eq_false h3]
        exact parts_j k a b c (bytes_of ha) (bytes_of hb) (bytes_of hc) (by omega) hk

end Go.Proofs.Ytjaafdjgogpbdaa.Pure
