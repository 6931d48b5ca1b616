/- Four bytes bring a sum to any number: the law CrcForged is true. No conditions. -/
import Derived.Test.YtjaafdjgogpbdaaQCrcForgedx1
import Derived.Test.YtjaafdjgogpbdaaMath
import Derived.Test.YtjaafdjgogpbdaaBits
namespace Go.Proofs.Ytjaafdjgogpbdaa.Pure
open Go.RowKit Go.Proofs.Ytjaafdjgogpbdaa.QCrcForged Go.Proofs.YtjaafdjgogpbdaaW.PrintWords Go.Proofs.YtjaafdjgogpbdaaW.PrintLast Go.Proofs.YtjaafdjgogpbdaaW.PrintMore
open Go.Proofs.Ytjaafdjgogpbdaa.Math Go.Proofs.Ytjaafdjgogpbdaa.Bits
theorem w64 {n : Int} (h0 : -9223372036854775808 ≤ n) (h1 : n ≤ 9223372036854775807) : wrap64 n = n := by unfold wrap64; omega
theorem u32_nat {a : Int} (h : (Lit.int .u32 a).wf = true) : ∃ n : Nat, a = n ∧ n < 2 ^ 32 := by
  simp [Lit.wf, IntKind.min, IntKind.max, IntKind.signed, IntKind.bits] at h
  exact ⟨a.toNat, by omega, by omega⟩
theorem u8_range {a : Int} (h : (Lit.int .u8 a).wf = true) : 0 ≤ a ∧ a < 256 := by
  simp [Lit.wf, IntKind.min, IntKind.max, IntKind.signed, IntKind.bits] at h
  omega
theorem i64_range {a : Int} (h : (Lit.int .i64 a).wf = true) : -9223372036854775808 ≤ a ∧ a ≤ 9223372036854775807 := by
  simp [Lit.wf, IntKind.min, IntKind.max, IntKind.signed, IntKind.bits] at h
  omega
theorem bytes_of {l : List Int} (h : ∀ x ∈ l, (Lit.int .u8 x).wf = true) : ∀ x ∈ l, 0 ≤ x ∧ x < 256 := fun x hx => u8_range (h x hx)
theorem shr_nat32 (a i : Nat) (hi : i < 32) : shr .u32 (a : Int) (i : Int) = ((a / 2 ^ i : Nat) : Int) := by
  unfold shr
  rw [Int.toNat_natCast, Nat.min_eq_left (by show i ≤ 32; omega)]
  rw [Int.natCast_ediv, Int.natCast_pow]; rfl
theorem tmod2 (c : Nat) : Int.tmod (c : Int) 2 = ((c % 2 : Nat) : Int) := by
  rw [Int.tmod_eq_emod_of_nonneg (by omega)]; omega
theorem bd {α β : Type} {x : Option α} {f : α → Option β} {v : α} {r : Option β} (h : x = some v) (h2 : f v = r) : x.bind f = r := by rw [h]; exact h2
def nat (l : List Int) : List Nat := l.map Int.toNat
theorem nat_lt {l : List Int} (hl : ∀ x ∈ l, 0 ≤ x ∧ x < 256) : ∀ c ∈ nat l, c < 256 := CrcWalk.bytes_lt hl
theorem nat_length (l : List Int) : (nat l).length = l.length := List.length_map _
theorem nat_append (l m : List Int) : nat (l ++ m) = nat l ++ nat m := List.map_append
theorem not_u32 (s : Nat) (hs : s < 2 ^ 32) : Go.bits .xor .u32 4294967295 (s : Int) = ((Crc.ones ^^^ s : Nat) : Int) := xor_u32 4294967295 s (by decide) hs
theorem divide_f (s : Nat) (hs : s < 2 ^ 32) (l : List Int) (hl : ∀ x ∈ l, 0 ≤ x ∧ x < 256) (hn : l.length ≤ 9223372036854775807) : crc_divide.f s l = some ((Crc.dv s (nat l) : Nat) : Int) := by
  unfold crc_divide.f CrcWalk.divF
  rw [if_pos ⟨⟨by omega, by omega⟩, hl, hn⟩, Int.toNat_natCast]; rfl
theorem More_f (s : Nat) (hs : s < 2 ^ 32) (l : List Int) (hl : ∀ x ∈ l, 0 ≤ x ∧ x < 256) (hn : l.length ≤ 9223372036854775807) : crc_More.f s l = some ((Crc.more s (nat l) : Nat) : Int) := by
  unfold crc_More.f
  have h1 : Crc.ones ^^^ s < 2 ^ 32 := Nat.xor_lt_two_pow Crc.ones_lt hs
  rw [not_u32 s hs]
  refine bd (divide_f _ h1 l hl hn) ?_
  rw [not_u32 _ (Crc.dv_lt _ h1 (nat_lt hl))]; rfl
theorem Sum_f (l : List Int) (hl : ∀ x ∈ l, 0 ≤ x ∧ x < 256) (hn : l.length ≤ 9223372036854775807) : crc_Sum.f l = some ((Crc.more 0 (nat l) : Nat) : Int) := by
  unfold crc_Sum.f
  exact bd (More_f 0 (by decide) l hl hn) rfl
theorem more_nil (s : Nat) : Crc.more s [] = s := Crc.ones_ones s
theorem four_f (n : Nat) : ∃ l : List Int, dailieslaw03_four.f n = some l ∧ l.length = 4 ∧ nat l = Crc.four n ∧ ∀ x ∈ l, 0 ≤ x ∧ x < 256 := by
  refine ⟨_, rfl, rfl, ?_, ?_⟩
  · have e1 : ((n : Int) / 16777216 % 256).toNat = n / 2 ^ 24 % 256 := by omega
    have e2 : ((n : Int) / 65536 % 256).toNat = n / 2 ^ 16 % 256 := by omega
    have e3 : ((n : Int) / 256 % 256).toNat = n / 2 ^ 8 % 256 := by omega
    have e4 : ((n : Int) % 256).toNat = n % 256 := by omega
    simp only [nat, Crc.four, List.map_cons, List.map_nil]
    rw [e1, e2, e3, e4]
  · intro x hx
    simp only [List.mem_cons, List.not_mem_nil, or_false] at hx
    omega
theorem both_f (l m : List Int) (h : l.length + m.length ≤ 140737488355000) : dailieslaw03_both.f l m = some (l ++ m) := by
  unfold dailieslaw03_both.f
  rw [if_pos (by simp; omega)]
  simp only [List.nil_append, Option.bind_some]
  rw [if_pos (by omega)]
theorem app_bytes {l m : List Int} (hl : ∀ x ∈ l, 0 ≤ x ∧ x < 256) (hm : ∀ x ∈ m, 0 ≤ x ∧ x < 256) : ∀ x ∈ l ++ m, 0 ≤ x ∧ x < 256 := by
  intro x hx
  rcases List.mem_append.1 hx with h | h
  · exact hl x h
  · exact hm x h
theorem back_form (s : Nat) (hs : s < 2 ^ 32) : (if Int.tmod (s : Int) 2 = 1 then ((((Int.tdiv (Go.bits .xor .u32 (s : Int) 79764919) 2) % 4294967296) + 2147483648) % 4294967296) else ((Int.tdiv (s : Int) 2) % 4294967296)) = ((Crc.back s : Nat) : Int) := by
  unfold Crc.back
  have hx : s ^^^ 79764919 < 2 ^ 32 := Nat.xor_lt_two_pow hs (by decide)
  have ex := xor_u32 s 79764919 hs (by decide)
  rw [tmod2, show (79764919 : Int) = ((79764919 : Nat) : Int) from rfl, ex, Int.tdiv_eq_ediv_of_nonneg (by omega), Int.tdiv_eq_ediv_of_nonneg (by omega), show (0x04c11db7 : Nat) = 79764919 from rfl]
  by_cases h : s % 2 = 1
  · rw [if_pos (by omega), if_pos h]
    generalize s ^^^ 79764919 = y at *
    omega
  · rw [if_neg (by omega), if_neg h]; omega
theorem forged_l0 (b : List Int) (want : Nat) (hb : ∀ x ∈ b, 0 ≤ x ∧ x < 256) (hn : b.length ≤ 140737488351232) (hw : want < 2 ^ 32) (n : Nat) :
    ∀ (k s i : Nat), i + n = 32 → s < 2 ^ 32 → n < k → Crc.backN n s = Crc.backN 32 (Crc.ones ^^^ want) → dailieslaw03_CrcForged.l0 k b want true s i = some true := by
  induction n with
  | zero =>
    intro k s i hi hs hk e
    obtain ⟨k, rfl⟩ : ∃ m, k = m + 1 := ⟨k - 1, by omega⟩
    simp only [dailieslaw03_CrcForged.l0]
    have e' : s = Crc.backN 32 (Crc.ones ^^^ want) := e
    have lx := Crc.more_lt 0 (nat b) (by decide) (nat_lt hb)
    have h2 : Crc.ones ^^^ Crc.more 0 (nat b) < 2 ^ 32 := Nat.xor_lt_two_pow Crc.ones_lt lx
    rw [if_neg (by omega)]
    refine bd (Sum_f b hb (by omega)) ?_
    obtain ⟨f, hf, hf4, hfn, hfb⟩ := four_f (s ^^^ (Crc.ones ^^^ Crc.more 0 (nat b)))
    have hforge := Crc.forged (Crc.more 0 (nat b)) want lx hw
    rw [← e', ← hfn] at hforge
    rw [not_u32 _ lx, xor_u32 _ _ hs h2]
    refine bd hf ?_
    rw [if_pos trivial]
    refine bd (both_f b f (by omega)) ?_
    have hj : Crc.more 0 (nat (b ++ f)) = want := by rw [nat_append, Crc.more_append, hforge]
    refine bd (Sum_f (b ++ f) (app_bytes hb hfb) (by rw [List.length_append]; omega)) ?_
    rw [hj, if_pos rfl]
    refine bd (More_f _ lx f hfb (by omega)) ?_
    rw [hforge]
    simp
  | succ n ih =>
    intro k s i hi hs hk e
    obtain ⟨k, rfl⟩ : ∃ m, k = m + 1 := ⟨k - 1, by omega⟩
    simp only [dailieslaw03_CrcForged.l0]
    have bf := back_form s hs
    rw [if_pos (by omega), w64 (by omega) (by omega)]
    by_cases h : Int.tmod (s : Int) 2 = 1
    · rw [if_pos h] at bf ⊢
      rw [bf]
      exact ih k _ (i + 1) (by omega) (Crc.back_lt hs) (by omega) e
    · rw [if_neg h] at bf ⊢
      rw [bf]
      exact ih k _ (i + 1) (by omega) (Crc.back_lt hs) (by omega) e
theorem CrcForged : dailieslaw03_CrcForged.Pure := by
  intro b a1 _ nb hb w1
  obtain ⟨want, rfl, hw⟩ := u32_nat w1
  refine ⟨40, ?_⟩
  unfold dailieslaw03_CrcForged.f dailieslaw03_shown.f
  simp only [Option.bind_some]
  rw [not_u32 want hw]
  exact forged_l0 b want (bytes_of hb) (by omega) hw 32 40 _ 0 (by omega) (Nat.xor_lt_two_pow Crc.ones_lt hw) (by omega) rfl

end Go.Proofs.Ytjaafdjgogpbdaa.Pure
