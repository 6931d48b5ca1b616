/- Bits that are turned within 32 that stand together change the sum: the law CrcBursts is true. No conditions. -/
import Derived.Test.YtjaafdjgogpbdaaQCrcBurstsx1
import Derived.Test.YtjaafdjgogpbdaaMath
import Derived.Test.YtjaafdjgogpbdaaBits
namespace Go.Proofs.Ytjaafdjgogpbdaa.Pure
open Go.RowKit Go.Proofs.Ytjaafdjgogpbdaa.QCrcBursts Go.Proofs.YtjaafdjgogpbdaaW.PrintWords Go.Proofs.YtjaafdjgogpbdaaW.PrintLast Go.Proofs.YtjaafdjgogpbdaaW.PrintMore
open Go.Proofs.Ytjaafdjgogpbdaa.Math Go.Proofs.Ytjaafdjgogpbdaa.Bits
theorem w64 {n : Int} (h0 : -9223372036854775808 ≤ n) (h1 : n ≤ 9223372036854775807) : wrap64 n = n := by unfold wrap64; omega
theorem u32_nat {a : Int} (h : (Lit.int .u32 a).wf = true) : ∃ n : Nat, a = n ∧ n < 2 ^ 32 := by
  simp [Lit.wf, IntKind.min, IntKind.max, IntKind.signed, IntKind.bits] at h
  exact ⟨a.toNat, by omega, by omega⟩
theorem u8_range {a : Int} (h : (Lit.int .u8 a).wf = true) : 0 ≤ a ∧ a < 256 := by
  simp [Lit.wf, IntKind.min, IntKind.max, IntKind.signed, IntKind.bits] at h
  omega
theorem i64_range {a : Int} (h : (Lit.int .i64 a).wf = true) : -9223372036854775808 ≤ a ∧ a ≤ 9223372036854775807 := by
  simp [Lit.wf, IntKind.min, IntKind.max, IntKind.signed, IntKind.bits] at h
  omega
theorem bytes_of {l : List Int} (h : ∀ x ∈ l, (Lit.int .u8 x).wf = true) : ∀ x ∈ l, 0 ≤ x ∧ x < 256 := fun x hx => u8_range (h x hx)
theorem shr_nat32 (a i : Nat) (hi : i < 32) : shr .u32 (a : Int) (i : Int) = ((a / 2 ^ i : Nat) : Int) := by
  unfold shr
  rw [Int.toNat_natCast, Nat.min_eq_left (by show i ≤ 32; omega)]
  rw [Int.natCast_ediv, Int.natCast_pow]; rfl
theorem tmod2 (c : Nat) : Int.tmod (c : Int) 2 = ((c % 2 : Nat) : Int) := by
  rw [Int.tmod_eq_emod_of_nonneg (by omega)]; omega
theorem bd {α β : Type} {x : Option α} {f : α → Option β} {v : α} {r : Option β} (h : x = some v) (h2 : f v = r) : x.bind f = r := by rw [h]; exact h2
def nat (l : List Int) : List Nat := l.map Int.toNat
theorem nat_lt {l : List Int} (hl : ∀ x ∈ l, 0 ≤ x ∧ x < 256) : ∀ c ∈ nat l, c < 256 := CrcWalk.bytes_lt hl
theorem nat_length (l : List Int) : (nat l).length = l.length := List.length_map _
theorem nat_append (l m : List Int) : nat (l ++ m) = nat l ++ nat m := List.map_append
theorem not_u32 (s : Nat) (hs : s < 2 ^ 32) : Go.bits .xor .u32 4294967295 (s : Int) = ((Crc.ones ^^^ s : Nat) : Int) := xor_u32 4294967295 s (by decide) hs
theorem divide_f (s : Nat) (hs : s < 2 ^ 32) (l : List Int) (hl : ∀ x ∈ l, 0 ≤ x ∧ x < 256) (hn : l.length ≤ 9223372036854775807) : crc_divide.f s l = some ((Crc.dv s (nat l) : Nat) : Int) := by
  unfold crc_divide.f CrcWalk.divF
  rw [if_pos ⟨⟨by omega, by omega⟩, hl, hn⟩, Int.toNat_natCast]; rfl
theorem More_f (s : Nat) (hs : s < 2 ^ 32) (l : List Int) (hl : ∀ x ∈ l, 0 ≤ x ∧ x < 256) (hn : l.length ≤ 9223372036854775807) : crc_More.f s l = some ((Crc.more s (nat l) : Nat) : Int) := by
  unfold crc_More.f
  have h1 : Crc.ones ^^^ s < 2 ^ 32 := Nat.xor_lt_two_pow Crc.ones_lt hs
  rw [not_u32 s hs]
  refine bd (divide_f _ h1 l hl hn) ?_
  rw [not_u32 _ (Crc.dv_lt _ h1 (nat_lt hl))]; rfl
theorem Sum_f (l : List Int) (hl : ∀ x ∈ l, 0 ≤ x ∧ x < 256) (hn : l.length ≤ 9223372036854775807) : crc_Sum.f l = some ((Crc.more 0 (nat l) : Nat) : Int) := by
  unfold crc_Sum.f
  exact bd (More_f 0 (by decide) l hl hn) rfl
theorem more_nil (s : Nat) : Crc.more s [] = s := Crc.ones_ones s
theorem place_f (a n : Int) (h0 : -9223372036854775808 ≤ a) (h1 : a ≤ 9223372036854775807) (hn : 0 < n) : ∃ c : Nat, dailieslaw03_place.f a n = some (c : Int) ∧ (c : Int) < n := by
  unfold dailieslaw03_place.f
  by_cases h : a < 0
  · rw [if_pos h, if_neg (by omega), w64 (n := a + 1) (by omega) (by omega), w64 (by omega) (by omega)]
    have e0 : 0 ≤ Int.tmod (-(a + 1)) n := by rw [Int.tmod_eq_emod_of_nonneg (by omega)]; exact Int.emod_nonneg _ (by omega)
    have e1 : Int.tmod (-(a + 1)) n < n := by rw [Int.tmod_eq_emod_of_nonneg (by omega)]; exact Int.emod_lt_of_pos _ hn
    exact ⟨(Int.tmod (-(a + 1)) n).toNat, by rw [Int.toNat_of_nonneg e0], by omega⟩
  · rw [if_neg h, if_neg (by omega)]
    have e0 : 0 ≤ Int.tmod a n := by rw [Int.tmod_eq_emod_of_nonneg (by omega)]; exact Int.emod_nonneg _ (by omega)
    have e1 : Int.tmod a n < n := by rw [Int.tmod_eq_emod_of_nonneg (by omega)]; exact Int.emod_lt_of_pos _ hn
    exact ⟨(Int.tmod a n).toNat, by rw [Int.toNat_of_nonneg e0], by omega⟩
/-- the bit at p of a list of bytes is turned -/
def flip (l : List Int) (p : Nat) : List Int := l.set (p / 8) (Go.bits .xor .u8 (rd l ((p / 8 : Nat) : Int)) (((2 ^ (7 - p % 8) : Nat)) : Int))
theorem rd_nat (l : List Int) (i : Nat) : (rd l (i : Int)).toNat = (nat l).getD i 0 := by
  unfold rd nat
  rw [Int.toNat_natCast, List.getD_eq_getElem?_getD, List.getD_eq_getElem?_getD, List.getElem?_map]
  cases l[i]? <;> rfl
theorem rd_range {l : List Int} (hl : ∀ x ∈ l, 0 ≤ x ∧ x < 256) (i : Nat) : 0 ≤ rd l (i : Int) ∧ rd l (i : Int) < 256 := by
  unfold rd
  rw [Int.toNat_natCast, List.getD_eq_getElem?_getD]
  by_cases h : i < l.length
  · rw [List.getElem?_eq_getElem h]; exact hl _ (List.getElem_mem h)
  · rw [List.getElem?_eq_none (by omega)]; decide
theorem flip_nat {l : List Int} (hl : ∀ x ∈ l, 0 ≤ x ∧ x < 256) (p : Nat) : nat (flip l p) = (nat l).set (p / 8) ((nat l).getD (p / 8) 0 ^^^ 2 ^ (7 - p % 8)) ∧ (∀ x ∈ flip l p, 0 ≤ x ∧ x < 256) ∧ (flip l p).length = l.length := by
  have hr := rd_range hl (p / 8)
  have hp : 2 ^ (7 - p % 8) ≤ 128 := by
    have := Nat.pow_le_pow_right (n := 2) (by decide) (by omega : 7 - p % 8 ≤ 7); omega
  have e : Go.bits .xor .u8 (rd l ((p / 8 : Nat) : Int)) (((2 ^ (7 - p % 8) : Nat)) : Int) = (((nat l).getD (p / 8) 0 ^^^ 2 ^ (7 - p % 8) : Nat) : Int) := by
    have := xor_u8 (rd l ((p / 8 : Nat) : Int)).toNat (2 ^ (7 - p % 8)) (by omega) (by omega)
    rw [rd_nat] at this
    rw [← this, ← rd_nat, Int.toNat_of_nonneg hr.1]
  have hlt : (nat l).getD (p / 8) 0 ^^^ 2 ^ (7 - p % 8) < 256 := Nat.xor_lt_two_pow (n := 8) (by rw [← rd_nat]; omega) (by omega)
  refine ⟨?_, ?_, ?_⟩
  · unfold flip
    rw [e]
    unfold nat
    rw [List.map_set, Int.toNat_natCast]
  · intro x hx
    unfold flip at hx
    rw [e] at hx
    rcases List.mem_or_eq_of_mem_set hx with h | h
    · exact hl x h
    · omega
  · unfold flip; rw [List.length_set]
theorem pow_bit (a b : Nat) (ha : a < 8) (hb : b < 8) : 2 ^ a / 2 ^ b % 2 = if a = b then 1 else 0 := by
  have key : ∀ a < 8, ∀ b < 8, 2 ^ a / 2 ^ b % 2 = if a = b then 1 else 0 := by decide
  exact key a ha b hb
theorem flip_bit {l : List Int} (hl : ∀ x ∈ l, 0 ≤ x ∧ x < 256) (p : Nat) (hp : p < 8 * l.length) (q : Nat) : Crc.bit (nat (flip l p)) q = Crc.bit (nat l) q ^^^ (if q = p then 1 else 0) := by
  rw [(flip_nat hl p).1]
  unfold Crc.bit
  rw [List.getD_eq_getElem?_getD, List.getElem?_set]
  by_cases h : p / 8 = q / 8
  · rw [if_pos h, if_pos (by rw [nat_length]; omega), h]
    show ((nat l).getD (q / 8) 0 ^^^ 2 ^ (7 - p % 8)) / 2 ^ (7 - q % 8) % 2 = _
    rw [Gf.bit_xor, pow_bit _ _ (by omega) (by omega)]
    congr 1
    by_cases e : q = p
    · subst e; rw [if_pos rfl, if_pos rfl]
    · rw [if_neg e, if_neg (by omega)]
  · rw [if_neg h, if_neg (by intro e; subst e; exact h rfl), Nat.xor_zero, ← List.getD_eq_getElem?_getD]
theorem bit_zip (a b : List Nat) (h : a.length = b.length) (q : Nat) : Crc.bit (List.zipWith (· ^^^ ·) a b) q = Crc.bit a q ^^^ Crc.bit b q := by
  unfold Crc.bit
  have e : (List.zipWith (· ^^^ ·) a b).getD (q / 8) 0 = a.getD (q / 8) 0 ^^^ b.getD (q / 8) 0 := by
    rw [List.getD_eq_getElem?_getD, List.getD_eq_getElem?_getD, List.getD_eq_getElem?_getD, List.getElem?_zipWith]
    by_cases hq : q / 8 < a.length
    · rw [List.getElem?_eq_getElem hq, List.getElem?_eq_getElem (by omega)]; rfl
    · rw [List.getElem?_eq_none (by omega), List.getElem?_eq_none (by omega)]; rfl
  rw [e, Gf.bit_xor]
/-- the loop: what is turned so far -/
structure Turned (b c : List Int) (from_ i : Nat) (flag : Bool) : Prop where
  bytes : ∀ x ∈ c, 0 ≤ x ∧ x < 256
  len : c.length = b.length
  bits : ∀ q, Crc.bit (nat c) q ^^^ Crc.bit (nat b) q = 1 → from_ ≤ q ∧ q < from_ + i
  same : flag = false → c = b
  other : flag = true → ∃ q, Crc.bit (nat c) q ^^^ Crc.bit (nat b) q = 1
theorem bit01 (l : List Nat) (q : Nat) : Crc.bit l q = 0 ∨ Crc.bit l q = 1 := by unfold Crc.bit; omega
theorem Turned.skip {b c : List Int} {from_ i : Nat} {flag : Bool} (h : Turned b c from_ i flag) : Turned b c from_ (i + 1) flag :=
  ⟨h.bytes, h.len, fun q hq => ⟨(h.bits q hq).1, by have := (h.bits q hq).2; omega⟩, h.same, h.other⟩
theorem Turned.turn {b c : List Int} {from_ i : Nat} {flag : Bool} (h : Turned b c from_ i flag) (hlt : from_ + i < 8 * b.length) : Turned b (flip c (from_ + i)) from_ (i + 1) true := by
  obtain ⟨f1, f2, f3⟩ := flip_nat h.bytes (from_ + i)
  have fb := flip_bit h.bytes (from_ + i) (by rw [h.len]; exact hlt)
  refine ⟨f2, by rw [f3, h.len], fun q hq => ?_, fun e => (by cases e), fun _ => ⟨from_ + i, ?_⟩⟩
  · rw [fb q] at hq
    by_cases e : q = from_ + i
    · omega
    · rw [if_neg e, Nat.xor_zero] at hq
      have := h.bits q hq; omega
  · rw [fb, if_pos rfl]
    have : ¬ (Crc.bit (nat c) (from_ + i) ^^^ Crc.bit (nat b) (from_ + i) = 1) := fun e => by have := h.bits _ e; omega
    rcases bit01 (nat c) (from_ + i) with h1 | h1 <;> rcases bit01 (nat b) (from_ + i) with h2 | h2 <;> rw [h1, h2] at this ⊢ <;> first | rfl | exact absurd rfl this
theorem Turned.sums {b c : List Int} {from_ : Nat} {flag : Bool} (hb : ∀ x ∈ b, 0 ≤ x ∧ x < 256) (h : Turned b c from_ 32 flag) : flag = decide (Crc.more 0 (nat b) ≠ Crc.more 0 (nat c)) := by
  cases flag with
  | false => rw [h.same rfl]; simp
  | true =>
    obtain ⟨q, hq⟩ := h.other rfl
    symm
    rw [decide_eq_true_iff]
    intro e
    have e2 : Crc.dv (Crc.ones ^^^ 0) (nat b) = Crc.dv (Crc.ones ^^^ 0) (nat c) := by
      have := congrArg (Crc.ones ^^^ ·) e
      simp only [Crc.more, Gf.xcl] at this; exact this
    have hlen : (nat c).length = (nat b).length := by rw [nat_length, nat_length, h.len]
    have hx := Crc.dv_xor (Crc.ones ^^^ 0) (Crc.ones ^^^ 0) (nat c) (nat b) hlen
    rw [Nat.xor_self, e2, Nat.xor_self] at hx
    have hd := Crc.burst (List.zipWith (· ^^^ ·) (nat c) (nat b)) (fun x hx => by
      rw [List.mem_iff_getElem] at hx
      obtain ⟨i, hi, rfl⟩ := hx
      rw [List.length_zipWith] at hi
      rw [List.getElem_zipWith]
      exact Nat.xor_lt_two_pow (n := 8) (nat_lt h.bytes _ (List.getElem_mem _)) (nat_lt hb _ (List.getElem_mem _))) from_ (fun i hi => by
      rw [bit_zip _ _ hlen] at hi; exact h.bits i hi) hx q
    rw [bit_zip _ _ hlen, hq] at hd
    cases hd
theorem shl1 (r : Nat) (hr : r < 8) : shl .u8 1 (r : Int) = ((2 ^ r : Nat) : Int) := by
  have key : ∀ r < 8, shl .u8 1 ((r : Nat) : Int) = ((2 ^ r : Nat) : Int) := by decide
  exact key r hr
theorem bursts_l0 (b : List Int) (run fr : Nat) (hb : ∀ x ∈ b, 0 ≤ x ∧ x < 256) (lb : b.length ≤ 140737488351232) (hfr : fr < 8 * b.length) (n : Nat) :
    ∀ (k i : Nat) (c : List Int) (flag : Bool), i + n = 32 → n < k → Turned b c fr i flag → dailieslaw03_CrcBursts.l0 k b run fr c flag i = some true := by
  induction n with
  | zero =>
    intro k i c flag hi hk ht
    obtain ⟨k, rfl⟩ : ∃ m, k = m + 1 := ⟨k - 1, by omega⟩
    obtain rfl : i = 32 := by omega
    simp only [dailieslaw03_CrcBursts.l0]
    have hl := ht.len
    rw [if_neg (by omega)]
    refine bd (Sum_f b hb (by omega)) (bd (Sum_f c ht.bytes (by omega)) ?_)
    have e := ht.sums hb
    have e2 : (((Crc.more 0 (nat b) : Nat) : Int) != ((Crc.more 0 (nat c) : Nat) : Int)) = decide (Crc.more 0 (nat b) ≠ Crc.more 0 (nat c)) := by
      rw [Bool.eq_iff_iff, bne_iff_ne, decide_eq_true_iff]; omega
    rw [e2, ← e]; simp
  | succ n ih =>
    intro k i c flag hi hk ht
    obtain ⟨k, rfl⟩ : ∃ m, k = m + 1 := ⟨k - 1, by omega⟩
    simp only [dailieslaw03_CrcBursts.l0]
    have hl := ht.len
    have e31 : (31 : Int) - (i : Int) = ((31 - i : Nat) : Int) := by omega
    have ek : (fr : Int) + (i : Int) = ((fr + i : Nat) : Int) := by omega
    have e8 : wrap64 (8 * (b.length : Int)) = ((8 * b.length : Nat) : Int) := by rw [w64 (by omega) (by omega)]; omega
    have ew : wrap64 ((i : Int) + 1) = ((i + 1 : Nat) : Int) := by rw [w64 (by omega) (by omega)]; omega
    have hskip : dailieslaw03_CrcBursts.l0 k b run fr c flag ((i + 1 : Nat) : Int) = some true := ih k (i + 1) c flag (by omega) (by omega) ht.skip
    rw [if_pos (by omega), e31, w64 (n := ((31 - i : Nat) : Int)) (by omega) (by omega), if_pos (by omega), shr_nat32 run (31 - i) (by omega), tmod2, ek, w64 (n := ((fr + i : Nat) : Int)) (by omega) (by omega), e8, ew]
    by_cases hbit : run / 2 ^ (31 - i) % 2 = 1
    · rw [if_pos (by omega)]
      by_cases hlt : fr + i < 8 * b.length
      · have ed : wrap64 (Int.tdiv ((fr + i : Nat) : Int) 8) = (((fr + i) / 8 : Nat) : Int) := by rw [Int.tdiv_eq_ediv_of_nonneg (by omega), w64 (by omega) (by omega)]; omega
        have em : Int.tmod ((fr + i : Nat) : Int) 8 = (((fr + i) % 8 : Nat) : Int) := by rw [Int.tmod_eq_emod_of_nonneg (by omega)]; omega
        have e7 : wrap64 (7 - (((fr + i) % 8 : Nat) : Int)) = ((7 - (fr + i) % 8 : Nat) : Int) := by rw [w64 (by omega) (by omega)]; omega
        rw [if_pos (by omega), ed, em, e7, if_pos (by omega), if_pos (by omega), if_pos (by omega), Int.toNat_natCast, shl1 _ (by omega)]
        exact ih k (i + 1) _ true (by omega) (by omega) (ht.turn hlt)
      · rw [if_neg (by omega)]; exact hskip
    · rw [if_neg (by omega)]; exact hskip
theorem CrcBursts : dailieslaw03_CrcBursts.Pure := by
  intro b at_ run0 _ nb hb w1 w2
  obtain ⟨run, rfl, hr⟩ := u32_nat w2
  obtain ⟨h0, h1⟩ := i64_range w1
  refine ⟨40, ?_⟩
  unfold dailieslaw03_CrcBursts.f dailieslaw03_shown.f
  refine bd rfl ?_
  rw [if_pos rfl]
  simp only [dailieslaw03_CrcBursts.j0]
  by_cases hz : b.length = 0
  · have : (((b.length : Int) == 0)) = true := by rw [beq_iff_eq]; omega
    rw [this, if_pos rfl]
  · have : (((b.length : Int) == 0)) = false := by rw [beq_eq_false_iff_ne]; omega
    rw [this, if_neg (by decide), w64 (by omega) (by omega)]
    obtain ⟨c, hc, hc2⟩ := place_f at_ (8 * (b.length : Int)) h0 h1 (by omega)
    refine bd hc (bd rfl ?_)
    rw [if_pos (by simp; omega), List.nil_append]
    exact bursts_l0 b run c (bytes_of hb) (by omega) (by omega) 32 39 0 b false (by omega) (by omega) ⟨bytes_of hb, rfl, fun q hq => (by rw [Nat.xor_self] at hq; cases hq), fun _ => rfl, fun e => (by cases e)⟩

end Go.Proofs.Ytjaafdjgogpbdaa.Pure
