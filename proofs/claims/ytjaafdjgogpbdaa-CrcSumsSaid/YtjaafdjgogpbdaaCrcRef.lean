/- The document's division of polynomials comes to the program's: plain Lean over the printed functions. -/
import Derived.Test.YtjaafdjgogpbdaaQBaseCrcSumsx1
import Derived.Test.YtjaafdjgogpbdaaMath
import Derived.Test.YtjaafdjgogpbdaaBits
namespace Go.Proofs.Ytjaafdjgogpbdaa.CrcRef
open Go.RowKit Go.Proofs.YtjaafdjgogpbdaaW.PrintWords Go.Proofs.YtjaafdjgogpbdaaW.PrintLast Go.Proofs.YtjaafdjgogpbdaaW.PrintMore
open Go.Proofs.Ytjaafdjgogpbdaa.Math Go.Proofs.Ytjaafdjgogpbdaa.Bits Go.Proofs.Ytjaafdjgogpbdaa.QBaseCrcSums
theorem w64 {n : Int} (h0 : -9223372036854775808 ≤ n) (h1 : n ≤ 9223372036854775807) : wrap64 n = n := by unfold wrap64; omega
theorem u32_nat {a : Int} (h : (Lit.int .u32 a).wf = true) : ∃ n : Nat, a = n ∧ n < 2 ^ 32 := by
  simp [Lit.wf, IntKind.min, IntKind.max, IntKind.signed, IntKind.bits] at h
  exact ⟨a.toNat, by omega, by omega⟩
theorem u8_range {a : Int} (h : (Lit.int .u8 a).wf = true) : 0 ≤ a ∧ a < 256 := by
  simp [Lit.wf, IntKind.min, IntKind.max, IntKind.signed, IntKind.bits] at h
  omega
theorem i64_range {a : Int} (h : (Lit.int .i64 a).wf = true) : -9223372036854775808 ≤ a ∧ a ≤ 9223372036854775807 := by
  simp [Lit.wf, IntKind.min, IntKind.max, IntKind.signed, IntKind.bits] at h
  omega
theorem bytes_of {l : List Int} (h : ∀ x ∈ l, (Lit.int .u8 x).wf = true) : ∀ x ∈ l, 0 ≤ x ∧ x < 256 := fun x hx => u8_range (h x hx)
theorem shr_nat32 (a i : Nat) (hi : i < 32) : shr .u32 (a : Int) (i : Int) = ((a / 2 ^ i : Nat) : Int) := by
  unfold shr
  rw [Int.toNat_natCast, Nat.min_eq_left (by show i ≤ 32; omega)]
  rw [Int.natCast_ediv, Int.natCast_pow]; rfl
theorem tmod2 (c : Nat) : Int.tmod (c : Int) 2 = ((c % 2 : Nat) : Int) := by
  rw [Int.tmod_eq_emod_of_nonneg (by omega)]; omega
theorem bd {α β : Type} {x : Option α} {f : α → Option β} {v : α} {r : Option β} (h : x = some v) (h2 : f v = r) : x.bind f = r := by rw [h]; exact h2
def nat (l : List Int) : List Nat := l.map Int.toNat
theorem nat_lt {l : List Int} (hl : ∀ x ∈ l, 0 ≤ x ∧ x < 256) : ∀ c ∈ nat l, c < 256 := CrcWalk.bytes_lt hl
theorem nat_length (l : List Int) : (nat l).length = l.length := List.length_map _
theorem nat_append (l m : List Int) : nat (l ++ m) = nat l ++ nat m := List.map_append
theorem not_u32 (s : Nat) (hs : s < 2 ^ 32) : Go.bits .xor .u32 4294967295 (s : Int) = ((Crc.ones ^^^ s : Nat) : Int) := xor_u32 4294967295 s (by decide) hs
theorem divide_f (s : Nat) (hs : s < 2 ^ 32) (l : List Int) (hl : ∀ x ∈ l, 0 ≤ x ∧ x < 256) (hn : l.length ≤ 9223372036854775807) : crc_divide.f s l = some ((Crc.dv s (nat l) : Nat) : Int) := by
  unfold crc_divide.f CrcWalk.divF
  rw [if_pos ⟨⟨by omega, by omega⟩, hl, hn⟩, Int.toNat_natCast]; rfl
theorem More_f (s : Nat) (hs : s < 2 ^ 32) (l : List Int) (hl : ∀ x ∈ l, 0 ≤ x ∧ x < 256) (hn : l.length ≤ 9223372036854775807) : crc_More.f s l = some ((Crc.more s (nat l) : Nat) : Int) := by
  unfold crc_More.f
  have h1 : Crc.ones ^^^ s < 2 ^ 32 := Nat.xor_lt_two_pow Crc.ones_lt hs
  rw [not_u32 s hs]
  refine bd (divide_f _ h1 l hl hn) ?_
  rw [not_u32 _ (Crc.dv_lt _ h1 (nat_lt hl))]; rfl
theorem Sum_f (l : List Int) (hl : ∀ x ∈ l, 0 ≤ x ∧ x < 256) (hn : l.length ≤ 9223372036854775807) : crc_Sum.f l = some ((Crc.more 0 (nat l) : Nat) : Int) := by
  unfold crc_Sum.f
  exact bd (More_f 0 (by decide) l hl hn) rfl
theorem more_nil (s : Nat) : Crc.more s [] = s := Crc.ones_ones s
theorem two_xor (q c : Nat) (hc : c < 2) : 2 * q + c = 2 * q ^^^ c := by
  have e := Crc.split_at 1 (2 * q + c)
  rw [show (2 * q + c) / 2 ^ 1 * 2 ^ 1 = 2 * q from by omega, show (2 * q + c) % 2 ^ 1 = c from by omega] at e
  exact e
theorem step_f (p c : Nat) (hp : p < 2 ^ 32) (hc : c < 2) : dailiesref03_step.f p c = some ((Crc.X p ^^^ c : Nat) : Int) := by
  unfold dailiesref03_step.f
  by_cases h : 2 ^ 31 ≤ p
  · have e : (((2 * (p : Int)) % 4294967296) + c) % 4294967296 = ((2 * (p - 2 ^ 31) + c : Nat) : Int) := by omega
    rw [if_pos (by omega), e, show (79764919 : Int) = ((79764919 : Nat) : Int) from rfl, xor_u32 _ _ (by omega) (by decide), two_xor _ _ hc]
    have := Crc.X_big (v := p - 2 ^ 31) (by omega)
    rw [show p - 2 ^ 31 + 2 ^ 31 = p from by omega] at this
    rw [this, Nat.xor_assoc, Nat.xor_assoc, Nat.xor_comm c]
  · have e : (((2 * (p : Int)) % 4294967296) + c) % 4294967296 = ((2 * p + c : Nat) : Int) := by omega
    rw [if_neg (by omega), e, two_xor _ _ hc, Crc.X_small (v := p) (Nat.not_le.1 h)]
theorem shr_nat8 (a i : Nat) (hi : i < 8) : shr .u8 (a : Int) (i : Int) = ((a / 2 ^ i : Nat) : Int) := by
  unfold shr
  rw [Int.toNat_natCast, Nat.min_eq_left (by show i ≤ 8; omega)]
  rw [Int.natCast_ediv, Int.natCast_pow]; rfl
theorem rd_nat (l : List Int) (hl : ∀ x ∈ l, 0 ≤ x ∧ x < 256) (i : Nat) : rd l (i : Int) = (((nat l).getD i 0 : Nat) : Int) := by
  unfold rd nat
  rw [Int.toNat_natCast, List.getD_eq_getElem?_getD, List.getD_eq_getElem?_getD, List.getElem?_map]
  by_cases h : i < l.length
  · rw [List.getElem?_eq_getElem h]
    have := hl _ (List.getElem_mem h)
    show l[i] = ((l[i].toNat : Nat) : Int)
    omega
  · rw [List.getElem?_eq_none (by omega)]; rfl
theorem bit_f (l : List Int) (hl : ∀ x ∈ l, 0 ≤ x ∧ x < 256) (hn : l.length ≤ 140737488355328) (i : Nat) (hi : i ≤ 8 * l.length + 32) : dailiesref03_bit.f l i = some ((Crc.bit (nat l) i : Nat) : Int) := by
  unfold dailiesref03_bit.f
  have ed : wrap64 (Int.tdiv ((i : Nat) : Int) 8) = ((i / 8 : Nat) : Int) := by rw [Int.tdiv_eq_ediv_of_nonneg (by omega), w64 (by omega) (by omega)]; omega
  have em : Int.tmod ((i : Nat) : Int) 8 = ((i % 8 : Nat) : Int) := by rw [Int.tmod_eq_emod_of_nonneg (by omega)]; omega
  have e7 : wrap64 (7 - ((i % 8 : Nat) : Int)) = ((7 - i % 8 : Nat) : Int) := by rw [w64 (by omega) (by omega)]; omega
  rw [ed]
  by_cases h : l.length ≤ i / 8
  · rw [if_pos (by omega)]
    unfold Crc.bit
    rw [List.getD_eq_getElem?_getD, List.getElem?_eq_none (by rw [nat_length]; omega)]
    simp
  · rw [if_neg (by omega), if_pos (by omega), if_pos (by omega), em, e7, if_pos (by omega), rd_nat l hl, shr_nat8 _ _ (by omega)]
    unfold Crc.bit
    have hb : (nat l).getD (i / 8) 0 / 2 ^ (7 - i % 8) ≤ (nat l).getD (i / 8) 0 := Nat.div_le_self _ _
    have hb2 : (nat l).getD (i / 8) 0 < 256 := Crc.getD_lt (nat_lt hl) _
    generalize (nat l).getD (i / 8) 0 / 2 ^ (7 - i % 8) = q at *
    congr 1; omega
theorem divided_l0 (s : Nat) (_ : s < 2 ^ 32) (l : List Int) (hl : ∀ x ∈ l, 0 ≤ x ∧ x < 256) (hn : l.length ≤ 140737488355328) (n : Nat) :
    ∀ k i : Nat, i + n = 8 * l.length + 32 → n < k → dailiesref03_divided.l0 k s l ((Crc.rr s (nat l) i : Nat) : Int) i = some ((Crc.rr s (nat l) (8 * l.length + 32) : Nat) : Int) := by
  have rlt : ∀ i, Crc.rr s (nat l) i < 2 ^ 32 := by
    intro i
    induction i with
    | zero => exact (by decide : 0 < 2 ^ 32)
    | succ i ih =>
      have hb : Crc.bit (nat l) i < 2 := by unfold Crc.bit; omega
      have hc : (if i < 32 then s / 2 ^ (31 - i) % 2 else 0) < 2 := by split <;> omega
      exact Nat.xor_lt_two_pow (Crc.X_lt ih) (Nat.xor_lt_two_pow (by omega) (by omega))
  induction n with
  | zero =>
    intro k i hi hk
    obtain ⟨k, rfl⟩ : ∃ m, k = m + 1 := ⟨k - 1, by omega⟩
    obtain rfl : i = 8 * l.length + 32 := by omega
    simp only [dailiesref03_divided.l0]
    rw [w64 (n := 8 * (l.length : Int)) (by omega) (by omega), w64 (by omega) (by omega), if_neg (by omega)]
  | succ n ih =>
    intro k i hi hk
    obtain ⟨k, rfl⟩ : ∃ m, k = m + 1 := ⟨k - 1, by omega⟩
    simp only [dailiesref03_divided.l0]
    rw [w64 (n := 8 * (l.length : Int)) (by omega) (by omega), w64 (n := 8 * (l.length : Int) + 32) (by omega) (by omega), if_pos (by omega)]
    refine bd (bit_f l hl hn i (by omega)) ?_
    have hb : Crc.bit (nat l) i < 2 := by unfold Crc.bit; omega
    have hnext := ih k (i + 1) (by omega) (by omega)
    rw [w64 (n := (i : Int) + 1) (by omega) (by omega)]
    by_cases h : i < 32
    · have e31 : (31 : Int) - (i : Int) = ((31 - i : Nat) : Int) := by omega
      have hc : s / 2 ^ (31 - i) % 2 < 2 := by omega
      rw [if_pos (by omega), e31, w64 (n := ((31 - i : Nat) : Int)) (by omega) (by omega), if_pos (by omega), shr_nat32 s (31 - i) (by omega), tmod2, xor_u32 _ _ (by omega) (by omega)]
      refine bd (step_f _ _ (rlt i) (Nat.xor_lt_two_pow (n := 1) hb hc)) ?_
      have e : Crc.rr s (nat l) (i + 1) = Crc.X (Crc.rr s (nat l) i) ^^^ (Crc.bit (nat l) i ^^^ s / 2 ^ (31 - i) % 2) := by simp only [Crc.rr]; rw [if_pos h]
      rw [← e]; exact hnext
    · rw [if_neg (by omega)]
      refine bd (step_f _ _ (rlt i) hb) ?_
      have e : Crc.rr s (nat l) (i + 1) = Crc.X (Crc.rr s (nat l) i) ^^^ Crc.bit (nat l) i := by simp only [Crc.rr]; rw [if_neg h, Nat.xor_zero]
      rw [← e]; exact hnext
/-- the document's division is the program's -/
theorem divided_f (s : Nat) (hs : s < 2 ^ 32) (l : List Int) (hl : ∀ x ∈ l, 0 ≤ x ∧ x < 256) (hn : l.length ≤ 140737488355328) (k : Nat) (hk : 8 * l.length + 40 ≤ k) : dailiesref03_divided.f k s l = some ((Crc.dv s (nat l) : Nat) : Int) := by
  unfold dailiesref03_divided.f
  have h := divided_l0 s hs l hl hn (8 * l.length + 32) k 0 (by omega) (by omega)
  have e := Crc.rr_dv s hs (nat l) (nat_lt hl)
  rw [nat_length] at e
  rw [e] at h
  exact h
theorem refRem_f (l : List Int) (hl : ∀ x ∈ l, 0 ≤ x ∧ x < 256) (hn : l.length ≤ 140737488355328) (k : Nat) (hk : 8 * l.length + 40 ≤ k) : dailiesref03_Remainder.f k l = some ((Crc.dv 0 (nat l) : Nat) : Int) := by
  unfold dailiesref03_Remainder.f
  exact bd (divided_f 0 (by decide) l hl hn k hk) rfl
theorem refMore_f (s : Nat) (hs : s < 2 ^ 32) (l : List Int) (hl : ∀ x ∈ l, 0 ≤ x ∧ x < 256) (hn : l.length ≤ 140737488355328) (k : Nat) (hk : 8 * l.length + 40 ≤ k) : dailiesref03_More.f k s l = some ((Crc.more s (nat l) : Nat) : Int) := by
  unfold dailiesref03_More.f
  have h1 : Crc.ones ^^^ s < 2 ^ 32 := Nat.xor_lt_two_pow Crc.ones_lt hs
  rw [not_u32 s hs]
  refine bd (divided_f _ h1 l hl hn k hk) ?_
  rw [not_u32 _ (Crc.dv_lt _ h1 (nat_lt hl))]; rfl
theorem refSum_f (l : List Int) (hl : ∀ x ∈ l, 0 ≤ x ∧ x < 256) (hn : l.length ≤ 140737488355328) (k : Nat) (hk : 8 * l.length + 40 ≤ k) : dailiesref03_Sum.f k l = some ((Crc.more 0 (nat l) : Nat) : Int) := by
  unfold dailiesref03_Sum.f
  exact bd (refMore_f 0 (by decide) l hl hn k hk) rfl
theorem Rem_f (l : List Int) (hl : ∀ x ∈ l, 0 ≤ x ∧ x < 256) (hn : l.length ≤ 9223372036854775807) : crc_Remainder.f l = some ((Crc.dv 0 (nat l) : Nat) : Int) := by
  unfold crc_Remainder.f
  exact bd (divide_f 0 (by decide) l hl hn) rfl
end Go.Proofs.Ytjaafdjgogpbdaa.CrcRef
