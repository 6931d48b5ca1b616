/- Bytes with their own remainder behind them leave nothing, and remainders are put together as texts are: the law CrcLinear is true. No conditions. -/
import Derived.Test.YtjaafdjgogpbdaaQCrcLinearx2
import Derived.Test.YtjaafdjgogpbdaaMath
import Derived.Test.YtjaafdjgogpbdaaBits
namespace Go.Proofs.Ytjaafdjgogpbdaa.Pure
open Go.RowKit Go.Proofs.Ytjaafdjgogpbdaa.QCrcLinear Go.Proofs.YtjaafdjgogpbdaaW.PrintWords Go.Proofs.YtjaafdjgogpbdaaW.PrintLast Go.Proofs.YtjaafdjgogpbdaaW.PrintMore
open Go.Proofs.Ytjaafdjgogpbdaa.Math Go.Proofs.Ytjaafdjgogpbdaa.Bits
theorem w64 {n : Int} (h0 : -9223372036854775808 ≤ n) (h1 : n ≤ 9223372036854775807) : wrap64 n = n := by unfold wrap64; omega
theorem u32_nat {a : Int} (h : (Lit.int .u32 a).wf = true) : ∃ n : Nat, a = n ∧ n < 2 ^ 32 := by
  simp [Lit.wf, IntKind.min, IntKind.max, IntKind.signed, IntKind.bits] at h
  exact ⟨a.toNat, by omega, by omega⟩
theorem u8_range {a : Int} (h : (Lit.int .u8 a).wf = true) : 0 ≤ a ∧ a < 256 := by
  simp [Lit.wf, IntKind.min, IntKind.max, IntKind.signed, IntKind.bits] at h
  omega
theorem i64_range {a : Int} (h : (Lit.int .i64 a).wf = true) : -9223372036854775808 ≤ a ∧ a ≤ 9223372036854775807 := by
  simp [Lit.wf, IntKind.min, IntKind.max, IntKind.signed, IntKind.bits] at h
  omega
theorem bytes_of {l : List Int} (h : ∀ x ∈ l, (Lit.int .u8 x).wf = true) : ∀ x ∈ l, 0 ≤ x ∧ x < 256 := fun x hx => u8_range (h x hx)
theorem shr_nat32 (a i : Nat) (hi : i < 32) : shr .u32 (a : Int) (i : Int) = ((a / 2 ^ i : Nat) : Int) := by
  unfold shr
  rw [Int.toNat_natCast, Nat.min_eq_left (by show i ≤ 32; omega)]
  rw [Int.natCast_ediv, Int.natCast_pow]; rfl
theorem tmod2 (c : Nat) : Int.tmod (c : Int) 2 = ((c % 2 : Nat) : Int) := by
  rw [Int.tmod_eq_emod_of_nonneg (by omega)]; omega
theorem bd {α β : Type} {x : Option α} {f : α → Option β} {v : α} {r : Option β} (h : x = some v) (h2 : f v = r) : x.bind f = r := by rw [h]; exact h2
def nat (l : List Int) : List Nat := l.map Int.toNat
theorem nat_lt {l : List Int} (hl : ∀ x ∈ l, 0 ≤ x ∧ x < 256) : ∀ c ∈ nat l, c < 256 := CrcWalk.bytes_lt hl
theorem nat_length (l : List Int) : (nat l).length = l.length := List.length_map _
theorem nat_append (l m : List Int) : nat (l ++ m) = nat l ++ nat m := List.map_append
theorem not_u32 (s : Nat) (hs : s < 2 ^ 32) : Go.bits .xor .u32 4294967295 (s : Int) = ((Crc.ones ^^^ s : Nat) : Int) := xor_u32 4294967295 s (by decide) hs
theorem divide_f (s : Nat) (hs : s < 2 ^ 32) (l : List Int) (hl : ∀ x ∈ l, 0 ≤ x ∧ x < 256) (hn : l.length ≤ 9223372036854775807) : crc_divide.f s l = some ((Crc.dv s (nat l) : Nat) : Int) := by
  unfold crc_divide.f CrcWalk.divF
  rw [if_pos ⟨⟨by omega, by omega⟩, hl, hn⟩, Int.toNat_natCast]; rfl
theorem four_f (n : Nat) : ∃ l : List Int, dailieslaw03_four.f n = some l ∧ l.length = 4 ∧ nat l = Crc.four n ∧ ∀ x ∈ l, 0 ≤ x ∧ x < 256 := by
  refine ⟨_, rfl, rfl, ?_, ?_⟩
  · have e1 : ((n : Int) / 16777216 % 256).toNat = n / 2 ^ 24 % 256 := by omega
    have e2 : ((n : Int) / 65536 % 256).toNat = n / 2 ^ 16 % 256 := by omega
    have e3 : ((n : Int) / 256 % 256).toNat = n / 2 ^ 8 % 256 := by omega
    have e4 : ((n : Int) % 256).toNat = n % 256 := by omega
    simp only [nat, Crc.four, List.map_cons, List.map_nil]
    rw [e1, e2, e3, e4]
  · intro x hx
    simp only [List.mem_cons, List.not_mem_nil, or_false] at hx
    omega
theorem both_f (l m : List Int) (h : l.length + m.length ≤ 140737488355000) : dailieslaw03_both.f l m = some (l ++ m) := by
  unfold dailieslaw03_both.f
  rw [if_pos (by simp; omega)]
  simp only [List.nil_append, Option.bind_some]
  rw [if_pos (by omega)]
theorem app_bytes {l m : List Int} (hl : ∀ x ∈ l, 0 ≤ x ∧ x < 256) (hm : ∀ x ∈ m, 0 ≤ x ∧ x < 256) : ∀ x ∈ l ++ m, 0 ≤ x ∧ x < 256 := by
  intro x hx
  rcases List.mem_append.1 hx with h | h
  · exact hl x h
  · exact hm x h
theorem take_bytes {l : List Int} (hl : ∀ x ∈ l, 0 ≤ x ∧ x < 256) (n : Nat) : ∀ x ∈ l.take n, 0 ≤ x ∧ x < 256 := fun x hx => hl x (List.mem_of_mem_take hx)
theorem Rem_f (l : List Int) (hl : ∀ x ∈ l, 0 ≤ x ∧ x < 256) (hn : l.length ≤ 9223372036854775807) : crc_Remainder.f l = some ((Crc.dv 0 (nat l) : Nat) : Int) := by
  unfold crc_Remainder.f
  exact bd (divide_f 0 (by decide) l hl hn) rfl
/-- two lists put together -/
def xl (a b : List Int) : List Int := List.zipWith (fun x y => Go.bits .xor .u8 x y) a b
theorem xl_step {a b : List Int} (i : Nat) (ha : i < a.length) (hb : i < b.length) : xl (a.take (i + 1)) (b.take (i + 1)) = xl (a.take i) (b.take i) ++ [Go.bits .xor .u8 (rd a i) (rd b i)] := by
  have r : ∀ l : List Int, i < l.length → l.take (i + 1) = l.take i ++ [rd l i] := by
    intro l hl
    rw [List.take_succ_eq_append_getElem hl]
    unfold rd
    rw [Int.toNat_natCast, List.getD_eq_getElem?_getD, List.getElem?_eq_getElem hl]; rfl
  unfold xl
  rw [r a ha, r b hb, List.zipWith_append (by simp; omega)]; rfl
theorem xl_nat {a b : List Int} (ha : ∀ x ∈ a, 0 ≤ x ∧ x < 256) (hb : ∀ x ∈ b, 0 ≤ x ∧ x < 256) : nat (xl a b) = List.zipWith (· ^^^ ·) (nat a) (nat b) ∧ ∀ x ∈ xl a b, 0 ≤ x ∧ x < 256 := by
  induction a generalizing b with
  | nil => exact ⟨rfl, fun x hx => by simp [xl] at hx⟩
  | cons x a ih =>
    cases b with
    | nil => exact ⟨rfl, fun x hx => by simp [xl] at hx⟩
    | cons y b =>
      obtain ⟨i1, i2⟩ := ih (fun z hz => ha z (by simp [hz])) (b := b) (fun z hz => hb z (by simp [hz]))
      have hx := ha x (by simp)
      have hy := hb y (by simp)
      have e : Go.bits .xor .u8 x y = ((x.toNat ^^^ y.toNat : Nat) : Int) := by
        have := xor_u8 x.toNat y.toNat (by omega) (by omega)
        rwa [show ((x.toNat : Nat) : Int) = x from by omega, show ((y.toNat : Nat) : Int) = y from by omega] at this
      have hxy : x.toNat ^^^ y.toNat < 256 := Nat.xor_lt_two_pow (n := 8) (by omega) (by omega)
      constructor
      · show (Go.bits .xor .u8 x y).toNat :: nat (xl a b) = _
        rw [i1, e, Int.toNat_natCast]; rfl
      · intro z hz
        have hz' : z ∈ Go.bits .xor .u8 x y :: xl a b := hz
        rcases List.mem_cons.1 hz' with h | h
        · rw [h, e]; omega
        · exact i2 z h
theorem set_app (l : List Int) (m : Nat) (v : Int) : (l ++ List.replicate (m + 1) 0).set l.length v = l ++ [v] ++ List.replicate m 0 := by
  rw [List.set_append_right _ _ (Nat.le_refl _), Nat.sub_self, List.replicate_succ]; simp
theorem linear_l0 (a b : List Int) (n : Nat) (ha : ∀ x ∈ a, 0 ≤ x ∧ x < 256) (hb : ∀ x ∈ b, 0 ≤ x ∧ x < 256) (la : a.length ≤ 140737488351232) (na : n ≤ a.length) (nb : n ≤ b.length) (d : Nat) :
    ∀ k i : Nat, i + d = n → d < k → dailieslaw03_CrcLinear.l0 k a b true n (xl (a.take i) (b.take i) ++ List.replicate d 0) i = some true := by
  induction d with
  | zero =>
    intro k i hi hk
    obtain ⟨k, rfl⟩ : ∃ m, k = m + 1 := ⟨k - 1, by omega⟩
    obtain rfl : i = n := by omega
    simp only [dailieslaw03_CrcLinear.l0]
    have ta := take_bytes ha i
    have tb := take_bytes hb i
    obtain ⟨x1, x2⟩ := xl_nat ta tb
    have lta : (a.take i).length = i := by rw [List.length_take]; omega
    have ltb : (b.take i).length = i := by rw [List.length_take]; omega
    have lx : (xl (a.take i) (b.take i)).length = i := by unfold xl; rw [List.length_zipWith, lta, ltb]; omega
    have hlin := Crc.dv_xor 0 0 (nat (a.take i)) (nat (b.take i)) (by rw [nat_length, nat_length, lta, ltb])
    rw [Nat.xor_self, ← x1] at hlin
    have lt1 := Crc.dv_lt (s := 0) (nat (a.take i)) (by decide) (nat_lt ta)
    have lt2 := Crc.dv_lt (s := 0) (nat (b.take i)) (by decide) (nat_lt tb)
    rw [if_neg (by omega), if_pos (by omega), if_pos (by omega), Int.toNat_natCast, List.replicate_zero, List.append_nil]
    refine bd (Rem_f _ ta (by omega)) ?_
    rw [if_pos (by omega)]
    refine bd (Rem_f _ tb (by omega)) (bd (Rem_f _ x2 (by omega)) ?_)
    obtain ⟨f, hf, hf4, hfn, hfb⟩ := four_f (Crc.dv 0 (nat (a.take i)))
    refine bd hf (bd (both_f _ f (by omega)) (bd (Rem_f _ (app_bytes ta hfb) (by rw [List.length_append]; omega)) ?_))
    have hz : Crc.dv 0 (nat (a.take i ++ f)) = 0 := by rw [nat_append, Crc.dv_append, hfn, Crc.none_left _ lt1]
    rw [if_pos trivial, hz, if_pos (by rfl), hlin, xor_u32 _ _ lt1 lt2]
    simp
  | succ d ih =>
    intro k i hi hk
    obtain ⟨k, rfl⟩ : ∃ m, k = m + 1 := ⟨k - 1, by omega⟩
    simp only [dailieslaw03_CrcLinear.l0]
    have lx : (xl (a.take i) (b.take i)).length = i := by unfold xl; rw [List.length_zipWith, List.length_take, List.length_take]; omega
    rw [if_pos (by omega), if_pos (by omega), if_pos (by omega), if_pos (by omega), if_pos (by rw [List.length_append, List.length_replicate, lx]; omega), w64 (by omega) (by omega), Int.toNat_natCast]
    have hs := set_app (xl (a.take i) (b.take i)) d (Go.bits .xor .u8 (rd a i) (rd b i))
    rw [lx] at hs
    rw [hs, ← xl_step i (by omega) (by omega)]
    exact ih k (i + 1) (by omega) (by omega)
theorem linear_j0 (a b : List Int) (n k : Nat) (ha : ∀ x ∈ a, 0 ≤ x ∧ x < 256) (hb : ∀ x ∈ b, 0 ≤ x ∧ x < 256) (la : a.length ≤ 140737488351232) (na : n ≤ a.length) (nb : n ≤ b.length) (hk : n + 2 ≤ k) :
    dailieslaw03_CrcLinear.j0 k a b true n = some true := by
  obtain ⟨k, rfl⟩ : ∃ m, k = m + 1 := ⟨k - 1, by omega⟩
  simp only [dailieslaw03_CrcLinear.j0]
  rw [if_pos (by omega), Int.toNat_natCast, if_pos (by omega)]
  exact linear_l0 a b n ha hb la na nb n k 0 (by omega) (by omega)
theorem CrcLinear : dailieslaw03_CrcLinear.Pure := by
  intro a b _ na ha _ nb hb
  refine ⟨a.length + b.length + 2, ?_⟩
  unfold dailieslaw03_CrcLinear.f dailieslaw03_shown.f
  simp only [Option.bind_some]
  by_cases h : (b.length : Int) < (a.length : Int)
  · rw [if_pos h]
    exact linear_j0 a b b.length _ (bytes_of ha) (bytes_of hb) (by omega) (by omega) (by omega) (by omega)
  · rw [if_neg h]
    exact linear_j0 a b a.length _ (bytes_of ha) (bytes_of hb) (by omega) (by omega) (by omega) (by omega)

end Go.Proofs.Ytjaafdjgogpbdaa.Pure
