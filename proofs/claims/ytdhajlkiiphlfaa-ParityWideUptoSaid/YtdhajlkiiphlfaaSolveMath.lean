/- A part of a proof: see the text's own remark. No conditions beyond its theorems' own. -/
import Derived.Test.YtdhajlkiiphlfaaMx
import Derived.Test.YtdhajlkiiphlfaaMath
import Derived.Test.YtdhajlkiiphlfaaBits
namespace Go.Proofs.Ytdhajlkiiphlfaa.Solve
open Go.RowKit Go.Proofs.Ytdhajlkiiphlfaa.QBaseParityWide Go.Proofs.YtdhajlkiiphlfaaW.PrintWords Go.Proofs.YtdhajlkiiphlfaaW.PrintLast
open Go.Proofs.Ytdhajlkiiphlfaa.Math Go.Proofs.Ytdhajlkiiphlfaa.Bits
theorem w64 {n : Int} (h0 : -9223372036854775808 ≤ n) (h1 : n ≤ 9223372036854775807) : wrap64 n = n := by unfold wrap64; omega
theorem xt_hi {x : Nat} (h : x < 256) (h1 : 128 ≤ x) : Gf.xt 8 357 x = (2 * x) ^^^ 357 := by
  unfold Gf.xt; rw [if_pos]; rw [show 8 - 1 = 7 from rfl, Nat.testBit_eq_decide_div_mod_eq]; simp; omega
theorem xt_lo {x : Nat} (h1 : x < 128) : Gf.xt 8 357 x = 2 * x := by
  unfold Gf.xt; rw [if_neg]; rw [show 8 - 1 = 7 from rfl, Nat.testBit_eq_decide_div_mod_eq]; simp; omega
theorem xt_lt8 {x : Nat} (h : x < 256) : Gf.xt 8 357 x < 256 := Gf.xt_lt 8 357 (by decide) (by decide) (by decide) x h
theorem Mul_l0 (n : Nat) : ∀ (k p x y : Nat), p < 256 → x < 256 → y < 2 ^ n → y < 256 → n < k → field_Mul.l0 k p x y = some ((Fq.mulLoop n p x y : Nat) : Int) := by
  induction n with
  | zero =>
    intro k p x y hp hx hy hy2 hk
    obtain ⟨k, rfl⟩ : ∃ m, k = m + 1 := ⟨k - 1, by omega⟩
    have : y = 0 := by simpa using hy
    subst this
    simp only [field_Mul.l0, Fq.mulLoop]
    rw [if_pos (by rfl)]
    congr 1; omega
  | succ n ih =>
    intro k p x y hp hx hy hy2 hk
    obtain ⟨k, rfl⟩ : ∃ m, k = m + 1 := ⟨k - 1, by omega⟩
    simp only [field_Mul.l0, Fq.mulLoop]
    by_cases h0 : y = 0
    · subst h0
      rw [if_pos (by rfl), if_pos rfl]
      congr 1; omega
    · rw [if_neg (by omega), if_neg h0, and1_u8 y hy2, w64 (by omega) (by omega)]
      have e2 : ((x : Int) * 2) = ((2 * x : Nat) : Int) := by omega
      have ey : (y : Int) / 2 = ((y / 2 : Nat) : Int) := by omega
      have hy' : y / 2 < 2 ^ n := by rw [Nat.pow_succ] at hy; omega
      have hpx : p ^^^ x < 256 := Nat.xor_lt_two_pow (n := 8) hp hx
      have hxt := xt_lt8 hx
      rw [e2, ey]
      by_cases h1 : y % 2 = 1
      · rw [if_pos (by omega), if_pos h1, xor_i64 p x (by omega) (by omega)]
        by_cases h2 : 128 ≤ x
        · rw [if_pos (by omega), show (357 : Int) = ((357 : Nat) : Int) from rfl, xor_i64 _ _ (by omega) (by omega), ← xt_hi hx h2]
          exact ih k _ _ _ hpx hxt hy' (by omega) (by omega)
        · rw [if_neg (by omega), ← xt_lo (by omega)]
          exact ih k _ _ _ hpx hxt hy' (by omega) (by omega)
      · rw [if_neg (by omega), if_neg h1]
        by_cases h2 : 128 ≤ x
        · rw [if_pos (by omega), show (357 : Int) = ((357 : Nat) : Int) from rfl, xor_i64 _ _ (by omega) (by omega), ← xt_hi hx h2]
          exact ih k _ _ _ hp hxt hy' (by omega) (by omega)
        · rw [if_neg (by omega), ← xt_lo (by omega)]
          exact ih k _ _ _ hp hxt hy' (by omega) (by omega)
theorem Mul_f (k a b : Nat) (ha : a < 256) (hb : b < 256) (hk : 8 < k) : field_Mul.f k a b = some ((Fq.mul a b : Nat) : Int) := by
  unfold field_Mul.f
  rw [w64 (by omega) (by omega)]
  have := Mul_l0 8 k 0 a b (by decide) ha hb hb hk
  rw [Fq.mulLoop_is _ _ _ _ hb, Nat.zero_xor] at this
  exact this
theorem power_l0 (n : Nat) : ∀ (k a m p : Nat), a < 256 → p < 256 → m < 2 ^ n → m < 9223372036854775808 → n + 9 ≤ k → field_power.l0 k a m p = some ((Fq.powLoop n a m p : Nat) : Int) := by
  induction n with
  | zero =>
    intro k a m p ha hp hm hm2 hk
    obtain ⟨k, rfl⟩ : ∃ m, k = m + 1 := ⟨k - 1, by omega⟩
    have : m = 0 := by simpa using hm
    subst this
    simp only [field_power.l0, Fq.powLoop]
    rw [if_neg (by omega)]
  | succ n ih =>
    intro k a m p ha hp hm hm2 hk
    obtain ⟨k, rfl⟩ : ∃ m, k = m + 1 := ⟨k - 1, by omega⟩
    simp only [field_power.l0, Fq.powLoop]
    by_cases h0 : m = 0
    · subst h0
      rw [if_neg (by omega), if_pos rfl]
    · rw [if_pos (by omega), if_neg h0, and1_i64 m hm2, Mul_f k a a ha ha (by omega), Mul_f k p a hp ha (by omega)]
      have ey : (m : Int) / 2 = ((m / 2 : Nat) : Int) := by omega
      have hy' : m / 2 < 2 ^ n := by rw [Nat.pow_succ] at hm; omega
      simp only [Option.bind_some]
      rw [ey]
      by_cases h1 : m % 2 = 1
      · rw [if_pos (by omega), if_pos h1]
        exact ih k _ _ _ (Fq.mul_lt _ _ ha) (Fq.mul_lt _ _ hp) hy' (by omega) (by omega)
      · rw [if_neg (by omega), if_neg h1]
        exact ih k _ _ _ (Fq.mul_lt _ _ ha) hp hy' (by omega) (by omega)
theorem power_f (k a m : Nat) (ha : a < 256) (hm : m < 256) (hk : 17 ≤ k) : field_power.f k a m = some ((Fq.pw a m : Nat) : Int) := by
  unfold field_power.f
  have := power_l0 8 k a m 1 ha (by decide) hm (by omega) hk
  rw [Fq.powLoop_is _ _ _ _ ha (by decide) hm, Fq.one_mul _ (Fq.pw_lt _ _ ha)] at this
  exact this
theorem Inv_f (k a : Nat) (ha : a < 256) (hk : 17 ≤ k) : field_Inv.f k a = some (((Fq.inv a : Nat) : Int), if a = 0 then 41 else 0) := by
  unfold field_Inv.f
  by_cases h : a = 0
  · subst h; rw [if_pos (by rfl), if_pos rfl, Fq.inv_zero]; rfl
  · rw [if_neg (by omega), if_neg h, show (254 : Int) = ((254 : Nat) : Int) from rfl, power_f k a 254 ha (by decide) hk, Fq.pw_254 a ha]; rfl
theorem u8_nat {a : Int} (h : (Lit.int .u8 a).wf = true) : ∃ n : Nat, a = n ∧ n < 256 := by
  simp [Lit.wf, IntKind.min, IntKind.max, IntKind.signed, IntKind.bits] at h
  exact ⟨a.toNat, by omega, by omega⟩
theorem i64_range {a : Int} (h : (Lit.int .i64 a).wf = true) : -9223372036854775808 ≤ a ∧ a ≤ 9223372036854775807 := by
  simp [Lit.wf, IntKind.min, IntKind.max, IntKind.signed, IntKind.bits] at h
  omega

/-! what the rows come to -/
def mulZ (a b : Int) : Int := ((Fq.mul a.toNat b.toNat : Nat) : Int)
def invZ (a : Int) : Int := ((Fq.inv a.toNat : Nat) : Int)
def xorZ (a b : Int) : Int := ((a.toNat ^^^ b.toNat : Nat) : Int)
def In8 (a : Int) : Prop := 0 ≤ a ∧ a < 256
theorem In8.nat {a : Int} (h : In8 a) : ∃ n : Nat, a = n ∧ n < 256 := ⟨a.toNat, by have := h.1; omega, by have := h.1; have := h.2; omega⟩
theorem In8.of {n : Nat} (h : n < 256) : In8 (n : Int) := ⟨by omega, by omega⟩
theorem mulZ_in {a b : Int} (ha : In8 a) : In8 (mulZ a b) := In8.of (Fq.mul_lt _ _ (by have := ha.1; have := ha.2; omega))
theorem invZ_in {a : Int} (ha : In8 a) : In8 (invZ a) := In8.of (Fq.inv_lt _ (by have := ha.1; have := ha.2; omega))
theorem xorZ_in {a b : Int} (ha : In8 a) (hb : In8 b) : In8 (xorZ a b) := In8.of (Nat.xor_lt_two_pow (n := 8) (by have := ha.1; have := ha.2; omega) (by have := hb.1; have := hb.2; omega))
theorem Mul_z {k : Nat} {a b : Int} (ha : In8 a) (hb : In8 b) (hk : 8 < k) : field_Mul.f k a b = some (mulZ a b) := by
  obtain ⟨m, rfl, hm⟩ := ha.nat
  obtain ⟨n, rfl, hn⟩ := hb.nat
  exact Mul_f k m n hm hn hk
theorem Inv_z {k : Nat} {a : Int} (ha : In8 a) (hk : 17 ≤ k) : field_Inv.f k a = some (invZ a, if a.toNat = 0 then 41 else 0) := by
  obtain ⟨m, rfl, hm⟩ := ha.nat
  exact Inv_f k m hm hk
/-- a row, times an element, added to another one -/
def addR (tr row : List Int) (by_ : Int) : List Int := List.zipWith (fun t y => xorZ t (mulZ by_ y)) tr row
def addTo (tr row : List Int) (by_ : Int) (i : Nat) : List Int := (addR tr row by_).take i ++ tr.drop i
theorem add_l0 (row : List Int) (by_ : Int) (hb : In8 by_) (hr : ∀ y ∈ row, In8 y) (hl : row.length ≤ 140737488355328) (tr : List Int) (ht : ∀ y ∈ tr, In8 y) (hlen : tr.length = row.length) : ∀ (d i k : Nat), i + d = row.length → d + 10 ≤ k → field_add.l0 k (addTo tr row by_ i) by_ row (row.length : Int) (i : Int) = some (addR tr row by_) := by
  have hal : (addR tr row by_).length = row.length := by unfold addR; rw [List.length_zipWith]; omega
  intro d
  induction d with
  | zero =>
    intro i k hi hk
    obtain ⟨k, rfl⟩ : ∃ k', k = k' + 1 := ⟨k - 1, by omega⟩
    obtain rfl : i = row.length := by omega
    unfold field_add.l0
    rw [if_neg (by omega)]
    unfold addTo
    rw [List.take_of_length_le (by omega), List.drop_of_length_le (by omega), List.append_nil]
  | succ d ih =>
    intro i k hi hk
    obtain ⟨k, rfl⟩ : ∃ k', k = k' + 1 := ⟨k - 1, by omega⟩
    have hit : i < tr.length := by omega
    have hir : i < row.length := by omega
    have hla : (addTo tr row by_ i).length = row.length := by unfold addTo; rw [List.length_append, List.length_take, List.length_drop, hal]; omega
    have e1 : rd row (i : Int) = row[i] := by unfold rd; rw [Int.toNat_natCast, List.getD_eq_getElem?_getD, List.getElem?_eq_getElem hir]; rfl
    have e2 : rd (addTo tr row by_ i) (i : Int) = tr[i] := by
      unfold rd addTo
      rw [Int.toNat_natCast, List.getD_eq_getElem?_getD, List.getElem?_append_right (by rw [List.length_take]; omega), List.length_take, hal, List.getElem?_drop, show i + (i - min i row.length) = i by omega, List.getElem?_eq_getElem hit]; rfl
    have hy := hr row[i] (List.getElem_mem hir)
    have hz := ht tr[i] (List.getElem_mem hit)
    unfold field_add.l0
    rw [if_pos (by omega), if_pos (by omega), if_pos (by omega), if_pos (by rw [hla]; omega), e1, Mul_z hb hy (by omega)]
    show field_add.l0 k ((addTo tr row by_ i).set (i : Int).toNat (Go.bits .xor .u8 (rd (addTo tr row by_ i) (i : Int)) (mulZ by_ row[i]))) by_ row (row.length : Int) (wrap64 ((i : Int) + 1)) = _
    rw [e2, Int.toNat_natCast, w64 (by omega) (by omega)]
    have ex : Go.bits .xor .u8 tr[i] (mulZ by_ row[i]) = xorZ tr[i] (mulZ by_ row[i]) := by
      obtain ⟨m, hm, hm8⟩ := hz.nat
      obtain ⟨n, hn, hn8⟩ := (mulZ_in (b := row[i]) hb).nat
      rw [hm, hn]
      unfold xorZ
      exact xor_u8 m n hm8 hn8
    rw [ex]
    have es : (addTo tr row by_ i).set i (xorZ tr[i] (mulZ by_ row[i])) = addTo tr row by_ (i + 1) := by
      have h1 : (addR tr row by_)[i]? = some (xorZ tr[i] (mulZ by_ row[i])) := by
        unfold addR; rw [List.getElem?_zipWith, List.getElem?_eq_getElem hit, List.getElem?_eq_getElem hir]
      unfold addTo
      rw [List.set_append_right _ _ (by rw [List.length_take]; omega), List.length_take, hal, show i - min i row.length = 0 by omega, List.drop_eq_getElem_cons hit, List.set_cons_zero, List.take_add_one, h1, List.append_assoc]
      rfl
    rw [es, show (i : Int) + 1 = ((i + 1 : Nat) : Int) by omega]
    exact ih (i + 1) k (by omega) (by omega)
theorem add_f (k : Nat) (tr row : List Int) (by_ : Int) (hb : In8 by_) (h0 : by_ ≠ 0) (ht : ∀ y ∈ tr, In8 y) (hr : ∀ y ∈ row, In8 y) (hl : row.length ≤ 140737488355328) (hlen : tr.length = row.length) (hk : row.length + 10 ≤ k) : field_add.f k tr row by_ = some (addR tr row by_) := by
  unfold field_add.f
  rw [if_neg h0]
  have := add_l0 row by_ hb hr hl tr ht hlen row.length 0 k (by omega) hk
  unfold addTo at this
  rw [List.take_zero, List.nil_append, List.drop_zero] at this
  exact this
theorem addR_length (tr row : List Int) (by_ : Int) (h : tr.length = row.length) : (addR tr row by_).length = tr.length := by unfold addR; rw [List.length_zipWith]; omega
theorem addR_in (tr row : List Int) (by_ : Int) (hb : In8 by_) (ht : ∀ y ∈ tr, In8 y) : ∀ y ∈ addR tr row by_, In8 y := by
  intro y hy
  unfold addR at hy
  obtain ⟨i, hi, rfl⟩ := List.getElem_of_mem hy
  rw [List.length_zipWith] at hi
  rw [List.getElem_zipWith]
  exact xorZ_in (ht _ (List.getElem_mem _)) (mulZ_in hb)
/-- a row, times an element -/
def scaleR (row : List Int) (by_ : Int) : List Int := row.map (fun y => mulZ y by_)
def scaleTo (row : List Int) (by_ : Int) (i : Nat) : List Int := (scaleR row by_).take i ++ row.drop i
theorem scaleTo_zero (row : List Int) (by_ : Int) : scaleTo row by_ 0 = row := by unfold scaleTo; rw [List.take_zero, List.nil_append, List.drop_zero]
theorem scaleTo_all (row : List Int) (by_ : Int) : scaleTo row by_ row.length = scaleR row by_ := by unfold scaleTo; rw [List.take_of_length_le (by unfold scaleR; rw [List.length_map]; omega), List.drop_length, List.append_nil]
theorem scaleTo_length (row : List Int) (by_ : Int) (i : Nat) (hi : i ≤ row.length) : (scaleTo row by_ i).length = row.length := by unfold scaleTo scaleR; rw [List.length_append, List.length_take, List.length_drop, List.length_map]; omega
theorem scaleTo_get (row : List Int) (by_ : Int) (i : Nat) (hi : i < row.length) : (scaleTo row by_ i)[i]? = some row[i] := by
  unfold scaleTo scaleR
  rw [List.getElem?_append_right (by rw [List.length_take, List.length_map]; omega), List.length_take, List.length_map, List.getElem?_drop, show i + (i - min i row.length) = i by omega, List.getElem?_eq_getElem hi]
theorem scaleTo_set (row : List Int) (by_ : Int) (i : Nat) (hi : i < row.length) : (scaleTo row by_ i).set i (mulZ row[i] by_) = scaleTo row by_ (i + 1) := by
  have h1 : (scaleR row by_)[i]? = some (mulZ row[i] by_) := by unfold scaleR; rw [List.getElem?_map, List.getElem?_eq_getElem hi]; rfl
  have hal : (scaleR row by_).length = row.length := by unfold scaleR; rw [List.length_map]
  unfold scaleTo
  rw [List.set_append_right _ _ (by rw [List.length_take]; omega), List.length_take, hal, show i - min i row.length = 0 by omega, List.drop_eq_getElem_cons hi, List.set_cons_zero, List.take_add_one, h1, List.append_assoc]
  rfl
/-- so many rows, all as long, of elements -/
structure Sh (n m : Nat) (l : List (List Int)) : Prop where
  len : l.length = n
  row : ∀ r ∈ l, r.length = m
  el : ∀ r ∈ l, ∀ y ∈ r, In8 y
theorem Sh.set {n m : Nat} {l : List (List Int)} (h : Sh n m l) (i : Nat) {r : List Int} (h1 : r.length = m) (h2 : ∀ y ∈ r, In8 y) : Sh n m (l.set i r) :=
  ⟨by rw [List.length_set]; exact h.len, fun q hq => (List.mem_or_eq_of_mem_set hq).elim (h.row q) (fun e => e ▸ h1), fun q hq => (List.mem_or_eq_of_mem_set hq).elim (h.el q) (fun e => e ▸ h2)⟩
theorem scaleR_in (row : List Int) (by_ : Int) (h : ∀ y ∈ row, In8 y) : ∀ y ∈ scaleR row by_, In8 y := by
  intro y hy
  obtain ⟨z, hz, rfl⟩ := List.mem_map.1 hy
  exact mulZ_in (h z hz)
theorem scaleR_length (row : List Int) (by_ : Int) : (scaleR row by_).length = row.length := List.length_map _
end Go.Proofs.Ytdhajlkiiphlfaa.Solve
