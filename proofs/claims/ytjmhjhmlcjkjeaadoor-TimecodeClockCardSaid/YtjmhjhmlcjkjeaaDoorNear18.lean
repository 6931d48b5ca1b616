/- A part of a proof: see the text's own remark. No conditions beyond its theorems' own. -/
import Derived.Test.YtjmhjhmlcjkjeaaDoorFloat18
/-! floats: how far a rounded number is from what it stands for, in units of 2^-1074 -/
namespace Go.Proofs.YtjmhjhmlcjkjeaaDoor.Fl
open Ieee
set_option linter.unusedVariables false
set_option linter.unusedSimpArgs false
def sg (s : Bool) : Int := if s then -1 else 1
def V : Datum → Int
  | .number s m i => sg s * ((m * 2 ^ (i + 1074).toNat : Nat) : Int)
  | _ => 0
theorem signed_eq (s : Bool) (m up : Nat) : signed s m up = sg s * ((m * 2 ^ up : Nat) : Int) := by
  unfold signed sg
  rw [Nat.shiftLeft_eq]
  cases s <;> simp
theorem dB : double.binade = 4503599627370496 := by decide
theorem dS : double.signWeight = 9223372036854775808 := by decide
theorem dI : double.infRung = 9218868437227405312 := by decide
theorem dL : double.leastPlace = -1074 := by decide
theorem pw_split (a b c k : Nat) (h : a = b + c) (hk : 2 ^ b = k) : 2 ^ a = k * 2 ^ c := by subst h; subst hk; exact Nat.pow_add 2 b c
theorem lt_split (n k U : Nat) (h : n < k) (hU : 0 < U) : n * U < k * U := Nat.mul_lt_mul_of_pos_right h hU
theorem tpos (k : Nat) : 0 < 2 ^ k := Nat.two_pow_pos k
theorem read_word (neg : Bool) (L kept : Nat) (h1 : kept ≤ 9007199254740992) (h2 : 4503599627370496 ≤ kept ∨ L = 0) (h3 : L ≤ 2000) :
    ∃ m i, double.read (double.word neg (L * 4503599627370496 + kept)) = .number neg m i ∧ -1074 ≤ i ∧ m < 9007199254740992 ∧ m * 2 ^ (i + 1074).toNat = kept * 2 ^ L := by
  obtain ⟨rung, hr⟩ : ∃ rung, rung = L * 4503599627370496 + kept := ⟨_, rfl⟩
  rw [← hr]
  have hlt : rung < double.signWeight := by rw [dS]; omega
  have e1 : (double.word neg rung / double.signWeight % 2 == 1) = neg := by
    unfold Format.word
    rw [dS] at hlt ⊢
    cases neg
    · rw [if_neg (by decide)]; exact beq_eq_false_iff_ne.2 (by omega)
    · rw [if_pos rfl]; exact beq_iff_eq.2 (by omega)
  have e2 : double.word neg rung % double.signWeight = rung := word_mod double neg hlt
  unfold Format.read
  simp only [e1, e2, dB, dI, dL]
  by_cases hk : rung < 4503599627370496
  · rw [if_pos hk]
    refine ⟨rung, -1074, rfl, by omega, by omega, ?_⟩
    obtain rfl : L = 0 := by omega
    rw [show (-1074 + 1074 : Int).toNat = 0 from rfl]; omega
  · rw [if_neg hk, if_pos (by omega)]
    by_cases h2k : kept = 9007199254740992
    · refine ⟨_, _, rfl, by omega, by omega, ?_⟩
      rw [show rung % 4503599627370496 = 0 by omega, show ((-1074 : Int) + ((rung / 4503599627370496 - 1 : Nat) : Int) + 1074).toNat = L + 1 by omega, h2k, Nat.pow_succ]
      omega
    · refine ⟨_, _, rfl, by omega, by omega, ?_⟩
      rw [show (4503599627370496 + rung % 4503599627370496) = kept by omega, show ((-1074 : Int) + ((rung / 4503599627370496 - 1 : Nat) : Int) + 1074).toNat = L by omega]
theorem nearest_near (neg : Bool) (mag : Nat) (place : Int) (e : Nat) (hp : -1074 ≤ place) (he : 53 ≤ e ∧ e ≤ 2000) (hN : mag * 2 ^ (place + 1074).toNat < 2 ^ e) :
    ∃ m i, double.read (double.nearest neg mag place) = .number neg m i ∧ -1074 ≤ i ∧ m < 9007199254740992 ∧
      (m * 2 ^ (i + 1074).toNat ≤ mag * 2 ^ (place + 1074).toNat + 2 ^ (e - 53) ∧ mag * 2 ^ (place + 1074).toNat ≤ m * 2 ^ (i + 1074).toNat + 2 ^ (e - 53)) ∧
      (mag < 9007199254740992 → m * 2 ^ (i + 1074).toNat = mag * 2 ^ (place + 1074).toNat) := by
  unfold Format.nearest
  by_cases h0 : mag = 0
  · subst h0
    rw [if_pos rfl]
    obtain ⟨m, i, e1, e2, e3, e4⟩ := read_word neg 0 0 (by omega) (.inr rfl) (by omega)
    refine ⟨m, i, e1, e2, e3, ?_, fun _ => ?_⟩ <;> rw [e4] <;> simp
  · rw [if_neg h0]
    have l1 := Nat.log2_self_le h0
    have l2 : mag < 2 ^ (mag.log2 + 1) := Nat.lt_log2_self
    generalize hl : mag.log2 = l at l1 l2 ⊢
    obtain ⟨P, hP⟩ : ∃ P : Nat, place = (P : Int) - 1074 := ⟨(place + 1074).toNat, by omega⟩
    subst hP
    rw [show ((P : Int) - 1074 + 1074).toNat = P by omega] at hN ⊢
    have hle : l + P < e := by
      have : 2 ^ (l + P) < 2 ^ e := by
        rw [Nat.pow_add]; exact Nat.lt_of_le_of_lt (Nat.mul_le_mul_right _ l1) hN
      exact (Nat.pow_lt_pow_iff_right (by decide)).1 this
    obtain ⟨L, hL⟩ : ∃ L : Nat, L = P + l - 52 := ⟨_, rfl⟩
    have eF : (double.fractionBits : Int) = 52 := rfl
    have eLast : max ((P : Int) - 1074 + (l : Int) - (double.fractionBits : Int)) (-1074) = (L : Int) - 1074 := by rw [eF]; omega
    simp only [dL, dB, dI]
    rw [eLast]
    rw [show ((L : Int) - 1074 - -1074).toNat = L by omega]
    have key : ∃ kept, Toward.even.cut neg (mag <<< ((P : Int) - 1074 - ((L : Int) - 1074)).toNat) ((L : Int) - 1074 - ((P : Int) - 1074)).toNat = kept ∧ kept ≤ 9007199254740992 ∧ (4503599627370496 ≤ kept ∨ L = 0) ∧
        (kept * 2 ^ L ≤ mag * 2 ^ P + 2 ^ (e - 53) ∧ mag * 2 ^ P ≤ kept * 2 ^ L + 2 ^ (e - 53)) ∧ (mag < 9007199254740992 → kept * 2 ^ L = mag * 2 ^ P) := by
      by_cases hA : L ≤ P
      · rw [show ((L : Int) - 1074 - ((P : Int) - 1074)).toNat = 0 by omega, show ((P : Int) - 1074 - ((L : Int) - 1074)).toNat = P - L by omega, Nat.shiftLeft_eq]
        have ec : Toward.even.cut neg (mag * 2 ^ (P - L)) 0 = mag * 2 ^ (P - L) := by
          unfold Toward.cut
          simp [Nat.mod_one]
        refine ⟨_, ec, ?_, ?_, ?_⟩
        · have h52 : l + (P - L) ≤ 52 := by omega
          have : mag * 2 ^ (P - L) < 2 ^ (l + 1 + (P - L)) := by rw [Nat.pow_add 2 (l + 1)]; exact Nat.mul_lt_mul_of_pos_right l2 (Nat.two_pow_pos _)
          have h53 : 2 ^ (l + 1 + (P - L)) ≤ 2 ^ 53 := Nat.pow_le_pow_right (by decide) (by omega)
          have : (2 : Nat) ^ 53 = 9007199254740992 := by decide
          omega
        · by_cases hL0 : L = 0
          · exact .inr hL0
          · refine .inl ?_
            have h52 : l + (P - L) = 52 := by omega
            have : 2 ^ (l + (P - L)) ≤ mag * 2 ^ (P - L) := by rw [Nat.pow_add]; exact Nat.mul_le_mul_right _ l1
            rw [h52] at this
            have e52 : (2 : Nat) ^ 52 = 4503599627370496 := by decide
            omega
        · have ex : mag * 2 ^ (P - L) * 2 ^ L = mag * 2 ^ P := by rw [Nat.mul_assoc, ← Nat.pow_add, Nat.sub_add_cancel hA]
          rw [ex]
          exact ⟨⟨Nat.le_add_right _ _, Nat.le_add_right _ _⟩, fun _ => rfl⟩
      · have hl52 : 52 < l := by omega
        rw [show ((L : Int) - 1074 - ((P : Int) - 1074)).toNat = l - 52 by omega, show ((P : Int) - 1074 - ((L : Int) - 1074)).toNat = 0 by omega, Nat.shiftLeft_zero]
        obtain ⟨G, hG⟩ : ∃ G, G = 2 ^ (l - 52) := ⟨_, rfl⟩
        have hG2 : 2 ≤ G := by rw [hG]; have h := Nat.pow_le_pow_right (show 0 < 2 by decide) (show 1 ≤ l - 52 by omega); exact h
        have hGp : 0 < G := by rw [hG]; exact Nat.two_pow_pos _
        have eg : (1 <<< min (l - 52) (mag.log2 + 2) : Nat) = G := by rw [hl, show min (l - 52) (l + 2) = l - 52 by omega, Nat.one_shiftLeft, hG]
        have e1 : 2 ^ l = 4503599627370496 * G := by rw [hG, show (4503599627370496 : Nat) = 2 ^ 52 by decide, ← Nat.pow_add]; congr 1; omega
        rw [Nat.pow_succ, e1] at l2
        rw [e1] at l1
        have dm := Nat.div_add_mod mag G
        have ml := Nat.mod_lt mag hGp
        have q1 : 4503599627370496 ≤ mag / G := (Nat.le_div_iff_mul_le hGp).2 l1
        have q2 : mag / G < 9007199254740992 := (Nat.div_lt_iff_lt_mul hGp).2 (by omega)
        have e3 : G * 2 ^ P = 2 ^ L := by rw [hG, ← Nat.pow_add]; congr 1; omega
        have e4 : 2 ^ L ≤ 2 ^ (e - 53) := Nat.pow_le_pow_right (by decide) (by omega)
        have hc : ∃ b : Bool, Toward.even.cut neg mag (l - 52) = mag / G + b.toNat := by
          unfold Toward.cut
          simp only [eg]
          exact ⟨_, rfl⟩
        obtain ⟨b, hb⟩ := hc
        have hb1 : b.toNat ≤ 1 := by cases b <;> decide
        generalize b.toNat = t at hb hb1
        generalize mag / G = q at dm q1 q2 hb
        generalize mag % G = r at dm ml
        refine ⟨_, hb, by omega, .inl (by omega), ?_, fun h => by exfalso; omega⟩
        have x1 : (q + t) * 2 ^ L = ((q + t) * G) * 2 ^ P := by rw [Nat.mul_assoc, e3]
        have x2 : (q + t) * G ≤ mag + G := by
          rw [Nat.add_mul, ← dm, Nat.mul_comm q G]
          have : t * G ≤ 1 * G := Nat.mul_le_mul_right _ hb1
          omega
        have x3 : mag ≤ (q + t) * G + G := by
          rw [Nat.add_mul, ← dm, Nat.mul_comm q G]; omega
        have y2 := Nat.mul_le_mul_right (2 ^ P) x2
        have y3 := Nat.mul_le_mul_right (2 ^ P) x3
        rw [Nat.add_mul mag G, e3] at y2
        rw [Nat.add_mul ((q + t) * G) G, e3] at y3
        rw [x1]
        omega
    obtain ⟨kept, ek, k1, k2, k3, k4⟩ := key
    rw [ek, Nat.min_eq_left (by omega)]
    obtain ⟨m, i, r1, r2, r3, r4⟩ := read_word neg L kept k1 k2 (by omega)
    exact ⟨m, i, r1, r2, r3, by rw [r4]; exact k3, fun h => by rw [r4]; exact k4 h⟩
/-- a finite word of a value -/
def Is (w : Nat) (v : Int) : Prop := ∃ s m i, double.read w = .number s m i ∧ -1074 ≤ i ∧ V (.number s m i) = v
theorem V_eq (s : Bool) (m : Nat) (i : Int) : V (.number s m i) = sg s * ((m * 2 ^ (i + 1074).toNat : Nat) : Int) := rfl
theorem sum_V {s t : Bool} {m n : Nat} {i j : Int} (hi : -1074 ≤ i) (hj : -1074 ≤ j) :
    ∃ neg mag base, Datum.sum (.number s m i) (.number t n j) = some (.number neg mag base) ∧ -1074 ≤ base ∧ V (.number neg mag base) = V (.number s m i) + V (.number t n j) := by
  refine ⟨_, _, _, rfl, by omega, ?_⟩
  simp only [signed_eq]
  obtain ⟨b, hb⟩ : ∃ b, b = min i j := ⟨_, rfl⟩
  rw [← hb]
  have e1 : (((m * 2 ^ (i - b).toNat : Nat) : Int)) * ((2 ^ (b + 1074).toNat : Nat) : Int) = ((m * 2 ^ (i + 1074).toNat : Nat) : Int) := by
    rw [← Int.natCast_mul, Nat.mul_assoc, ← Nat.pow_add, show (i - b).toNat + (b + 1074).toNat = (i + 1074).toNat by omega]
  have e2 : (((n * 2 ^ (j - b).toNat : Nat) : Int)) * ((2 ^ (b + 1074).toNat : Nat) : Int) = ((n * 2 ^ (j + 1074).toNat : Nat) : Int) := by
    rw [← Int.natCast_mul, Nat.mul_assoc, ← Nat.pow_add, show (j - b).toNat + (b + 1074).toNat = (j + 1074).toNat by omega]
  rw [V_eq, V_eq, V_eq, ← e1, ← e2, ← Int.mul_assoc, ← Int.mul_assoc, ← Int.add_mul]
  generalize sg s * ((m * 2 ^ (i - b).toNat : Nat) : Int) + sg t * ((n * 2 ^ (j - b).toNat : Nat) : Int) = T
  rw [Int.natCast_mul, ← Int.mul_assoc]
  congr 1
  by_cases hT : T = 0
  · subst hT; simp
  · rw [if_neg hT]
    unfold sg
    by_cases h : T < 0
    · rw [if_pos (decide_eq_true h)]; omega
    · rw [if_neg (by rw [decide_eq_false h]; decide)]; omega
theorem write_V {neg : Bool} {mag : Nat} {place : Int} (hp : -1074 ≤ place) (e : Nat) (he : 53 ≤ e ∧ e ≤ 2000) (h1 : -((2 ^ e : Nat) : Int) < V (.number neg mag place)) (h2 : V (.number neg mag place) < ((2 ^ e : Nat) : Int)) :
    ∃ v, Is (double.write (.number neg mag place)) v ∧ v ≤ V (.number neg mag place) + ((2 ^ (e - 53) : Nat) : Int) ∧ V (.number neg mag place) ≤ v + ((2 ^ (e - 53) : Nat) : Int) := by
  rw [V_eq] at h1 h2 ⊢
  have hN : mag * 2 ^ (place + 1074).toNat < 2 ^ e := by
    generalize mag * 2 ^ (place + 1074).toNat = N at h1 h2 ⊢
    generalize 2 ^ e = E at h1 h2 ⊢
    unfold sg at h1 h2
    cases neg
    · rw [if_neg (by decide)] at h1 h2; omega
    · rw [if_pos rfl] at h1 h2; omega
  obtain ⟨m, i, r1, r2, -, ⟨r3, r4⟩, -⟩ := nearest_near neg mag place e hp he hN
  refine ⟨_, ⟨neg, m, i, r1, r2, rfl⟩, ?_⟩
  rw [V_eq]
  generalize mag * 2 ^ (place + 1074).toNat = N at r3 r4 ⊢
  generalize m * 2 ^ (i + 1074).toNat = M at r3 r4 ⊢
  generalize 2 ^ (e - 53) = E at r3 r4 ⊢
  unfold sg
  cases neg
  · rw [if_neg (by decide)]; omega
  · rw [if_pos rfl]; omega
theorem add_V {x y : Nat} {a b : Int} (hx : Is x a) (hy : Is y b) (e : Nat) (he : 53 ≤ e ∧ e ≤ 2000) (h1 : -((2 ^ e : Nat) : Int) < a + b) (h2 : a + b < ((2 ^ e : Nat) : Int)) :
    ∃ w v, double.add x y = some w ∧ Is w v ∧ v ≤ a + b + ((2 ^ (e - 53) : Nat) : Int) ∧ a + b ≤ v + ((2 ^ (e - 53) : Nat) : Int) := by
  obtain ⟨s, m, i, rx, hi, rfl⟩ := hx
  obtain ⟨t, n, j, ry, hj, rfl⟩ := hy
  obtain ⟨neg, mag, base, hs, hb, hV⟩ := sum_V (s := s) (t := t) (m := m) (n := n) hi hj
  rw [← hV] at h1 h2 ⊢
  obtain ⟨v, hI, b1, b2⟩ := write_V hb e he h1 h2
  exact ⟨_, v, by unfold Format.add; rw [rx, ry, hs]; rfl, hI, b1, b2⟩
theorem sub_V {x y : Nat} {a b : Int} (hx : Is x a) (hy : Is y b) (e : Nat) (he : 53 ≤ e ∧ e ≤ 2000) (h1 : -((2 ^ e : Nat) : Int) < a - b) (h2 : a - b < ((2 ^ e : Nat) : Int)) :
    ∃ w v, double.sub x y = some w ∧ Is w v ∧ v ≤ a - b + ((2 ^ (e - 53) : Nat) : Int) ∧ a - b ≤ v + ((2 ^ (e - 53) : Nat) : Int) := by
  obtain ⟨s, m, i, rx, hi, rfl⟩ := hx
  obtain ⟨t, n, j, ry, hj, rfl⟩ := hy
  obtain ⟨neg, mag, base, hs, hb, hV⟩ := sum_V (s := s) (t := !t) (m := m) (n := n) hi hj
  have ho : V (.number (!t) n j) = - V (.number t n j) := by rw [V_eq, V_eq]; cases t <;> simp [sg]
  rw [ho, ← Int.sub_eq_add_neg] at hV
  rw [← hV] at h1 h2 ⊢
  obtain ⟨v, hI, b1, b2⟩ := write_V hb e he h1 h2
  exact ⟨_, v, by unfold Format.sub; rw [rx, ry]; show (Datum.sum _ (.number (!t) n j)).map _ = _; rw [hs]; rfl, hI, b1, b2⟩
theorem cmp_scale (a b K : Int) (hK : 0 < K) : compare (a * K) (b * K) = compare a b := by
  have h : ∀ x y : Int, compare x y = if x < y then .lt else if x = y then .eq else .gt := fun _ _ => rfl
  rw [h, h]
  have e1 : (a * K < b * K) = (a < b) := propext ⟨fun h => Int.lt_of_mul_lt_mul_right h (by omega), fun h => Int.mul_lt_mul_of_pos_right h hK⟩
  have e2 : (a * K = b * K) = (a = b) := propext ⟨fun h => Int.eq_of_mul_eq_mul_right (by omega) h, fun h => by rw [h]⟩
  simp only [e1, e2]
theorem order_V {x y : Nat} {a b : Int} (hx : Is x a) (hy : Is y b) : double.order x y = some (compare a b) := by
  obtain ⟨s, m, i, rx, hi, rfl⟩ := hx
  obtain ⟨t, n, j, ry, hj, rfl⟩ := hy
  unfold Format.order
  rw [rx, ry]
  show some (compare (signed s m (i - min i j).toNat) (signed t n (j - min i j).toNat)) = _
  obtain ⟨b, hb⟩ : ∃ b, b = min i j := ⟨_, rfl⟩
  rw [← hb, signed_eq, signed_eq, ← cmp_scale _ _ ((2 ^ (b + 1074).toNat : Nat) : Int) (by have := Nat.two_pow_pos (b + 1074).toNat; omega), V_eq, V_eq, Int.mul_assoc, Int.mul_assoc, ← Int.natCast_mul, ← Int.natCast_mul, Nat.mul_assoc, Nat.mul_assoc, ← Nat.pow_add, ← Nat.pow_add,
    show (i - b).toNat + (b + 1074).toNat = (i + 1074).toNat by omega, show (j - b).toNat + (b + 1074).toNat = (j + 1074).toNat by omega]
theorem int_near (K : Nat) (hK : K = 1074) (n : Nat) (h : n < 9007199254740992) : ∃ m i, double.read (floatOfInt .f64 (n : Int)) = .number false m i ∧ -1074 ≤ i ∧ m < 9007199254740992 ∧ m * 2 ^ (i + 1074).toNat = n * 2 ^ K := by
  have e0 : floatOfInt .f64 (n : Int) = double.nearest (decide ((n : Int) < 0)) (n : Int).natAbs 0 := rfl
  rw [e0, decide_eq_false (by omega), Int.natAbs_natCast]
  obtain ⟨m, i, r1, r2, r3, -, r5⟩ := nearest_near false n 0 (K + 53) (by omega) (by omega) (by
    rw [show ((0 : Int) + 1074).toNat = K by omega, pw_split (K + 53) 53 K 9007199254740992 (by omega) (by decide)]
    have h9 := lt_split n _ _ h (tpos K)
    exact h9)
  have r6 := r5 h
  rw [show ((0 : Int) + 1074).toNat = K by omega] at r6
  exact ⟨m, i, r1, r2, r3, r6⟩
theorem int_V (K : Nat) (hK : K = 1074) (n : Nat) (h : n < 9007199254740992) : Is (floatOfInt .f64 (n : Int)) ((n * 2 ^ K : Nat) : Int) := by
  obtain ⟨m, i, r1, r2, r3, r4⟩ := int_near K hK n h
  exact ⟨false, m, i, r1, r2, by rw [V_eq, r4]; show 1 * _ = _; rw [Int.one_mul]⟩
theorem quot_eq (m n : Nat) (i j : Int) (hn : n ≠ 0) : Datum.quotient (double.fractionBits + 2) (.number false m i) (.number false n j) =
    some (.number false (2 * ((m <<< (54 + n.log2 - m.log2)) / n) + ((m <<< (54 + n.log2 - m.log2)) % n != 0).toNat) (i - j - ((54 + n.log2 - m.log2 : Nat) : Int) - 1)) := by
  unfold Datum.quotient
  simp only [hn, if_false]
  rfl
theorem bool_nat (r : Nat) : (r != 0).toNat = if r = 0 then 0 else 1 := by
  by_cases h : r = 0
  · subst h; rfl
  · rw [if_neg h, bne_iff_ne.2 h]; rfl
theorem ar1 (bY bB aU bP Y16 E : Nat) (x1 : bY + bB ≤ aU + bP) (h1 : bP ≤ bB) (h2 : Y16 ≤ bY) (w1 : aU < E) : Y16 < E := by omega
theorem ar2 (Y A B : Nat) (h3 : 16 * Y < 16 * A) (h6 : B ≤ A) : Y + B < 2 * A := by omega
theorem near_join (b X M C p5 p6 pP : Nat) (x1 : b * X ≤ C + b * pP) (x2 : C ≤ b * X + b * pP) (e4 : M ≤ X + p5) (e5 : X ≤ M + p5) (hp : pP ≤ p5) (h6 : p6 = 2 * p5) :
    b * M ≤ C + b * p6 ∧ C ≤ b * M + b * p6 := by
  have y3 : b * pP ≤ b * p5 := Nat.mul_le_mul_left _ hp
  have y4 := Nat.mul_le_mul_left b e4
  have y5 := Nat.mul_le_mul_left b e5
  rw [Nat.mul_add] at y4 y5
  rw [h6, show b * (2 * p5) = b * p5 + b * p5 by rw [Nat.two_mul, Nat.mul_add]]
  omega
theorem div_V (K : Nat) (hK : K = 1074) (a b : Nat) (ha : a < 8589934592) (hb : 16 ≤ b ∧ b < 131072) :
    ∃ w v : Nat, floatBits .quo .f64 (floatOfInt .f64 (a : Int)) (floatOfInt .f64 (b : Int)) = some w ∧ Is w (v : Int) ∧ b * v ≤ a * 2 ^ K + b * 2 ^ (K - 22) ∧ a * 2 ^ K ≤ b * v + b * 2 ^ (K - 22) := by
  obtain ⟨m, i, r1, r2, r3, r4⟩ := int_near K hK a (by omega)
  obtain ⟨n, j, s1, s2, s3, s4⟩ := int_near K hK b (by omega)
  have hU := tpos K
  have hn : n ≠ 0 := by
    rintro rfl
    rw [Nat.zero_mul] at s4
    have h5 := Nat.mul_pos (show 0 < b by omega) hU
    rw [← s4] at h5
    exact Nat.lt_irrefl 0 h5
  have ed : floatBits .quo .f64 (floatOfInt .f64 (a : Int)) (floatOfInt .f64 (b : Int)) = double.div (floatOfInt .f64 (a : Int)) (floatOfInt .f64 (b : Int)) := rfl
  rw [ed]
  unfold Format.div
  rw [r1, s1, quot_eq m n i j hn]
  by_cases hm : m = 0
  · subst hm
    rw [Nat.zero_mul] at r4
    have ha0 : a = 0 := by
      rcases Nat.eq_zero_or_pos a with h | h
      · exact h
      · have h5 := Nat.mul_pos h hU; rw [← r4] at h5; exact absurd h5 (Nat.lt_irrefl 0)
    subst ha0
    rw [Nat.zero_shiftLeft, Nat.zero_div, Nat.zero_mod]
    have z3 := Nat.le_trans (Nat.le_of_eq (Nat.mul_zero b)) (Nat.zero_le (0 * 2 ^ K + b * 2 ^ (K - 22)))
    have z7 := Nat.le_trans (Nat.le_of_eq (Nat.zero_mul (2 ^ K))) (Nat.zero_le (b * 0 + b * 2 ^ (K - 22)))
    refine ⟨_, 0, rfl, ?_, z3, z7⟩
    show Is (double.nearest false 0 _) _
    unfold Format.nearest
    rw [if_pos rfl]
    obtain ⟨m', i', e1, e2, e3, e4⟩ := read_word false 0 0 (by omega) (.inr rfl) (by omega)
    exact ⟨false, m', i', e1, e2, by rw [V_eq, e4]; rfl⟩
  · obtain ⟨I, rfl⟩ : ∃ I : Nat, i = (I : Int) - 1074 := ⟨(i + 1074).toNat, by omega⟩
    obtain ⟨J, rfl⟩ : ∃ J : Nat, j = (J : Int) - 1074 := ⟨(j + 1074).toNat, by omega⟩
    rw [show ((I : Int) - 1074 + 1074).toNat = I by omega] at r4
    rw [show ((J : Int) - 1074 + 1074).toNat = J by omega] at s4
    have l1 := Nat.log2_self_le hm
    have l2 : m < 2 ^ (m.log2 + 1) := Nat.lt_log2_self
    have k1 := Nat.log2_self_le hn
    have k2 : n < 2 ^ (n.log2 + 1) := Nat.lt_log2_self
    generalize m.log2 = lm at l1 l2 ⊢
    generalize n.log2 = ln at k1 k2 ⊢
    have ha1 : 1 ≤ a := by
      rcases Nat.eq_zero_or_pos a with h | h
      · subst h; rw [Nat.zero_mul] at r4; have h5 := Nat.mul_pos (Nat.pos_of_ne_zero hm) (Nat.two_pow_pos I); rw [r4] at h5; exact absurd h5 (Nat.lt_irrefl 0)
      · exact h
    have plt : ∀ x y : Nat, 2 ^ x < 2 ^ y → x < y := fun x y h => (Nat.pow_lt_pow_iff_right (by decide)).1 h
    have b52 : lm < 53 := plt _ _ (Nat.lt_of_le_of_lt l1 (by rw [show (2 : Nat) ^ 53 = 9007199254740992 by decide]; exact r3))
    have c1 : lm + I < K + 33 := plt _ _ (by
      rw [Nat.pow_add, show K + 33 = 33 + K by omega, Nat.pow_add 2 33]
      exact Nat.lt_of_le_of_lt (Nat.mul_le_mul_right _ l1) (by rw [r4]; exact Nat.mul_lt_mul_of_pos_right (by rw [show (2 : Nat) ^ 33 = 8589934592 by decide]; exact ha) hU))
    have c2 : K < lm + 1 + I := plt _ _ (by
      rw [Nat.pow_add 2 (lm + 1)]
      exact Nat.lt_of_le_of_lt (by have := Nat.mul_le_mul_right (2 ^ K) ha1; rw [Nat.one_mul, ← r4] at this; exact this) (Nat.mul_lt_mul_of_pos_right l2 (Nat.two_pow_pos I)))
    have c3 : ln + J < K + 17 := plt _ _ (by
      rw [Nat.pow_add, show K + 17 = 17 + K by omega, Nat.pow_add 2 17]
      exact Nat.lt_of_le_of_lt (Nat.mul_le_mul_right _ k1) (by rw [s4]; exact Nat.mul_lt_mul_of_pos_right (by rw [show (2 : Nat) ^ 17 = 131072 by decide]; exact hb.2) hU))
    have c4 : K + 4 < ln + 1 + J := plt _ _ (by
      rw [Nat.pow_add 2 (ln + 1), show K + 4 = 4 + K by omega, Nat.pow_add 2 4, show (2 : Nat) ^ 4 = 16 by decide]
      exact Nat.lt_of_le_of_lt (by have := Nat.mul_le_mul_right (2 ^ K) hb.1; rw [← s4] at this; exact this) (Nat.mul_lt_mul_of_pos_right k2 (Nat.two_pow_pos J)))
    obtain ⟨more, hmore⟩ : ∃ more, more = 54 + ln - lm := ⟨_, rfl⟩
    rw [← hmore, Nat.shiftLeft_eq]
    obtain ⟨P, hP⟩ : ∃ P : Nat, P = (I + lm) + (K - 55) - (J + ln) := ⟨_, rfl⟩
    have ep : (I : Int) - 1074 - ((J : Int) - 1074) - (more : Int) - 1 = (P : Int) - 1074 := by omega
    rw [ep]
    have hexp : more + 1 + J + P = I + K := by omega
    obtain ⟨D, hD⟩ : ∃ D, D = m * 2 ^ more := ⟨_, rfl⟩
    rw [← hD, bool_nat]
    have dm := Nat.div_add_mod D n
    have ml := Nat.mod_lt D (Nat.pos_of_ne_zero hn)
    obtain ⟨g, hg⟩ : ∃ g, g = 2 * (D / n) + (if D % n = 0 then 0 else 1) := ⟨_, rfl⟩
    rw [← hg]
    have g1 : g * n ≤ 2 * D + n ∧ 2 * D ≤ g * n + n := by
      rw [hg, Nat.add_mul, Nat.mul_assoc, Nat.mul_comm (D / n) n]
      generalize n * (D / n) = q at dm ⊢
      by_cases h0 : D % n = 0
      · rw [if_pos h0, Nat.zero_mul]; omega
      · rw [if_neg h0, Nat.one_mul]; omega
    -- in units of 2^-1074
    obtain ⟨X, hX⟩ : ∃ X, X = g * 2 ^ P := ⟨_, rfl⟩
    have z1 : 2 * D * (2 ^ J * 2 ^ P) = a * 2 ^ K * 2 ^ K := by
      calc 2 * D * (2 ^ J * 2 ^ P) = m * (2 ^ more * 2 * 2 ^ J * 2 ^ P) := by rw [hD]; simp only [Nat.mul_assoc, Nat.mul_comm, Nat.mul_left_comm]
        _ = m * 2 ^ (more + 1 + J + P) := by rw [← Nat.pow_succ, ← Nat.pow_add, ← Nat.pow_add]
        _ = m * 2 ^ (I + K) := by rw [hexp]
        _ = m * 2 ^ I * 2 ^ K := by rw [Nat.pow_add 2 I, Nat.mul_assoc]
        _ = a * 2 ^ K * 2 ^ K := by rw [r4]
    have z2 : g * n * (2 ^ J * 2 ^ P) = b * X * 2 ^ K := by
      rw [hX, show b * (g * 2 ^ P) * 2 ^ K = (b * 2 ^ K) * (g * 2 ^ P) by simp only [Nat.mul_assoc, Nat.mul_comm, Nat.mul_left_comm], ← s4]
      simp only [Nat.mul_assoc, Nat.mul_comm, Nat.mul_left_comm]
    have z3 : n * (2 ^ J * 2 ^ P) = b * 2 ^ P * 2 ^ K := by
      rw [← Nat.mul_assoc, s4]
      simp only [Nat.mul_assoc, Nat.mul_comm, Nat.mul_left_comm]
    have x1 : b * X ≤ a * 2 ^ K + b * 2 ^ P := by
      have h := Nat.mul_le_mul_right (2 ^ J * 2 ^ P) g1.1
      rw [Nat.add_mul, z1, z2, z3, ← Nat.add_mul] at h
      exact Nat.le_of_mul_le_mul_right h hU
    have x2 : a * 2 ^ K ≤ b * X + b * 2 ^ P := by
      have h := Nat.mul_le_mul_right (2 ^ J * 2 ^ P) g1.2
      rw [Nat.add_mul, z1, z2, z3, ← Nat.add_mul] at h
      exact Nat.le_of_mul_le_mul_right h hU
    have hP2 : 2 ^ P ≤ 2 ^ (K - 27) := Nat.pow_le_pow_right (by decide) (by omega)
    have hX2 : X < 2 ^ (K + 30) := by
      have w1 : a * 2 ^ K < 2 ^ (K + 33) := by
        rw [show K + 33 = 33 + K by omega, Nat.pow_add 2 33]
        exact Nat.mul_lt_mul_of_pos_right (by rw [show (2 : Nat) ^ 33 = 8589934592 by decide]; exact ha) hU
      rcases Nat.lt_or_ge X (2 ^ (K - 27)) with h | h
      · exact Nat.lt_of_lt_of_le h (Nat.pow_le_pow_right (by decide) (by omega))
      · obtain ⟨Y, hY⟩ : ∃ Y, X = Y + 2 ^ (K - 27) := ⟨X - 2 ^ (K - 27), (Nat.sub_add_cancel h).symm⟩
        have h1 : b * 2 ^ P ≤ b * 2 ^ (K - 27) := Nat.mul_le_mul_left _ hP2
        rw [hY, Nat.mul_add] at x1
        rw [hY]
        have h2 : 16 * Y ≤ b * Y := Nat.mul_le_mul_right _ hb.1
        have h3 : 16 * Y < 2 ^ (K + 33) := ar1 _ _ _ _ _ _ x1 h1 h2 w1
        have h4 := pw_split (K + 33) 4 (K + 29) 16 (by omega) (by decide)
        have h5 := pw_split (K + 30) 1 (K + 29) 2 (by omega) (by decide)
        have h6 : (2 : Nat) ^ (K - 27) ≤ 2 ^ (K + 29) := Nat.pow_le_pow_right (by decide) (by omega)
        rw [h4] at h3
        rw [h5]
        exact ar2 Y _ _ h3 h6
    obtain ⟨m', i', e1, e2, e3, ⟨e4, e5⟩, -⟩ := nearest_near false g ((P : Int) - 1074) (K + 30) (by omega) (by omega) (by rw [show ((P : Int) - 1074 + 1074).toNat = P by omega, ← hX]; exact hX2)
    rw [show ((P : Int) - 1074 + 1074).toNat = P by omega, ← hX, show K + 30 - 53 = K - 23 by omega] at e4 e5
    have y2 : (2 : Nat) ^ (K - 27) ≤ 2 ^ (K - 23) := Nat.pow_le_pow_right (by decide) (by omega)
    have hj := near_join b X _ _ (2 ^ (K - 23)) (2 ^ (K - 22)) (2 ^ P) x1 x2 e4 e5 (Nat.le_trans hP2 y2) (pw_split (K - 22) 1 (K - 23) 2 (by omega) (by decide))
    exact ⟨_, m' * 2 ^ (i' + 1074).toNat, rfl, ⟨false, m', i', e1, e2, by rw [V_eq]; show 1 * _ = _; rw [Int.one_mul]⟩, hj.1, hj.2⟩
theorem pos_lt (x y E : Nat) (h : x + y < E) : -((E : Nat) : Int) < (x : Int) + (y : Int) ∧ (x : Int) + (y : Int) < (E : Int) := by omega
theorem arith_sub (v1 x y E39 E92 : Nat) (v3 : Int) (a : v3 ≤ (x : Int) + y + E39) (b : (x : Int) + y ≤ v3 + E39) (h1 : v1 + E39 < E92) (h2 : x + y + E39 < E92) :
    -(E92 : Int) < (v1 : Int) - v3 ∧ (v1 : Int) - v3 < E92 := by omega
theorem arith_q (b v a k U Q : Nat) (hb : 0 < b) (h : b * v ≤ a * U + b * Q) (ha : a ≤ k * b) : v ≤ k * U + Q := by
  refine Nat.le_of_mul_le_mul_left (c := b) ?_ hb
  refine Nat.le_trans h ?_
  rw [Nat.mul_add, ← Nat.mul_assoc b, Nat.mul_comm b k]
  exact Nat.add_le_add_right (Nat.mul_le_mul_right _ ha) _
theorem lt92 (x y z U Q E39 E92 : Nat) (hQ : Q ≤ U) (hE : E39 ≤ Q) (h92 : E92 = 262144 * U) (hx : x ≤ 86400 * U) (hy : y ≤ 1 * U + Q) (hz : z ≤ 86487 * U + Q) (hU : 0 < U) :
    x + y < E92 ∧ x + y + E39 < E92 ∧ z + E39 < E92 := by omega
theorem far_core (K : Nat) (hK : K = 1074) (c mm ee n sec f : Nat) (h1 : n * ee < 8589934592) (h2 : 16 ≤ mm ∧ mm < 131072) (h3 : 16 ≤ c ∧ c < 131072) (h4 : f < c) (h5 : sec < 86400) (h6 : n * ee ≤ 86487 * mm) :
    ∃ (q1 q2 tt far v1 v2 : Nat) (v3 v : Int), floatBits .quo .f64 (floatOfInt .f64 ((n * ee : Nat) : Int)) (floatOfInt .f64 (mm : Int)) = some q1 ∧
      floatBits .quo .f64 (floatOfInt .f64 (f : Int)) (floatOfInt .f64 (c : Int)) = some q2 ∧ floatBits .add .f64 (floatOfInt .f64 (sec : Int)) q2 = some tt ∧ floatBits .sub .f64 q1 tt = some far ∧ Is far v ∧
      (mm * v1 ≤ n * ee * 2 ^ K + mm * 2 ^ (K - 22) ∧ n * ee * 2 ^ K ≤ mm * v1 + mm * 2 ^ (K - 22)) ∧ (c * v2 ≤ f * 2 ^ K + c * 2 ^ (K - 22) ∧ f * 2 ^ K ≤ c * v2 + c * 2 ^ (K - 22)) ∧
      (v3 ≤ ((sec * 2 ^ K : Nat) : Int) + (v2 : Int) + ((2 ^ (K - 35) : Nat) : Int) ∧ ((sec * 2 ^ K : Nat) : Int) + (v2 : Int) ≤ v3 + ((2 ^ (K - 35) : Nat) : Int)) ∧
      (v ≤ (v1 : Int) - v3 + ((2 ^ (K - 35) : Nat) : Int) ∧ (v1 : Int) - v3 ≤ v + ((2 ^ (K - 35) : Nat) : Int)) := by
  obtain ⟨q1, v1, d1, i1, a1, a2⟩ := div_V K hK (n * ee) mm h1 h2
  obtain ⟨q2, v2, d2, i2, b1, b2⟩ := div_V K hK f c (by omega) h3
  have i3 := int_V K hK sec (by omega)
  have y1 := arith_q mm v1 (n * ee) 86487 _ _ (by omega) a1 h6
  have y2 := arith_q c v2 f 1 _ _ (by omega) b1 (by omega)
  have hU := tpos K
  have hx := Nat.mul_le_mul_right (2 ^ K) (show sec ≤ 86400 by omega)
  have p92 := pw_split (K + 18) 18 K 262144 (by omega) (by decide)
  have pQ := Nat.pow_le_pow_right (show 0 < 2 by decide) (show K - 22 ≤ K by omega)
  have pE := Nat.pow_le_pow_right (show 0 < 2 by decide) (show K - 35 ≤ K - 22 by omega)
  have hl := lt92 _ _ _ _ _ _ _ pQ pE p92 hx y2 y1 hU
  obtain ⟨l1, l2, l3⟩ := hl
  obtain ⟨tt, v3, e3, i4, t1, t2⟩ := add_V i3 i2 (K + 18) (by omega) (pos_lt _ _ _ l1).1 (pos_lt _ _ _ l1).2
  rw [show K + 18 - 53 = K - 35 by omega] at t1 t2
  have hs := arith_sub v1 (sec * 2 ^ K) v2 (2 ^ (K - 35)) (2 ^ (K + 18)) v3 t1 t2 l3 l2
  obtain ⟨far, v, e4, i5, u1, u2⟩ := sub_V i1 i4 (K + 18) (by omega) hs.1 hs.2
  rw [show K + 18 - 53 = K - 35 by omega] at u1 u2
  exact ⟨q1, q2, tt, far, v1, v2, v3, v, d1, d2, e3, e4, i5, ⟨a1, a2⟩, ⟨b1, b2⟩, ⟨t1, t2⟩, ⟨u1, u2⟩⟩
theorem fin0 (c n sec f v1 v2 U Q E : Nat) (v3 v : Int) (hc : c = 24 ∨ c = 25 ∨ c = 30 ∨ c = 50 ∨ c = 60) (hE : E ≤ Q) (hN : n = c * sec + f)
    (a1 : c * v1 ≤ n * 1 * U + c * Q) (a2 : n * 1 * U ≤ c * v1 + c * Q) (b1 : c * v2 ≤ f * U + c * Q) (b2 : f * U ≤ c * v2 + c * Q)
    (c1 : v3 ≤ ((sec * U : Nat) : Int) + (v2 : Int) + (E : Int)) (c2 : ((sec * U : Nat) : Int) + (v2 : Int) ≤ v3 + (E : Int)) (d1 : v ≤ (v1 : Int) - v3 + (E : Int)) (d2 : (v1 : Int) - v3 ≤ v + (E : Int)) :
    -(4 * (Q : Int)) ≤ v ∧ v ≤ 4 * (Q : Int) := by
  have e : n * 1 * U = c * (sec * U) + f * U := by rw [hN, Nat.mul_one, Nat.add_mul, Nat.mul_assoc]
  rw [e] at a1 a2
  clear e hN
  generalize sec * U = S at *
  generalize f * U = F at *
  rcases hc with rfl | rfl | rfl | rfl | rfl <;> omega
theorem fin1 (c mm D n out sec f v1 v2 U Q E : Nat) (v3 v : Int) (hc : (c = 30 ∧ mm = 30000 ∧ D = 4390) ∨ (c = 60 ∧ mm = 60000 ∧ D = 8780)) (hU : U = 4194304 * Q) (hE : E ≤ Q) (hN : n + out = c * sec + f)
    (h1 : n ≤ 1000 * out + D) (h2 : 1000 * out ≤ n + D)
    (a1 : mm * v1 ≤ n * 1001 * U + mm * Q) (a2 : n * 1001 * U ≤ mm * v1 + mm * Q) (b1 : c * v2 ≤ f * U + c * Q) (b2 : f * U ≤ c * v2 + c * Q)
    (c1 : v3 ≤ ((sec * U : Nat) : Int) + (v2 : Int) + (E : Int)) (c2 : ((sec * U : Nat) : Int) + (v2 : Int) ≤ v3 + (E : Int)) (d1 : v ≤ (v1 : Int) - v3 + (E : Int)) (d2 : (v1 : Int) - v3 ≤ v + (E : Int)) :
    -(629145 * (Q : Int)) ≤ v ∧ v ≤ 629145 * (Q : Int) := by
  have e : n * U + out * U = c * (sec * U) + f * U := by rw [← Nat.add_mul, hN, Nat.add_mul, Nat.mul_assoc]
  have e1 : n * 1001 * U = 1001 * (n * U) := by rw [Nat.mul_comm n, Nat.mul_assoc]
  have k1 := Nat.mul_le_mul_right U h1
  have k2 := Nat.mul_le_mul_right U h2
  rw [Nat.add_mul, Nat.mul_assoc] at k1
  rw [Nat.mul_assoc, Nat.add_mul] at k2
  rw [e1] at a1 a2
  clear e1 hN h1 h2
  generalize sec * U = S at *
  generalize f * U = F at *
  generalize n * U = A at *
  generalize out * U = B at *
  subst hU
  rcases hc with ⟨rfl, rfl, rfl⟩ | ⟨rfl, rfl, rfl⟩ <;> omega
theorem cmp_lt {a b : Int} (h : a < b) : compare a b = .lt := by
  show (if a < b then Ordering.lt else if a = b then .eq else .gt) = _
  rw [if_pos h]
theorem cmp_gt {a b : Int} (h : b < a) : compare a b = .gt := by
  show (if a < b then Ordering.lt else if a = b then .eq else .gt) = _
  rw [if_neg (by omega), if_neg (by omega)]
theorem u6 : ∃ k : Int, Is 4517329193108106637 k ∧ 4 * ((2 ^ 1052 : Nat) : Int) < k := ⟨_, ⟨false, 4722366482869645, (-72), by decide +kernel, by decide, rfl⟩, by rw [V_eq]; decide +kernel⟩
theorem d6 : ∃ k : Int, Is 13740701229962882445 k ∧ k < -(4 * ((2 ^ 1052 : Nat) : Int)) := ⟨_, ⟨true, 4722366482869645, (-72), by decide +kernel, by decide, rfl⟩, by rw [V_eq]; decide +kernel⟩
theorem u15 : ∃ k : Int, Is 4594572339843380019 k ∧ 629145 * ((2 ^ 1052 : Nat) : Int) < k := ⟨_, ⟨false, 5404319552844595, (-55), by decide +kernel, by decide, rfl⟩, by rw [V_eq]; decide +kernel⟩
theorem d15 : ∃ k : Int, Is 13817944376698155827 k ∧ k < -(629145 * ((2 ^ 1052 : Nat) : Int)) := ⟨_, ⟨true, 5404319552844595, (-55), by decide +kernel, by decide, rfl⟩, by rw [V_eq]; decide +kernel⟩
theorem in6 {far : Nat} {v : Int} (h : Is far v) (h1 : -(4 * ((2 ^ 1052 : Nat) : Int)) ≤ v) (h2 : v ≤ 4 * ((2 ^ 1052 : Nat) : Int)) : double.order far 4517329193108106637 = some .lt ∧ double.order far 13740701229962882445 = some .gt := by
  obtain ⟨k, i, hk⟩ := u6
  obtain ⟨l, j, hl⟩ := d6
  rw [order_V h i, order_V h j, cmp_lt (Int.lt_of_le_of_lt h2 hk), cmp_gt (Int.lt_of_lt_of_le hl h1)]
  exact ⟨rfl, rfl⟩
theorem in15 {far : Nat} {v : Int} (h : Is far v) (h1 : -(629145 * ((2 ^ 1052 : Nat) : Int)) ≤ v) (h2 : v ≤ 629145 * ((2 ^ 1052 : Nat) : Int)) : double.order far 4594572339843380019 = some .lt ∧ double.order far 13817944376698155827 = some .gt := by
  obtain ⟨k, i, hk⟩ := u15
  obtain ⟨l, j, hl⟩ := d15
  rw [order_V h i, order_V h j, cmp_lt (Int.lt_of_le_of_lt h2 hk), cmp_gt (Int.lt_of_lt_of_le hl h1)]
  exact ⟨rfl, rfl⟩
end Go.Proofs.YtjmhjhmlcjkjeaaDoor.Fl
