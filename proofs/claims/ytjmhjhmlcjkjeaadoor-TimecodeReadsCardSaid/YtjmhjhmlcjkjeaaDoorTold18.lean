/- A part of a proof: see the text's own remark. No conditions beyond its theorems' own. -/
import Derived.Test.YtjmhjhmlcjkjeaaDoorQRTimecodeReadsx
import Derived.Test.YtjmhjhmlcjkjeaaDoorTimeRQUTimecodeNumbers
/-! plain: the document's Told is the table's number -/
namespace Go.Proofs.YtjmhjhmlcjkjeaaDoor.Told18
set_option linter.unusedVariables false
open Go.RowKit Go.Proofs.YtjmhjhmlcjkjeaaDoor.QRTimecodeReads Go.Proofs.YtjmhjhmlcjkjeaaDoorW.PrintWords Go.Proofs.YtjmhjhmlcjkjeaaDoorW.PrintLast Go.Proofs.YtjmhjhmlcjkjeaaDoor.TQUTimecodeNumbers
open Go.Proofs.YtjmhjhmlcjkjeaaDoor (Tab.row)
open Go.Proofs.YtjmhjhmlcjkjeaaDoor.Tab (by_ by_get fits formG formF formG_hit formG_bad formG_ok formF_neg fits_digit pt pt_val pt_range readF numF)
theorem rate' (r : Int) : dailiesref18_Rate.f r = some (decide (1 ≤ r ∧ r ≤ 7)) := rate_f r
theorem count' {r : Nat} (h1 : 1 ≤ r) (h7 : r ≤ 7) : dailiesref18_count.f (r : Int) = some (Tab.row r).1 := count_f h1 h7
theorem left' {r : Nat} (h1 : 1 ≤ r) (h7 : r ≤ 7) (m : Nat) : dailiesref18_left.f (r : Int) (m : Int) = some (lft (Tab.row r).2.2.2 m) := left_f h1 h7 m
def mk8 (d : Int) : ByteArray := if d > 0 then (⟨#[59]⟩ : ByteArray) else (⟨#[58]⟩ : ByteArray)
theorem mk8_size (d : Int) : (mk8 d).size = 1 := by unfold mk8; split <;> rfl
theorem behind' {r : Nat} (h1 : 1 ≤ r) (h7 : r ≤ 7) : dailiesref18_behind.f (r : Int) = some (mk8 (Tab.row r).2.2.2) := by
  unfold dailiesref18_behind.f
  have e := left' h1 h7 1
  rw [show lft (Tab.row r).2.2.2 1 = (Tab.row r).2.2.2 from rfl] at e
  rw [show ((1 : Nat) : Int) = 1 from rfl] at e
  rw [e]
  show (if (Tab.row r).2.2.2 > 0 then _ else _) = _
  unfold mk8
  split <;> rfl
def pat (d : Int) : ByteArray := ((⟨#[100, 100, 58, 100, 100, 58, 100, 100]⟩ : ByteArray) ++ mk8 d) ++ (⟨#[100, 100]⟩ : ByteArray)
theorem pat_size (d : Int) : (pat d).size = 11 := by
  unfold pat; rw [ByteArray.size_append, ByteArray.size_append, mk8_size]; rfl
theorem pat_bt (d : Int) {i : Nat} (h : i < 11) : bt (pat d) (i : Int) = if i = 8 then (if d > 0 then 59 else 58) else if i % 3 = 2 then 58 else 100 := by
  have hi : i = 0 ∨ i = 1 ∨ i = 2 ∨ i = 3 ∨ i = 4 ∨ i = 5 ∨ i = 6 ∨ i = 7 ∨ i = 8 ∨ i = 9 ∨ i = 10 := by omega
  unfold pat mk8
  by_cases hd : d > 0
  · rw [if_pos hd, if_pos hd]
    rcases hi with rfl | rfl | rfl | rfl | rfl | rfl | rfl | rfl | rfl | rfl | rfl <;> decide +kernel
  · rw [if_neg hd, if_neg hd]
    rcases hi with rfl | rfl | rfl | rfl | rfl | rfl | rfl | rfl | rfl | rfl | rfl <;> decide +kernel
theorem bt_by {s : ByteArray} {i : Nat} (h : i < s.size) : bt s (i : Int) = (by_ s i : Int) := by
  rw [← bt_at s (i : Int) (by simpa using h)]
  exact congrArg (fun n : Nat => (n : Int)) (by_get h)
theorem wn1 {i : Nat} (h : i ≤ 100000) : wrap64 ((i : Int) + 1) = ((i + 1 : Nat) : Int) := by rw [w64 (by omega) (by omega)]; omega
theorem formed_l0 (d : Int) (s : ByteArray) : ∀ (e at_ k j : Nat), at_ + e = 11 → e < k → j + at_ = s.size → dailiesref18_formed.l0 k s (pat d) (at_ : Int) = some (formG d s j at_) := by
  intro e
  induction e with
  | zero =>
    intro at_ k j h hk hj
    obtain ⟨k, rfl⟩ : ∃ k', k = k' + 1 := ⟨k - 1, by omega⟩
    obtain rfl : at_ = 11 := by omega
    simp only [dailiesref18_formed.l0]
    rw [pat_size, if_neg (by omega)]
    cases j with
    | zero => rw [if_neg (by omega)]; rfl
    | succ j => rw [if_pos (by omega), formG_hit]; rfl
  | succ e ih =>
    intro at_ k j h hk hj
    obtain ⟨k, rfl⟩ : ∃ k', k = k' + 1 := ⟨k - 1, by omega⟩
    simp only [dailiesref18_formed.l0]
    rw [pat_size, if_pos (by omega)]
    cases j with
    | zero =>
      rw [if_pos (by omega), show formG d s 0 at_ = if at_ < 11 then (s.size : Int) else -1 from rfl, if_pos (by omega)]
      congr 1; omega
    | succ j =>
      have hn := ih (at_ + 1) k j (by omega) (by omega) (by omega)
      rw [if_neg (by omega), if_pos (by omega), if_pos (by omega), bt_by (show at_ < s.size by omega), pat_bt d (show at_ < 11 by omega), wn1 (show at_ ≤ 100000 by omega), hn]
      clear hn
      have h11 : at_ ≠ 11 := by omega
      generalize hc : by_ s at_ = c
      have key : ∀ q : Nat, q ≠ 100 → fits d at_ c = (c == q) →
          (if (c : Int) ≥ 48 then (if (q : Int) = 100 then (if (c : Int) ≤ 57 then some (formG d s j (at_ + 1)) else some (at_ : Int)) else (if (c : Int) = (q : Int) then some (formG d s j (at_ + 1)) else some (at_ : Int)))
            else (if (q : Int) = 100 then some (at_ : Int) else (if (c : Int) = (q : Int) then some (formG d s j (at_ + 1)) else some (at_ : Int)))) = some (formG d s (j + 1) at_) := by
        intro q hq hf
        have hq' : ¬ (q : Int) = 100 := by omega
        have e2 : (if (c : Int) = (q : Int) then some (formG d s j (at_ + 1)) else some (at_ : Int)) = some (formG d s (j + 1) at_) := by
          by_cases hcq : c = q
          · rw [if_pos (by omega), formG_ok h11 (by rw [hc, hf]; exact beq_iff_eq.2 hcq)]
          · rw [if_neg (by omega), formG_bad h11 (by rw [hc, hf]; exact beq_eq_false_iff_ne.2 hcq)]
        rw [if_neg hq', if_neg hq', e2]
        split <;> rfl
      by_cases h8 : at_ = 8
      · rw [if_pos h8]
        by_cases hd : d > 0
        · rw [if_pos hd]; exact key 59 (by decide) (by unfold fits; rw [if_pos h8, if_pos hd])
        · rw [if_neg hd]; exact key 58 (by decide) (by unfold fits; rw [if_pos h8, if_neg hd])
      · rw [if_neg h8]
        by_cases h3 : at_ % 3 = 2
        · rw [if_pos h3]; exact key 58 (by decide) (by unfold fits; rw [if_neg h8, if_pos h3])
        · rw [if_neg h3, if_pos rfl, if_pos rfl]
          have hf : fits d at_ c = (decide (48 ≤ c) && decide (c ≤ 57)) := by unfold fits; rw [if_neg h8, if_neg h3]
          by_cases h48 : 48 ≤ c
          · rw [if_pos (by omega)]
            by_cases h57 : c ≤ 57
            · rw [if_pos (by omega), formG_ok h11 (by rw [hc, hf, decide_eq_true h48, decide_eq_true h57]; rfl)]
            · rw [if_neg (by omega), formG_bad h11 (by rw [hc, hf, decide_eq_false h57, Bool.and_false])]
          · rw [if_neg (by omega), formG_bad h11 (by rw [hc, hf, decide_eq_false h48, Bool.false_and])]
theorem formed_f {r : Nat} (h1 : 1 ≤ r) (h7 : r ≤ 7) (s : ByteArray) : dailiesref18_formed.f 1500 (r : Int) s = some (formF (Tab.row r).2.2.2 s) := by
  unfold dailiesref18_formed.f
  rw [behind' h1 h7]
  show (if 8 + (mk8 (Tab.row r).2.2.2).size ≤ 9223372036854775807 then _ else _) = _
  rw [if_pos (by rw [mk8_size]; decide), if_pos (by rw [ByteArray.size_append, mk8_size]; decide)]
  exact formed_l0 (Tab.row r).2.2.2 s 11 0 1500 s.size rfl (by decide) rfl
theorem value_f {s : ByteArray} {i : Nat} (x : Int) (hx : x = (i : Int)) (h : i + 1 < s.size) (hi : i ≤ 1000) (h0 : 48 ≤ by_ s i ∧ by_ s i ≤ 57) (h1 : 48 ≤ by_ s (i + 1) ∧ by_ s (i + 1) ≤ 57) : dailiesref18_value.f s x = some (pt s i) := by
  subst hx
  unfold dailiesref18_value.f
  rw [wn1 (show i ≤ 100000 by omega), if_pos (by omega), if_pos (by omega), if_pos (by omega), if_pos (by omega), bt_by (show i < s.size by omega), bt_by h, pt_val h0 h1]
  rfl
theorem told_l0 {r : Nat} (h1 : 1 ≤ r) (h7 : r ≤ 7) (X : Int) (hX : 0 ≤ X ∧ X ≤ 100000) (M : Nat) (hM : M ≤ 6000) : ∀ (e m k : Nat), m + e = M → e < k →
    dailiesref18_Told.l0 k (r : Int) (M : Int) (X + mins (Tab.row r).1 (Tab.row r).2.2.2 m) (m : Int) = some (X + mins (Tab.row r).1 (Tab.row r).2.2.2 M, 0, 0) := by
  have hr := row_range h1 h7
  intro e
  induction e with
  | zero =>
    intro m k h hk
    obtain ⟨k, rfl⟩ : ∃ k', k = k' + 1 := ⟨k - 1, by omega⟩
    obtain rfl : m = M := by omega
    simp only [dailiesref18_Told.l0]
    rw [if_neg (by omega)]
  | succ e ih =>
    intro m k h hk
    obtain ⟨k, rfl⟩ : ∃ k', k = k' + 1 := ⟨k - 1, by omega⟩
    have hn := ih (m + 1) k (by omega) (by omega)
    simp only [dailiesref18_Told.l0]
    rw [if_pos (by omega), count' h1 h7, left' h1 h7 m]
    show dailiesref18_Told.l0 k _ _ (wrap64 (wrap64 (_ + wrap64 (60 * (Tab.row r).1)) - lft (Tab.row r).2.2.2 m)) (wrap64 ((m : Int) + 1)) = _
    have hm := mins_range (c := (Tab.row r).1) (d := (Tab.row r).2.2.2) ⟨hr.1, hr.2.1⟩ ⟨hr.2.2.2.2.2.2.1, hr.2.2.2.2.2.2.2⟩ m
    have hl : 0 ≤ lft (Tab.row r).2.2.2 m ∧ lft (Tab.row r).2.2.2 m ≤ 4 := by unfold lft; split <;> omega
    rw [wn1 (show m ≤ 100000 by omega), w64 (show -9223372036854775808 ≤ 60 * (Tab.row r).1 by omega) (by omega), w64 (n := X + mins _ _ m + 60 * (Tab.row r).1) (by omega) (by omega), w64 (by omega) (by omega)]
    rw [show X + mins (Tab.row r).1 (Tab.row r).2.2.2 m + 60 * (Tab.row r).1 - lft (Tab.row r).2.2.2 m = X + mins (Tab.row r).1 (Tab.row r).2.2.2 (m + 1) by
      rw [show mins (Tab.row r).1 (Tab.row r).2.2.2 (m + 1) = mins (Tab.row r).1 (Tab.row r).2.2.2 m + 60 * (Tab.row r).1 - lft (Tab.row r).2.2.2 m from rfl]; omega]
    exact hn
/-- the two sums are one -/
theorem sum_eq (a d x y z u : Int) (M : Nat) (hM : (M : Int) = 60 * x + y) (hd : 0 ≤ d) :
    a * z + u - lft d M + mins a d M = a * (60 * (60 * x + y) + z) + u - d * ((60 * x + y) - (60 * x + y) / 10) := by
  rw [mins_closed, ← hM]
  have e0 : a * (60 * (M : Int) + z) = 60 * a * (M : Int) + a * z := by rw [Int.mul_add, ← Int.mul_assoc, Int.mul_comm a 60]
  have e1 : ((M : Int) - (M : Int) / 10) = ((M - M / 10 : Nat) : Int) := by omega
  rw [e0, e1]
  unfold lft
  by_cases h : M % 10 = 0
  · rw [if_pos h, show M - (M + 9) / 10 = M - M / 10 by omega]; omega
  · rw [if_neg h, show M - M / 10 = (M - (M + 9) / 10) + 1 by omega, show (((M - (M + 9) / 10) + 1 : Nat) : Int) = ((M - (M + 9) / 10 : Nat) : Int) + 1 by omega, Int.mul_add, Int.mul_one]; omega
theorem told_f (r : Int) (s : ByteArray) : dailiesref18_Told.f 1500 r s = some (numF r s) := by
  unfold dailiesref18_Told.f numF
  rw [rate']
  show (if decide (1 ≤ r ∧ r ≤ 7) = true then _ else _) = _
  by_cases h : 1 ≤ r ∧ r ≤ 7
  · obtain ⟨p, rfl⟩ : ∃ p : Nat, r = (p : Int) := ⟨r.toNat, by omega⟩
    have h1 : 1 ≤ p := by omega
    have h7 : p ≤ 7 := by omega
    have hr := row_range h1 h7
    rw [if_pos (decide_eq_true h), if_neg (by omega), if_neg (by omega), Int.toNat_natCast, formed_f h1 h7]
    unfold readF
    show (if formF (Tab.row p).2.2.2 s ≥ 0 then _ else _) = _
    by_cases h0 : 0 ≤ formF (Tab.row p).2.2.2 s
    · rw [if_pos h0, if_pos h0]
    · rw [if_neg h0, if_neg h0]
      obtain ⟨-, hsz, hfit⟩ := formF_neg (show formF (Tab.row p).2.2.2 s < 0 by omega)
      have dg : ∀ i, i < 11 → i ≠ 8 → i % 3 ≠ 2 → 48 ≤ by_ s i ∧ by_ s i ≤ 57 := fun i hi h8 h3 => fits_digit (hfit i hi) h8 h3
      have r0 := pt_range (dg 0 (by decide) (by decide) (by decide)) (dg 1 (by decide) (by decide) (by decide))
      have r3 := pt_range (dg 3 (by decide) (by decide) (by decide)) (dg 4 (by decide) (by decide) (by decide))
      have r6 := pt_range (dg 6 (by decide) (by decide) (by decide)) (dg 7 (by decide) (by decide) (by decide))
      have r9 := pt_range (dg 9 (by decide) (by decide) (by decide)) (dg 10 (by decide) (by decide) (by decide))
      rw [value_f (i := 0) 0 rfl (by omega) (by decide) (dg 0 (by decide) (by decide) (by decide)) (dg 1 (by decide) (by decide) (by decide)),
        value_f (i := 3) 3 rfl (by omega) (by decide) (dg 3 (by decide) (by decide) (by decide)) (dg 4 (by decide) (by decide) (by decide)),
        value_f (i := 6) 6 rfl (by omega) (by decide) (dg 6 (by decide) (by decide) (by decide)) (dg 7 (by decide) (by decide) (by decide)),
        value_f (i := 9) 9 rfl (by omega) (by decide) (dg 9 (by decide) (by decide) (by decide)) (dg 10 (by decide) (by decide) (by decide)), count' h1 h7]
      simp only [Option.bind_some]
      generalize pt s 0 = x at r0 ⊢
      generalize pt s 3 = y at r3 ⊢
      generalize pt s 6 = z at r6 ⊢
      generalize pt s 9 = u at r9 ⊢
      by_cases hx : x > 23
      · rw [if_pos hx, if_pos hx]
      · rw [if_neg hx, if_neg hx]
        by_cases hy : y > 59
        · rw [if_pos hy, if_pos hy]
        · rw [if_neg hy, if_neg hy]
          by_cases hz : z > 59
          · rw [if_pos hz, if_pos hz]
          · rw [if_neg hz, if_neg hz]
            by_cases hu : u ≥ (Tab.row p).1
            · rw [if_pos hu, if_pos hu]
            · rw [if_neg hu, if_neg hu]
              obtain ⟨M, hM⟩ : ∃ M : Nat, (M : Int) = 60 * x + y := ⟨(60 * x + y).toNat, by omega⟩
              have eM : wrap64 (wrap64 (60 * x) + y) = (M : Int) := by rw [w64 (n := 60 * x) (by omega) (by omega), w64 (by omega) (by omega)]; omega
              have haz := Go.Proofs.YtjmhjhmlcjkjeaaDoor.Tab.prod_bound (a := (Tab.row p).1) (X := z) (M := 59) (N := 60) ⟨by omega, by omega⟩ ⟨by omega, by omega⟩ (by decide)
              rw [eM, left' h1 h7 M, w64 (n := (Tab.row p).1 * z) (by omega) (by omega), w64 (n := (Tab.row p).1 * z + u) (by omega) (by omega)]
              simp only [Option.bind_some]
              have hl : 0 ≤ lft (Tab.row p).2.2.2 M ∧ lft (Tab.row p).2.2.2 M ≤ 4 := by unfold lft; split <;> omega
              have hmul : 1 ≤ z → (Tab.row p).1 ≤ (Tab.row p).1 * z := fun hz1 => by
                have := Int.mul_le_mul_of_nonneg_left hz1 (show 0 ≤ (Tab.row p).1 by omega)
                rwa [Int.mul_one] at this
              by_cases hs : (Tab.row p).1 * z + u < lft (Tab.row p).2.2.2 M
              · rw [if_pos hs]
                have hz0 : z = 0 := by
                  by_cases hz1 : 1 ≤ z
                  · have := hmul hz1; omega
                  · omega
                subst hz0
                rw [Int.mul_zero] at hs
                have hm : M % 10 ≠ 0 := fun hm => by unfold lft at hs; rw [if_pos hm] at hs; omega
                have hl2 : lft (Tab.row p).2.2.2 M = (Tab.row p).2.2.2 := by unfold lft; rw [if_neg hm]
                rw [if_pos ⟨by omega, rfl, by omega⟩]
              · rw [if_neg hs]
                have hno : ¬ (y % 10 ≠ 0 ∧ z = 0 ∧ u < (Tab.row p).2.2.2) := by
                  rintro ⟨hy0, rfl, hu0⟩
                  rw [Int.mul_zero] at hs
                  have hl2 : lft (Tab.row p).2.2.2 M = (Tab.row p).2.2.2 := by unfold lft; rw [if_neg (by omega)]
                  omega
                rw [if_neg hno, w64 (n := (Tab.row p).1 * z + u - lft (Tab.row p).2.2.2 M) (by omega) (by omega)]
                have ht := told_l0 h1 h7 ((Tab.row p).1 * z + u - lft (Tab.row p).2.2.2 M) ⟨by omega, by omega⟩ M (by omega) M 0 1500 (by omega) (by omega)
                rw [show mins (Tab.row p).1 (Tab.row p).2.2.2 0 = 0 from rfl, Int.add_zero] at ht
                refine Eq.trans ht ?_
                rw [sum_eq (Tab.row p).1 (Tab.row p).2.2.2 x y z u M hM (by omega)]
  · rw [if_neg (by rw [decide_eq_false h]; decide)]
    by_cases h1 : r < 1
    · rw [if_pos h1]
    · rw [if_neg h1, if_pos (by omega)]
end Go.Proofs.YtjmhjhmlcjkjeaaDoor.Told18
