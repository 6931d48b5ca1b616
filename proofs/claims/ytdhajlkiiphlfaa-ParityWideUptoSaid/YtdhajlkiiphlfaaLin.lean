/- A part of a proof: see the text's own remark. No conditions beyond its theorems' own. -/
import Derived.Test.YtdhajlkiiphlfaaMath
namespace Go.Proofs.Ytdhajlkiiphlfaa.Math
/-! row operations, on functions (plain mathematics): to be pasted behind El.lean -/
namespace El
/-- rows changed for one another -/
def sw (c r i : Nat) : Nat := if i = c then r else if i = r then c else i
/-- one column's round: rows c and r changed for one another, row c times the inverse, the others cleared -/
def stepA (c r : Nat) (A : Nat → Nat → El) (F : Nat → Nat → El) : Nat → Nat → El := fun i j =>
  if i = c then F (sw c r c) j * (A (sw c r c) c).inv else F (sw c r i) j + A (sw c r i) c * (F (sw c r c) j * (A (sw c r c) c).inv)
def dot (n : Nat) (A : Nat → Nat → El) (Y : Nat → El) (i : Nat) : El := sum n fun j => A i j * Y j
theorem sw_sw (c r i : Nat) : sw c r (sw c r i) = i := by unfold sw; split <;> split <;> (try split) <;> (try split) <;> omega
theorem sw_lt {n c r i : Nat} (hc : c < n) (hr : r < n) (hi : i < n) : sw c r i < n := by unfold sw; split <;> (try split) <;> omega
theorem dot_step (n c r : Nat) (A : Nat → Nat → El) (Y : Nat → El) (i : Nat) : dot n (stepA c r A A) Y i = if i = c then dot n A Y (sw c r c) * (A (sw c r c) c).inv else dot n A Y (sw c r i) + A (sw c r i) c * (dot n A Y (sw c r c) * (A (sw c r c) c).inv) := by
  have h1 : sum n (fun j => A (sw c r c) j * (A (sw c r c) c).inv * Y j) = dot n A Y (sw c r c) * (A (sw c r c) c).inv := by
    rw [mul_comm (dot n A Y (sw c r c))]
    unfold dot
    rw [mul_sum]
    exact sum_congr fun j _ => by rw [mul_comm (A (sw c r c) j), mul_assoc]
  by_cases hi : i = c
  · subst hi
    rw [if_pos rfl, ← h1]
    exact sum_congr fun j _ => by unfold stepA; rw [if_pos rfl]
  · rw [if_neg hi, ← h1, mul_sum]
    unfold dot
    rw [← sum_add]
    exact sum_congr fun j _ => by unfold stepA; rw [if_neg hi, add_mul, mul_assoc]
/-- a round keeps what is solved, both ways -/
theorem step_sat (n c r : Nat) (hc : c < n) (hr : r < n) (A : Nat → Nat → El) (V : Nat → Nat → El) (k : Nat) (Y : Nat → El) (hp : A (sw c r c) c ≠ 0) :
    (∀ i, i < n → dot n (stepA c r A A) Y i = stepA c r A V i k) ↔ (∀ i, i < n → dot n A Y i = V i k) := by
  constructor
  · intro h
    have hc1 := h c hc
    rw [dot_step, if_pos rfl] at hc1
    unfold stepA at hc1
    rw [if_pos rfl] at hc1
    have hpc : dot n A Y (sw c r c) = V (sw c r c) k := by
      have := congrArg (fun x => x * A (sw c r c) c) hc1
      simp only [mul_assoc, inv_mul hp, mul_one] at this
      exact this
    intro i hi
    by_cases e : sw c r i = c
    · have : i = sw c r c := by have h3 := congrArg (sw c r) e; rw [sw_sw] at h3; exact h3
      rw [this]; exact hpc
    · have h2 := h (sw c r i) (sw_lt hc hr hi)
      rw [dot_step, if_neg e] at h2
      unfold stepA at h2
      rw [if_neg e, sw_sw, hpc] at h2
      have := congrArg (fun x => A i c * (V (sw c r c) k * (A (sw c r c) c).inv) + x) h2
      simp only [add_comm (dot n A Y i), add_comm (V i k), add_add_self] at this
      exact this
  · intro h i hi
    rw [dot_step]
    unfold stepA
    rw [h _ (sw_lt hc hr hc)]
    by_cases e : i = c
    · rw [if_pos e, if_pos e]
    · rw [if_neg e, if_neg e, h _ (sw_lt hc hr hi)]
/-- the columns before c are those of the unit matrix -/
def U (n c : Nat) (A : Nat → Nat → El) : Prop := ∀ i j, i < n → j < c → A i j = if i = j then 1 else 0
theorem U_step {n c r : Nat} {A : Nat → Nat → El} (h : U n c A) (hcr : c ≤ r) (hr : r < n) (hp : A (sw c r c) c ≠ 0) : U n (c + 1) (stepA c r A A) := by
  have hs : sw c r c = r := by unfold sw; rw [if_pos rfl]
  intro i j hi hj
  unfold stepA
  rw [hs] at hp ⊢
  by_cases e : j = c
  · subst e
    by_cases e2 : i = j
    · rw [if_pos e2, if_pos e2, mul_inv hp]
    · rw [if_neg e2, if_neg e2, mul_inv hp, mul_one, add_self]
  · have hjc : j < c := by omega
    rw [h r j hr hjc, if_neg (show ¬ r = j by omega), zero_mul, mul_zero, add_zero]
    by_cases e2 : i = c
    · rw [if_pos e2, if_neg (by omega)]
    · rw [if_neg e2, h _ j (sw_lt (by omega) hr hi) hjc]
      have : (sw c r i = j) ↔ (i = j) := by unfold sw; rw [if_neg e2]; split <;> omega
      by_cases e3 : i = j
      · rw [if_pos e3, if_pos (this.2 e3)]
      · rw [if_neg e3, if_neg (fun x => e3 (this.1 x))]
theorem dot_unit {n : Nat} {A : Nat → Nat → El} (h : U n n A) (Y : Nat → El) (i : Nat) (hi : i < n) : dot n A Y i = Y i := by
  unfold dot
  rw [sum_single hi _ (fun j hj hne => by rw [h i j hi hj, if_neg (Ne.symm hne), zero_mul]), h i i hi hi, if_pos rfl, one_mul]
/-- no pivot in a column: something that is not 0 goes into 0 -/
theorem kernel {n c : Nat} {A : Nat → Nat → El} (h : U n c A) (hc : c < n) (h0 : ∀ i, c ≤ i → i < n → A i c = 0) : ∃ Y : Nat → El, Y c ≠ 0 ∧ ∀ i, i < n → dot n A Y i = 0 := by
  refine ⟨fun j => if j < c then A j c else if j = c then 1 else 0, ?_, fun i hi => ?_⟩
  · show (if c < c then A c c else if c = c then 1 else 0) ≠ 0
    rw [if_neg (Nat.lt_irrefl c), if_pos rfl]
    intro e
    have := congrArg El.v e
    rw [one_v, zero_v] at this
    omega
  · have e : dot n A (fun j => if j < c then A j c else if j = c then 1 else 0) i = sum n (fun j => (if j = i then (if i < c then A i c else 0) else 0) + (if j = c then A i c else 0)) := by
      refine sum_congr fun j hj => ?_
      show A i j * (if j < c then A j c else if j = c then 1 else 0) = _
      by_cases h1 : j < c
      · rw [if_pos h1, h i j hi h1, if_neg (show ¬ j = c by omega), add_zero]
        by_cases h2 : i = j
        · rw [if_pos h2, if_pos h2.symm, one_mul, if_pos (by omega), h2]
        · rw [if_neg h2, if_neg (Ne.symm h2), zero_mul]
      · rw [if_neg h1]
        by_cases h3 : j = c
        · rw [if_pos h3, if_pos h3, mul_one, h3]
          by_cases h4 : c = i
          · rw [if_pos h4, if_neg (by omega), zero_add]
          · rw [if_neg h4, zero_add]
        · rw [if_neg h3, if_neg h3, mul_zero, add_zero]
          by_cases h4 : j = i
          · rw [if_pos h4, if_neg (by omega)]
          · rw [if_neg h4]
    rw [e, sum_add, sum_single hi _ (fun j _ hne => by rw [if_neg hne]), sum_single hc _ (fun j _ hne => by rw [if_neg hne]), if_pos rfl, if_pos rfl]
    by_cases h5 : i < c
    · rw [if_pos h5, add_self]
    · rw [if_neg h5, h0 i (by omega) hi, add_zero]
end El
end Go.Proofs.Ytdhajlkiiphlfaa.Math
