/- A part of a proof: see the text's own remark. No conditions beyond its theorems' own. -/
import Derived.Test.YtjmhjhmlcjkjeaaDoorTimePQUTimecodeNumbers
import Derived.KernelRfl
/-! plain facts on the document's side -/
namespace Go.Proofs.YtjmhjhmlcjkjeaaDoor.TQUTimecodeNumbers
open Go.RowKit Go.Proofs.YtjmhjhmlcjkjeaaDoor.QUTimecodeNumbers Go.Proofs.YtjmhjhmlcjkjeaaDoorW.PrintWords Go.Proofs.YtjmhjhmlcjkjeaaDoorW.PrintLast
open Go.Proofs.YtjmhjhmlcjkjeaaDoor (Tab.row)
theorem rate_f (r : Int) : dailiesref18_Rate.f r = some (decide (1 ≤ r ∧ r ≤ 7)) := by
  unfold dailiesref18_Rate.f
  by_cases h : r ≥ 1
  · rw [if_pos h]; congr 1; exact decide_eq_decide.2 ⟨fun h2 => ⟨h, h2⟩, fun h2 => h2.2⟩
  · rw [if_neg h]; congr 1; rw [decide_eq_false (fun h2 => h h2.1)]
/-- what is left out at a minute's head; how many frames so many minutes have -/
def lft (d : Int) (m : Nat) : Int := if m % 10 = 0 then 0 else d
def mins (c d : Int) : Nat → Int
  | 0 => 0
  | m + 1 => mins c d m + 60 * c - lft d m
theorem mins_closed (c d : Int) : ∀ m : Nat, mins c d m = 60 * c * m - d * ((m - (m + 9) / 10 : Nat) : Int)
  | 0 => by simp [mins]
  | m + 1 => by
    have e : mins c d (m + 1) = mins c d m + 60 * c - lft d m := rfl
    rw [e, mins_closed c d m]
    unfold lft
    have h1 : 60 * c * ((m + 1 : Nat) : Int) = 60 * c * (m : Int) + 60 * c := by rw [show ((m + 1 : Nat) : Int) = (m : Int) + 1 by omega, Int.mul_add, Int.mul_one]
    rw [h1]
    by_cases h : m % 10 = 0
    · rw [if_pos h, show m + 1 - (m + 1 + 9) / 10 = m - (m + 9) / 10 by omega]; omega
    · rw [if_neg h, show m + 1 - (m + 1 + 9) / 10 = (m - (m + 9) / 10) + 1 by omega, show (((m - (m + 9) / 10) + 1 : Nat) : Int) = ((m - (m + 9) / 10 : Nat) : Int) + 1 by omega, Int.mul_add, Int.mul_one]; omega
theorem mins_range {c d : Int} (hc : 24 ≤ c ∧ c ≤ 60) (hd : 0 ≤ d ∧ d ≤ 4) : ∀ m : Nat, 0 ≤ mins c d m ∧ mins c d m ≤ 3600 * m
  | 0 => by simp [mins]
  | m + 1 => by
    have e : mins c d (m + 1) = mins c d m + 60 * c - lft d m := rfl
    have ih := mins_range hc hd m
    rw [e]
    unfold lft
    split <;> omega
theorem count_f {r : Nat} (h1 : 1 ≤ r) (h7 : r ≤ 7) : dailiesref18_count.f (r : Int) = some (Tab.row r).1 := by
  rcases seven h1 h7 with rfl | rfl | rfl | rfl | rfl | rfl | rfl <;> decide +kernel
theorem left_f {r : Nat} (h1 : 1 ≤ r) (h7 : r ≤ 7) (m : Nat) : dailiesref18_left.f (r : Int) (m : Int) = some (lft (Tab.row r).2.2.2 m) := by
  unfold dailiesref18_left.f lft
  have e : Int.tmod (m : Int) 10 = ((m % 10 : Nat) : Int) := by rw [Int.tmod_eq_emod_of_nonneg (by omega)]; omega
  rw [e]
  by_cases h : m % 10 = 0
  · rw [if_pos (by omega), if_pos h]
  · rw [if_neg (by omega), if_neg h]
    rcases seven h1 h7 with rfl | rfl | rfl | rfl | rfl | rfl | rfl <;> decide +kernel
theorem refDay_l0 {r : Nat} (h1 : 1 ≤ r) (h7 : r ≤ 7) : ∀ (d m k : Nat), m + d = 1440 → d < k → dailiesref18_PerDay.l0 k (r : Int) (mins (Tab.row r).1 (Tab.row r).2.2.2 m) (m : Int) = some (mins (Tab.row r).1 (Tab.row r).2.2.2 1440, 0) := by
  have hr := row_range h1 h7
  intro d
  induction d with
  | zero =>
    intro m k hm hk
    obtain ⟨k, rfl⟩ : ∃ j, k = j + 1 := ⟨k - 1, by omega⟩
    obtain rfl : m = 1440 := by omega
    rw [dailiesref18_PerDay.l0, if_neg (by omega)]
  | succ d ih =>
    intro m k hm hk
    obtain ⟨k, rfl⟩ : ∃ j, k = j + 1 := ⟨k - 1, by omega⟩
    have hb := mins_range (c := (Tab.row r).1) (d := (Tab.row r).2.2.2) (by omega) (by omega) m
    have hl : 0 ≤ lft (Tab.row r).2.2.2 m ∧ lft (Tab.row r).2.2.2 m ≤ 4 := by unfold lft; split <;> omega
    have hi := ih (m + 1) k (by omega) (by omega)
    have hlt : (m : Int) < 1440 := by omega
    have e : mins (Tab.row r).1 (Tab.row r).2.2.2 (m + 1) = mins (Tab.row r).1 (Tab.row r).2.2.2 m + 60 * (Tab.row r).1 - lft (Tab.row r).2.2.2 m := rfl
    rw [dailiesref18_PerDay.l0, if_pos hlt, count_f h1 h7, Option.bind_some, left_f h1 h7, Option.bind_some]
    generalize (Tab.row r).1 = c at hr hb hi e ⊢
    generalize lft (Tab.row r).2.2.2 m = f at hl e ⊢
    generalize mins c (Tab.row r).2.2.2 m = s at hb e ⊢
    rw [w64 (n := 60 * c) (by omega) (by omega), w64 (n := s + 60 * c) (by omega) (by omega), w64 (n := s + 60 * c - f) (by omega) (by omega), w64 (n := (m : Int) + 1) (by omega) (by omega), ← e, show (m : Int) + 1 = ((m + 1 : Nat) : Int) by omega]
    exact hi
theorem refDay_f {r : Nat} (h1 : 1 ≤ r) (h7 : r ≤ 7) {k : Nat} (hk : 1450 ≤ k) : dailiesref18_PerDay.f k (r : Int) = some (day r, 0) := by
  unfold dailiesref18_PerDay.f
  rw [rate_f, Option.bind_some, decide_eq_true (by omega), if_pos rfl]
  have h := refDay_l0 h1 h7 1440 0 k (by omega) (by omega)
  have e2 := mins_closed (Tab.row r).1 (Tab.row r).2.2.2 1440
  have e : 60 * (Tab.row r).1 * ((1440 : Nat) : Int) - (Tab.row r).2.2.2 * ((1440 - (1440 + 9) / 10 : Nat) : Int) = day r := by unfold day; omega
  rw [e2, e] at h
  exact h
theorem asked_f {r : Nat} (h1 : 1 ≤ r) (h7 : r ≤ 7) (n : Int) {k : Nat} (hk : 1450 ≤ k) : dailiesref18_asked.f k (r : Int) n = some (if 0 ≤ n ∧ n < day r then 0 else 184) := by
  unfold dailiesref18_asked.f
  rw [refDay_f h1 h7 hk, Option.bind_some]
  show (if (0 : Int) = 0 then (if n < 0 then some 184 else if n ≥ day r then some 184 else some 0) else _) = _
  rw [if_pos rfl]
  by_cases h : n < 0
  · rw [if_pos h, if_neg (by omega)]
  · rw [if_neg h]
    by_cases h2 : n ≥ day r
    · rw [if_pos h2, if_neg (by omega)]
    · rw [if_neg h2, if_pos (by omega)]
theorem speed_f {r : Nat} (h1 : 1 ≤ r) (h7 : r ≤ 7) {k : Nat} (hk : 1 ≤ k) : dailiesref18_speed.f k (r : Int) = some ((Tab.row r).2.1, (Tab.row r).2.2.1) := by
  refine at_rounds (g := fun k => dailiesref18_speed.f k (r : Int)) (dailiesref18_speed.mono (r : Int)) hk ?_
  rcases seven h1 h7 with rfl | rfl | rfl | rfl | rfl | rfl | rfl <;> decide +kernel
end Go.Proofs.YtjmhjhmlcjkjeaaDoor.TQUTimecodeNumbers
