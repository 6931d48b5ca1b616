/- A part of a proof: see the text's own remark. No conditions beyond its theorems' own. -/
import Derived.Test.YtjmhjhmlcjkjeaaDoorTimeMQUTimecodeNumbers
import Derived.Test.YtjmhjhmlcjkjeaaDoorSecs18
/-! the law's place and digits, walked: the lines that the print gave for these and for the document's like function, turned to this law -/
namespace Go.Proofs.YtjmhjhmlcjkjeaaDoor.Clock18
open Go.RowKit Go.Proofs.YtjmhjhmlcjkjeaaDoor.QUTimecodeNumbers Go.Proofs.YtjmhjhmlcjkjeaaDoorW.PrintWords Go.Proofs.YtjmhjhmlcjkjeaaDoorW.PrintLast Go.Proofs.YtjmhjhmlcjkjeaaDoorW.PrintMore Go.Proofs.YtjmhjhmlcjkjeaaDoor.TQUTimecodeNumbers
open Go.Proofs.YtjmhjhmlcjkjeaaDoor (Tab.row)
open Go.Proofs.YtjmhjhmlcjkjeaaDoor.Tab (by_ by_get pt pt_val)
set_option linter.unusedVariables false
set_option linter.unusedSimpArgs false
def dailieslaw18_place.f (a0 : Int) (a1 : Int) : Option (Int) := if a0 < 0 then (if a1 = 0 then (none) else (some (Int.tmod (wrap64 (-(wrap64 (a0 + 1)))) a1))) else (if a1 = 0 then (none) else (some (Int.tmod a0 a1)))
def dailiesref18_value.f (a0 : ByteArray) (a1 : Int) : Option (Int) := if 0 ≤ a1 then (if a1 < (a0.size : Int) then (if 0 ≤ (wrap64 (a1 + 1)) then (if (wrap64 (a1 + 1)) < (a0.size : Int) then (some ((10 * (((bt a0 a1) - 48) % 256)) + (((bt a0 (wrap64 (a1 + 1))) - 48) % 256))) else (none)) else (none)) else (none)) else (none)
set_option maxHeartbeats 8000000 in
set_option maxRecDepth 100000 in
theorem dailieslaw18_place.calls (a0 : Int) (a1 : Int) (r : Int) (w : World) (h : dailieslaw18_place.f a0 a1 = some r) :
    Calls Tryd.prog 10 #[.int .i64 a0, .int .i64 a1] w fun e w' => e = .returned (.int .i64 r) ∧ Drawn0 w w' := by
  have H : (if a0 < 0 then (if a1 = 0 then (none) else (some (Int.tmod (wrap64 (-(wrap64 (a0 + 1)))) a1))) else (if a1 = 0 then (none) else (some (Int.tmod a0 a1)))) = some r := h
  clear h
  by_cases c3 : a0 < 0
  · rw [if_pos c3] at H
    have c3b0 : decide (a0 < 0) = true := decide_eq_true c3
    clear c3
    by_cases c4 : a1 = 0
    · rw [if_pos c4] at H
      exact absurd H (by simp)
    · rw [if_neg c4] at H
      have c4b0 : (a1 == 0) = false := beq_eq_false_iff_ne.mpr c4
      have c4b1 : (a1 != 0) = true := bne_iff_ne.mpr c4
      obtain rfl := Option.some.inj H
      go_enter Tryd.func10, Tryd.ntmps10
      go_wp2
      go_ret
      exact ⟨by first | rfl | (simp; done) | (simp [*]; done), by repeat (first | exact Drawn0.refl _ | apply Drawn0.step)⟩
  · rw [if_neg c3] at H
    have c3b0 : decide (a0 < 0) = false := decide_eq_false c3
    clear c3
    by_cases c5 : a1 = 0
    · rw [if_pos c5] at H
      exact absurd H (by simp)
    · rw [if_neg c5] at H
      have c5b0 : (a1 == 0) = false := beq_eq_false_iff_ne.mpr c5
      have c5b1 : (a1 != 0) = true := bne_iff_ne.mpr c5
      obtain rfl := Option.some.inj H
      go_enter Tryd.func10, Tryd.ntmps10
      go_wp2
      go_ret
      exact ⟨by first | rfl | (simp; done) | (simp [*]; done), by repeat (first | exact Drawn0.refl _ | apply Drawn0.step)⟩

set_option maxHeartbeats 8000000 in
set_option maxRecDepth 100000 in
theorem digits_calls (a0 : ByteArray) (a1 : Int) (r : Int) (w : World) (h : dailiesref18_value.f a0 a1 = some r) :
    Calls Tryd.prog 22 #[.string a0, .int .i64 a1] w fun e w' => e = .returned (.int .i64 r) ∧ Drawn0 w w' := by
  have H : (if 0 ≤ a1 then (if a1 < (a0.size : Int) then (if 0 ≤ (wrap64 (a1 + 1)) then (if (wrap64 (a1 + 1)) < (a0.size : Int) then (some ((10 * (((bt a0 a1) - 48) % 256)) + (((bt a0 (wrap64 (a1 + 1))) - 48) % 256))) else (none)) else (none)) else (none)) else (none)) = some r := h
  clear h
  by_cases c3 : 0 ≤ a1
  · rw [if_pos c3] at H
    have c3b0 : decide (0 ≤ a1) = true := decide_eq_true c3
    clear c3
    by_cases c4 : a1 < (a0.size : Int)
    · rw [if_pos c4] at H
      have c4b0 : decide (a1 < (a0.size : Int)) = true := decide_eq_true c4
      clear c4
      obtain ⟨ji6, hji6⟩ : ∃ j_ : Int, (wrap64 (a1 + 1)) = j_ := ⟨_, rfl⟩
      replace H : (if 0 ≤ (ji6) then (if (ji6) < (a0.size : Int) then (some ((10 * (((bt a0 a1) - 48) % 256)) + (((bt a0 (ji6)) - 48) % 256))) else (none)) else (none)) = some r := by first | (rw [hji6] at H; exact H) | (simp only [hji6] at H ⊢; exact H)
      have hji6w : (IntKind.i64.wrap (a1 + 1)) = ji6 := (i64_w _).trans hji6
      by_cases c7 : 0 ≤ (ji6)
      · rw [if_pos c7] at H
        have c7b0 : decide (0 ≤ (ji6)) = true := decide_eq_true c7
        clear c7
        by_cases c8 : (ji6) < (a0.size : Int)
        · rw [if_pos c8] at H
          have c8b0 : decide ((ji6) < (a0.size : Int)) = true := decide_eq_true c8
          clear c8
          obtain rfl := Option.some.inj H
          have p5 : 0 ≤ (a1 : Int) := of_decide_eq_true (by first | (with_reducible assumption) | assumption)
          have q5 : a1 < (a0.size : Int) := of_decide_eq_true (by first | (with_reducible assumption) | assumption)
          have hx5 := bt_at a0 a1
          replace p5 := eq_true p5
          replace q5 := eq_true q5
          have p9 : 0 ≤ ((ji6) : Int) := of_decide_eq_true (by first | (with_reducible assumption) | assumption)
          have q9 : (ji6) < (a0.size : Int) := of_decide_eq_true (by first | (with_reducible assumption) | assumption)
          have hx9 := bt_at a0 (ji6)
          replace p9 := eq_true p9
          replace q9 := eq_true q9
          go_enter Tryd.func22, Tryd.ntmps22
          go_wp2
          repeat (go_quiet (fail); try go_wp2)
          go_ret
          exact ⟨by first | rfl | (simp; done) | (simp only [← hji6] <;> (first | rfl | simp)) | (simp [*]; done), by repeat (first | exact Drawn0.refl _ | apply Drawn0.step)⟩
        · rw [if_neg c8] at H
          exact absurd H (by simp)
      · rw [if_neg c7] at H
        exact absurd H (by simp)
    · rw [if_neg c4] at H
      exact absurd H (by simp)
  · rw [if_neg c3] at H
    exact absurd H (by simp)

theorem bt_by {s : ByteArray} {i : Nat} (h : i < s.size) : bt s (i : Int) = (by_ s i : Int) := by
  rw [← bt_at s (i : Int) (by simpa using h)]
  exact congrArg (fun n : Nat => (n : Int)) (by_get h)
theorem wn1 {i : Nat} (h : i ≤ 100000) : wrap64 ((i : Int) + 1) = ((i + 1 : Nat) : Int) := by rw [w64 (by omega) (by omega)]; omega
theorem value_f {s : ByteArray} {i : Nat} (x : Int) (hx : x = (i : Int)) (h : i + 1 < s.size) (hi : i ≤ 1000) (h0 : 48 ≤ by_ s i ∧ by_ s i ≤ 57) (h1 : 48 ≤ by_ s (i + 1) ∧ by_ s (i + 1) ≤ 57) : dailiesref18_value.f s x = some (pt s i) := by
  subst hx
  unfold dailiesref18_value.f
  rw [wn1 (show i ≤ 100000 by omega), if_pos (by omega), if_pos (by omega), if_pos (by omega), if_pos (by omega), bt_by (show i < s.size by omega), bt_by h, pt_val h0 h1]
  rfl
theorem place_f (a n : Int) (h0 : -9223372036854775808 ≤ a) (h1 : a ≤ 9223372036854775807) (hn : 0 < n) : ∃ c, dailieslaw18_place.f a n = some c ∧ 0 ≤ c ∧ c < n := by
  unfold dailieslaw18_place.f
  by_cases h : a < 0
  · rw [if_pos h, if_neg (by omega), w64 (n := a + 1) (by omega) (by omega), w64 (by omega) (by omega)]
    refine ⟨_, rfl, ?_, ?_⟩
    · rw [Int.tmod_eq_emod_of_nonneg (by omega)]; exact Int.emod_nonneg _ (by omega)
    · rw [Int.tmod_eq_emod_of_nonneg (by omega)]; exact Int.emod_lt_of_pos _ hn
  · rw [if_neg h, if_neg (by omega)]
    refine ⟨_, rfl, ?_, ?_⟩
    · rw [Int.tmod_eq_emod_of_nonneg (by omega)]; exact Int.emod_nonneg _ (by omega)
    · rw [Int.tmod_eq_emod_of_nonneg (by omega)]; exact Int.emod_lt_of_pos _ hn
theorem perDay {p : Nat} (h1 : 1 ≤ p) (h7 : p ≤ 7) : timecode_PerDay.f (p : Int) = some (day p, 0) := by
  unfold timecode_PerDay.f
  rw [find_f h1 h7, Option.bind_some]
  show (if true = true then (timecode_rate_perDay.f (Tab.row p).1 (Tab.row p).2.1 (Tab.row p).2.2.1 (Tab.row p).2.2.2).bind _ else _) = _
  rw [if_pos rfl, perDay_f h1 h7]; rfl
end Go.Proofs.YtjmhjhmlcjkjeaaDoor.Clock18
