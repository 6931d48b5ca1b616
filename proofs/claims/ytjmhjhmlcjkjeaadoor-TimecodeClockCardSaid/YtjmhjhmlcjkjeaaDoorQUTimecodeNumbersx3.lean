-- Printed by a program of this session (wrap.py) over the kit's print.py, with hand-proved contracts among its functions.
import Derived.Test.YtjmhjhmlcjkjeaaDoorQUTimecodeNumbersx0
import Derived.Test.YtjmhjhmlcjkjeaaDoorQUTimecodeNumbersx1
import Derived.Test.YtjmhjhmlcjkjeaaDoorQUTimecodeNumbersx2
namespace Go.Proofs.YtjmhjhmlcjkjeaaDoor.QUTimecodeNumbers
open Go.RowKit Go.Proofs.YtjmhjhmlcjkjeaaDoorW.PrintWords Go.Proofs.YtjmhjhmlcjkjeaaDoorW.PrintLast Go.Proofs.YtjmhjhmlcjkjeaaDoorW.PrintMore
attribute [local go_sem] max2_int min2_int max_two min_two max_three min_three max_four min_four   -- for this text's walks alone
set_option linter.unusedVariables false
set_option linter.unusedSimpArgs false

/-! ### dailiesref18_Name: function 17 -/
def dailiesref18_Name.f (k : Nat) (a0 : Int) (a1 : Int) : Option (ByteArray × Int) := (dailiesref18_asked.f k a0 a1).bind fun t173 => (if t173 = 0 then ((dailiesref18_placed.f k a0 a1).bind fun bt174 => ((dailiesref18_two.f (wrap64 (Int.tdiv bt174.1 60))).bind fun t177 => (if t177.size + 1 ≤ 9223372036854775807 then ((dailiesref18_two.f (Int.tmod bt174.1 60)).bind fun t178 => (if (t177 ++ (⟨#[58]⟩ : ByteArray)).size + t178.size ≤ 9223372036854775807 then (if ((t177 ++ (⟨#[58]⟩ : ByteArray)) ++ t178).size + 1 ≤ 9223372036854775807 then ((dailiesref18_count.f a0).bind fun t179 => (if t179 = 0 then (none) else ((dailiesref18_two.f (wrap64 (Int.tdiv bt174.2.1 t179))).bind fun t180 => (if (((t177 ++ (⟨#[58]⟩ : ByteArray)) ++ t178) ++ (⟨#[58]⟩ : ByteArray)).size + t180.size ≤ 9223372036854775807 then ((dailiesref18_behind.f a0).bind fun t181 => (if ((((t177 ++ (⟨#[58]⟩ : ByteArray)) ++ t178) ++ (⟨#[58]⟩ : ByteArray)) ++ t180).size + t181.size ≤ 9223372036854775807 then ((dailiesref18_count.f a0).bind fun t182 => (if t182 = 0 then (none) else ((dailiesref18_two.f (Int.tmod bt174.2.1 t182)).bind fun t183 => (if (((((t177 ++ (⟨#[58]⟩ : ByteArray)) ++ t178) ++ (⟨#[58]⟩ : ByteArray)) ++ t180) ++ t181).size + t183.size ≤ 9223372036854775807 then (some ((((((t177 ++ (⟨#[58]⟩ : ByteArray)) ++ t178) ++ (⟨#[58]⟩ : ByteArray)) ++ t180) ++ t181) ++ t183, 0)) else (none))))) else (none))) else (none))))) else (none)) else (none))) else (none)))) else (some ((⟨#[]⟩ : ByteArray), t173)))
theorem dailiesref18_Name.mono : ∀ a0 a1 k, LeO (dailiesref18_Name.f k a0 a1) (dailiesref18_Name.f (k + 1) a0 a1) := by
  intro a0 a1 k
  unfold dailiesref18_Name.f
  repeat' first
      | (with_reducible exact dailiesref18_asked.mono _ _ _)
      | (with_reducible exact dailiesref18_placed.mono _ _ _)
      | (with_reducible exact LeO.refl _)
      | (with_reducible exact LeO.none _)
      | (with_reducible refine LeO.ite ?_ ?_)
      | (with_reducible refine LeO.bind ?_ (fun _ => ?_))
      | exact dailiesref18_asked.mono _ _ _
      | exact dailiesref18_placed.mono _ _ _
      | exact LeO.none _
      | refine LeO.ite ?_ ?_
      | refine LeO.bind ?_ (fun _ => ?_)
set_option maxHeartbeats 8000000 in
set_option maxRecDepth 100000 in
theorem dailiesref18_Name.calls (k : Nat) (a0 : Int) (a1 : Int) (r1 : ByteArray) (r2 : Int) (w : World) (h : dailiesref18_Name.f k a0 a1 = some (r1, r2)) :
    Calls Tryd.prog 17 #[.int .i64 a0, .int .i64 a1] w fun e w' => e = .returned (.tuple #[.string r1, .int .i64 r2]) ∧ Below w.heap.size w w' := by
  have HB := Aside0.mk (Below.refl w.heap.size w)
  have H : ((dailiesref18_asked.f k a0 a1).bind fun t173 => (if t173 = 0 then ((dailiesref18_placed.f k a0 a1).bind fun bt174 => ((dailiesref18_two.f (wrap64 (Int.tdiv bt174.1 60))).bind fun t177 => (if t177.size + 1 ≤ 9223372036854775807 then ((dailiesref18_two.f (Int.tmod bt174.1 60)).bind fun t178 => (if (t177 ++ (⟨#[58]⟩ : ByteArray)).size + t178.size ≤ 9223372036854775807 then (if ((t177 ++ (⟨#[58]⟩ : ByteArray)) ++ t178).size + 1 ≤ 9223372036854775807 then ((dailiesref18_count.f a0).bind fun t179 => (if t179 = 0 then (none) else ((dailiesref18_two.f (wrap64 (Int.tdiv bt174.2.1 t179))).bind fun t180 => (if (((t177 ++ (⟨#[58]⟩ : ByteArray)) ++ t178) ++ (⟨#[58]⟩ : ByteArray)).size + t180.size ≤ 9223372036854775807 then ((dailiesref18_behind.f a0).bind fun t181 => (if ((((t177 ++ (⟨#[58]⟩ : ByteArray)) ++ t178) ++ (⟨#[58]⟩ : ByteArray)) ++ t180).size + t181.size ≤ 9223372036854775807 then ((dailiesref18_count.f a0).bind fun t182 => (if t182 = 0 then (none) else ((dailiesref18_two.f (Int.tmod bt174.2.1 t182)).bind fun t183 => (if (((((t177 ++ (⟨#[58]⟩ : ByteArray)) ++ t178) ++ (⟨#[58]⟩ : ByteArray)) ++ t180) ++ t181).size + t183.size ≤ 9223372036854775807 then (some ((((((t177 ++ (⟨#[58]⟩ : ByteArray)) ++ t178) ++ (⟨#[58]⟩ : ByteArray)) ++ t180) ++ t181) ++ t183, 0)) else (none))))) else (none))) else (none))))) else (none)) else (none))) else (none)))) else (some ((⟨#[]⟩ : ByteArray), t173)))) = some (r1, r2) := h
  clear h
  replace H := Option.bind_eq_some_iff.mp H
  obtain ⟨t173, A30, H⟩ := H
  replace H : (if t173 = 0 then ((dailiesref18_placed.f k a0 a1).bind fun bt174 => ((dailiesref18_two.f (wrap64 (Int.tdiv bt174.1 60))).bind fun t177 => (if t177.size + 1 ≤ 9223372036854775807 then ((dailiesref18_two.f (Int.tmod bt174.1 60)).bind fun t178 => (if (t177 ++ (⟨#[58]⟩ : ByteArray)).size + t178.size ≤ 9223372036854775807 then (if ((t177 ++ (⟨#[58]⟩ : ByteArray)) ++ t178).size + 1 ≤ 9223372036854775807 then ((dailiesref18_count.f a0).bind fun t179 => (if t179 = 0 then (none) else ((dailiesref18_two.f (wrap64 (Int.tdiv bt174.2.1 t179))).bind fun t180 => (if (((t177 ++ (⟨#[58]⟩ : ByteArray)) ++ t178) ++ (⟨#[58]⟩ : ByteArray)).size + t180.size ≤ 9223372036854775807 then ((dailiesref18_behind.f a0).bind fun t181 => (if ((((t177 ++ (⟨#[58]⟩ : ByteArray)) ++ t178) ++ (⟨#[58]⟩ : ByteArray)) ++ t180).size + t181.size ≤ 9223372036854775807 then ((dailiesref18_count.f a0).bind fun t182 => (if t182 = 0 then (none) else ((dailiesref18_two.f (Int.tmod bt174.2.1 t182)).bind fun t183 => (if (((((t177 ++ (⟨#[58]⟩ : ByteArray)) ++ t178) ++ (⟨#[58]⟩ : ByteArray)) ++ t180) ++ t181).size + t183.size ≤ 9223372036854775807 then (some ((((((t177 ++ (⟨#[58]⟩ : ByteArray)) ++ t178) ++ (⟨#[58]⟩ : ByteArray)) ++ t180) ++ t181) ++ t183, 0)) else (none))))) else (none))) else (none))))) else (none)) else (none))) else (none)))) else (some ((⟨#[]⟩ : ByteArray), t173))) = some (r1, r2) := H
  have A3 := Aside0.mk A30
  clear A30
  by_cases c4 : t173 = 0
  · rw [if_pos c4] at H
    have c4b0 : (t173 == 0) = true := beq_iff_eq.mpr c4
    have c4b1 : (t173 != 0) = false := bne_eq_false_iff_eq.mpr c4
    clear c4
    replace H := Option.bind_eq_some_iff.mp H
    obtain ⟨⟨t174, t175, t176⟩, A50, H⟩ := H
    replace H : ((dailiesref18_two.f (wrap64 (Int.tdiv t174 60))).bind fun t177 => (if t177.size + 1 ≤ 9223372036854775807 then ((dailiesref18_two.f (Int.tmod t174 60)).bind fun t178 => (if (t177 ++ (⟨#[58]⟩ : ByteArray)).size + t178.size ≤ 9223372036854775807 then (if ((t177 ++ (⟨#[58]⟩ : ByteArray)) ++ t178).size + 1 ≤ 9223372036854775807 then ((dailiesref18_count.f a0).bind fun t179 => (if t179 = 0 then (none) else ((dailiesref18_two.f (wrap64 (Int.tdiv t175 t179))).bind fun t180 => (if (((t177 ++ (⟨#[58]⟩ : ByteArray)) ++ t178) ++ (⟨#[58]⟩ : ByteArray)).size + t180.size ≤ 9223372036854775807 then ((dailiesref18_behind.f a0).bind fun t181 => (if ((((t177 ++ (⟨#[58]⟩ : ByteArray)) ++ t178) ++ (⟨#[58]⟩ : ByteArray)) ++ t180).size + t181.size ≤ 9223372036854775807 then ((dailiesref18_count.f a0).bind fun t182 => (if t182 = 0 then (none) else ((dailiesref18_two.f (Int.tmod t175 t182)).bind fun t183 => (if (((((t177 ++ (⟨#[58]⟩ : ByteArray)) ++ t178) ++ (⟨#[58]⟩ : ByteArray)) ++ t180) ++ t181).size + t183.size ≤ 9223372036854775807 then (some ((((((t177 ++ (⟨#[58]⟩ : ByteArray)) ++ t178) ++ (⟨#[58]⟩ : ByteArray)) ++ t180) ++ t181) ++ t183, 0)) else (none))))) else (none))) else (none))))) else (none)) else (none))) else (none))) = some (r1, r2) := H
    have A5 := Aside0.mk A50
    clear A50
    replace H := Option.bind_eq_some_iff.mp H
    obtain ⟨t177, A60, H⟩ := H
    replace H : (if t177.size + 1 ≤ 9223372036854775807 then ((dailiesref18_two.f (Int.tmod t174 60)).bind fun t178 => (if (t177 ++ (⟨#[58]⟩ : ByteArray)).size + t178.size ≤ 9223372036854775807 then (if ((t177 ++ (⟨#[58]⟩ : ByteArray)) ++ t178).size + 1 ≤ 9223372036854775807 then ((dailiesref18_count.f a0).bind fun t179 => (if t179 = 0 then (none) else ((dailiesref18_two.f (wrap64 (Int.tdiv t175 t179))).bind fun t180 => (if (((t177 ++ (⟨#[58]⟩ : ByteArray)) ++ t178) ++ (⟨#[58]⟩ : ByteArray)).size + t180.size ≤ 9223372036854775807 then ((dailiesref18_behind.f a0).bind fun t181 => (if ((((t177 ++ (⟨#[58]⟩ : ByteArray)) ++ t178) ++ (⟨#[58]⟩ : ByteArray)) ++ t180).size + t181.size ≤ 9223372036854775807 then ((dailiesref18_count.f a0).bind fun t182 => (if t182 = 0 then (none) else ((dailiesref18_two.f (Int.tmod t175 t182)).bind fun t183 => (if (((((t177 ++ (⟨#[58]⟩ : ByteArray)) ++ t178) ++ (⟨#[58]⟩ : ByteArray)) ++ t180) ++ t181).size + t183.size ≤ 9223372036854775807 then (some ((((((t177 ++ (⟨#[58]⟩ : ByteArray)) ++ t178) ++ (⟨#[58]⟩ : ByteArray)) ++ t180) ++ t181) ++ t183, 0)) else (none))))) else (none))) else (none))))) else (none)) else (none))) else (none)) = some (r1, r2) := H
    have A6 := Aside0.mk A60
    clear A60
    by_cases c7 : t177.size + 1 ≤ 9223372036854775807
    · rw [if_pos c7] at H
      have c7b0 := eq_true c7
      have c7b1 : decide (t177.size + 1 ≤ 9223372036854775807) = true := decide_eq_true c7
      try have c7b2 : (9223372036854775807 < t177.size + 1) = False := eq_false (Nat.not_lt.2 c7)
      (try (have c7b3 := c7b2; simp only [ByteArray.size_append, show (⟨#[58]⟩ : ByteArray).size = 1 from rfl] at c7b3))
      replace H := Option.bind_eq_some_iff.mp H
      obtain ⟨t178, A80, H⟩ := H
      replace H : (if (t177 ++ (⟨#[58]⟩ : ByteArray)).size + t178.size ≤ 9223372036854775807 then (if ((t177 ++ (⟨#[58]⟩ : ByteArray)) ++ t178).size + 1 ≤ 9223372036854775807 then ((dailiesref18_count.f a0).bind fun t179 => (if t179 = 0 then (none) else ((dailiesref18_two.f (wrap64 (Int.tdiv t175 t179))).bind fun t180 => (if (((t177 ++ (⟨#[58]⟩ : ByteArray)) ++ t178) ++ (⟨#[58]⟩ : ByteArray)).size + t180.size ≤ 9223372036854775807 then ((dailiesref18_behind.f a0).bind fun t181 => (if ((((t177 ++ (⟨#[58]⟩ : ByteArray)) ++ t178) ++ (⟨#[58]⟩ : ByteArray)) ++ t180).size + t181.size ≤ 9223372036854775807 then ((dailiesref18_count.f a0).bind fun t182 => (if t182 = 0 then (none) else ((dailiesref18_two.f (Int.tmod t175 t182)).bind fun t183 => (if (((((t177 ++ (⟨#[58]⟩ : ByteArray)) ++ t178) ++ (⟨#[58]⟩ : ByteArray)) ++ t180) ++ t181).size + t183.size ≤ 9223372036854775807 then (some ((((((t177 ++ (⟨#[58]⟩ : ByteArray)) ++ t178) ++ (⟨#[58]⟩ : ByteArray)) ++ t180) ++ t181) ++ t183, 0)) else (none))))) else (none))) else (none))))) else (none)) else (none)) = some (r1, r2) := H
      have A8 := Aside0.mk A80
      clear A80
      by_cases c9 : (t177 ++ (⟨#[58]⟩ : ByteArray)).size + t178.size ≤ 9223372036854775807
      · rw [if_pos c9] at H
        have c9b0 := eq_true c9
        have c9b1 : decide ((t177 ++ (⟨#[58]⟩ : ByteArray)).size + t178.size ≤ 9223372036854775807) = true := decide_eq_true c9
        try have c9b2 : (9223372036854775807 < (t177 ++ (⟨#[58]⟩ : ByteArray)).size + t178.size) = False := eq_false (Nat.not_lt.2 c9)
        (try (have c9b3 := c9b2; simp only [ByteArray.size_append, show (⟨#[58]⟩ : ByteArray).size = 1 from rfl] at c9b3))
        by_cases c10 : ((t177 ++ (⟨#[58]⟩ : ByteArray)) ++ t178).size + 1 ≤ 9223372036854775807
        · rw [if_pos c10] at H
          have c10b0 := eq_true c10
          have c10b1 : decide (((t177 ++ (⟨#[58]⟩ : ByteArray)) ++ t178).size + 1 ≤ 9223372036854775807) = true := decide_eq_true c10
          try have c10b2 : (9223372036854775807 < ((t177 ++ (⟨#[58]⟩ : ByteArray)) ++ t178).size + 1) = False := eq_false (Nat.not_lt.2 c10)
          (try (have c10b3 := c10b2; simp only [ByteArray.size_append, show (⟨#[58]⟩ : ByteArray).size = 1 from rfl] at c10b3))
          replace H := Option.bind_eq_some_iff.mp H
          obtain ⟨t179, A110, H⟩ := H
          replace H : (if t179 = 0 then (none) else ((dailiesref18_two.f (wrap64 (Int.tdiv t175 t179))).bind fun t180 => (if (((t177 ++ (⟨#[58]⟩ : ByteArray)) ++ t178) ++ (⟨#[58]⟩ : ByteArray)).size + t180.size ≤ 9223372036854775807 then ((dailiesref18_behind.f a0).bind fun t181 => (if ((((t177 ++ (⟨#[58]⟩ : ByteArray)) ++ t178) ++ (⟨#[58]⟩ : ByteArray)) ++ t180).size + t181.size ≤ 9223372036854775807 then ((dailiesref18_count.f a0).bind fun t182 => (if t182 = 0 then (none) else ((dailiesref18_two.f (Int.tmod t175 t182)).bind fun t183 => (if (((((t177 ++ (⟨#[58]⟩ : ByteArray)) ++ t178) ++ (⟨#[58]⟩ : ByteArray)) ++ t180) ++ t181).size + t183.size ≤ 9223372036854775807 then (some ((((((t177 ++ (⟨#[58]⟩ : ByteArray)) ++ t178) ++ (⟨#[58]⟩ : ByteArray)) ++ t180) ++ t181) ++ t183, 0)) else (none))))) else (none))) else (none)))) = some (r1, r2) := H
          have A11 := Aside0.mk A110
          clear A110
          by_cases c12 : t179 = 0
          · rw [if_pos c12] at H
            exact absurd H (by simp)
          · rw [if_neg c12] at H
            have c12b0 : (t179 == 0) = false := beq_eq_false_iff_ne.mpr c12
            have c12b1 : (t179 != 0) = true := bne_iff_ne.mpr c12
            replace H := Option.bind_eq_some_iff.mp H
            obtain ⟨t180, A130, H⟩ := H
            replace H : (if (((t177 ++ (⟨#[58]⟩ : ByteArray)) ++ t178) ++ (⟨#[58]⟩ : ByteArray)).size + t180.size ≤ 9223372036854775807 then ((dailiesref18_behind.f a0).bind fun t181 => (if ((((t177 ++ (⟨#[58]⟩ : ByteArray)) ++ t178) ++ (⟨#[58]⟩ : ByteArray)) ++ t180).size + t181.size ≤ 9223372036854775807 then ((dailiesref18_count.f a0).bind fun t182 => (if t182 = 0 then (none) else ((dailiesref18_two.f (Int.tmod t175 t182)).bind fun t183 => (if (((((t177 ++ (⟨#[58]⟩ : ByteArray)) ++ t178) ++ (⟨#[58]⟩ : ByteArray)) ++ t180) ++ t181).size + t183.size ≤ 9223372036854775807 then (some ((((((t177 ++ (⟨#[58]⟩ : ByteArray)) ++ t178) ++ (⟨#[58]⟩ : ByteArray)) ++ t180) ++ t181) ++ t183, 0)) else (none))))) else (none))) else (none)) = some (r1, r2) := H
            have A13 := Aside0.mk A130
            clear A130
            by_cases c14 : (((t177 ++ (⟨#[58]⟩ : ByteArray)) ++ t178) ++ (⟨#[58]⟩ : ByteArray)).size + t180.size ≤ 9223372036854775807
            · rw [if_pos c14] at H
              have c14b0 := eq_true c14
              have c14b1 : decide ((((t177 ++ (⟨#[58]⟩ : ByteArray)) ++ t178) ++ (⟨#[58]⟩ : ByteArray)).size + t180.size ≤ 9223372036854775807) = true := decide_eq_true c14
              try have c14b2 : (9223372036854775807 < (((t177 ++ (⟨#[58]⟩ : ByteArray)) ++ t178) ++ (⟨#[58]⟩ : ByteArray)).size + t180.size) = False := eq_false (Nat.not_lt.2 c14)
              (try (have c14b3 := c14b2; simp only [ByteArray.size_append, show (⟨#[58]⟩ : ByteArray).size = 1 from rfl] at c14b3))
              replace H := Option.bind_eq_some_iff.mp H
              obtain ⟨t181, A150, H⟩ := H
              replace H : (if ((((t177 ++ (⟨#[58]⟩ : ByteArray)) ++ t178) ++ (⟨#[58]⟩ : ByteArray)) ++ t180).size + t181.size ≤ 9223372036854775807 then ((dailiesref18_count.f a0).bind fun t182 => (if t182 = 0 then (none) else ((dailiesref18_two.f (Int.tmod t175 t182)).bind fun t183 => (if (((((t177 ++ (⟨#[58]⟩ : ByteArray)) ++ t178) ++ (⟨#[58]⟩ : ByteArray)) ++ t180) ++ t181).size + t183.size ≤ 9223372036854775807 then (some ((((((t177 ++ (⟨#[58]⟩ : ByteArray)) ++ t178) ++ (⟨#[58]⟩ : ByteArray)) ++ t180) ++ t181) ++ t183, 0)) else (none))))) else (none)) = some (r1, r2) := H
              have A15 := Aside0.mk A150
              clear A150
              by_cases c16 : ((((t177 ++ (⟨#[58]⟩ : ByteArray)) ++ t178) ++ (⟨#[58]⟩ : ByteArray)) ++ t180).size + t181.size ≤ 9223372036854775807
              · rw [if_pos c16] at H
                have c16b0 := eq_true c16
                have c16b1 : decide (((((t177 ++ (⟨#[58]⟩ : ByteArray)) ++ t178) ++ (⟨#[58]⟩ : ByteArray)) ++ t180).size + t181.size ≤ 9223372036854775807) = true := decide_eq_true c16
                try have c16b2 : (9223372036854775807 < ((((t177 ++ (⟨#[58]⟩ : ByteArray)) ++ t178) ++ (⟨#[58]⟩ : ByteArray)) ++ t180).size + t181.size) = False := eq_false (Nat.not_lt.2 c16)
                (try (have c16b3 := c16b2; simp only [ByteArray.size_append, show (⟨#[58]⟩ : ByteArray).size = 1 from rfl] at c16b3))
                replace H := Option.bind_eq_some_iff.mp H
                obtain ⟨t182, A170, H⟩ := H
                replace H : (if t182 = 0 then (none) else ((dailiesref18_two.f (Int.tmod t175 t182)).bind fun t183 => (if (((((t177 ++ (⟨#[58]⟩ : ByteArray)) ++ t178) ++ (⟨#[58]⟩ : ByteArray)) ++ t180) ++ t181).size + t183.size ≤ 9223372036854775807 then (some ((((((t177 ++ (⟨#[58]⟩ : ByteArray)) ++ t178) ++ (⟨#[58]⟩ : ByteArray)) ++ t180) ++ t181) ++ t183, 0)) else (none)))) = some (r1, r2) := H
                have A17 := Aside0.mk A170
                clear A170
                by_cases c18 : t182 = 0
                · rw [if_pos c18] at H
                  exact absurd H (by simp)
                · rw [if_neg c18] at H
                  have c18b0 : (t182 == 0) = false := beq_eq_false_iff_ne.mpr c18
                  have c18b1 : (t182 != 0) = true := bne_iff_ne.mpr c18
                  replace H := Option.bind_eq_some_iff.mp H
                  obtain ⟨t183, A190, H⟩ := H
                  replace H : (if (((((t177 ++ (⟨#[58]⟩ : ByteArray)) ++ t178) ++ (⟨#[58]⟩ : ByteArray)) ++ t180) ++ t181).size + t183.size ≤ 9223372036854775807 then (some ((((((t177 ++ (⟨#[58]⟩ : ByteArray)) ++ t178) ++ (⟨#[58]⟩ : ByteArray)) ++ t180) ++ t181) ++ t183, 0)) else (none)) = some (r1, r2) := H
                  have A19 := Aside0.mk A190
                  clear A190
                  by_cases c20 : (((((t177 ++ (⟨#[58]⟩ : ByteArray)) ++ t178) ++ (⟨#[58]⟩ : ByteArray)) ++ t180) ++ t181).size + t183.size ≤ 9223372036854775807
                  · rw [if_pos c20] at H
                    have c20b0 := eq_true c20
                    have c20b1 : decide ((((((t177 ++ (⟨#[58]⟩ : ByteArray)) ++ t178) ++ (⟨#[58]⟩ : ByteArray)) ++ t180) ++ t181).size + t183.size ≤ 9223372036854775807) = true := decide_eq_true c20
                    try have c20b2 : (9223372036854775807 < (((((t177 ++ (⟨#[58]⟩ : ByteArray)) ++ t178) ++ (⟨#[58]⟩ : ByteArray)) ++ t180) ++ t181).size + t183.size) = False := eq_false (Nat.not_lt.2 c20)
                    (try (have c20b3 := c20b2; simp only [ByteArray.size_append, show (⟨#[58]⟩ : ByteArray).size = 1 from rfl] at c20b3))
                    simp only [Option.some.injEq, Prod.mk.injEq] at H
                    obtain ⟨rfl, rfl⟩ := H
                    go_enter Tryd.func17, Tryd.ntmps17
                    go_wp2_with (first | ((with_reducible refine gate_callee (f := 33) rfl ?_); refine goesL_ (some 12) rfl rfl Tryd.func33 (by kernel_rfl) rfl #[.int .i64 a0, .int .i64 a1] rfl (by (try simp only [List.map_toArray, List.map_cons, List.map_nil]); first | done | rfl | (simp only [List.length_drop, List.length_take]; rfl)) ?_; (with_reducible refine (dailiesref18_asked.calls k a0 a1 t173 _ A3.out).mono ?_); rintro e w' ⟨rfl, ⟨nd, rfl⟩⟩; refine ⟨_, rfl, ?_⟩) | ((with_reducible refine gate_callee (f := 37) rfl ?_); refine goesL_ (some 19) rfl rfl Tryd.func37 (by kernel_rfl) rfl #[.int .i64 a0, .int .i64 a1] rfl (by (try simp only [List.map_toArray, List.map_cons, List.map_nil]); first | done | rfl | (simp only [List.length_drop, List.length_take]; rfl)) ?_; (with_reducible refine (dailiesref18_placed.calls k a0 a1 t174 t175 t176 _ A5.out).mono ?_); rintro e w' ⟨rfl, ⟨nd, rfl⟩⟩; refine ⟨_, rfl, ?_⟩) | ((with_reducible refine gate_callee (f := 38) rfl ?_); refine goesL_ (some 25) rfl rfl Tryd.func38 (by kernel_rfl) rfl #[.int .i64 (wrap64 (Int.tdiv t174 60))] rfl (by (try simp only [List.map_toArray, List.map_cons, List.map_nil]); first | done | rfl | (simp only [List.length_drop, List.length_take]; rfl)) ?_; (with_reducible refine (dailiesref18_two.calls (wrap64 (Int.tdiv t174 60)) t177 _ A6.out).mono ?_); rintro e w21 ⟨rfl, hb⟩; refine ⟨_, rfl, ?_⟩; have n0_ := Aside0.mk (below_step (by repeat (first | (with_reducible first | exact HB.out | apply below_alloc | apply pw_below_drewN | apply below_drew1) | exact HB.out)) hb); clear HB; have HB := n0_; clear n0_; (try clear hb); (try clear hb2); (try clear hk); (try clear hi)) | ((with_reducible refine gate_callee (f := 38) rfl ?_); refine goesL_ (some 29) rfl rfl Tryd.func38 (by kernel_rfl) rfl #[.int .i64 (Int.tmod t174 60)] rfl (by (try simp only [List.map_toArray, List.map_cons, List.map_nil]); first | done | rfl | (simp only [List.length_drop, List.length_take]; rfl)) ?_; (with_reducible refine (dailiesref18_two.calls (Int.tmod t174 60) t178 _ A8.out).mono ?_); rintro e w22 ⟨rfl, hb⟩; refine ⟨_, rfl, ?_⟩; have n0_ := Aside0.mk (below_step (by repeat (first | (with_reducible first | exact HB.out | apply below_alloc | apply pw_below_drewN | apply below_drew1) | exact HB.out)) hb); clear HB; have HB := n0_; clear n0_; (try clear hb); (try clear hb2); (try clear hk); (try clear hi)) | ((with_reducible refine gate_callee (f := 35) rfl ?_); refine goesL_ (some 34) rfl rfl Tryd.func35 (by kernel_rfl) rfl #[.int .i64 a0] rfl (by (try simp only [List.map_toArray, List.map_cons, List.map_nil]); first | done | rfl | (simp only [List.length_drop, List.length_take]; rfl)) ?_; (with_reducible refine (dailiesref18_count.calls a0 t179 _ A11.out).mono ?_); rintro e w' ⟨rfl, ⟨nd, rfl⟩⟩; refine ⟨_, rfl, ?_⟩) | ((with_reducible refine gate_callee (f := 38) rfl ?_); refine goesL_ (some 36) rfl rfl Tryd.func38 (by kernel_rfl) rfl #[.int .i64 (wrap64 (Int.tdiv t175 t179))] rfl (by (try simp only [List.map_toArray, List.map_cons, List.map_nil]); first | done | rfl | (simp only [List.length_drop, List.length_take]; rfl)) ?_; (with_reducible refine (dailiesref18_two.calls (wrap64 (Int.tdiv t175 t179)) t180 _ A13.out).mono ?_); rintro e w23 ⟨rfl, hb⟩; refine ⟨_, rfl, ?_⟩; have n0_ := Aside0.mk (below_step (by repeat (first | (with_reducible first | exact HB.out | apply below_alloc | apply pw_below_drewN | apply below_drew1) | exact HB.out)) hb); clear HB; have HB := n0_; clear n0_; (try clear hb); (try clear hb2); (try clear hk); (try clear hi)) | ((with_reducible refine gate_callee (f := 39) rfl ?_); refine goesL_ (some 39) rfl rfl Tryd.func39 (by kernel_rfl) rfl #[.int .i64 a0] rfl (by (try simp only [List.map_toArray, List.map_cons, List.map_nil]); first | done | rfl | (simp only [List.length_drop, List.length_take]; rfl)) ?_; (with_reducible refine (dailiesref18_behind.calls a0 t181 _ A15.out).mono ?_); rintro e w' ⟨rfl, ⟨nd, rfl⟩⟩; refine ⟨_, rfl, ?_⟩) | ((with_reducible refine gate_callee (f := 35) rfl ?_); refine goesL_ (some 43) rfl rfl Tryd.func35 (by kernel_rfl) rfl #[.int .i64 a0] rfl (by (try simp only [List.map_toArray, List.map_cons, List.map_nil]); first | done | rfl | (simp only [List.length_drop, List.length_take]; rfl)) ?_; (with_reducible refine (dailiesref18_count.calls a0 t182 _ A17.out).mono ?_); rintro e w' ⟨rfl, ⟨nd, rfl⟩⟩; refine ⟨_, rfl, ?_⟩) | ((with_reducible refine gate_callee (f := 38) rfl ?_); refine goesL_ (some 45) rfl rfl Tryd.func38 (by kernel_rfl) rfl #[.int .i64 (Int.tmod t175 t182)] rfl (by (try simp only [List.map_toArray, List.map_cons, List.map_nil]); first | done | rfl | (simp only [List.length_drop, List.length_take]; rfl)) ?_; (with_reducible refine (dailiesref18_two.calls (Int.tmod t175 t182) t183 _ A19.out).mono ?_); rintro e w24 ⟨rfl, hb⟩; refine ⟨_, rfl, ?_⟩; have n0_ := Aside0.mk (below_step (by repeat (first | (with_reducible first | exact HB.out | apply below_alloc | apply pw_below_drewN | apply below_drew1) | exact HB.out)) hb); clear HB; have HB := n0_; clear n0_; (try clear hb); (try clear hb2); (try clear hk); (try clear hi)))
                    go_ret2
                    exact ⟨by first | rfl | (simp [errW_none, errW_some] <;> rfl) | (simp [*, errW_none, errW_some] <;> rfl), by repeat (first | (with_reducible first | exact HB.out | apply below_alloc | apply pw_below_drewN | apply below_drew1) | exact HB.out)⟩
                  · rw [if_neg c20] at H
                    exact absurd H (by simp)
              · rw [if_neg c16] at H
                exact absurd H (by simp)
            · rw [if_neg c14] at H
              exact absurd H (by simp)
        · rw [if_neg c10] at H
          exact absurd H (by simp)
      · rw [if_neg c9] at H
        exact absurd H (by simp)
    · rw [if_neg c7] at H
      exact absurd H (by simp)
  · rw [if_neg c4] at H
    have c4b0 : (t173 == 0) = false := beq_eq_false_iff_ne.mpr c4
    have c4b1 : (t173 != 0) = true := bne_iff_ne.mpr c4
    simp only [Option.some.injEq, Prod.mk.injEq] at H
    obtain ⟨rfl, rfl⟩ := H
    go_enter Tryd.func17, Tryd.ntmps17
    go_wp2_with (first | ((with_reducible refine gate_callee (f := 33) rfl ?_); refine goesL_ (some 12) rfl rfl Tryd.func33 (by kernel_rfl) rfl #[.int .i64 a0, .int .i64 a1] rfl (by (try simp only [List.map_toArray, List.map_cons, List.map_nil]); first | done | rfl | (simp only [List.length_drop, List.length_take]; rfl)) ?_; (with_reducible refine (dailiesref18_asked.calls k a0 a1 t173 _ A3.out).mono ?_); rintro e w' ⟨rfl, ⟨nd, rfl⟩⟩; refine ⟨_, rfl, ?_⟩))
    go_ret2
    exact ⟨by first | rfl | (simp [errW_none, errW_some] <;> rfl) | (simp [*, errW_none, errW_some] <;> rfl), by repeat (first | (with_reducible first | exact HB.out | apply below_alloc | apply pw_below_drewN | apply below_drew1) | exact HB.out)⟩

/-! ### timecode_Dropped: function 18 -/
def timecode_Dropped.f (a0 : Int) (a1 : Int) : Option (Int × Int) := (timecode_of.f a0 a1).bind fun bt184 => (if bt184.2.2.2.2 = 0 then ((timecode_rate_dropped.f bt184.1 bt184.2.1 bt184.2.2.1 bt184.2.2.2.1 a1).bind fun t190 => (some (t190, 0))) else (some (0, bt184.2.2.2.2)))
set_option maxHeartbeats 8000000 in
set_option maxRecDepth 100000 in
theorem timecode_Dropped.calls (a0 : Int) (a1 : Int) (r1 : Int) (r2 : Int) (w : World) (hG : Tab.TabAt w) (h : timecode_Dropped.f a0 a1 = some (r1, r2)) :
    Calls Tryd.prog 18 #[.int .i64 a0, .int .i64 a1] w fun e w' => e = .returned (.tuple #[.int .i64 r1, .int .i64 r2]) ∧ Below w.heap.size w w' := by
  have hu54 := Tryd.underlying54
  have HB := Aside0.mk (Below.refl w.heap.size w)
  have H : ((timecode_of.f a0 a1).bind fun bt184 => (if bt184.2.2.2.2 = 0 then ((timecode_rate_dropped.f bt184.1 bt184.2.1 bt184.2.2.1 bt184.2.2.2.1 a1).bind fun t190 => (some (t190, 0))) else (some (0, bt184.2.2.2.2)))) = some (r1, r2) := h
  clear h
  replace H := Option.bind_eq_some_iff.mp H
  obtain ⟨⟨t184, t185, t186, t187, t188⟩, A30, H⟩ := H
  replace H : (if t188 = 0 then ((timecode_rate_dropped.f t184 t185 t186 t187 a1).bind fun t190 => (some (t190, 0))) else (some (0, t188))) = some (r1, r2) := H
  have A3 := Aside0.mk A30
  clear A30
  by_cases c4 : t188 = 0
  · rw [if_pos c4] at H
    have c4b0 : (t188 == 0) = true := beq_iff_eq.mpr c4
    have c4b1 : (t188 != 0) = false := bne_eq_false_iff_eq.mpr c4
    clear c4
    replace H := Option.bind_eq_some_iff.mp H
    obtain ⟨t190, A50, H⟩ := H
    replace H : (some (t190, 0)) = some (r1, r2) := H
    have A5 := Aside0.mk A50
    clear A50
    simp only [Option.some.injEq, Prod.mk.injEq] at H
    obtain ⟨rfl, rfl⟩ := H
    go_enter Tryd.func18, Tryd.ntmps18
    go_wp2_with (first | ((with_reducible refine gate_callee (f := 27) rfl ?_); refine goesL_ (some 11) rfl rfl Tryd.func27 (by kernel_rfl) rfl #[.int .i64 a0, .int .i64 a1] rfl (by (try simp only [List.map_toArray, List.map_cons, List.map_nil]); first | done | rfl | (simp only [List.length_drop, List.length_take]; rfl)) ?_; (with_reducible refine (timecode_of.calls a0 a1 t184 t185 t186 t187 t188 _ (Tab.TabAt.below hG (by repeat (first | (with_reducible first | exact HB.out | apply below_alloc | apply pw_below_drewN | apply below_drew1) | exact HB.out))) A3.out).mono ?_); rintro e w6 ⟨rfl, hb⟩; refine ⟨_, rfl, ?_⟩; have n0_ := Aside0.mk (below_step (by repeat (first | (with_reducible first | exact HB.out | apply below_alloc | apply pw_below_drewN | apply below_drew1) | exact HB.out)) hb); clear HB; have HB := n0_; clear n0_; (try clear hb); (try clear hb2); (try clear hk); (try clear hi)) | ((with_reducible refine gate_dst (N := 6) rfl ?_); refine box_event ?hg (N := 6) ?hd (cs := #[.int .i64 0, .int .i64 0, .int .i64 0, .int .i64 0]) (t := 54) ?hr ?_; (case hd => rfl); (case hg => rfl); (case hr => first | (go_simp; done) | (go_simp; rfl)); intro gb189 hg w7 hbox hb; have n0_ := Aside0.mk (below_step (by repeat (first | (with_reducible first | exact HB.out | apply below_alloc | apply pw_below_drewN | apply below_drew1) | exact HB.out)) hb); have n1_ := Aside0.mk (hbox); have n2_ := Aside0.mk ((by rw [hg]; exact (below_size (by repeat (first | (with_reducible first | exact HB.out | apply below_alloc | apply pw_below_drewN | apply below_drew1) | exact HB.out))) : w.heap.size ≤ gb189)); have n3_ := Aside0.mk ((by rw [hg]; exact (below_size (by repeat (first | (with_reducible first | exact HB.out | apply below_alloc | apply pw_below_drewN | apply below_drew1) | exact HB.out))) : w.heap.size ≤ gb189)); clear HB; have HB := n0_; have BK189 := n1_; have GW189 := n2_; have GE189 := n3_; clear n0_ n1_ n2_ n3_; clear hb hbox hg; have hcz8_0 : w7.cell? ⟨gb189, 0, none⟩ = some (.int .i64 0) := (blk_cell BK189.out 0).trans rfl; have hcz8_1 : w7.cell? ⟨gb189, 1, none⟩ = some (.int .i64 0) := (blk_cell BK189.out 1).trans rfl; have hcz8_2 : w7.cell? ⟨gb189, 2, none⟩ = some (.int .i64 0) := (blk_cell BK189.out 2).trans rfl; have hcz8_3 : w7.cell? ⟨gb189, 3, none⟩ = some (.int .i64 0) := (blk_cell BK189.out 3).trans rfl; have hfz8_0 := blk_frozen BK189.out 0; have hfz8_1 := blk_frozen BK189.out 1; have hfz8_2 := blk_frozen BK189.out 2; have hfz8_3 := blk_frozen BK189.out 3) | ((with_reducible refine gate_callee (f := 28) rfl ?_); refine goesL_ (some 19) rfl rfl Tryd.func28 (by kernel_rfl) rfl #[.agg #[.int .i64 t184, .int .i64 t185, .int .i64 t186, .int .i64 t187], .int .i64 a1] rfl (by (try simp only [List.map_toArray, List.map_cons, List.map_nil]); first | done | rfl | (simp only [List.length_drop, List.length_take]; rfl)) ?_; (with_reducible refine (timecode_rate_dropped.calls t184 t185 t186 t187 a1 t190 _ A5.out).mono ?_); rintro e w9 ⟨rfl, hb⟩; refine ⟨_, rfl, ?_⟩; have n0_ := Aside0.mk (blk_below (g := gb189) (o := .cells #[.int .i64 t184, .int .i64 t185, .int .i64 t186, .int .i64 t187] 54 (0, 0)) (by (with_reducible repeat (first | refine blk_drewN ?_ _ | refine blk_drew ?_ | refine blk_alloc ?_ _)); refine blk_put (cs := #[.int .i64 t184, .int .i64 t185, .int .i64 t186, .int .i64 0]) ?_ 3 _ rfl; (with_reducible repeat (first | refine blk_drewN ?_ _ | refine blk_drew ?_ | refine blk_alloc ?_ _)); refine blk_put (cs := #[.int .i64 t184, .int .i64 t185, .int .i64 0, .int .i64 0]) ?_ 2 _ rfl; (with_reducible repeat (first | refine blk_drewN ?_ _ | refine blk_drew ?_ | refine blk_alloc ?_ _)); refine blk_put (cs := #[.int .i64 t184, .int .i64 0, .int .i64 0, .int .i64 0]) ?_ 1 _ rfl; (with_reducible repeat (first | refine blk_drewN ?_ _ | refine blk_drew ?_ | refine blk_alloc ?_ _)); refine blk_put (cs := #[.int .i64 0, .int .i64 0, .int .i64 0, .int .i64 0]) ?_ 0 _ rfl; (with_reducible repeat (first | refine blk_drewN ?_ _ | refine blk_drew ?_ | refine blk_alloc ?_ _)); exact BK189.out) hb); have n1_ := Aside0.mk (below_step (by repeat (first | (with_reducible first | exact HB.out | apply below_alloc | apply pw_below_drewN | apply below_drew1 | refine below_set ?_ GE189.out) | exact HB.out)) hb); clear BK189; clear HB; have BK189 := n0_; have HB := n1_; clear n0_ n1_; (try clear hb); (try clear hb2); (try clear hk); (try clear hi)))
    go_ret2
    exact ⟨by first | rfl | (simp [errW_none, errW_some] <;> rfl) | (simp [*, errW_none, errW_some] <;> rfl), by repeat (first | (with_reducible first | exact HB.out | apply below_alloc | apply pw_below_drewN | apply below_drew1 | refine below_set ?_ GE189.out) | exact HB.out)⟩
  · rw [if_neg c4] at H
    have c4b0 : (t188 == 0) = false := beq_eq_false_iff_ne.mpr c4
    have c4b1 : (t188 != 0) = true := bne_iff_ne.mpr c4
    simp only [Option.some.injEq, Prod.mk.injEq] at H
    obtain ⟨rfl, rfl⟩ := H
    go_enter Tryd.func18, Tryd.ntmps18
    go_wp2_with (first | ((with_reducible refine gate_callee (f := 27) rfl ?_); refine goesL_ (some 11) rfl rfl Tryd.func27 (by kernel_rfl) rfl #[.int .i64 a0, .int .i64 a1] rfl (by (try simp only [List.map_toArray, List.map_cons, List.map_nil]); first | done | rfl | (simp only [List.length_drop, List.length_take]; rfl)) ?_; (with_reducible refine (timecode_of.calls a0 a1 t184 t185 t186 t187 t188 _ (Tab.TabAt.below hG (by repeat (first | (with_reducible first | exact HB.out | apply below_alloc | apply pw_below_drewN | apply below_drew1) | exact HB.out))) A3.out).mono ?_); rintro e w10 ⟨rfl, hb⟩; refine ⟨_, rfl, ?_⟩; have n0_ := Aside0.mk (below_step (by repeat (first | (with_reducible first | exact HB.out | apply below_alloc | apply pw_below_drewN | apply below_drew1) | exact HB.out)) hb); clear HB; have HB := n0_; clear n0_; (try clear hb); (try clear hb2); (try clear hk); (try clear hi)) | ((with_reducible refine gate_dst (N := 6) rfl ?_); refine box_event ?hg (N := 6) ?hd (cs := #[.int .i64 0, .int .i64 0, .int .i64 0, .int .i64 0]) (t := 54) ?hr ?_; (case hd => rfl); (case hg => rfl); (case hr => first | (go_simp; done) | (go_simp; rfl)); intro gb189 hg w11 hbox hb; have n0_ := Aside0.mk (below_step (by repeat (first | (with_reducible first | exact HB.out | apply below_alloc | apply pw_below_drewN | apply below_drew1) | exact HB.out)) hb); have n1_ := Aside0.mk (hbox); have n2_ := Aside0.mk ((by rw [hg]; exact (below_size (by repeat (first | (with_reducible first | exact HB.out | apply below_alloc | apply pw_below_drewN | apply below_drew1) | exact HB.out))) : w.heap.size ≤ gb189)); have n3_ := Aside0.mk ((by rw [hg]; exact (below_size (by repeat (first | (with_reducible first | exact HB.out | apply below_alloc | apply pw_below_drewN | apply below_drew1) | exact HB.out))) : w.heap.size ≤ gb189)); clear HB; have HB := n0_; have BK189 := n1_; have GW189 := n2_; have GE189 := n3_; clear n0_ n1_ n2_ n3_; clear hb hbox hg; have hcz12_0 : w11.cell? ⟨gb189, 0, none⟩ = some (.int .i64 0) := (blk_cell BK189.out 0).trans rfl; have hcz12_1 : w11.cell? ⟨gb189, 1, none⟩ = some (.int .i64 0) := (blk_cell BK189.out 1).trans rfl; have hcz12_2 : w11.cell? ⟨gb189, 2, none⟩ = some (.int .i64 0) := (blk_cell BK189.out 2).trans rfl; have hcz12_3 : w11.cell? ⟨gb189, 3, none⟩ = some (.int .i64 0) := (blk_cell BK189.out 3).trans rfl; have hfz12_0 := blk_frozen BK189.out 0; have hfz12_1 := blk_frozen BK189.out 1; have hfz12_2 := blk_frozen BK189.out 2; have hfz12_3 := blk_frozen BK189.out 3))
    go_ret2
    exact ⟨by first | rfl | (simp [errW_none, errW_some] <;> rfl) | (simp [*, errW_none, errW_some] <;> rfl), by repeat (first | (with_reducible first | exact HB.out | apply below_alloc | apply pw_below_drewN | apply below_drew1 | refine below_set ?_ GE189.out) | exact HB.out)⟩

/-! ### dailiesref18_Dropped: function 19 -/
def dailiesref18_Dropped.f (k : Nat) (a0 : Int) (a1 : Int) : Option (Int × Int) := (dailiesref18_asked.f k a0 a1).bind fun t191 => (if t191 = 0 then ((dailiesref18_placed.f k a0 a1).bind fun bt192 => (some (bt192.2.2, 0))) else (some (0, t191)))
theorem dailiesref18_Dropped.mono : ∀ a0 a1 k, LeO (dailiesref18_Dropped.f k a0 a1) (dailiesref18_Dropped.f (k + 1) a0 a1) := by
  intro a0 a1 k
  unfold dailiesref18_Dropped.f
  repeat' first
      | (with_reducible exact dailiesref18_asked.mono _ _ _)
      | (with_reducible exact dailiesref18_placed.mono _ _ _)
      | (with_reducible exact LeO.refl _)
      | (with_reducible exact LeO.none _)
      | (with_reducible refine LeO.ite ?_ ?_)
      | (with_reducible refine LeO.bind ?_ (fun _ => ?_))
      | exact dailiesref18_asked.mono _ _ _
      | exact dailiesref18_placed.mono _ _ _
      | exact LeO.none _
      | refine LeO.ite ?_ ?_
      | refine LeO.bind ?_ (fun _ => ?_)
set_option maxHeartbeats 8000000 in
set_option maxRecDepth 100000 in
theorem dailiesref18_Dropped.calls (k : Nat) (a0 : Int) (a1 : Int) (r1 : Int) (r2 : Int) (w : World) (h : dailiesref18_Dropped.f k a0 a1 = some (r1, r2)) :
    Calls Tryd.prog 19 #[.int .i64 a0, .int .i64 a1] w fun e w' => e = .returned (.tuple #[.int .i64 r1, .int .i64 r2]) ∧ Drawn0 w w' := by
  have H : ((dailiesref18_asked.f k a0 a1).bind fun t191 => (if t191 = 0 then ((dailiesref18_placed.f k a0 a1).bind fun bt192 => (some (bt192.2.2, 0))) else (some (0, t191)))) = some (r1, r2) := h
  clear h
  replace H := Option.bind_eq_some_iff.mp H
  obtain ⟨t191, A30, H⟩ := H
  replace H : (if t191 = 0 then ((dailiesref18_placed.f k a0 a1).bind fun bt192 => (some (bt192.2.2, 0))) else (some (0, t191))) = some (r1, r2) := H
  have A3 := Aside0.mk A30
  clear A30
  by_cases c4 : t191 = 0
  · rw [if_pos c4] at H
    have c4b0 : (t191 == 0) = true := beq_iff_eq.mpr c4
    have c4b1 : (t191 != 0) = false := bne_eq_false_iff_eq.mpr c4
    clear c4
    replace H := Option.bind_eq_some_iff.mp H
    obtain ⟨⟨t192, t193, t194⟩, A50, H⟩ := H
    replace H : (some (t194, 0)) = some (r1, r2) := H
    have A5 := Aside0.mk A50
    clear A50
    simp only [Option.some.injEq, Prod.mk.injEq] at H
    obtain ⟨rfl, rfl⟩ := H
    go_enter Tryd.func19, Tryd.ntmps19
    go_wp2_with (first | ((with_reducible refine gate_callee (f := 33) rfl ?_); refine goesL_ (some 12) rfl rfl Tryd.func33 (by kernel_rfl) rfl #[.int .i64 a0, .int .i64 a1] rfl (by (try simp only [List.map_toArray, List.map_cons, List.map_nil]); first | done | rfl | (simp only [List.length_drop, List.length_take]; rfl)) ?_; (with_reducible refine (dailiesref18_asked.calls k a0 a1 t191 _ A3.out).mono ?_); rintro e w' ⟨rfl, ⟨nd, rfl⟩⟩; refine ⟨_, rfl, ?_⟩) | ((with_reducible refine gate_callee (f := 37) rfl ?_); refine goesL_ (some 19) rfl rfl Tryd.func37 (by kernel_rfl) rfl #[.int .i64 a0, .int .i64 a1] rfl (by (try simp only [List.map_toArray, List.map_cons, List.map_nil]); first | done | rfl | (simp only [List.length_drop, List.length_take]; rfl)) ?_; (with_reducible refine (dailiesref18_placed.calls k a0 a1 t192 t193 t194 _ A5.out).mono ?_); rintro e w' ⟨rfl, ⟨nd, rfl⟩⟩; refine ⟨_, rfl, ?_⟩))
    go_ret2
    exact ⟨by first | rfl | (simp; done) | (simp [*]; done), by repeat (first | exact Drawn0.refl _ | apply Drawn0.step)⟩
  · rw [if_neg c4] at H
    have c4b0 : (t191 == 0) = false := beq_eq_false_iff_ne.mpr c4
    have c4b1 : (t191 != 0) = true := bne_iff_ne.mpr c4
    simp only [Option.some.injEq, Prod.mk.injEq] at H
    obtain ⟨rfl, rfl⟩ := H
    go_enter Tryd.func19, Tryd.ntmps19
    go_wp2_with (first | ((with_reducible refine gate_callee (f := 33) rfl ?_); refine goesL_ (some 12) rfl rfl Tryd.func33 (by kernel_rfl) rfl #[.int .i64 a0, .int .i64 a1] rfl (by (try simp only [List.map_toArray, List.map_cons, List.map_nil]); first | done | rfl | (simp only [List.length_drop, List.length_take]; rfl)) ?_; (with_reducible refine (dailiesref18_asked.calls k a0 a1 t191 _ A3.out).mono ?_); rintro e w' ⟨rfl, ⟨nd, rfl⟩⟩; refine ⟨_, rfl, ?_⟩))
    go_ret2
    exact ⟨by first | rfl | (simp; done) | (simp [*]; done), by repeat (first | exact Drawn0.refl _ | apply Drawn0.step)⟩

-- NOT PRINTED: function 20 (timecode_Seconds)

/-! ### dailiesref18_speed: function 34 -/
def dailiesref18_speed.j0 : Nat → Int → Bool → Option (Int × Int)
  | 0, _, _ => none
  | k + 1, x0, x9 => if x9 = true then ((dailiesref18_count.f x0).bind fun t195 => (some (wrap64 (1000 * t195), 1001))) else ((dailiesref18_count.f x0).bind fun t196 => (some (t196, 1)))
def dailiesref18_speed.f (k : Nat) (a0 : Int) : Option (Int × Int) := if a0 = 4 then (dailiesref18_speed.j0 k a0 true) else (dailiesref18_speed.j0 k a0 (a0 == 7))
theorem dailiesref18_speed.mono_l : ∀ k, (∀ y0 y1, LeO (dailiesref18_speed.j0 k y0 y1) (dailiesref18_speed.j0 (k + 1) y0 y1))
  | 0 => fun _ _ r h => by simp [dailiesref18_speed.j0] at h
  | k + 1 => by
    have ih0 := dailiesref18_speed.mono_l k
    · intro y0 y1
      unfold dailiesref18_speed.j0
      repeat' first
      | (with_reducible exact ih0 _ _)
      | (with_reducible exact LeO.refl _)
      | (with_reducible exact LeO.none _)
      | (with_reducible refine LeO.ite ?_ ?_)
      | (with_reducible refine LeO.bind ?_ (fun _ => ?_))
      | exact ih0 _ _
      | exact LeO.none _
      | refine LeO.ite ?_ ?_
      | refine LeO.bind ?_ (fun _ => ?_)
theorem dailiesref18_speed.mono : ∀ a0 k, LeO (dailiesref18_speed.f k a0) (dailiesref18_speed.f (k + 1) a0) := by
  intro a0 k
  have ih0 := dailiesref18_speed.mono_l k
  unfold dailiesref18_speed.f
  repeat' first
      | (with_reducible exact ih0 _ _)
      | (with_reducible exact LeO.refl _)
      | (with_reducible exact LeO.none _)
      | (with_reducible refine LeO.ite ?_ ?_)
      | (with_reducible refine LeO.bind ?_ (fun _ => ?_))
      | exact ih0 _ _
      | exact LeO.none _
      | refine LeO.ite ?_ ?_
      | refine LeO.bind ?_ (fun _ => ?_)
set_option maxHeartbeats 8000000 in
set_option maxRecDepth 100000 in
theorem dailiesref18_speed.calls (k : Nat) (a0 : Int) (r1 : Int) (r2 : Int) (w : World) (h : dailiesref18_speed.f k a0 = some (r1, r2)) :
    Calls Tryd.prog 34 #[.int .i64 a0] w fun e w' => e = .returned (.tuple #[.int .i64 r1, .int .i64 r2]) ∧ Drawn0 w w' := by
  have H : (if a0 = 4 then (dailiesref18_speed.j0 k a0 true) else (dailiesref18_speed.j0 k a0 (a0 == 7))) = some (r1, r2) := h
  clear h
  have HC2 := Aside0.mk H
  clear H
  go_enter Tryd.func34, Tryd.ntmps34
  go_upto_region 1 with (fail)
  go_cut [9] (fun v9 wc => ∃ (kq : Nat) (x9_1 : Bool), v9 = .bool x9_1 ∧ Aside0 (dailiesref18_speed.j0 kq a0 x9_1 = some (r1, r2)) ∧ Aside0 (kq ≤ k) ∧ Drawn0 w wc)
  case first =>
    have H := HC2.out
    clear HC2
    by_cases c3 : a0 = 4
    · rw [if_pos c3] at H
      have c3b0 : (a0 == 4) = true := beq_iff_eq.mpr c3
      have c3b1 : (a0 != 4) = false := bne_eq_false_iff_eq.mpr c3
      clear c3
      (first | rw [c3b0] | (simp only [i64_w, i32_w]; rw [c3b0]) | rw [c3b1] | rw [c3b2] | skip)
      have H' := Aside0.mk H
      clear H
      go_wp2
      go_meet
      case rel => exact ⟨_, (true), (by first | rfl | (simp; done) | (simp [*]; done)), H', ⟨by first | omega | exact Nat.le_refl _⟩, by repeat (first | exact Drawn0.refl _ | apply Drawn0.step)⟩
    · rw [if_neg c3] at H
      have c3b0 : (a0 == 4) = false := beq_eq_false_iff_ne.mpr c3
      have c3b1 : (a0 != 4) = true := bne_iff_ne.mpr c3
      (first | rw [c3b0] | (simp only [i64_w, i32_w]; rw [c3b0]) | rw [c3b1] | rw [c3b2] | skip)
      have H' := Aside0.mk H
      clear H
      go_wp2
      go_meet
      case rel => exact ⟨_, ((a0 == 7)), (by first | rfl | (simp; done) | (simp [*]; done)), H', ⟨by first | omega | exact Nat.le_refl _⟩, by repeat (first | exact Drawn0.refl _ | apply Drawn0.step)⟩
  case rest =>
    clear HC2
    try clear p2
    try clear c3
    try clear c3b0
    try clear c3b1
    try clear c3b2
    obtain ⟨kq, x9_1, rfl, HA, HJ1, ⟨mc1, rfl⟩⟩ := hcut
    cases kq with
    | zero => exact absurd HA.out (by simp [dailiesref18_speed.j0])
    | succ kj1 =>
      have H := HA.out
      clear HA
      simp only [dailiesref18_speed.j0] at H
      by_cases c4 : x9_1 = true
      · subst c4
        have H1 : ((dailiesref18_count.f a0).bind fun t195 => (some (wrap64 (1000 * t195), 1001))) = some (r1, r2) := by rw [if_pos rfl] at H; exact H
        clear H
        have H := H1
        clear H1
        replace H := Option.bind_eq_some_iff.mp H
        obtain ⟨t195, A50, H⟩ := H
        replace H : (some (wrap64 (1000 * t195), 1001)) = some (r1, r2) := H
        have A5 := Aside0.mk A50
        clear A50
        simp only [Option.some.injEq, Prod.mk.injEq] at H
        obtain ⟨rfl, rfl⟩ := H
        go_wp2_with (first | ((with_reducible refine gate_callee (f := 35) rfl ?_); refine goesL_ (some 11) rfl rfl Tryd.func35 (by kernel_rfl) rfl #[.int .i64 a0] rfl (by (try simp only [List.map_toArray, List.map_cons, List.map_nil]); first | done | rfl | (simp only [List.length_drop, List.length_take]; rfl)) ?_; (with_reducible refine (dailiesref18_count.calls a0 t195 _ A5.out).mono ?_); rintro e w' ⟨rfl, ⟨nd, rfl⟩⟩; refine ⟨_, rfl, ?_⟩))
        go_ret2
        exact ⟨by first | rfl | (simp; done) | (simp [*]; done), by repeat (first | exact Drawn0.refl _ | apply Drawn0.step)⟩
      · replace c4 := Bool.eq_false_iff.mpr c4
        subst c4
        have H1 : ((dailiesref18_count.f a0).bind fun t196 => (some (t196, 1))) = some (r1, r2) := by rw [if_neg (show ¬ (false = true) by decide)] at H; exact H
        clear H
        have H := H1
        clear H1
        replace H := Option.bind_eq_some_iff.mp H
        obtain ⟨t196, A60, H⟩ := H
        replace H : (some (t196, 1)) = some (r1, r2) := H
        have A6 := Aside0.mk A60
        clear A60
        simp only [Option.some.injEq, Prod.mk.injEq] at H
        obtain ⟨rfl, rfl⟩ := H
        go_wp2_with (first | ((with_reducible refine gate_callee (f := 35) rfl ?_); refine goesL_ (some 14) rfl rfl Tryd.func35 (by kernel_rfl) rfl #[.int .i64 a0] rfl (by (try simp only [List.map_toArray, List.map_cons, List.map_nil]); first | done | rfl | (simp only [List.length_drop, List.length_take]; rfl)) ?_; (with_reducible refine (dailiesref18_count.calls a0 t196 _ A6.out).mono ?_); rintro e w' ⟨rfl, ⟨nd, rfl⟩⟩; refine ⟨_, rfl, ?_⟩))
        go_ret2
        exact ⟨by first | rfl | (simp; done) | (simp [*]; done), by repeat (first | exact Drawn0.refl _ | apply Drawn0.step)⟩

-- NOT PRINTED: function 21 (dailiesref18_Seconds)

-- NOT PRINTED: function 5 (dailieslaw18_TimecodeNumbers)

end Go.Proofs.YtjmhjhmlcjkjeaaDoor.QUTimecodeNumbers
