-- PRINTED BY print.sh 35421559b90ae4d0a3588c463048766b98c2df88dd9212a6774a882060cdf62d: not written by this session
import Derived.Test.YtjmhjhmlcjkjeaaPFarmNamesx0
namespace Go.Proofs.Ytjmhjhmlcjkjeaa.PFarmNames
open Go.RowKit Go.Proofs.YtjmhjhmlcjkjeaaW.PrintWords Go.Proofs.YtjmhjhmlcjkjeaaW.PrintLast Go.Proofs.YtjmhjhmlcjkjeaaW.PrintMore
attribute [local go_sem] max2_int min2_int max_two min_two max_three min_three max_four min_four   -- for this text's walks alone
set_option linter.unusedVariables false
set_option linter.unusedSimpArgs false

/-! ### dailieslaw21_num: function 5 -/
def dailieslaw21_num.f (a0 : Int) : Option (Int) := some a0
set_option maxHeartbeats 8000000 in
set_option maxRecDepth 100000 in
theorem dailieslaw21_num.calls (a0 : Int) (r : Int) (w : World) (h : dailieslaw21_num.f a0 = some r) :
    Calls Try.prog 5 #[.int .i64 a0] w fun e w' => e = .returned (.int .i64 r) ∧ Drawn0 w w' := by
  have H : (some a0) = some r := h
  clear h
  obtain rfl := Option.some.inj H
  go_enter Try.func5, Try.ntmps5
  go_wp2
  go_ret
  exact ⟨by first | rfl | (simp; done) | (simp [*]; done), by repeat (first | exact Drawn0.refl _ | apply Drawn0.step)⟩

/-! ### dailieslaw21_FarmNames: function 3 -/
def dailieslaw21_FarmNames.f  : Option (Bool) := (dailieslaw21_num.f 211).bind fun t101 => (if t101 = 211 then ((dailieslaw21_num.f 212).bind fun t102 => (if t102 = 212 then ((dailieslaw21_num.f 213).bind fun t103 => (if t103 = 213 then ((dailieslaw21_num.f 214).bind fun t104 => (if t104 = 214 then ((dailieslaw21_num.f 215).bind fun t105 => (if t105 = 215 then ((dailieslaw21_num.f 216).bind fun t106 => (if t106 = 216 then (some true) else (some false))) else (some false))) else (some false))) else (some false))) else (some false))) else (some false))
set_option maxHeartbeats 8000000 in
set_option maxRecDepth 100000 in
theorem dailieslaw21_FarmNames.calls  (r : Bool) (w : World) (h : dailieslaw21_FarmNames.f  = some r) :
    Calls Try.prog 3 #[] w fun e w' => e = .returned (.bool r) ∧ Drawn0 w w' := by
  have H : ((dailieslaw21_num.f 211).bind fun t101 => (if t101 = 211 then ((dailieslaw21_num.f 212).bind fun t102 => (if t102 = 212 then ((dailieslaw21_num.f 213).bind fun t103 => (if t103 = 213 then ((dailieslaw21_num.f 214).bind fun t104 => (if t104 = 214 then ((dailieslaw21_num.f 215).bind fun t105 => (if t105 = 215 then ((dailieslaw21_num.f 216).bind fun t106 => (if t106 = 216 then (some true) else (some false))) else (some false))) else (some false))) else (some false))) else (some false))) else (some false))) = some r := h
  clear h
  replace H := Option.bind_eq_some_iff.mp H
  obtain ⟨t101, A10, H⟩ := H
  replace H : (if t101 = 211 then ((dailieslaw21_num.f 212).bind fun t102 => (if t102 = 212 then ((dailieslaw21_num.f 213).bind fun t103 => (if t103 = 213 then ((dailieslaw21_num.f 214).bind fun t104 => (if t104 = 214 then ((dailieslaw21_num.f 215).bind fun t105 => (if t105 = 215 then ((dailieslaw21_num.f 216).bind fun t106 => (if t106 = 216 then (some true) else (some false))) else (some false))) else (some false))) else (some false))) else (some false))) else (some false)) = some r := H
  have A1 := Aside0.mk A10
  clear A10
  by_cases c2 : t101 = 211
  · rw [if_pos c2] at H
    have c2b0 : (t101 == 211) = true := beq_iff_eq.mpr c2
    have c2b1 : (t101 != 211) = false := bne_eq_false_iff_eq.mpr c2
    clear c2
    replace H := Option.bind_eq_some_iff.mp H
    obtain ⟨t102, A30, H⟩ := H
    replace H : (if t102 = 212 then ((dailieslaw21_num.f 213).bind fun t103 => (if t103 = 213 then ((dailieslaw21_num.f 214).bind fun t104 => (if t104 = 214 then ((dailieslaw21_num.f 215).bind fun t105 => (if t105 = 215 then ((dailieslaw21_num.f 216).bind fun t106 => (if t106 = 216 then (some true) else (some false))) else (some false))) else (some false))) else (some false))) else (some false)) = some r := H
    have A3 := Aside0.mk A30
    clear A30
    by_cases c4 : t102 = 212
    · rw [if_pos c4] at H
      have c4b0 : (t102 == 212) = true := beq_iff_eq.mpr c4
      have c4b1 : (t102 != 212) = false := bne_eq_false_iff_eq.mpr c4
      clear c4
      replace H := Option.bind_eq_some_iff.mp H
      obtain ⟨t103, A50, H⟩ := H
      replace H : (if t103 = 213 then ((dailieslaw21_num.f 214).bind fun t104 => (if t104 = 214 then ((dailieslaw21_num.f 215).bind fun t105 => (if t105 = 215 then ((dailieslaw21_num.f 216).bind fun t106 => (if t106 = 216 then (some true) else (some false))) else (some false))) else (some false))) else (some false)) = some r := H
      have A5 := Aside0.mk A50
      clear A50
      by_cases c6 : t103 = 213
      · rw [if_pos c6] at H
        have c6b0 : (t103 == 213) = true := beq_iff_eq.mpr c6
        have c6b1 : (t103 != 213) = false := bne_eq_false_iff_eq.mpr c6
        clear c6
        replace H := Option.bind_eq_some_iff.mp H
        obtain ⟨t104, A70, H⟩ := H
        replace H : (if t104 = 214 then ((dailieslaw21_num.f 215).bind fun t105 => (if t105 = 215 then ((dailieslaw21_num.f 216).bind fun t106 => (if t106 = 216 then (some true) else (some false))) else (some false))) else (some false)) = some r := H
        have A7 := Aside0.mk A70
        clear A70
        by_cases c8 : t104 = 214
        · rw [if_pos c8] at H
          have c8b0 : (t104 == 214) = true := beq_iff_eq.mpr c8
          have c8b1 : (t104 != 214) = false := bne_eq_false_iff_eq.mpr c8
          clear c8
          replace H := Option.bind_eq_some_iff.mp H
          obtain ⟨t105, A90, H⟩ := H
          replace H : (if t105 = 215 then ((dailieslaw21_num.f 216).bind fun t106 => (if t106 = 216 then (some true) else (some false))) else (some false)) = some r := H
          have A9 := Aside0.mk A90
          clear A90
          by_cases c10 : t105 = 215
          · rw [if_pos c10] at H
            have c10b0 : (t105 == 215) = true := beq_iff_eq.mpr c10
            have c10b1 : (t105 != 215) = false := bne_eq_false_iff_eq.mpr c10
            clear c10
            replace H := Option.bind_eq_some_iff.mp H
            obtain ⟨t106, A110, H⟩ := H
            replace H : (if t106 = 216 then (some true) else (some false)) = some r := H
            have A11 := Aside0.mk A110
            clear A110
            by_cases c12 : t106 = 216
            · rw [if_pos c12] at H
              have c12b0 : (t106 == 216) = true := beq_iff_eq.mpr c12
              have c12b1 : (t106 != 216) = false := bne_eq_false_iff_eq.mpr c12
              clear c12
              obtain rfl := Option.some.inj H
              go_enter Try.func3, Try.ntmps3
              go_wp2_with (first | ((with_reducible refine gate_callee (f := 5) rfl ?_); refine goesL_ (some 2) rfl rfl Try.func5 (by kernel_rfl) rfl #[.int .i64 211] rfl (by (try simp only [List.map_toArray, List.map_cons, List.map_nil]); first | done | rfl | (simp only [List.length_drop, List.length_take]; rfl)) ?_; (with_reducible refine (dailieslaw21_num.calls 211 t101 _ A1.out).mono ?_); rintro e w' ⟨rfl, ⟨nd, rfl⟩⟩; refine ⟨_, rfl, ?_⟩) | (go_at_call 5; (with_reducible refine (dailieslaw21_num.calls 212 t102 _ A3.out).mono ?_); rintro e w' ⟨rfl, ⟨nd, rfl⟩⟩) | (go_at_call 5; (with_reducible refine (dailieslaw21_num.calls 213 t103 _ A5.out).mono ?_); rintro e w' ⟨rfl, ⟨nd, rfl⟩⟩) | (go_at_call 5; (with_reducible refine (dailieslaw21_num.calls 214 t104 _ A7.out).mono ?_); rintro e w' ⟨rfl, ⟨nd, rfl⟩⟩) | (go_at_call 5; (with_reducible refine (dailieslaw21_num.calls 215 t105 _ A9.out).mono ?_); rintro e w' ⟨rfl, ⟨nd, rfl⟩⟩) | (go_at_call 5; (with_reducible refine (dailieslaw21_num.calls 216 t106 _ A11.out).mono ?_); rintro e w' ⟨rfl, ⟨nd, rfl⟩⟩))
              go_ret
              exact ⟨by first | rfl | (simp; done) | (simp [*]; done), by repeat (first | exact Drawn0.refl _ | apply Drawn0.step)⟩
            · rw [if_neg c12] at H
              have c12b0 : (t106 == 216) = false := beq_eq_false_iff_ne.mpr c12
              have c12b1 : (t106 != 216) = true := bne_iff_ne.mpr c12
              obtain rfl := Option.some.inj H
              go_enter Try.func3, Try.ntmps3
              go_wp2_with (first | ((with_reducible refine gate_callee (f := 5) rfl ?_); refine goesL_ (some 2) rfl rfl Try.func5 (by kernel_rfl) rfl #[.int .i64 211] rfl (by (try simp only [List.map_toArray, List.map_cons, List.map_nil]); first | done | rfl | (simp only [List.length_drop, List.length_take]; rfl)) ?_; (with_reducible refine (dailieslaw21_num.calls 211 t101 _ A1.out).mono ?_); rintro e w' ⟨rfl, ⟨nd, rfl⟩⟩; refine ⟨_, rfl, ?_⟩) | (go_at_call 5; (with_reducible refine (dailieslaw21_num.calls 212 t102 _ A3.out).mono ?_); rintro e w' ⟨rfl, ⟨nd, rfl⟩⟩) | (go_at_call 5; (with_reducible refine (dailieslaw21_num.calls 213 t103 _ A5.out).mono ?_); rintro e w' ⟨rfl, ⟨nd, rfl⟩⟩) | (go_at_call 5; (with_reducible refine (dailieslaw21_num.calls 214 t104 _ A7.out).mono ?_); rintro e w' ⟨rfl, ⟨nd, rfl⟩⟩) | (go_at_call 5; (with_reducible refine (dailieslaw21_num.calls 215 t105 _ A9.out).mono ?_); rintro e w' ⟨rfl, ⟨nd, rfl⟩⟩) | (go_at_call 5; (with_reducible refine (dailieslaw21_num.calls 216 t106 _ A11.out).mono ?_); rintro e w' ⟨rfl, ⟨nd, rfl⟩⟩))
              go_ret
              exact ⟨by first | rfl | (simp; done) | (simp [*]; done), by repeat (first | exact Drawn0.refl _ | apply Drawn0.step)⟩
          · rw [if_neg c10] at H
            have c10b0 : (t105 == 215) = false := beq_eq_false_iff_ne.mpr c10
            have c10b1 : (t105 != 215) = true := bne_iff_ne.mpr c10
            obtain rfl := Option.some.inj H
            go_enter Try.func3, Try.ntmps3
            go_wp2_with (first | ((with_reducible refine gate_callee (f := 5) rfl ?_); refine goesL_ (some 2) rfl rfl Try.func5 (by kernel_rfl) rfl #[.int .i64 211] rfl (by (try simp only [List.map_toArray, List.map_cons, List.map_nil]); first | done | rfl | (simp only [List.length_drop, List.length_take]; rfl)) ?_; (with_reducible refine (dailieslaw21_num.calls 211 t101 _ A1.out).mono ?_); rintro e w' ⟨rfl, ⟨nd, rfl⟩⟩; refine ⟨_, rfl, ?_⟩) | (go_at_call 5; (with_reducible refine (dailieslaw21_num.calls 212 t102 _ A3.out).mono ?_); rintro e w' ⟨rfl, ⟨nd, rfl⟩⟩) | (go_at_call 5; (with_reducible refine (dailieslaw21_num.calls 213 t103 _ A5.out).mono ?_); rintro e w' ⟨rfl, ⟨nd, rfl⟩⟩) | (go_at_call 5; (with_reducible refine (dailieslaw21_num.calls 214 t104 _ A7.out).mono ?_); rintro e w' ⟨rfl, ⟨nd, rfl⟩⟩) | (go_at_call 5; (with_reducible refine (dailieslaw21_num.calls 215 t105 _ A9.out).mono ?_); rintro e w' ⟨rfl, ⟨nd, rfl⟩⟩))
            go_ret
            exact ⟨by first | rfl | (simp; done) | (simp [*]; done), by repeat (first | exact Drawn0.refl _ | apply Drawn0.step)⟩
        · rw [if_neg c8] at H
          have c8b0 : (t104 == 214) = false := beq_eq_false_iff_ne.mpr c8
          have c8b1 : (t104 != 214) = true := bne_iff_ne.mpr c8
          obtain rfl := Option.some.inj H
          go_enter Try.func3, Try.ntmps3
          go_wp2_with (first | ((with_reducible refine gate_callee (f := 5) rfl ?_); refine goesL_ (some 2) rfl rfl Try.func5 (by kernel_rfl) rfl #[.int .i64 211] rfl (by (try simp only [List.map_toArray, List.map_cons, List.map_nil]); first | done | rfl | (simp only [List.length_drop, List.length_take]; rfl)) ?_; (with_reducible refine (dailieslaw21_num.calls 211 t101 _ A1.out).mono ?_); rintro e w' ⟨rfl, ⟨nd, rfl⟩⟩; refine ⟨_, rfl, ?_⟩) | (go_at_call 5; (with_reducible refine (dailieslaw21_num.calls 212 t102 _ A3.out).mono ?_); rintro e w' ⟨rfl, ⟨nd, rfl⟩⟩) | (go_at_call 5; (with_reducible refine (dailieslaw21_num.calls 213 t103 _ A5.out).mono ?_); rintro e w' ⟨rfl, ⟨nd, rfl⟩⟩) | (go_at_call 5; (with_reducible refine (dailieslaw21_num.calls 214 t104 _ A7.out).mono ?_); rintro e w' ⟨rfl, ⟨nd, rfl⟩⟩))
          go_ret
          exact ⟨by first | rfl | (simp; done) | (simp [*]; done), by repeat (first | exact Drawn0.refl _ | apply Drawn0.step)⟩
      · rw [if_neg c6] at H
        have c6b0 : (t103 == 213) = false := beq_eq_false_iff_ne.mpr c6
        have c6b1 : (t103 != 213) = true := bne_iff_ne.mpr c6
        obtain rfl := Option.some.inj H
        go_enter Try.func3, Try.ntmps3
        go_wp2_with (first | ((with_reducible refine gate_callee (f := 5) rfl ?_); refine goesL_ (some 2) rfl rfl Try.func5 (by kernel_rfl) rfl #[.int .i64 211] rfl (by (try simp only [List.map_toArray, List.map_cons, List.map_nil]); first | done | rfl | (simp only [List.length_drop, List.length_take]; rfl)) ?_; (with_reducible refine (dailieslaw21_num.calls 211 t101 _ A1.out).mono ?_); rintro e w' ⟨rfl, ⟨nd, rfl⟩⟩; refine ⟨_, rfl, ?_⟩) | (go_at_call 5; (with_reducible refine (dailieslaw21_num.calls 212 t102 _ A3.out).mono ?_); rintro e w' ⟨rfl, ⟨nd, rfl⟩⟩) | (go_at_call 5; (with_reducible refine (dailieslaw21_num.calls 213 t103 _ A5.out).mono ?_); rintro e w' ⟨rfl, ⟨nd, rfl⟩⟩))
        go_ret
        exact ⟨by first | rfl | (simp; done) | (simp [*]; done), by repeat (first | exact Drawn0.refl _ | apply Drawn0.step)⟩
    · rw [if_neg c4] at H
      have c4b0 : (t102 == 212) = false := beq_eq_false_iff_ne.mpr c4
      have c4b1 : (t102 != 212) = true := bne_iff_ne.mpr c4
      obtain rfl := Option.some.inj H
      go_enter Try.func3, Try.ntmps3
      go_wp2_with (first | ((with_reducible refine gate_callee (f := 5) rfl ?_); refine goesL_ (some 2) rfl rfl Try.func5 (by kernel_rfl) rfl #[.int .i64 211] rfl (by (try simp only [List.map_toArray, List.map_cons, List.map_nil]); first | done | rfl | (simp only [List.length_drop, List.length_take]; rfl)) ?_; (with_reducible refine (dailieslaw21_num.calls 211 t101 _ A1.out).mono ?_); rintro e w' ⟨rfl, ⟨nd, rfl⟩⟩; refine ⟨_, rfl, ?_⟩) | (go_at_call 5; (with_reducible refine (dailieslaw21_num.calls 212 t102 _ A3.out).mono ?_); rintro e w' ⟨rfl, ⟨nd, rfl⟩⟩))
      go_ret
      exact ⟨by first | rfl | (simp; done) | (simp [*]; done), by repeat (first | exact Drawn0.refl _ | apply Drawn0.step)⟩
  · rw [if_neg c2] at H
    have c2b0 : (t101 == 211) = false := beq_eq_false_iff_ne.mpr c2
    have c2b1 : (t101 != 211) = true := bne_iff_ne.mpr c2
    obtain rfl := Option.some.inj H
    go_enter Try.func3, Try.ntmps3
    go_wp2_with (first | ((with_reducible refine gate_callee (f := 5) rfl ?_); refine goesL_ (some 2) rfl rfl Try.func5 (by kernel_rfl) rfl #[.int .i64 211] rfl (by (try simp only [List.map_toArray, List.map_cons, List.map_nil]); first | done | rfl | (simp only [List.length_drop, List.length_take]; rfl)) ?_; (with_reducible refine (dailieslaw21_num.calls 211 t101 _ A1.out).mono ?_); rintro e w' ⟨rfl, ⟨nd, rfl⟩⟩; refine ⟨_, rfl, ?_⟩))
    go_ret
    exact ⟨by first | rfl | (simp; done) | (simp [*]; done), by repeat (first | exact Drawn0.refl _ | apply Drawn0.step)⟩

/-- THE ONE PURE STATEMENT of dailieslaw21_FarmNames: yours. -/
def dailieslaw21_FarmNames.Pure : Prop := dailieslaw21_FarmNames.f  = some true
theorem dailieslaw21_FarmNames.walk (P : dailieslaw21_FarmNames.Pure)  (w : World)  :
    Calls Try.prog 3 #[] w fun e w' => e = .returned (.bool true) ∧ Below w.heap.size w w' := by
  have h := P  
  refine (dailieslaw21_FarmNames.calls  true w h).mono ?_
  rintro e w' ⟨rfl, hd⟩
  exact ⟨rfl, hd.below⟩

end Go.Proofs.Ytjmhjhmlcjkjeaa.PFarmNames
