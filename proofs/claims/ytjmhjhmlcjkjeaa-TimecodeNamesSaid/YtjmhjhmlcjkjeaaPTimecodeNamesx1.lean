-- PRINTED BY print.sh 35421559b90ae4d0a3588c463048766b98c2df88dd9212a6774a882060cdf62d: not written by this session
import Derived.Test.YtjmhjhmlcjkjeaaPTimecodeNamesx0
namespace Go.Proofs.Ytjmhjhmlcjkjeaa.PTimecodeNames
open Go.RowKit Go.Proofs.YtjmhjhmlcjkjeaaW.PrintWords Go.Proofs.YtjmhjhmlcjkjeaaW.PrintLast Go.Proofs.YtjmhjhmlcjkjeaaW.PrintMore
attribute [local go_sem] max2_int min2_int max_two min_two max_three min_three max_four min_four   -- for this text's walks alone
set_option linter.unusedVariables false
set_option linter.unusedSimpArgs false

/-! ### dailieslaw18_num: function 6 -/
def dailieslaw18_num.f (a0 : Int) : Option (Int) := some a0
set_option maxHeartbeats 8000000 in
set_option maxRecDepth 100000 in
theorem dailieslaw18_num.calls (a0 : Int) (r : Int) (w : World) (h : dailieslaw18_num.f a0 = some r) :
    Calls Try.prog 6 #[.int .i64 a0] w fun e w' => e = .returned (.int .i64 r) ∧ Drawn0 w w' := by
  have H : (some a0) = some r := h
  clear h
  obtain rfl := Option.some.inj H
  go_enter Try.func6, Try.ntmps6
  go_wp2
  go_ret
  exact ⟨by first | rfl | (simp; done) | (simp [*]; done), by repeat (first | exact Drawn0.refl _ | apply Drawn0.step)⟩

/-! ### dailieslaw18_TimecodeNames: function 4 -/
def dailieslaw18_TimecodeNames.f  : Option (Bool) := (dailieslaw18_num.f 181).bind fun t101 => (if t101 = 181 then ((dailieslaw18_num.f 182).bind fun t102 => (if t102 = 182 then ((dailieslaw18_num.f 183).bind fun t103 => (if t103 = 183 then ((dailieslaw18_num.f 184).bind fun t104 => (if t104 = 184 then (some true) else (some false))) else (some false))) else (some false))) else (some false))
set_option maxHeartbeats 8000000 in
set_option maxRecDepth 100000 in
theorem dailieslaw18_TimecodeNames.calls  (r : Bool) (w : World) (h : dailieslaw18_TimecodeNames.f  = some r) :
    Calls Try.prog 4 #[] w fun e w' => e = .returned (.bool r) ∧ Drawn0 w w' := by
  have H : ((dailieslaw18_num.f 181).bind fun t101 => (if t101 = 181 then ((dailieslaw18_num.f 182).bind fun t102 => (if t102 = 182 then ((dailieslaw18_num.f 183).bind fun t103 => (if t103 = 183 then ((dailieslaw18_num.f 184).bind fun t104 => (if t104 = 184 then (some true) else (some false))) else (some false))) else (some false))) else (some false))) = some r := h
  clear h
  replace H := Option.bind_eq_some_iff.mp H
  obtain ⟨t101, A10, H⟩ := H
  replace H : (if t101 = 181 then ((dailieslaw18_num.f 182).bind fun t102 => (if t102 = 182 then ((dailieslaw18_num.f 183).bind fun t103 => (if t103 = 183 then ((dailieslaw18_num.f 184).bind fun t104 => (if t104 = 184 then (some true) else (some false))) else (some false))) else (some false))) else (some false)) = some r := H
  have A1 := Aside0.mk A10
  clear A10
  by_cases c2 : t101 = 181
  · rw [if_pos c2] at H
    have c2b0 : (t101 == 181) = true := beq_iff_eq.mpr c2
    have c2b1 : (t101 != 181) = false := bne_eq_false_iff_eq.mpr c2
    clear c2
    replace H := Option.bind_eq_some_iff.mp H
    obtain ⟨t102, A30, H⟩ := H
    replace H : (if t102 = 182 then ((dailieslaw18_num.f 183).bind fun t103 => (if t103 = 183 then ((dailieslaw18_num.f 184).bind fun t104 => (if t104 = 184 then (some true) else (some false))) else (some false))) else (some false)) = some r := H
    have A3 := Aside0.mk A30
    clear A30
    by_cases c4 : t102 = 182
    · rw [if_pos c4] at H
      have c4b0 : (t102 == 182) = true := beq_iff_eq.mpr c4
      have c4b1 : (t102 != 182) = false := bne_eq_false_iff_eq.mpr c4
      clear c4
      replace H := Option.bind_eq_some_iff.mp H
      obtain ⟨t103, A50, H⟩ := H
      replace H : (if t103 = 183 then ((dailieslaw18_num.f 184).bind fun t104 => (if t104 = 184 then (some true) else (some false))) else (some false)) = some r := H
      have A5 := Aside0.mk A50
      clear A50
      by_cases c6 : t103 = 183
      · rw [if_pos c6] at H
        have c6b0 : (t103 == 183) = true := beq_iff_eq.mpr c6
        have c6b1 : (t103 != 183) = false := bne_eq_false_iff_eq.mpr c6
        clear c6
        replace H := Option.bind_eq_some_iff.mp H
        obtain ⟨t104, A70, H⟩ := H
        replace H : (if t104 = 184 then (some true) else (some false)) = some r := H
        have A7 := Aside0.mk A70
        clear A70
        by_cases c8 : t104 = 184
        · rw [if_pos c8] at H
          have c8b0 : (t104 == 184) = true := beq_iff_eq.mpr c8
          have c8b1 : (t104 != 184) = false := bne_eq_false_iff_eq.mpr c8
          clear c8
          obtain rfl := Option.some.inj H
          go_enter Try.func4, Try.ntmps4
          go_wp2_with (first | ((with_reducible refine gate_callee (f := 6) rfl ?_); refine goesL_ (some 2) rfl rfl Try.func6 (by kernel_rfl) rfl #[.int .i64 181] rfl (by (try simp only [List.map_toArray, List.map_cons, List.map_nil]); first | done | rfl | (simp only [List.length_drop, List.length_take]; rfl)) ?_; (with_reducible refine (dailieslaw18_num.calls 181 t101 _ A1.out).mono ?_); rintro e w' ⟨rfl, ⟨nd, rfl⟩⟩; refine ⟨_, rfl, ?_⟩) | (go_at_call 6; (with_reducible refine (dailieslaw18_num.calls 182 t102 _ A3.out).mono ?_); rintro e w' ⟨rfl, ⟨nd, rfl⟩⟩) | (go_at_call 6; (with_reducible refine (dailieslaw18_num.calls 183 t103 _ A5.out).mono ?_); rintro e w' ⟨rfl, ⟨nd, rfl⟩⟩) | (go_at_call 6; (with_reducible refine (dailieslaw18_num.calls 184 t104 _ A7.out).mono ?_); rintro e w' ⟨rfl, ⟨nd, rfl⟩⟩))
          go_ret
          exact ⟨by first | rfl | (simp; done) | (simp [*]; done), by repeat (first | exact Drawn0.refl _ | apply Drawn0.step)⟩
        · rw [if_neg c8] at H
          have c8b0 : (t104 == 184) = false := beq_eq_false_iff_ne.mpr c8
          have c8b1 : (t104 != 184) = true := bne_iff_ne.mpr c8
          obtain rfl := Option.some.inj H
          go_enter Try.func4, Try.ntmps4
          go_wp2_with (first | ((with_reducible refine gate_callee (f := 6) rfl ?_); refine goesL_ (some 2) rfl rfl Try.func6 (by kernel_rfl) rfl #[.int .i64 181] rfl (by (try simp only [List.map_toArray, List.map_cons, List.map_nil]); first | done | rfl | (simp only [List.length_drop, List.length_take]; rfl)) ?_; (with_reducible refine (dailieslaw18_num.calls 181 t101 _ A1.out).mono ?_); rintro e w' ⟨rfl, ⟨nd, rfl⟩⟩; refine ⟨_, rfl, ?_⟩) | (go_at_call 6; (with_reducible refine (dailieslaw18_num.calls 182 t102 _ A3.out).mono ?_); rintro e w' ⟨rfl, ⟨nd, rfl⟩⟩) | (go_at_call 6; (with_reducible refine (dailieslaw18_num.calls 183 t103 _ A5.out).mono ?_); rintro e w' ⟨rfl, ⟨nd, rfl⟩⟩) | (go_at_call 6; (with_reducible refine (dailieslaw18_num.calls 184 t104 _ A7.out).mono ?_); rintro e w' ⟨rfl, ⟨nd, rfl⟩⟩))
          go_ret
          exact ⟨by first | rfl | (simp; done) | (simp [*]; done), by repeat (first | exact Drawn0.refl _ | apply Drawn0.step)⟩
      · rw [if_neg c6] at H
        have c6b0 : (t103 == 183) = false := beq_eq_false_iff_ne.mpr c6
        have c6b1 : (t103 != 183) = true := bne_iff_ne.mpr c6
        obtain rfl := Option.some.inj H
        go_enter Try.func4, Try.ntmps4
        go_wp2_with (first | ((with_reducible refine gate_callee (f := 6) rfl ?_); refine goesL_ (some 2) rfl rfl Try.func6 (by kernel_rfl) rfl #[.int .i64 181] rfl (by (try simp only [List.map_toArray, List.map_cons, List.map_nil]); first | done | rfl | (simp only [List.length_drop, List.length_take]; rfl)) ?_; (with_reducible refine (dailieslaw18_num.calls 181 t101 _ A1.out).mono ?_); rintro e w' ⟨rfl, ⟨nd, rfl⟩⟩; refine ⟨_, rfl, ?_⟩) | (go_at_call 6; (with_reducible refine (dailieslaw18_num.calls 182 t102 _ A3.out).mono ?_); rintro e w' ⟨rfl, ⟨nd, rfl⟩⟩) | (go_at_call 6; (with_reducible refine (dailieslaw18_num.calls 183 t103 _ A5.out).mono ?_); rintro e w' ⟨rfl, ⟨nd, rfl⟩⟩))
        go_ret
        exact ⟨by first | rfl | (simp; done) | (simp [*]; done), by repeat (first | exact Drawn0.refl _ | apply Drawn0.step)⟩
    · rw [if_neg c4] at H
      have c4b0 : (t102 == 182) = false := beq_eq_false_iff_ne.mpr c4
      have c4b1 : (t102 != 182) = true := bne_iff_ne.mpr c4
      obtain rfl := Option.some.inj H
      go_enter Try.func4, Try.ntmps4
      go_wp2_with (first | ((with_reducible refine gate_callee (f := 6) rfl ?_); refine goesL_ (some 2) rfl rfl Try.func6 (by kernel_rfl) rfl #[.int .i64 181] rfl (by (try simp only [List.map_toArray, List.map_cons, List.map_nil]); first | done | rfl | (simp only [List.length_drop, List.length_take]; rfl)) ?_; (with_reducible refine (dailieslaw18_num.calls 181 t101 _ A1.out).mono ?_); rintro e w' ⟨rfl, ⟨nd, rfl⟩⟩; refine ⟨_, rfl, ?_⟩) | (go_at_call 6; (with_reducible refine (dailieslaw18_num.calls 182 t102 _ A3.out).mono ?_); rintro e w' ⟨rfl, ⟨nd, rfl⟩⟩))
      go_ret
      exact ⟨by first | rfl | (simp; done) | (simp [*]; done), by repeat (first | exact Drawn0.refl _ | apply Drawn0.step)⟩
  · rw [if_neg c2] at H
    have c2b0 : (t101 == 181) = false := beq_eq_false_iff_ne.mpr c2
    have c2b1 : (t101 != 181) = true := bne_iff_ne.mpr c2
    obtain rfl := Option.some.inj H
    go_enter Try.func4, Try.ntmps4
    go_wp2_with (first | ((with_reducible refine gate_callee (f := 6) rfl ?_); refine goesL_ (some 2) rfl rfl Try.func6 (by kernel_rfl) rfl #[.int .i64 181] rfl (by (try simp only [List.map_toArray, List.map_cons, List.map_nil]); first | done | rfl | (simp only [List.length_drop, List.length_take]; rfl)) ?_; (with_reducible refine (dailieslaw18_num.calls 181 t101 _ A1.out).mono ?_); rintro e w' ⟨rfl, ⟨nd, rfl⟩⟩; refine ⟨_, rfl, ?_⟩))
    go_ret
    exact ⟨by first | rfl | (simp; done) | (simp [*]; done), by repeat (first | exact Drawn0.refl _ | apply Drawn0.step)⟩

/-- THE ONE PURE STATEMENT of dailieslaw18_TimecodeNames: yours. -/
def dailieslaw18_TimecodeNames.Pure : Prop := dailieslaw18_TimecodeNames.f  = some true
theorem dailieslaw18_TimecodeNames.walk (P : dailieslaw18_TimecodeNames.Pure)  (w : World)  :
    Calls Try.prog 4 #[] w fun e w' => e = .returned (.bool true) ∧ Below w.heap.size w w' := by
  have h := P  
  refine (dailieslaw18_TimecodeNames.calls  true w h).mono ?_
  rintro e w' ⟨rfl, hd⟩
  exact ⟨rfl, hd.below⟩

end Go.Proofs.Ytjmhjhmlcjkjeaa.PTimecodeNames
