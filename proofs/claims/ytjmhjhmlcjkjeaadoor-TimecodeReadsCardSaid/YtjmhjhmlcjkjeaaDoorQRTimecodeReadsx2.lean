-- Printed by a program of this session (wrap.py) over the kit's print.py, with hand-proved contracts among its functions.
import Derived.Test.YtjmhjhmlcjkjeaaDoorQRTimecodeReadsx0
import Derived.Test.YtjmhjhmlcjkjeaaDoorQRTimecodeReadsx1
namespace Go.Proofs.YtjmhjhmlcjkjeaaDoor.QRTimecodeReads
open Go.RowKit Go.Proofs.YtjmhjhmlcjkjeaaDoorW.PrintWords Go.Proofs.YtjmhjhmlcjkjeaaDoorW.PrintLast Go.Proofs.YtjmhjhmlcjkjeaaDoorW.PrintMore
attribute [local go_sem] max2_int min2_int max_two min_two max_three min_three max_four min_four   -- for this text's walks alone
set_option linter.unusedVariables false
set_option linter.unusedSimpArgs false

/-! ### dailiesref18_Told: function 24 -/
def dailiesref18_Told.l0 : Nat → Int → Int → Int → Int → Option (Int × Int × Int)
  | 0, _, _, _, _ => none
  | k + 1, x0, x13, x15, x16 => if x16 < x13 then ((dailiesref18_count.f x0).bind fun t114 => ((dailiesref18_left.f x0 x16).bind fun t115 => (dailiesref18_Told.l0 k x0 x13 (wrap64 ((wrap64 (x15 + (wrap64 (60 * t114)))) - t115)) (wrap64 (x16 + 1))))) else (some (x15, 0, 0))
def dailiesref18_Told.f (k : Nat) (a0 : Int) (a1 : ByteArray) : Option (Int × Int × Int) := (dailiesref18_Rate.f a0).bind fun t104 => (if t104 = true then ((dailiesref18_formed.f k a0 a1).bind fun t105 => (if t105 ≥ 0 then (some (0, t105, 182)) else ((dailiesref18_value.f a1 0).bind fun t106 => ((dailiesref18_value.f a1 3).bind fun t107 => ((dailiesref18_value.f a1 6).bind fun t108 => ((dailiesref18_value.f a1 9).bind fun t109 => (if t106 > 23 then (some (0, 0, 184)) else (if t107 > 59 then (some (0, 3, 182)) else (if t108 > 59 then (some (0, 6, 182)) else ((dailiesref18_count.f a0).bind fun t110 => (if t109 ≥ t110 then (some (0, 9, 182)) else ((dailiesref18_count.f a0).bind fun t111 => ((dailiesref18_left.f a0 (wrap64 ((wrap64 (60 * t106)) + t107))).bind fun t112 => (if (wrap64 ((wrap64 (t111 * t108)) + t109)) < t112 then (some (0, 9, 183)) else ((dailiesref18_left.f a0 (wrap64 ((wrap64 (60 * t106)) + t107))).bind fun t113 => (dailiesref18_Told.l0 k a0 (wrap64 ((wrap64 (60 * t106)) + t107)) (wrap64 ((wrap64 ((wrap64 (t111 * t108)) + t109)) - t113)) 0)))))))))))))))) else (some (0, 0, 181)))
theorem dailiesref18_Told.mono_l : ∀ k, (∀ y0 y1 y2 y3, LeO (dailiesref18_Told.l0 k y0 y1 y2 y3) (dailiesref18_Told.l0 (k + 1) y0 y1 y2 y3))
  | 0 => fun _ _ _ _ r h => by simp [dailiesref18_Told.l0] at h
  | k + 1 => by
    have ih0 := dailiesref18_Told.mono_l k
    · intro y0 y1 y2 y3
      unfold dailiesref18_Told.l0
      repeat' first
      | (with_reducible exact ih0 _ _ _ _)
      | (with_reducible exact dailiesref18_formed.mono _ _ _)
      | (with_reducible exact LeO.refl _)
      | (with_reducible exact LeO.none _)
      | (with_reducible refine LeO.ite ?_ ?_)
      | (with_reducible refine LeO.bind ?_ (fun _ => ?_))
      | exact ih0 _ _ _ _
      | exact dailiesref18_formed.mono _ _ _
      | exact LeO.none _
      | refine LeO.ite ?_ ?_
      | refine LeO.bind ?_ (fun _ => ?_)
theorem dailiesref18_Told.mono : ∀ a0 a1 k, LeO (dailiesref18_Told.f k a0 a1) (dailiesref18_Told.f (k + 1) a0 a1) := by
  intro a0 a1 k
  have ih0 := dailiesref18_Told.mono_l k
  unfold dailiesref18_Told.f
  repeat' first
      | (with_reducible exact ih0 _ _ _ _)
      | (with_reducible exact dailiesref18_formed.mono _ _ _)
      | (with_reducible exact LeO.refl _)
      | (with_reducible exact LeO.none _)
      | (with_reducible refine LeO.ite ?_ ?_)
      | (with_reducible refine LeO.bind ?_ (fun _ => ?_))
      | exact ih0 _ _ _ _
      | exact dailiesref18_formed.mono _ _ _
      | exact LeO.none _
      | refine LeO.ite ?_ ?_
      | refine LeO.bind ?_ (fun _ => ?_)
set_option maxHeartbeats 8000000 in
set_option maxRecDepth 100000 in
theorem dailiesref18_Told.calls (k : Nat) (a0 : Int) (a1 : ByteArray) (r1 : Int) (r2 : Int) (r3 : Int) (w : World) (h : dailiesref18_Told.f k a0 a1 = some (r1, r2, r3)) :
    Calls Tryd.prog 24 #[.int .i64 a0, .string a1] w fun e w' => e = .returned (.tuple #[.int .i64 r1, .int .i64 r2, .int .i64 r3]) ∧ Drawn0 w w' := by
  have H : ((dailiesref18_Rate.f a0).bind fun t104 => (if t104 = true then ((dailiesref18_formed.f k a0 a1).bind fun t105 => (if t105 ≥ 0 then (some (0, t105, 182)) else ((dailiesref18_value.f a1 0).bind fun t106 => ((dailiesref18_value.f a1 3).bind fun t107 => ((dailiesref18_value.f a1 6).bind fun t108 => ((dailiesref18_value.f a1 9).bind fun t109 => (if t106 > 23 then (some (0, 0, 184)) else (if t107 > 59 then (some (0, 3, 182)) else (if t108 > 59 then (some (0, 6, 182)) else ((dailiesref18_count.f a0).bind fun t110 => (if t109 ≥ t110 then (some (0, 9, 182)) else ((dailiesref18_count.f a0).bind fun t111 => ((dailiesref18_left.f a0 (wrap64 ((wrap64 (60 * t106)) + t107))).bind fun t112 => (if (wrap64 ((wrap64 (t111 * t108)) + t109)) < t112 then (some (0, 9, 183)) else ((dailiesref18_left.f a0 (wrap64 ((wrap64 (60 * t106)) + t107))).bind fun t113 => (dailiesref18_Told.l0 k a0 (wrap64 ((wrap64 (60 * t106)) + t107)) (wrap64 ((wrap64 ((wrap64 (t111 * t108)) + t109)) - t113)) 0)))))))))))))))) else (some (0, 0, 181)))) = some (r1, r2, r3) := h
  clear h
  replace H := Option.bind_eq_some_iff.mp H
  obtain ⟨t104, A30, H⟩ := H
  replace H : (if t104 = true then ((dailiesref18_formed.f k a0 a1).bind fun t105 => (if t105 ≥ 0 then (some (0, t105, 182)) else ((dailiesref18_value.f a1 0).bind fun t106 => ((dailiesref18_value.f a1 3).bind fun t107 => ((dailiesref18_value.f a1 6).bind fun t108 => ((dailiesref18_value.f a1 9).bind fun t109 => (if t106 > 23 then (some (0, 0, 184)) else (if t107 > 59 then (some (0, 3, 182)) else (if t108 > 59 then (some (0, 6, 182)) else ((dailiesref18_count.f a0).bind fun t110 => (if t109 ≥ t110 then (some (0, 9, 182)) else ((dailiesref18_count.f a0).bind fun t111 => ((dailiesref18_left.f a0 (wrap64 ((wrap64 (60 * t106)) + t107))).bind fun t112 => (if (wrap64 ((wrap64 (t111 * t108)) + t109)) < t112 then (some (0, 9, 183)) else ((dailiesref18_left.f a0 (wrap64 ((wrap64 (60 * t106)) + t107))).bind fun t113 => (dailiesref18_Told.l0 k a0 (wrap64 ((wrap64 (60 * t106)) + t107)) (wrap64 ((wrap64 ((wrap64 (t111 * t108)) + t109)) - t113)) 0)))))))))))))))) else (some (0, 0, 181))) = some (r1, r2, r3) := H
  have A3 := Aside0.mk A30
  clear A30
  by_cases c4 : t104 = true
  · subst c4
    have H1 : ((dailiesref18_formed.f k a0 a1).bind fun t105 => (if t105 ≥ 0 then (some (0, t105, 182)) else ((dailiesref18_value.f a1 0).bind fun t106 => ((dailiesref18_value.f a1 3).bind fun t107 => ((dailiesref18_value.f a1 6).bind fun t108 => ((dailiesref18_value.f a1 9).bind fun t109 => (if t106 > 23 then (some (0, 0, 184)) else (if t107 > 59 then (some (0, 3, 182)) else (if t108 > 59 then (some (0, 6, 182)) else ((dailiesref18_count.f a0).bind fun t110 => (if t109 ≥ t110 then (some (0, 9, 182)) else ((dailiesref18_count.f a0).bind fun t111 => ((dailiesref18_left.f a0 (wrap64 ((wrap64 (60 * t106)) + t107))).bind fun t112 => (if (wrap64 ((wrap64 (t111 * t108)) + t109)) < t112 then (some (0, 9, 183)) else ((dailiesref18_left.f a0 (wrap64 ((wrap64 (60 * t106)) + t107))).bind fun t113 => (dailiesref18_Told.l0 k a0 (wrap64 ((wrap64 (60 * t106)) + t107)) (wrap64 ((wrap64 ((wrap64 (t111 * t108)) + t109)) - t113)) 0)))))))))))))))) = some (r1, r2, r3) := by rw [if_pos rfl] at H; exact H
    clear H
    have H := H1
    clear H1
    replace H := Option.bind_eq_some_iff.mp H
    obtain ⟨t105, A50, H⟩ := H
    replace H : (if t105 ≥ 0 then (some (0, t105, 182)) else ((dailiesref18_value.f a1 0).bind fun t106 => ((dailiesref18_value.f a1 3).bind fun t107 => ((dailiesref18_value.f a1 6).bind fun t108 => ((dailiesref18_value.f a1 9).bind fun t109 => (if t106 > 23 then (some (0, 0, 184)) else (if t107 > 59 then (some (0, 3, 182)) else (if t108 > 59 then (some (0, 6, 182)) else ((dailiesref18_count.f a0).bind fun t110 => (if t109 ≥ t110 then (some (0, 9, 182)) else ((dailiesref18_count.f a0).bind fun t111 => ((dailiesref18_left.f a0 (wrap64 ((wrap64 (60 * t106)) + t107))).bind fun t112 => (if (wrap64 ((wrap64 (t111 * t108)) + t109)) < t112 then (some (0, 9, 183)) else ((dailiesref18_left.f a0 (wrap64 ((wrap64 (60 * t106)) + t107))).bind fun t113 => (dailiesref18_Told.l0 k a0 (wrap64 ((wrap64 (60 * t106)) + t107)) (wrap64 ((wrap64 ((wrap64 (t111 * t108)) + t109)) - t113)) 0))))))))))))))) = some (r1, r2, r3) := H
    have A5 := Aside0.mk A50
    clear A50
    by_cases c6 : t105 ≥ 0
    · rw [if_pos c6] at H
      have c6b0 : decide (0 ≤ t105) = true := decide_eq_true c6
      clear c6
      simp only [Option.some.injEq, Prod.mk.injEq] at H
      obtain ⟨rfl, rfl, rfl⟩ := H
      go_enter Tryd.func24, Tryd.ntmps24
      go_wp2_with (first | ((with_reducible refine gate_callee (f := 32) rfl ?_); refine goesL_ (some 18) rfl rfl Tryd.func32 (by kernel_rfl) rfl #[.int .i64 a0] rfl (by (try simp only [List.map_toArray, List.map_cons, List.map_nil]); first | done | rfl | (simp only [List.length_drop, List.length_take]; rfl)) ?_; (with_reducible refine (dailiesref18_Rate.calls a0 true _ A3.out).mono ?_); rintro e w' ⟨rfl, ⟨nd, rfl⟩⟩; refine ⟨_, rfl, ?_⟩) | ((with_reducible refine gate_callee (f := 42) rfl ?_); refine goesL_ (some 23) rfl rfl Tryd.func42 (by kernel_rfl) rfl #[.int .i64 a0, .string a1] rfl (by (try simp only [List.map_toArray, List.map_cons, List.map_nil]); first | done | rfl | (simp only [List.length_drop, List.length_take]; rfl)) ?_; (with_reducible refine (dailiesref18_formed.calls k a0 a1 t105 _ A5.out).mono ?_); rintro e w' ⟨rfl, ⟨nd, rfl⟩⟩; refine ⟨_, rfl, ?_⟩))
      go_ret3
      exact ⟨by first | rfl | (simp; done) | (simp [*]; done), by repeat (first | exact Drawn0.refl _ | apply Drawn0.step)⟩
    · rw [if_neg c6] at H
      have c6b0 : decide (0 ≤ t105) = false := decide_eq_false c6
      clear c6
      replace H := Option.bind_eq_some_iff.mp H
      obtain ⟨t106, A70, H⟩ := H
      replace H : ((dailiesref18_value.f a1 3).bind fun t107 => ((dailiesref18_value.f a1 6).bind fun t108 => ((dailiesref18_value.f a1 9).bind fun t109 => (if t106 > 23 then (some (0, 0, 184)) else (if t107 > 59 then (some (0, 3, 182)) else (if t108 > 59 then (some (0, 6, 182)) else ((dailiesref18_count.f a0).bind fun t110 => (if t109 ≥ t110 then (some (0, 9, 182)) else ((dailiesref18_count.f a0).bind fun t111 => ((dailiesref18_left.f a0 (wrap64 ((wrap64 (60 * t106)) + t107))).bind fun t112 => (if (wrap64 ((wrap64 (t111 * t108)) + t109)) < t112 then (some (0, 9, 183)) else ((dailiesref18_left.f a0 (wrap64 ((wrap64 (60 * t106)) + t107))).bind fun t113 => (dailiesref18_Told.l0 k a0 (wrap64 ((wrap64 (60 * t106)) + t107)) (wrap64 ((wrap64 ((wrap64 (t111 * t108)) + t109)) - t113)) 0))))))))))))) = some (r1, r2, r3) := H
      have A7 := Aside0.mk A70
      clear A70
      replace H := Option.bind_eq_some_iff.mp H
      obtain ⟨t107, A80, H⟩ := H
      replace H : ((dailiesref18_value.f a1 6).bind fun t108 => ((dailiesref18_value.f a1 9).bind fun t109 => (if t106 > 23 then (some (0, 0, 184)) else (if t107 > 59 then (some (0, 3, 182)) else (if t108 > 59 then (some (0, 6, 182)) else ((dailiesref18_count.f a0).bind fun t110 => (if t109 ≥ t110 then (some (0, 9, 182)) else ((dailiesref18_count.f a0).bind fun t111 => ((dailiesref18_left.f a0 (wrap64 ((wrap64 (60 * t106)) + t107))).bind fun t112 => (if (wrap64 ((wrap64 (t111 * t108)) + t109)) < t112 then (some (0, 9, 183)) else ((dailiesref18_left.f a0 (wrap64 ((wrap64 (60 * t106)) + t107))).bind fun t113 => (dailiesref18_Told.l0 k a0 (wrap64 ((wrap64 (60 * t106)) + t107)) (wrap64 ((wrap64 ((wrap64 (t111 * t108)) + t109)) - t113)) 0)))))))))))) = some (r1, r2, r3) := H
      have A8 := Aside0.mk A80
      clear A80
      replace H := Option.bind_eq_some_iff.mp H
      obtain ⟨t108, A90, H⟩ := H
      replace H : ((dailiesref18_value.f a1 9).bind fun t109 => (if t106 > 23 then (some (0, 0, 184)) else (if t107 > 59 then (some (0, 3, 182)) else (if t108 > 59 then (some (0, 6, 182)) else ((dailiesref18_count.f a0).bind fun t110 => (if t109 ≥ t110 then (some (0, 9, 182)) else ((dailiesref18_count.f a0).bind fun t111 => ((dailiesref18_left.f a0 (wrap64 ((wrap64 (60 * t106)) + t107))).bind fun t112 => (if (wrap64 ((wrap64 (t111 * t108)) + t109)) < t112 then (some (0, 9, 183)) else ((dailiesref18_left.f a0 (wrap64 ((wrap64 (60 * t106)) + t107))).bind fun t113 => (dailiesref18_Told.l0 k a0 (wrap64 ((wrap64 (60 * t106)) + t107)) (wrap64 ((wrap64 ((wrap64 (t111 * t108)) + t109)) - t113)) 0))))))))))) = some (r1, r2, r3) := H
      have A9 := Aside0.mk A90
      clear A90
      replace H := Option.bind_eq_some_iff.mp H
      obtain ⟨t109, A100, H⟩ := H
      replace H : (if t106 > 23 then (some (0, 0, 184)) else (if t107 > 59 then (some (0, 3, 182)) else (if t108 > 59 then (some (0, 6, 182)) else ((dailiesref18_count.f a0).bind fun t110 => (if t109 ≥ t110 then (some (0, 9, 182)) else ((dailiesref18_count.f a0).bind fun t111 => ((dailiesref18_left.f a0 (wrap64 ((wrap64 (60 * t106)) + t107))).bind fun t112 => (if (wrap64 ((wrap64 (t111 * t108)) + t109)) < t112 then (some (0, 9, 183)) else ((dailiesref18_left.f a0 (wrap64 ((wrap64 (60 * t106)) + t107))).bind fun t113 => (dailiesref18_Told.l0 k a0 (wrap64 ((wrap64 (60 * t106)) + t107)) (wrap64 ((wrap64 ((wrap64 (t111 * t108)) + t109)) - t113)) 0)))))))))) = some (r1, r2, r3) := H
      have A10 := Aside0.mk A100
      clear A100
      by_cases c11 : t106 > 23
      · rw [if_pos c11] at H
        have c11b0 : decide (23 < t106) = true := decide_eq_true c11
        clear c11
        simp only [Option.some.injEq, Prod.mk.injEq] at H
        obtain ⟨rfl, rfl, rfl⟩ := H
        go_enter Tryd.func24, Tryd.ntmps24
        go_wp2_with (first | ((with_reducible refine gate_callee (f := 32) rfl ?_); refine goesL_ (some 18) rfl rfl Tryd.func32 (by kernel_rfl) rfl #[.int .i64 a0] rfl (by (try simp only [List.map_toArray, List.map_cons, List.map_nil]); first | done | rfl | (simp only [List.length_drop, List.length_take]; rfl)) ?_; (with_reducible refine (dailiesref18_Rate.calls a0 true _ A3.out).mono ?_); rintro e w' ⟨rfl, ⟨nd, rfl⟩⟩; refine ⟨_, rfl, ?_⟩) | ((with_reducible refine gate_callee (f := 42) rfl ?_); refine goesL_ (some 23) rfl rfl Tryd.func42 (by kernel_rfl) rfl #[.int .i64 a0, .string a1] rfl (by (try simp only [List.map_toArray, List.map_cons, List.map_nil]); first | done | rfl | (simp only [List.length_drop, List.length_take]; rfl)) ?_; (with_reducible refine (dailiesref18_formed.calls k a0 a1 t105 _ A5.out).mono ?_); rintro e w' ⟨rfl, ⟨nd, rfl⟩⟩; refine ⟨_, rfl, ?_⟩) | ((with_reducible refine gate_callee (f := 43) rfl ?_); refine goesL_ (some 28) rfl rfl Tryd.func43 (by kernel_rfl) rfl #[.string a1, .int .i64 0] rfl (by (try simp only [List.map_toArray, List.map_cons, List.map_nil]); first | done | rfl | (simp only [List.length_drop, List.length_take]; rfl)) ?_; (with_reducible refine (dailiesref18_value.calls a1 0 t106 _ A7.out).mono ?_); rintro e w' ⟨rfl, ⟨nd, rfl⟩⟩; refine ⟨_, rfl, ?_⟩) | ((with_reducible refine gate_callee (f := 43) rfl ?_); refine goesL_ (some 30) rfl rfl Tryd.func43 (by kernel_rfl) rfl #[.string a1, .int .i64 3] rfl (by (try simp only [List.map_toArray, List.map_cons, List.map_nil]); first | done | rfl | (simp only [List.length_drop, List.length_take]; rfl)) ?_; (with_reducible refine (dailiesref18_value.calls a1 3 t107 _ A8.out).mono ?_); rintro e w' ⟨rfl, ⟨nd, rfl⟩⟩; refine ⟨_, rfl, ?_⟩) | ((with_reducible refine gate_callee (f := 43) rfl ?_); refine goesL_ (some 32) rfl rfl Tryd.func43 (by kernel_rfl) rfl #[.string a1, .int .i64 6] rfl (by (try simp only [List.map_toArray, List.map_cons, List.map_nil]); first | done | rfl | (simp only [List.length_drop, List.length_take]; rfl)) ?_; (with_reducible refine (dailiesref18_value.calls a1 6 t108 _ A9.out).mono ?_); rintro e w' ⟨rfl, ⟨nd, rfl⟩⟩; refine ⟨_, rfl, ?_⟩) | ((with_reducible refine gate_callee (f := 43) rfl ?_); refine goesL_ (some 34) rfl rfl Tryd.func43 (by kernel_rfl) rfl #[.string a1, .int .i64 9] rfl (by (try simp only [List.map_toArray, List.map_cons, List.map_nil]); first | done | rfl | (simp only [List.length_drop, List.length_take]; rfl)) ?_; (with_reducible refine (dailiesref18_value.calls a1 9 t109 _ A10.out).mono ?_); rintro e w' ⟨rfl, ⟨nd, rfl⟩⟩; refine ⟨_, rfl, ?_⟩))
        go_ret3
        exact ⟨by first | rfl | (simp; done) | (simp [*]; done), by repeat (first | exact Drawn0.refl _ | apply Drawn0.step)⟩
      · rw [if_neg c11] at H
        have c11b0 : decide (23 < t106) = false := decide_eq_false c11
        clear c11
        by_cases c12 : t107 > 59
        · rw [if_pos c12] at H
          have c12b0 : decide (59 < t107) = true := decide_eq_true c12
          clear c12
          simp only [Option.some.injEq, Prod.mk.injEq] at H
          obtain ⟨rfl, rfl, rfl⟩ := H
          go_enter Tryd.func24, Tryd.ntmps24
          go_wp2_with (first | ((with_reducible refine gate_callee (f := 32) rfl ?_); refine goesL_ (some 18) rfl rfl Tryd.func32 (by kernel_rfl) rfl #[.int .i64 a0] rfl (by (try simp only [List.map_toArray, List.map_cons, List.map_nil]); first | done | rfl | (simp only [List.length_drop, List.length_take]; rfl)) ?_; (with_reducible refine (dailiesref18_Rate.calls a0 true _ A3.out).mono ?_); rintro e w' ⟨rfl, ⟨nd, rfl⟩⟩; refine ⟨_, rfl, ?_⟩) | ((with_reducible refine gate_callee (f := 42) rfl ?_); refine goesL_ (some 23) rfl rfl Tryd.func42 (by kernel_rfl) rfl #[.int .i64 a0, .string a1] rfl (by (try simp only [List.map_toArray, List.map_cons, List.map_nil]); first | done | rfl | (simp only [List.length_drop, List.length_take]; rfl)) ?_; (with_reducible refine (dailiesref18_formed.calls k a0 a1 t105 _ A5.out).mono ?_); rintro e w' ⟨rfl, ⟨nd, rfl⟩⟩; refine ⟨_, rfl, ?_⟩) | ((with_reducible refine gate_callee (f := 43) rfl ?_); refine goesL_ (some 28) rfl rfl Tryd.func43 (by kernel_rfl) rfl #[.string a1, .int .i64 0] rfl (by (try simp only [List.map_toArray, List.map_cons, List.map_nil]); first | done | rfl | (simp only [List.length_drop, List.length_take]; rfl)) ?_; (with_reducible refine (dailiesref18_value.calls a1 0 t106 _ A7.out).mono ?_); rintro e w' ⟨rfl, ⟨nd, rfl⟩⟩; refine ⟨_, rfl, ?_⟩) | ((with_reducible refine gate_callee (f := 43) rfl ?_); refine goesL_ (some 30) rfl rfl Tryd.func43 (by kernel_rfl) rfl #[.string a1, .int .i64 3] rfl (by (try simp only [List.map_toArray, List.map_cons, List.map_nil]); first | done | rfl | (simp only [List.length_drop, List.length_take]; rfl)) ?_; (with_reducible refine (dailiesref18_value.calls a1 3 t107 _ A8.out).mono ?_); rintro e w' ⟨rfl, ⟨nd, rfl⟩⟩; refine ⟨_, rfl, ?_⟩) | ((with_reducible refine gate_callee (f := 43) rfl ?_); refine goesL_ (some 32) rfl rfl Tryd.func43 (by kernel_rfl) rfl #[.string a1, .int .i64 6] rfl (by (try simp only [List.map_toArray, List.map_cons, List.map_nil]); first | done | rfl | (simp only [List.length_drop, List.length_take]; rfl)) ?_; (with_reducible refine (dailiesref18_value.calls a1 6 t108 _ A9.out).mono ?_); rintro e w' ⟨rfl, ⟨nd, rfl⟩⟩; refine ⟨_, rfl, ?_⟩) | ((with_reducible refine gate_callee (f := 43) rfl ?_); refine goesL_ (some 34) rfl rfl Tryd.func43 (by kernel_rfl) rfl #[.string a1, .int .i64 9] rfl (by (try simp only [List.map_toArray, List.map_cons, List.map_nil]); first | done | rfl | (simp only [List.length_drop, List.length_take]; rfl)) ?_; (with_reducible refine (dailiesref18_value.calls a1 9 t109 _ A10.out).mono ?_); rintro e w' ⟨rfl, ⟨nd, rfl⟩⟩; refine ⟨_, rfl, ?_⟩))
          go_ret3
          exact ⟨by first | rfl | (simp; done) | (simp [*]; done), by repeat (first | exact Drawn0.refl _ | apply Drawn0.step)⟩
        · rw [if_neg c12] at H
          have c12b0 : decide (59 < t107) = false := decide_eq_false c12
          clear c12
          by_cases c13 : t108 > 59
          · rw [if_pos c13] at H
            have c13b0 : decide (59 < t108) = true := decide_eq_true c13
            clear c13
            simp only [Option.some.injEq, Prod.mk.injEq] at H
            obtain ⟨rfl, rfl, rfl⟩ := H
            go_enter Tryd.func24, Tryd.ntmps24
            go_wp2_with (first | ((with_reducible refine gate_callee (f := 32) rfl ?_); refine goesL_ (some 18) rfl rfl Tryd.func32 (by kernel_rfl) rfl #[.int .i64 a0] rfl (by (try simp only [List.map_toArray, List.map_cons, List.map_nil]); first | done | rfl | (simp only [List.length_drop, List.length_take]; rfl)) ?_; (with_reducible refine (dailiesref18_Rate.calls a0 true _ A3.out).mono ?_); rintro e w' ⟨rfl, ⟨nd, rfl⟩⟩; refine ⟨_, rfl, ?_⟩) | ((with_reducible refine gate_callee (f := 42) rfl ?_); refine goesL_ (some 23) rfl rfl Tryd.func42 (by kernel_rfl) rfl #[.int .i64 a0, .string a1] rfl (by (try simp only [List.map_toArray, List.map_cons, List.map_nil]); first | done | rfl | (simp only [List.length_drop, List.length_take]; rfl)) ?_; (with_reducible refine (dailiesref18_formed.calls k a0 a1 t105 _ A5.out).mono ?_); rintro e w' ⟨rfl, ⟨nd, rfl⟩⟩; refine ⟨_, rfl, ?_⟩) | ((with_reducible refine gate_callee (f := 43) rfl ?_); refine goesL_ (some 28) rfl rfl Tryd.func43 (by kernel_rfl) rfl #[.string a1, .int .i64 0] rfl (by (try simp only [List.map_toArray, List.map_cons, List.map_nil]); first | done | rfl | (simp only [List.length_drop, List.length_take]; rfl)) ?_; (with_reducible refine (dailiesref18_value.calls a1 0 t106 _ A7.out).mono ?_); rintro e w' ⟨rfl, ⟨nd, rfl⟩⟩; refine ⟨_, rfl, ?_⟩) | ((with_reducible refine gate_callee (f := 43) rfl ?_); refine goesL_ (some 30) rfl rfl Tryd.func43 (by kernel_rfl) rfl #[.string a1, .int .i64 3] rfl (by (try simp only [List.map_toArray, List.map_cons, List.map_nil]); first | done | rfl | (simp only [List.length_drop, List.length_take]; rfl)) ?_; (with_reducible refine (dailiesref18_value.calls a1 3 t107 _ A8.out).mono ?_); rintro e w' ⟨rfl, ⟨nd, rfl⟩⟩; refine ⟨_, rfl, ?_⟩) | ((with_reducible refine gate_callee (f := 43) rfl ?_); refine goesL_ (some 32) rfl rfl Tryd.func43 (by kernel_rfl) rfl #[.string a1, .int .i64 6] rfl (by (try simp only [List.map_toArray, List.map_cons, List.map_nil]); first | done | rfl | (simp only [List.length_drop, List.length_take]; rfl)) ?_; (with_reducible refine (dailiesref18_value.calls a1 6 t108 _ A9.out).mono ?_); rintro e w' ⟨rfl, ⟨nd, rfl⟩⟩; refine ⟨_, rfl, ?_⟩) | ((with_reducible refine gate_callee (f := 43) rfl ?_); refine goesL_ (some 34) rfl rfl Tryd.func43 (by kernel_rfl) rfl #[.string a1, .int .i64 9] rfl (by (try simp only [List.map_toArray, List.map_cons, List.map_nil]); first | done | rfl | (simp only [List.length_drop, List.length_take]; rfl)) ?_; (with_reducible refine (dailiesref18_value.calls a1 9 t109 _ A10.out).mono ?_); rintro e w' ⟨rfl, ⟨nd, rfl⟩⟩; refine ⟨_, rfl, ?_⟩))
            go_ret3
            exact ⟨by first | rfl | (simp; done) | (simp [*]; done), by repeat (first | exact Drawn0.refl _ | apply Drawn0.step)⟩
          · rw [if_neg c13] at H
            have c13b0 : decide (59 < t108) = false := decide_eq_false c13
            clear c13
            replace H := Option.bind_eq_some_iff.mp H
            obtain ⟨t110, A140, H⟩ := H
            replace H : (if t109 ≥ t110 then (some (0, 9, 182)) else ((dailiesref18_count.f a0).bind fun t111 => ((dailiesref18_left.f a0 (wrap64 ((wrap64 (60 * t106)) + t107))).bind fun t112 => (if (wrap64 ((wrap64 (t111 * t108)) + t109)) < t112 then (some (0, 9, 183)) else ((dailiesref18_left.f a0 (wrap64 ((wrap64 (60 * t106)) + t107))).bind fun t113 => (dailiesref18_Told.l0 k a0 (wrap64 ((wrap64 (60 * t106)) + t107)) (wrap64 ((wrap64 ((wrap64 (t111 * t108)) + t109)) - t113)) 0)))))) = some (r1, r2, r3) := H
            have A14 := Aside0.mk A140
            clear A140
            by_cases c15 : t109 ≥ t110
            · rw [if_pos c15] at H
              have c15b0 : decide (t110 ≤ t109) = true := decide_eq_true c15
              clear c15
              simp only [Option.some.injEq, Prod.mk.injEq] at H
              obtain ⟨rfl, rfl, rfl⟩ := H
              go_enter Tryd.func24, Tryd.ntmps24
              go_wp2_with (first | ((with_reducible refine gate_callee (f := 32) rfl ?_); refine goesL_ (some 18) rfl rfl Tryd.func32 (by kernel_rfl) rfl #[.int .i64 a0] rfl (by (try simp only [List.map_toArray, List.map_cons, List.map_nil]); first | done | rfl | (simp only [List.length_drop, List.length_take]; rfl)) ?_; (with_reducible refine (dailiesref18_Rate.calls a0 true _ A3.out).mono ?_); rintro e w' ⟨rfl, ⟨nd, rfl⟩⟩; refine ⟨_, rfl, ?_⟩) | ((with_reducible refine gate_callee (f := 42) rfl ?_); refine goesL_ (some 23) rfl rfl Tryd.func42 (by kernel_rfl) rfl #[.int .i64 a0, .string a1] rfl (by (try simp only [List.map_toArray, List.map_cons, List.map_nil]); first | done | rfl | (simp only [List.length_drop, List.length_take]; rfl)) ?_; (with_reducible refine (dailiesref18_formed.calls k a0 a1 t105 _ A5.out).mono ?_); rintro e w' ⟨rfl, ⟨nd, rfl⟩⟩; refine ⟨_, rfl, ?_⟩) | ((with_reducible refine gate_callee (f := 43) rfl ?_); refine goesL_ (some 28) rfl rfl Tryd.func43 (by kernel_rfl) rfl #[.string a1, .int .i64 0] rfl (by (try simp only [List.map_toArray, List.map_cons, List.map_nil]); first | done | rfl | (simp only [List.length_drop, List.length_take]; rfl)) ?_; (with_reducible refine (dailiesref18_value.calls a1 0 t106 _ A7.out).mono ?_); rintro e w' ⟨rfl, ⟨nd, rfl⟩⟩; refine ⟨_, rfl, ?_⟩) | ((with_reducible refine gate_callee (f := 43) rfl ?_); refine goesL_ (some 30) rfl rfl Tryd.func43 (by kernel_rfl) rfl #[.string a1, .int .i64 3] rfl (by (try simp only [List.map_toArray, List.map_cons, List.map_nil]); first | done | rfl | (simp only [List.length_drop, List.length_take]; rfl)) ?_; (with_reducible refine (dailiesref18_value.calls a1 3 t107 _ A8.out).mono ?_); rintro e w' ⟨rfl, ⟨nd, rfl⟩⟩; refine ⟨_, rfl, ?_⟩) | ((with_reducible refine gate_callee (f := 43) rfl ?_); refine goesL_ (some 32) rfl rfl Tryd.func43 (by kernel_rfl) rfl #[.string a1, .int .i64 6] rfl (by (try simp only [List.map_toArray, List.map_cons, List.map_nil]); first | done | rfl | (simp only [List.length_drop, List.length_take]; rfl)) ?_; (with_reducible refine (dailiesref18_value.calls a1 6 t108 _ A9.out).mono ?_); rintro e w' ⟨rfl, ⟨nd, rfl⟩⟩; refine ⟨_, rfl, ?_⟩) | ((with_reducible refine gate_callee (f := 43) rfl ?_); refine goesL_ (some 34) rfl rfl Tryd.func43 (by kernel_rfl) rfl #[.string a1, .int .i64 9] rfl (by (try simp only [List.map_toArray, List.map_cons, List.map_nil]); first | done | rfl | (simp only [List.length_drop, List.length_take]; rfl)) ?_; (with_reducible refine (dailiesref18_value.calls a1 9 t109 _ A10.out).mono ?_); rintro e w' ⟨rfl, ⟨nd, rfl⟩⟩; refine ⟨_, rfl, ?_⟩) | ((with_reducible refine gate_callee (f := 35) rfl ?_); refine goesL_ (some 47) rfl rfl Tryd.func35 (by kernel_rfl) rfl #[.int .i64 a0] rfl (by (try simp only [List.map_toArray, List.map_cons, List.map_nil]); first | done | rfl | (simp only [List.length_drop, List.length_take]; rfl)) ?_; (with_reducible refine (dailiesref18_count.calls a0 t110 _ A14.out).mono ?_); rintro e w' ⟨rfl, ⟨nd, rfl⟩⟩; refine ⟨_, rfl, ?_⟩))
              go_ret3
              exact ⟨by first | rfl | (simp; done) | (simp [*]; done), by repeat (first | exact Drawn0.refl _ | apply Drawn0.step)⟩
            · rw [if_neg c15] at H
              have c15b0 : decide (t110 ≤ t109) = false := decide_eq_false c15
              clear c15
              replace H := Option.bind_eq_some_iff.mp H
              obtain ⟨t111, A160, H⟩ := H
              replace H : ((dailiesref18_left.f a0 (wrap64 ((wrap64 (60 * t106)) + t107))).bind fun t112 => (if (wrap64 ((wrap64 (t111 * t108)) + t109)) < t112 then (some (0, 9, 183)) else ((dailiesref18_left.f a0 (wrap64 ((wrap64 (60 * t106)) + t107))).bind fun t113 => (dailiesref18_Told.l0 k a0 (wrap64 ((wrap64 (60 * t106)) + t107)) (wrap64 ((wrap64 ((wrap64 (t111 * t108)) + t109)) - t113)) 0)))) = some (r1, r2, r3) := H
              have A16 := Aside0.mk A160
              clear A160
              replace H := Option.bind_eq_some_iff.mp H
              obtain ⟨t112, A170, H⟩ := H
              replace H : (if (wrap64 ((wrap64 (t111 * t108)) + t109)) < t112 then (some (0, 9, 183)) else ((dailiesref18_left.f a0 (wrap64 ((wrap64 (60 * t106)) + t107))).bind fun t113 => (dailiesref18_Told.l0 k a0 (wrap64 ((wrap64 (60 * t106)) + t107)) (wrap64 ((wrap64 ((wrap64 (t111 * t108)) + t109)) - t113)) 0))) = some (r1, r2, r3) := H
              have A17 := Aside0.mk A170
              clear A170
              by_cases c18 : (wrap64 ((wrap64 (t111 * t108)) + t109)) < t112
              · rw [if_pos c18] at H
                have c18b0 : decide ((wrap64 ((wrap64 (t111 * t108)) + t109)) < t112) = true := decide_eq_true c18
                clear c18
                simp only [Option.some.injEq, Prod.mk.injEq] at H
                obtain ⟨rfl, rfl, rfl⟩ := H
                go_enter Tryd.func24, Tryd.ntmps24
                go_wp2_with (first | ((with_reducible refine gate_callee (f := 32) rfl ?_); refine goesL_ (some 18) rfl rfl Tryd.func32 (by kernel_rfl) rfl #[.int .i64 a0] rfl (by (try simp only [List.map_toArray, List.map_cons, List.map_nil]); first | done | rfl | (simp only [List.length_drop, List.length_take]; rfl)) ?_; (with_reducible refine (dailiesref18_Rate.calls a0 true _ A3.out).mono ?_); rintro e w' ⟨rfl, ⟨nd, rfl⟩⟩; refine ⟨_, rfl, ?_⟩) | ((with_reducible refine gate_callee (f := 42) rfl ?_); refine goesL_ (some 23) rfl rfl Tryd.func42 (by kernel_rfl) rfl #[.int .i64 a0, .string a1] rfl (by (try simp only [List.map_toArray, List.map_cons, List.map_nil]); first | done | rfl | (simp only [List.length_drop, List.length_take]; rfl)) ?_; (with_reducible refine (dailiesref18_formed.calls k a0 a1 t105 _ A5.out).mono ?_); rintro e w' ⟨rfl, ⟨nd, rfl⟩⟩; refine ⟨_, rfl, ?_⟩) | ((with_reducible refine gate_callee (f := 43) rfl ?_); refine goesL_ (some 28) rfl rfl Tryd.func43 (by kernel_rfl) rfl #[.string a1, .int .i64 0] rfl (by (try simp only [List.map_toArray, List.map_cons, List.map_nil]); first | done | rfl | (simp only [List.length_drop, List.length_take]; rfl)) ?_; (with_reducible refine (dailiesref18_value.calls a1 0 t106 _ A7.out).mono ?_); rintro e w' ⟨rfl, ⟨nd, rfl⟩⟩; refine ⟨_, rfl, ?_⟩) | ((with_reducible refine gate_callee (f := 43) rfl ?_); refine goesL_ (some 30) rfl rfl Tryd.func43 (by kernel_rfl) rfl #[.string a1, .int .i64 3] rfl (by (try simp only [List.map_toArray, List.map_cons, List.map_nil]); first | done | rfl | (simp only [List.length_drop, List.length_take]; rfl)) ?_; (with_reducible refine (dailiesref18_value.calls a1 3 t107 _ A8.out).mono ?_); rintro e w' ⟨rfl, ⟨nd, rfl⟩⟩; refine ⟨_, rfl, ?_⟩) | ((with_reducible refine gate_callee (f := 43) rfl ?_); refine goesL_ (some 32) rfl rfl Tryd.func43 (by kernel_rfl) rfl #[.string a1, .int .i64 6] rfl (by (try simp only [List.map_toArray, List.map_cons, List.map_nil]); first | done | rfl | (simp only [List.length_drop, List.length_take]; rfl)) ?_; (with_reducible refine (dailiesref18_value.calls a1 6 t108 _ A9.out).mono ?_); rintro e w' ⟨rfl, ⟨nd, rfl⟩⟩; refine ⟨_, rfl, ?_⟩) | ((with_reducible refine gate_callee (f := 43) rfl ?_); refine goesL_ (some 34) rfl rfl Tryd.func43 (by kernel_rfl) rfl #[.string a1, .int .i64 9] rfl (by (try simp only [List.map_toArray, List.map_cons, List.map_nil]); first | done | rfl | (simp only [List.length_drop, List.length_take]; rfl)) ?_; (with_reducible refine (dailiesref18_value.calls a1 9 t109 _ A10.out).mono ?_); rintro e w' ⟨rfl, ⟨nd, rfl⟩⟩; refine ⟨_, rfl, ?_⟩) | ((with_reducible refine gate_callee (f := 35) rfl ?_); refine goesL_ (some 47) rfl rfl Tryd.func35 (by kernel_rfl) rfl #[.int .i64 a0] rfl (by (try simp only [List.map_toArray, List.map_cons, List.map_nil]); first | done | rfl | (simp only [List.length_drop, List.length_take]; rfl)) ?_; (with_reducible refine (dailiesref18_count.calls a0 t110 _ A14.out).mono ?_); rintro e w' ⟨rfl, ⟨nd, rfl⟩⟩; refine ⟨_, rfl, ?_⟩) | ((with_reducible refine gate_callee (f := 35) rfl ?_); refine goesL_ (some 54) rfl rfl Tryd.func35 (by kernel_rfl) rfl #[.int .i64 a0] rfl (by (try simp only [List.map_toArray, List.map_cons, List.map_nil]); first | done | rfl | (simp only [List.length_drop, List.length_take]; rfl)) ?_; (with_reducible refine (dailiesref18_count.calls a0 t111 _ A16.out).mono ?_); rintro e w' ⟨rfl, ⟨nd, rfl⟩⟩; refine ⟨_, rfl, ?_⟩) | ((with_reducible refine gate_callee (f := 36) rfl ?_); refine goesL_ (some 62) rfl rfl Tryd.func36 (by kernel_rfl) rfl #[.int .i64 a0, .int .i64 (wrap64 ((wrap64 (60 * t106)) + t107))] rfl (by (try simp only [List.map_toArray, List.map_cons, List.map_nil]); first | done | rfl | (simp only [List.length_drop, List.length_take]; rfl)) ?_; (with_reducible refine (dailiesref18_left.calls a0 (wrap64 ((wrap64 (60 * t106)) + t107)) t112 _ A17.out).mono ?_); rintro e w' ⟨rfl, ⟨nd, rfl⟩⟩; refine ⟨_, rfl, ?_⟩))
                go_ret3
                exact ⟨by first | rfl | (simp; done) | (simp [*]; done), by repeat (first | exact Drawn0.refl _ | apply Drawn0.step)⟩
              · rw [if_neg c18] at H
                have c18b0 : decide ((wrap64 ((wrap64 (t111 * t108)) + t109)) < t112) = false := decide_eq_false c18
                clear c18
                replace H := Option.bind_eq_some_iff.mp H
                obtain ⟨t113, A190, H⟩ := H
                replace H : (dailiesref18_Told.l0 k a0 (wrap64 ((wrap64 (60 * t106)) + t107)) (wrap64 ((wrap64 ((wrap64 (t111 * t108)) + t109)) - t113)) 0) = some (r1, r2, r3) := H
                have A19 := Aside0.mk A190
                clear A190
                have H' := Aside0.mk H
                clear H
                go_enter Tryd.func24, Tryd.ntmps24
                go_wp2_with (first | ((with_reducible refine gate_callee (f := 32) rfl ?_); refine goesL_ (some 18) rfl rfl Tryd.func32 (by kernel_rfl) rfl #[.int .i64 a0] rfl (by (try simp only [List.map_toArray, List.map_cons, List.map_nil]); first | done | rfl | (simp only [List.length_drop, List.length_take]; rfl)) ?_; (with_reducible refine (dailiesref18_Rate.calls a0 true _ A3.out).mono ?_); rintro e w' ⟨rfl, ⟨nd, rfl⟩⟩; refine ⟨_, rfl, ?_⟩) | ((with_reducible refine gate_callee (f := 42) rfl ?_); refine goesL_ (some 23) rfl rfl Tryd.func42 (by kernel_rfl) rfl #[.int .i64 a0, .string a1] rfl (by (try simp only [List.map_toArray, List.map_cons, List.map_nil]); first | done | rfl | (simp only [List.length_drop, List.length_take]; rfl)) ?_; (with_reducible refine (dailiesref18_formed.calls k a0 a1 t105 _ A5.out).mono ?_); rintro e w' ⟨rfl, ⟨nd, rfl⟩⟩; refine ⟨_, rfl, ?_⟩) | ((with_reducible refine gate_callee (f := 43) rfl ?_); refine goesL_ (some 28) rfl rfl Tryd.func43 (by kernel_rfl) rfl #[.string a1, .int .i64 0] rfl (by (try simp only [List.map_toArray, List.map_cons, List.map_nil]); first | done | rfl | (simp only [List.length_drop, List.length_take]; rfl)) ?_; (with_reducible refine (dailiesref18_value.calls a1 0 t106 _ A7.out).mono ?_); rintro e w' ⟨rfl, ⟨nd, rfl⟩⟩; refine ⟨_, rfl, ?_⟩) | ((with_reducible refine gate_callee (f := 43) rfl ?_); refine goesL_ (some 30) rfl rfl Tryd.func43 (by kernel_rfl) rfl #[.string a1, .int .i64 3] rfl (by (try simp only [List.map_toArray, List.map_cons, List.map_nil]); first | done | rfl | (simp only [List.length_drop, List.length_take]; rfl)) ?_; (with_reducible refine (dailiesref18_value.calls a1 3 t107 _ A8.out).mono ?_); rintro e w' ⟨rfl, ⟨nd, rfl⟩⟩; refine ⟨_, rfl, ?_⟩) | ((with_reducible refine gate_callee (f := 43) rfl ?_); refine goesL_ (some 32) rfl rfl Tryd.func43 (by kernel_rfl) rfl #[.string a1, .int .i64 6] rfl (by (try simp only [List.map_toArray, List.map_cons, List.map_nil]); first | done | rfl | (simp only [List.length_drop, List.length_take]; rfl)) ?_; (with_reducible refine (dailiesref18_value.calls a1 6 t108 _ A9.out).mono ?_); rintro e w' ⟨rfl, ⟨nd, rfl⟩⟩; refine ⟨_, rfl, ?_⟩) | ((with_reducible refine gate_callee (f := 43) rfl ?_); refine goesL_ (some 34) rfl rfl Tryd.func43 (by kernel_rfl) rfl #[.string a1, .int .i64 9] rfl (by (try simp only [List.map_toArray, List.map_cons, List.map_nil]); first | done | rfl | (simp only [List.length_drop, List.length_take]; rfl)) ?_; (with_reducible refine (dailiesref18_value.calls a1 9 t109 _ A10.out).mono ?_); rintro e w' ⟨rfl, ⟨nd, rfl⟩⟩; refine ⟨_, rfl, ?_⟩) | ((with_reducible refine gate_callee (f := 35) rfl ?_); refine goesL_ (some 47) rfl rfl Tryd.func35 (by kernel_rfl) rfl #[.int .i64 a0] rfl (by (try simp only [List.map_toArray, List.map_cons, List.map_nil]); first | done | rfl | (simp only [List.length_drop, List.length_take]; rfl)) ?_; (with_reducible refine (dailiesref18_count.calls a0 t110 _ A14.out).mono ?_); rintro e w' ⟨rfl, ⟨nd, rfl⟩⟩; refine ⟨_, rfl, ?_⟩) | ((with_reducible refine gate_callee (f := 35) rfl ?_); refine goesL_ (some 54) rfl rfl Tryd.func35 (by kernel_rfl) rfl #[.int .i64 a0] rfl (by (try simp only [List.map_toArray, List.map_cons, List.map_nil]); first | done | rfl | (simp only [List.length_drop, List.length_take]; rfl)) ?_; (with_reducible refine (dailiesref18_count.calls a0 t111 _ A16.out).mono ?_); rintro e w' ⟨rfl, ⟨nd, rfl⟩⟩; refine ⟨_, rfl, ?_⟩) | ((with_reducible refine gate_callee (f := 36) rfl ?_); refine goesL_ (some 62) rfl rfl Tryd.func36 (by kernel_rfl) rfl #[.int .i64 a0, .int .i64 (wrap64 ((wrap64 (60 * t106)) + t107))] rfl (by (try simp only [List.map_toArray, List.map_cons, List.map_nil]); first | done | rfl | (simp only [List.length_drop, List.length_take]; rfl)) ?_; (with_reducible refine (dailiesref18_left.calls a0 (wrap64 ((wrap64 (60 * t106)) + t107)) t112 _ A17.out).mono ?_); rintro e w' ⟨rfl, ⟨nd, rfl⟩⟩; refine ⟨_, rfl, ?_⟩) | ((with_reducible refine gate_callee (f := 36) rfl ?_); refine goesL_ (some 67) rfl rfl Tryd.func36 (by kernel_rfl) rfl #[.int .i64 a0, .int .i64 (wrap64 ((wrap64 (60 * t106)) + t107))] rfl (by (try simp only [List.map_toArray, List.map_cons, List.map_nil]); first | done | rfl | (simp only [List.length_drop, List.length_take]; rfl)) ?_; (with_reducible refine (dailiesref18_left.calls a0 (wrap64 ((wrap64 (60 * t106)) + t107)) t113 _ A19.out).mono ?_); rintro e w' ⟨rfl, ⟨nd, rfl⟩⟩; refine ⟨_, rfl, ?_⟩))
                go_loopg [15, 16] k (fun kq v15 v16 w' => ∃ (x15_1 : Int) (x16_1 : Int), v15 = .int .i64 x15_1 ∧ v16 = .int .i64 x16_1 ∧ Aside0 (dailiesref18_Told.l0 kq a0 (wrap64 ((wrap64 (60 * t106)) + t107)) x15_1 x16_1 = some (r1, r2, r3)) ∧ Aside0 (kq ≤ k) ∧ Drawn0 w w')
                case atStart => exact ⟨(wrap64 ((wrap64 ((wrap64 (t111 * t108)) + t109)) - t113)), (0), (by first | rfl | (simp; done) | (simp [*]; done)), (by first | rfl | (simp; done) | (simp [*]; done)), H', ⟨Nat.le_refl _⟩, by repeat (first | exact Drawn0.refl _ | apply Drawn0.step)⟩
                case round =>
                  clear H'
                  try clear c1
                  try clear c2
                  try clear p2
                  try clear c3
                  try clear c4
                  try clear c6
                  try clear c6b0
                  try clear p6
                  try clear c11
                  try clear c11b0
                  try clear c12
                  try clear c12b0
                  try clear c13
                  try clear c13b0
                  try clear c15
                  try clear c15b0
                  try clear c18
                  try clear c18b0
                  obtain ⟨x15_1, x16_1, rfl, rfl, HA, HK1, ⟨m1, rfl⟩⟩ := hrel
                  cases gk with
                  | zero => exact absurd HA.out (by simp [dailiesref18_Told.l0])
                  | succ k1 =>
                    have H := HA.out
                    clear HA
                    simp only [dailiesref18_Told.l0] at H
                    by_cases c20 : x16_1 < (wrap64 ((wrap64 (60 * t106)) + t107))
                    · rw [if_pos c20] at H
                      have c20b0 : decide (x16_1 < (wrap64 ((wrap64 (60 * t106)) + t107))) = true := decide_eq_true c20
                      clear c20
                      replace H := Option.bind_eq_some_iff.mp H
                      obtain ⟨t114, A210, H⟩ := H
                      replace H : ((dailiesref18_left.f a0 x16_1).bind fun t115 => (dailiesref18_Told.l0 k1 a0 (wrap64 ((wrap64 (60 * t106)) + t107)) (wrap64 ((wrap64 (x15_1 + (wrap64 (60 * t114)))) - t115)) (wrap64 (x16_1 + 1)))) = some (r1, r2, r3) := H
                      have A21 := Aside0.mk A210
                      clear A210
                      replace H := Option.bind_eq_some_iff.mp H
                      obtain ⟨t115, A220, H⟩ := H
                      replace H : (dailiesref18_Told.l0 k1 a0 (wrap64 ((wrap64 (60 * t106)) + t107)) (wrap64 ((wrap64 (x15_1 + (wrap64 (60 * t114)))) - t115)) (wrap64 (x16_1 + 1))) = some (r1, r2, r3) := H
                      have A22 := Aside0.mk A220
                      clear A220
                      have H' := Aside0.mk H
                      clear H
                      go_wp2_with (first | ((with_reducible refine gate_callee (f := 35) rfl ?_); refine goesL_ (some 76) rfl rfl Tryd.func35 (by kernel_rfl) rfl #[.int .i64 a0] rfl (by (try simp only [List.map_toArray, List.map_cons, List.map_nil]); first | done | rfl | (simp only [List.length_drop, List.length_take]; rfl)) ?_; (with_reducible refine (dailiesref18_count.calls a0 t114 _ A21.out).mono ?_); rintro e w' ⟨rfl, ⟨nd, rfl⟩⟩; refine ⟨_, rfl, ?_⟩) | ((with_reducible refine gate_callee (f := 36) rfl ?_); refine goesL_ (some 81) rfl rfl Tryd.func36 (by kernel_rfl) rfl #[.int .i64 a0, .int .i64 x16_1] rfl (by (try simp only [List.map_toArray, List.map_cons, List.map_nil]); first | done | rfl | (simp only [List.length_drop, List.length_take]; rfl)) ?_; (with_reducible refine (dailiesref18_left.calls a0 x16_1 t115 _ A22.out).mono ?_); rintro e w' ⟨rfl, ⟨nd, rfl⟩⟩; refine ⟨_, rfl, ?_⟩))
                      go_roundg k1
                      case measure => have := HK1.out; omega
                      case rel => exact ⟨(wrap64 ((wrap64 (x15_1 + (wrap64 (60 * t114)))) - t115)), (wrap64 (x16_1 + 1)), (by first | rfl | (simp; done) | (simp [*]; done)), (by first | rfl | (simp; done) | (simp [*]; done)), H', ⟨by have := HK1.out; omega⟩, by repeat (first | exact Drawn0.refl _ | apply Drawn0.step)⟩
                    · rw [if_neg c20] at H
                      have c20b0 : decide (x16_1 < (wrap64 ((wrap64 (60 * t106)) + t107))) = false := decide_eq_false c20
                      clear c20
                      simp only [Option.some.injEq, Prod.mk.injEq] at H
                      obtain ⟨rfl, rfl, rfl⟩ := H
                      go_wp2
                      go_ret3
                      exact ⟨by first | rfl | (simp; done) | (simp [*]; done), by repeat (first | exact Drawn0.refl _ | apply Drawn0.step)⟩
  · replace c4 := Bool.eq_false_iff.mpr c4
    subst c4
    have H1 : (some (0, 0, 181)) = some (r1, r2, r3) := by rw [if_neg (show ¬ (false = true) by decide)] at H; exact H
    clear H
    have H := H1
    clear H1
    simp only [Option.some.injEq, Prod.mk.injEq] at H
    obtain ⟨rfl, rfl, rfl⟩ := H
    go_enter Tryd.func24, Tryd.ntmps24
    go_wp2_with (first | ((with_reducible refine gate_callee (f := 32) rfl ?_); refine goesL_ (some 18) rfl rfl Tryd.func32 (by kernel_rfl) rfl #[.int .i64 a0] rfl (by (try simp only [List.map_toArray, List.map_cons, List.map_nil]); first | done | rfl | (simp only [List.length_drop, List.length_take]; rfl)) ?_; (with_reducible refine (dailiesref18_Rate.calls a0 false _ A3.out).mono ?_); rintro e w' ⟨rfl, ⟨nd, rfl⟩⟩; refine ⟨_, rfl, ?_⟩))
    go_ret3
    exact ⟨by first | rfl | (simp; done) | (simp [*]; done), by repeat (first | exact Drawn0.refl _ | apply Drawn0.step)⟩

-- NOT PRINTED: function 8 (dailieslaw18_TimecodeReads)

end Go.Proofs.YtjmhjhmlcjkjeaaDoor.QRTimecodeReads
