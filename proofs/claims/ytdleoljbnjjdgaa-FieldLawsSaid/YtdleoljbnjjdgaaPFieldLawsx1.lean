-- PRINTED BY print.sh 35421559b90ae4d0a3588c463048766b98c2df88dd9212a6774a882060cdf62d: not written by this session
import Derived.Test.YtdleoljbnjjdgaaPFieldLawsx0
namespace Go.Proofs.Ytdleoljbnjjdgaa.PFieldLaws
open Go.RowKit Go.Proofs.YtdleoljbnjjdgaaW.PrintWords Go.Proofs.YtdleoljbnjjdgaaW.PrintLast Go.Proofs.YtdleoljbnjjdgaaW.PrintMore
attribute [local go_sem] max2_int min2_int max_two min_two max_three min_three max_four min_four   -- for this text's walks alone
set_option linter.unusedVariables false
set_option linter.unusedSimpArgs false

/-! ### field_Mul: function 12 -/
def field_Mul.l0 : Nat → Int → Int → Int → Option (Int)
  | 0, _, _, _ => none
  | k + 1, x5, x6, x7 => if x7 = 0 then (some ((x5) % 256)) else (if (Go.bits .and .u8 x7 1) = 1 then (if (wrap64 (x6 * 2)) > 255 then (field_Mul.l0 k (Go.bits .xor .i64 x5 x6) (Go.bits .xor .i64 (wrap64 (x6 * 2)) 357) (x7 / 2)) else (field_Mul.l0 k (Go.bits .xor .i64 x5 x6) (wrap64 (x6 * 2)) (x7 / 2))) else (if (wrap64 (x6 * 2)) > 255 then (field_Mul.l0 k x5 (Go.bits .xor .i64 (wrap64 (x6 * 2)) 357) (x7 / 2)) else (field_Mul.l0 k x5 (wrap64 (x6 * 2)) (x7 / 2))))
def field_Mul.f (k : Nat) (a0 : Int) (a1 : Int) : Option (Int) := field_Mul.l0 k 0 (wrap64 (a0)) a1
theorem field_Mul.mono_l : ∀ k, (∀ y0 y1 y2, LeO (field_Mul.l0 k y0 y1 y2) (field_Mul.l0 (k + 1) y0 y1 y2))
  | 0 => fun _ _ _ r h => by simp [field_Mul.l0] at h
  | k + 1 => by
    have ih0 := field_Mul.mono_l k
    · intro y0 y1 y2
      unfold field_Mul.l0
      repeat' first
      | (with_reducible exact ih0 _ _ _)
      | (with_reducible exact LeO.refl _)
      | (with_reducible exact LeO.none _)
      | (with_reducible refine LeO.ite ?_ ?_)
      | (with_reducible refine LeO.bind ?_ (fun _ => ?_))
      | exact ih0 _ _ _
      | exact LeO.none _
      | refine LeO.ite ?_ ?_
      | refine LeO.bind ?_ (fun _ => ?_)
theorem field_Mul.mono : ∀ a0 a1 k, LeO (field_Mul.f k a0 a1) (field_Mul.f (k + 1) a0 a1) := by
  intro a0 a1 k
  have ih0 := field_Mul.mono_l k
  unfold field_Mul.f
  repeat' first
      | (with_reducible exact ih0 _ _ _)
      | (with_reducible exact LeO.refl _)
      | (with_reducible exact LeO.none _)
      | (with_reducible refine LeO.ite ?_ ?_)
      | (with_reducible refine LeO.bind ?_ (fun _ => ?_))
      | exact ih0 _ _ _
      | exact LeO.none _
      | refine LeO.ite ?_ ?_
      | refine LeO.bind ?_ (fun _ => ?_)
set_option maxHeartbeats 8000000 in
set_option maxRecDepth 100000 in
theorem field_Mul.calls (k : Nat) (a0 : Int) (a1 : Int) (r : Int) (w : World) (h : field_Mul.f k a0 a1 = some r) :
    Calls Try.prog 12 #[.int .u8 a0, .int .u8 a1] w fun e w' => e = .returned (.int .u8 r) ∧ Drawn0 w w' := by
  have H : (field_Mul.l0 k 0 (wrap64 (a0)) a1) = some r := h
  clear h
  have H' := Aside0.mk H
  clear H
  go_enter Try.func12, Try.ntmps12
  go_wp2
  go_loopg [5, 6, 7] k (fun kq v5 v6 v7 w' => ∃ (x5_1 : Int) (x6_1 : Int) (x7_1 : Int), v5 = .int .i64 x5_1 ∧ v6 = .int .i64 x6_1 ∧ v7 = .int .u8 x7_1 ∧ Aside0 (field_Mul.l0 kq x5_1 x6_1 x7_1 = some r) ∧ Aside0 (kq ≤ k) ∧ Drawn0 w w')
  case atStart => exact ⟨(0), (wrap64 (a0)), (a1), (by first | rfl | (simp; done) | (simp [*]; done)), (by first | rfl | (simp; done) | (simp [*]; done)), (by first | rfl | (simp; done) | (simp [*]; done)), H', ⟨Nat.le_refl _⟩, by repeat (first | exact Drawn0.refl _ | apply Drawn0.step)⟩
  case round =>
    clear H'
    try clear c1
    try clear p2
    obtain ⟨x5_1, x6_1, x7_1, rfl, rfl, rfl, HA, HK1, ⟨m1, rfl⟩⟩ := hrel
    cases gk with
    | zero => exact absurd HA.out (by simp [field_Mul.l0])
    | succ k1 =>
      have H := HA.out
      clear HA
      simp only [field_Mul.l0] at H
      by_cases c3 : x7_1 = 0
      · rw [if_pos c3] at H
        have c3b0 : (x7_1 == 0) = true := beq_iff_eq.mpr c3
        have c3b1 : (x7_1 != 0) = false := bne_eq_false_iff_eq.mpr c3
        clear c3
        obtain rfl := Option.some.inj H
        go_wp2
        go_ret
        exact ⟨by first | rfl | (simp; done) | (simp [*]; done), by repeat (first | exact Drawn0.refl _ | apply Drawn0.step)⟩
      · rw [if_neg c3] at H
        have c3b0 : (x7_1 == 0) = false := beq_eq_false_iff_ne.mpr c3
        have c3b1 : (x7_1 != 0) = true := bne_iff_ne.mpr c3
        by_cases c4 : (Go.bits .and .u8 x7_1 1) = 1
        · rw [if_pos c4] at H
          have c4b0 : ((Go.bits .and .u8 x7_1 1) == 1) = true := beq_iff_eq.mpr c4
          have c4b1 : ((Go.bits .and .u8 x7_1 1) != 1) = false := bne_eq_false_iff_eq.mpr c4
          clear c4
          by_cases c5 : (wrap64 (x6_1 * 2)) > 255
          · rw [if_pos c5] at H
            have c5b0 : decide (255 < (wrap64 (x6_1 * 2))) = true := decide_eq_true c5
            clear c5
            have H' := Aside0.mk H
            clear H
            go_wp2
            go_roundg k1
            case measure => have := HK1.out; omega
            case rel => exact ⟨(Go.bits .xor .i64 x5_1 x6_1), (Go.bits .xor .i64 (wrap64 (x6_1 * 2)) 357), (x7_1 / 2), (by first | rfl | (simp; done) | (simp [*]; done)), (by first | rfl | (simp; done) | (simp [*]; done)), (by first | rfl | (simp; done) | (simp [*]; done)), H', ⟨by have := HK1.out; omega⟩, by repeat (first | exact Drawn0.refl _ | apply Drawn0.step)⟩
          · rw [if_neg c5] at H
            have c5b0 : decide (255 < (wrap64 (x6_1 * 2))) = false := decide_eq_false c5
            clear c5
            have H' := Aside0.mk H
            clear H
            go_wp2
            go_roundg k1
            case measure => have := HK1.out; omega
            case rel => exact ⟨(Go.bits .xor .i64 x5_1 x6_1), (wrap64 (x6_1 * 2)), (x7_1 / 2), (by first | rfl | (simp; done) | (simp [*]; done)), (by first | rfl | (simp; done) | (simp [*]; done)), (by first | rfl | (simp; done) | (simp [*]; done)), H', ⟨by have := HK1.out; omega⟩, by repeat (first | exact Drawn0.refl _ | apply Drawn0.step)⟩
        · rw [if_neg c4] at H
          have c4b0 : ((Go.bits .and .u8 x7_1 1) == 1) = false := beq_eq_false_iff_ne.mpr c4
          have c4b1 : ((Go.bits .and .u8 x7_1 1) != 1) = true := bne_iff_ne.mpr c4
          by_cases c6 : (wrap64 (x6_1 * 2)) > 255
          · rw [if_pos c6] at H
            have c6b0 : decide (255 < (wrap64 (x6_1 * 2))) = true := decide_eq_true c6
            clear c6
            have H' := Aside0.mk H
            clear H
            go_wp2
            go_roundg k1
            case measure => have := HK1.out; omega
            case rel => exact ⟨(x5_1), (Go.bits .xor .i64 (wrap64 (x6_1 * 2)) 357), (x7_1 / 2), (by first | rfl | (simp; done) | (simp [*]; done)), (by first | rfl | (simp; done) | (simp [*]; done)), (by first | rfl | (simp; done) | (simp [*]; done)), H', ⟨by have := HK1.out; omega⟩, by repeat (first | exact Drawn0.refl _ | apply Drawn0.step)⟩
          · rw [if_neg c6] at H
            have c6b0 : decide (255 < (wrap64 (x6_1 * 2))) = false := decide_eq_false c6
            clear c6
            have H' := Aside0.mk H
            clear H
            go_wp2
            go_roundg k1
            case measure => have := HK1.out; omega
            case rel => exact ⟨(x5_1), (wrap64 (x6_1 * 2)), (x7_1 / 2), (by first | rfl | (simp; done) | (simp [*]; done)), (by first | rfl | (simp; done) | (simp [*]; done)), (by first | rfl | (simp; done) | (simp [*]; done)), H', ⟨by have := HK1.out; omega⟩, by repeat (first | exact Drawn0.refl _ | apply Drawn0.step)⟩

/-! ### field_power: function 36 -/
def field_power.l0 : Nat → Int → Int → Int → Option (Int)
  | 0, _, _, _ => none
  | k + 1, x0, x1, x5 => if x1 > 0 then (if (Go.bits .and .i64 x1 1) = 1 then ((field_Mul.f k x5 x0).bind fun t101 => ((field_Mul.f k x0 x0).bind fun t102 => (field_power.l0 k t102 (x1 / 2) t101))) else ((field_Mul.f k x0 x0).bind fun t103 => (field_power.l0 k t103 (x1 / 2) x5))) else (some x5)
def field_power.f (k : Nat) (a0 : Int) (a1 : Int) : Option (Int) := field_power.l0 k a0 a1 1
theorem field_power.mono_l : ∀ k, (∀ y0 y1 y2, LeO (field_power.l0 k y0 y1 y2) (field_power.l0 (k + 1) y0 y1 y2))
  | 0 => fun _ _ _ r h => by simp [field_power.l0] at h
  | k + 1 => by
    have ih0 := field_power.mono_l k
    · intro y0 y1 y2
      unfold field_power.l0
      repeat' first
      | (with_reducible exact ih0 _ _ _)
      | (with_reducible exact field_Mul.mono _ _ _)
      | (with_reducible exact LeO.refl _)
      | (with_reducible exact LeO.none _)
      | (with_reducible refine LeO.ite ?_ ?_)
      | (with_reducible refine LeO.bind ?_ (fun _ => ?_))
      | exact ih0 _ _ _
      | exact field_Mul.mono _ _ _
      | exact LeO.none _
      | refine LeO.ite ?_ ?_
      | refine LeO.bind ?_ (fun _ => ?_)
theorem field_power.mono : ∀ a0 a1 k, LeO (field_power.f k a0 a1) (field_power.f (k + 1) a0 a1) := by
  intro a0 a1 k
  have ih0 := field_power.mono_l k
  unfold field_power.f
  repeat' first
      | (with_reducible exact ih0 _ _ _)
      | (with_reducible exact field_Mul.mono _ _ _)
      | (with_reducible exact LeO.refl _)
      | (with_reducible exact LeO.none _)
      | (with_reducible refine LeO.ite ?_ ?_)
      | (with_reducible refine LeO.bind ?_ (fun _ => ?_))
      | exact ih0 _ _ _
      | exact field_Mul.mono _ _ _
      | exact LeO.none _
      | refine LeO.ite ?_ ?_
      | refine LeO.bind ?_ (fun _ => ?_)
set_option maxHeartbeats 8000000 in
set_option maxRecDepth 100000 in
theorem field_power.calls (k : Nat) (a0 : Int) (a1 : Int) (r : Int) (w : World) (h : field_power.f k a0 a1 = some r) :
    Calls Try.prog 36 #[.int .u8 a0, .int .i64 a1] w fun e w' => e = .returned (.int .u8 r) ∧ Drawn0 w w' := by
  have H : (field_power.l0 k a0 a1 1) = some r := h
  clear h
  have H' := Aside0.mk H
  clear H
  go_enter Try.func36, Try.ntmps36
  go_wp2
  go_loopg [0, 1, 5] k (fun kq v0 v1 v5 w' => ∃ (x0_1 : Int) (x1_1 : Int) (x5_1 : Int), v0 = .int .u8 x0_1 ∧ v1 = .int .i64 x1_1 ∧ v5 = .int .u8 x5_1 ∧ Aside0 (field_power.l0 kq x0_1 x1_1 x5_1 = some r) ∧ Aside0 (kq ≤ k) ∧ Drawn0 w w')
  case atStart => exact ⟨(a0), (a1), (1), (by first | rfl | (simp; done) | (simp [*]; done)), (by first | rfl | (simp; done) | (simp [*]; done)), (by first | rfl | (simp; done) | (simp [*]; done)), H', ⟨Nat.le_refl _⟩, by repeat (first | exact Drawn0.refl _ | apply Drawn0.step)⟩
  case round =>
    clear H'
    try clear p2
    obtain ⟨x0_1, x1_1, x5_1, rfl, rfl, rfl, HA, HK1, ⟨m1, rfl⟩⟩ := hrel
    cases gk with
    | zero => exact absurd HA.out (by simp [field_power.l0])
    | succ k1 =>
      have H := HA.out
      clear HA
      simp only [field_power.l0] at H
      by_cases c3 : x1_1 > 0
      · rw [if_pos c3] at H
        have c3b0 : decide (0 < x1_1) = true := decide_eq_true c3
        clear c3
        by_cases c4 : (Go.bits .and .i64 x1_1 1) = 1
        · rw [if_pos c4] at H
          have c4b0 : ((Go.bits .and .i64 x1_1 1) == 1) = true := beq_iff_eq.mpr c4
          have c4b1 : ((Go.bits .and .i64 x1_1 1) != 1) = false := bne_eq_false_iff_eq.mpr c4
          clear c4
          replace H := Option.bind_eq_some_iff.mp H
          obtain ⟨t101, A50, H⟩ := H
          replace H : ((field_Mul.f k1 x0_1 x0_1).bind fun t102 => (field_power.l0 k1 t102 (x1_1 / 2) t101)) = some r := H
          have A5 := Aside0.mk A50
          clear A50
          replace H := Option.bind_eq_some_iff.mp H
          obtain ⟨t102, A60, H⟩ := H
          replace H : (field_power.l0 k1 t102 (x1_1 / 2) t101) = some r := H
          have A6 := Aside0.mk A60
          clear A60
          have H' := Aside0.mk H
          clear H
          go_wp2_with (first | ((with_reducible refine gate_callee (f := 12) rfl ?_); refine goesL_ (some 15) rfl rfl Try.func12 (by kernel_rfl) rfl #[.int .u8 x5_1, .int .u8 x0_1] rfl (by (try simp only [List.map_toArray, List.map_cons, List.map_nil]); first | done | rfl | (simp only [List.length_drop, List.length_take]; rfl)) ?_; (with_reducible refine (field_Mul.calls k1 x5_1 x0_1 t101 _ A5.out).mono ?_); rintro e w' ⟨rfl, ⟨nd, rfl⟩⟩; refine ⟨_, rfl, ?_⟩) | ((with_reducible refine gate_callee (f := 12) rfl ?_); refine goesL_ (some 18) rfl rfl Try.func12 (by kernel_rfl) rfl #[.int .u8 x0_1, .int .u8 x0_1] rfl (by (try simp only [List.map_toArray, List.map_cons, List.map_nil]); first | done | rfl | (simp only [List.length_drop, List.length_take]; rfl)) ?_; (with_reducible refine (field_Mul.calls k1 x0_1 x0_1 t102 _ A6.out).mono ?_); rintro e w' ⟨rfl, ⟨nd, rfl⟩⟩; refine ⟨_, rfl, ?_⟩))
          go_roundg k1
          case measure => have := HK1.out; omega
          case rel => exact ⟨(t102), (x1_1 / 2), (t101), (by first | rfl | (simp; done) | (simp [*]; done)), (by first | rfl | (simp; done) | (simp [*]; done)), (by first | rfl | (simp; done) | (simp [*]; done)), H', ⟨by have := HK1.out; omega⟩, by repeat (first | exact Drawn0.refl _ | apply Drawn0.step)⟩
        · rw [if_neg c4] at H
          have c4b0 : ((Go.bits .and .i64 x1_1 1) == 1) = false := beq_eq_false_iff_ne.mpr c4
          have c4b1 : ((Go.bits .and .i64 x1_1 1) != 1) = true := bne_iff_ne.mpr c4
          replace H := Option.bind_eq_some_iff.mp H
          obtain ⟨t103, A70, H⟩ := H
          replace H : (field_power.l0 k1 t103 (x1_1 / 2) x5_1) = some r := H
          have A7 := Aside0.mk A70
          clear A70
          have H' := Aside0.mk H
          clear H
          go_wp2_with (first | ((with_reducible refine gate_callee (f := 12) rfl ?_); refine goesL_ (some 18) rfl rfl Try.func12 (by kernel_rfl) rfl #[.int .u8 x0_1, .int .u8 x0_1] rfl (by (try simp only [List.map_toArray, List.map_cons, List.map_nil]); first | done | rfl | (simp only [List.length_drop, List.length_take]; rfl)) ?_; (with_reducible refine (field_Mul.calls k1 x0_1 x0_1 t103 _ A7.out).mono ?_); rintro e w' ⟨rfl, ⟨nd, rfl⟩⟩; refine ⟨_, rfl, ?_⟩))
          go_roundg k1
          case measure => have := HK1.out; omega
          case rel => exact ⟨(t103), (x1_1 / 2), (x5_1), (by first | rfl | (simp; done) | (simp [*]; done)), (by first | rfl | (simp; done) | (simp [*]; done)), (by first | rfl | (simp; done) | (simp [*]; done)), H', ⟨by have := HK1.out; omega⟩, by repeat (first | exact Drawn0.refl _ | apply Drawn0.step)⟩
      · rw [if_neg c3] at H
        have c3b0 : decide (0 < x1_1) = false := decide_eq_false c3
        clear c3
        obtain rfl := Option.some.inj H
        go_wp2
        go_ret
        exact ⟨by first | rfl | (simp; done) | (simp [*]; done), by repeat (first | exact Drawn0.refl _ | apply Drawn0.step)⟩

/-! ### field_Inv: function 13 -/
def field_Inv.f (k : Nat) (a0 : Int) : Option (Int × Int) := if a0 = 0 then (some (0, 41)) else ((field_power.f k a0 254).bind fun t104 => (some (t104, 0)))
theorem field_Inv.mono : ∀ a0 k, LeO (field_Inv.f k a0) (field_Inv.f (k + 1) a0) := by
  intro a0 k
  unfold field_Inv.f
  repeat' first
      | (with_reducible exact field_power.mono _ _ _)
      | (with_reducible exact LeO.refl _)
      | (with_reducible exact LeO.none _)
      | (with_reducible refine LeO.ite ?_ ?_)
      | (with_reducible refine LeO.bind ?_ (fun _ => ?_))
      | exact field_power.mono _ _ _
      | exact LeO.none _
      | refine LeO.ite ?_ ?_
      | refine LeO.bind ?_ (fun _ => ?_)
set_option maxHeartbeats 8000000 in
set_option maxRecDepth 100000 in
theorem field_Inv.calls (k : Nat) (a0 : Int) (r1 : Int) (r2 : Int) (w : World) (h : field_Inv.f k a0 = some (r1, r2)) :
    Calls Try.prog 13 #[.int .u8 a0] w fun e w' => e = .returned (.tuple #[.int .u8 r1, .int .i64 r2]) ∧ Drawn0 w w' := by
  have H : (if a0 = 0 then (some (0, 41)) else ((field_power.f k a0 254).bind fun t104 => (some (t104, 0)))) = some (r1, r2) := h
  clear h
  by_cases c2 : a0 = 0
  · rw [if_pos c2] at H
    have c2b0 : (a0 == 0) = true := beq_iff_eq.mpr c2
    have c2b1 : (a0 != 0) = false := bne_eq_false_iff_eq.mpr c2
    clear c2
    simp only [Option.some.injEq, Prod.mk.injEq] at H
    obtain ⟨rfl, rfl⟩ := H
    go_enter Try.func13, Try.ntmps13
    go_wp2
    go_ret2
    exact ⟨by first | rfl | (simp; done) | (simp [*]; done), by repeat (first | exact Drawn0.refl _ | apply Drawn0.step)⟩
  · rw [if_neg c2] at H
    have c2b0 : (a0 == 0) = false := beq_eq_false_iff_ne.mpr c2
    have c2b1 : (a0 != 0) = true := bne_iff_ne.mpr c2
    replace H := Option.bind_eq_some_iff.mp H
    obtain ⟨t104, A30, H⟩ := H
    replace H : (some (t104, 0)) = some (r1, r2) := H
    have A3 := Aside0.mk A30
    clear A30
    simp only [Option.some.injEq, Prod.mk.injEq] at H
    obtain ⟨rfl, rfl⟩ := H
    go_enter Try.func13, Try.ntmps13
    go_wp2_with (first | ((with_reducible refine gate_callee (f := 36) rfl ?_); refine goesL_ (some 7) rfl rfl Try.func36 (by kernel_rfl) rfl #[.int .u8 a0, .int .i64 254] rfl (by (try simp only [List.map_toArray, List.map_cons, List.map_nil]); first | done | rfl | (simp only [List.length_drop, List.length_take]; rfl)) ?_; (with_reducible refine (field_power.calls k a0 254 t104 _ A3.out).mono ?_); rintro e w' ⟨rfl, ⟨nd, rfl⟩⟩; refine ⟨_, rfl, ?_⟩))
    go_ret2
    exact ⟨by first | rfl | (simp; done) | (simp [*]; done), by repeat (first | exact Drawn0.refl _ | apply Drawn0.step)⟩

/-! ### dailieslaw04_alive: function 11 -/
def dailieslaw04_alive.f (k : Nat)  : Option (Bool) := (field_Mul.f k 2 128).bind fun t105 => ((field_Inv.f k 2).bind fun bt106 => (if t105 = 101 then (if bt106.1 = 178 then (some (bt106.2 == 0)) else (some false)) else (some false)))
theorem dailieslaw04_alive.mono : ∀ k, LeO (dailieslaw04_alive.f k ) (dailieslaw04_alive.f (k + 1) ) := by
  intro  k
  unfold dailieslaw04_alive.f
  repeat' first
      | (with_reducible exact field_Inv.mono _ _)
      | (with_reducible exact field_Mul.mono _ _ _)
      | (with_reducible exact LeO.refl _)
      | (with_reducible exact LeO.none _)
      | (with_reducible refine LeO.ite ?_ ?_)
      | (with_reducible refine LeO.bind ?_ (fun _ => ?_))
      | exact field_Inv.mono _ _
      | exact field_Mul.mono _ _ _
      | exact LeO.none _
      | refine LeO.ite ?_ ?_
      | refine LeO.bind ?_ (fun _ => ?_)
set_option maxHeartbeats 8000000 in
set_option maxRecDepth 100000 in
theorem dailieslaw04_alive.calls (k : Nat)  (r : Bool) (w : World) (h : dailieslaw04_alive.f k  = some r) :
    Calls Try.prog 11 #[] w fun e w' => e = .returned (.bool r) ∧ Drawn0 w w' := by
  have H : ((field_Mul.f k 2 128).bind fun t105 => ((field_Inv.f k 2).bind fun bt106 => (if t105 = 101 then (if bt106.1 = 178 then (some (bt106.2 == 0)) else (some false)) else (some false)))) = some r := h
  clear h
  replace H := Option.bind_eq_some_iff.mp H
  obtain ⟨t105, A10, H⟩ := H
  replace H : ((field_Inv.f k 2).bind fun bt106 => (if t105 = 101 then (if bt106.1 = 178 then (some (bt106.2 == 0)) else (some false)) else (some false))) = some r := H
  have A1 := Aside0.mk A10
  clear A10
  replace H := Option.bind_eq_some_iff.mp H
  obtain ⟨⟨t106, t107⟩, A20, H⟩ := H
  replace H : (if t105 = 101 then (if t106 = 178 then (some (t107 == 0)) else (some false)) else (some false)) = some r := H
  have A2 := Aside0.mk A20
  clear A20
  by_cases c3 : t105 = 101
  · rw [if_pos c3] at H
    have c3b0 : (t105 == 101) = true := beq_iff_eq.mpr c3
    have c3b1 : (t105 != 101) = false := bne_eq_false_iff_eq.mpr c3
    clear c3
    by_cases c4 : t106 = 178
    · rw [if_pos c4] at H
      have c4b0 : (t106 == 178) = true := beq_iff_eq.mpr c4
      have c4b1 : (t106 != 178) = false := bne_eq_false_iff_eq.mpr c4
      clear c4
      obtain rfl := Option.some.inj H
      go_enter Try.func11, Try.ntmps11
      go_wp2_with (first | ((with_reducible refine gate_callee (f := 12) rfl ?_); refine goesL_ (some 4) rfl rfl Try.func12 (by kernel_rfl) rfl #[.int .u8 2, .int .u8 128] rfl (by (try simp only [List.map_toArray, List.map_cons, List.map_nil]); first | done | rfl | (simp only [List.length_drop, List.length_take]; rfl)) ?_; (with_reducible refine (field_Mul.calls k 2 128 t105 _ A1.out).mono ?_); rintro e w' ⟨rfl, ⟨nd, rfl⟩⟩; refine ⟨_, rfl, ?_⟩) | ((with_reducible refine gate_callee (f := 13) rfl ?_); refine goesL_ (some 6) rfl rfl Try.func13 (by kernel_rfl) rfl #[.int .u8 2] rfl (by (try simp only [List.map_toArray, List.map_cons, List.map_nil]); first | done | rfl | (simp only [List.length_drop, List.length_take]; rfl)) ?_; (with_reducible refine (field_Inv.calls k 2 t106 t107 _ A2.out).mono ?_); rintro e w' ⟨rfl, ⟨nd, rfl⟩⟩; refine ⟨_, rfl, ?_⟩))
      go_ret
      exact ⟨by first | rfl | (simp; done) | (simp [*]; done), by repeat (first | exact Drawn0.refl _ | apply Drawn0.step)⟩
    · rw [if_neg c4] at H
      have c4b0 : (t106 == 178) = false := beq_eq_false_iff_ne.mpr c4
      have c4b1 : (t106 != 178) = true := bne_iff_ne.mpr c4
      obtain rfl := Option.some.inj H
      go_enter Try.func11, Try.ntmps11
      go_wp2_with (first | ((with_reducible refine gate_callee (f := 12) rfl ?_); refine goesL_ (some 4) rfl rfl Try.func12 (by kernel_rfl) rfl #[.int .u8 2, .int .u8 128] rfl (by (try simp only [List.map_toArray, List.map_cons, List.map_nil]); first | done | rfl | (simp only [List.length_drop, List.length_take]; rfl)) ?_; (with_reducible refine (field_Mul.calls k 2 128 t105 _ A1.out).mono ?_); rintro e w' ⟨rfl, ⟨nd, rfl⟩⟩; refine ⟨_, rfl, ?_⟩) | ((with_reducible refine gate_callee (f := 13) rfl ?_); refine goesL_ (some 6) rfl rfl Try.func13 (by kernel_rfl) rfl #[.int .u8 2] rfl (by (try simp only [List.map_toArray, List.map_cons, List.map_nil]); first | done | rfl | (simp only [List.length_drop, List.length_take]; rfl)) ?_; (with_reducible refine (field_Inv.calls k 2 t106 t107 _ A2.out).mono ?_); rintro e w' ⟨rfl, ⟨nd, rfl⟩⟩; refine ⟨_, rfl, ?_⟩))
      go_ret
      exact ⟨by first | rfl | (simp; done) | (simp [*]; done), by repeat (first | exact Drawn0.refl _ | apply Drawn0.step)⟩
  · rw [if_neg c3] at H
    have c3b0 : (t105 == 101) = false := beq_eq_false_iff_ne.mpr c3
    have c3b1 : (t105 != 101) = true := bne_iff_ne.mpr c3
    obtain rfl := Option.some.inj H
    go_enter Try.func11, Try.ntmps11
    go_wp2_with (first | ((with_reducible refine gate_callee (f := 12) rfl ?_); refine goesL_ (some 4) rfl rfl Try.func12 (by kernel_rfl) rfl #[.int .u8 2, .int .u8 128] rfl (by (try simp only [List.map_toArray, List.map_cons, List.map_nil]); first | done | rfl | (simp only [List.length_drop, List.length_take]; rfl)) ?_; (with_reducible refine (field_Mul.calls k 2 128 t105 _ A1.out).mono ?_); rintro e w' ⟨rfl, ⟨nd, rfl⟩⟩; refine ⟨_, rfl, ?_⟩) | ((with_reducible refine gate_callee (f := 13) rfl ?_); refine goesL_ (some 6) rfl rfl Try.func13 (by kernel_rfl) rfl #[.int .u8 2] rfl (by (try simp only [List.map_toArray, List.map_cons, List.map_nil]); first | done | rfl | (simp only [List.length_drop, List.length_take]; rfl)) ?_; (with_reducible refine (field_Inv.calls k 2 t106 t107 _ A2.out).mono ?_); rintro e w' ⟨rfl, ⟨nd, rfl⟩⟩; refine ⟨_, rfl, ?_⟩))
    go_ret
    exact ⟨by first | rfl | (simp; done) | (simp [*]; done), by repeat (first | exact Drawn0.refl _ | apply Drawn0.step)⟩

/-! ### field_Div: function 14 -/
def field_Div.f (k : Nat) (a0 : Int) (a1 : Int) : Option (Int × Int) := (field_Inv.f k a1).bind fun bt108 => ((field_Mul.f k a0 bt108.1).bind fun t110 => (some (t110, bt108.2)))
theorem field_Div.mono : ∀ a0 a1 k, LeO (field_Div.f k a0 a1) (field_Div.f (k + 1) a0 a1) := by
  intro a0 a1 k
  unfold field_Div.f
  repeat' first
      | (with_reducible exact field_Inv.mono _ _)
      | (with_reducible exact field_Mul.mono _ _ _)
      | (with_reducible exact LeO.refl _)
      | (with_reducible exact LeO.none _)
      | (with_reducible refine LeO.ite ?_ ?_)
      | (with_reducible refine LeO.bind ?_ (fun _ => ?_))
      | exact field_Inv.mono _ _
      | exact field_Mul.mono _ _ _
      | exact LeO.none _
      | refine LeO.ite ?_ ?_
      | refine LeO.bind ?_ (fun _ => ?_)
set_option maxHeartbeats 8000000 in
set_option maxRecDepth 100000 in
theorem field_Div.calls (k : Nat) (a0 : Int) (a1 : Int) (r1 : Int) (r2 : Int) (w : World) (h : field_Div.f k a0 a1 = some (r1, r2)) :
    Calls Try.prog 14 #[.int .u8 a0, .int .u8 a1] w fun e w' => e = .returned (.tuple #[.int .u8 r1, .int .i64 r2]) ∧ Drawn0 w w' := by
  have H : ((field_Inv.f k a1).bind fun bt108 => ((field_Mul.f k a0 bt108.1).bind fun t110 => (some (t110, bt108.2)))) = some (r1, r2) := h
  clear h
  replace H := Option.bind_eq_some_iff.mp H
  obtain ⟨⟨t108, t109⟩, A30, H⟩ := H
  replace H : ((field_Mul.f k a0 t108).bind fun t110 => (some (t110, t109))) = some (r1, r2) := H
  have A3 := Aside0.mk A30
  clear A30
  replace H := Option.bind_eq_some_iff.mp H
  obtain ⟨t110, A40, H⟩ := H
  replace H : (some (t110, t109)) = some (r1, r2) := H
  have A4 := Aside0.mk A40
  clear A40
  simp only [Option.some.injEq, Prod.mk.injEq] at H
  obtain ⟨rfl, rfl⟩ := H
  go_enter Try.func14, Try.ntmps14
  go_wp2_with (first | ((with_reducible refine gate_callee (f := 13) rfl ?_); refine goesL_ (some 10) rfl rfl Try.func13 (by kernel_rfl) rfl #[.int .u8 a1] rfl (by (try simp only [List.map_toArray, List.map_cons, List.map_nil]); first | done | rfl | (simp only [List.length_drop, List.length_take]; rfl)) ?_; (with_reducible refine (field_Inv.calls k a1 t108 t109 _ A3.out).mono ?_); rintro e w' ⟨rfl, ⟨nd, rfl⟩⟩; refine ⟨_, rfl, ?_⟩) | ((with_reducible refine gate_callee (f := 12) rfl ?_); refine goesL_ (some 15) rfl rfl Try.func12 (by kernel_rfl) rfl #[.int .u8 a0, .int .u8 t108] rfl (by (try simp only [List.map_toArray, List.map_cons, List.map_nil]); first | done | rfl | (simp only [List.length_drop, List.length_take]; rfl)) ?_; (with_reducible refine (field_Mul.calls k a0 t108 t110 _ A4.out).mono ?_); rintro e w' ⟨rfl, ⟨nd, rfl⟩⟩; refine ⟨_, rfl, ?_⟩))
  go_ret2
  exact ⟨by first | rfl | (simp; done) | (simp [*]; done), by repeat (first | exact Drawn0.refl _ | apply Drawn0.step)⟩

/-! ### dailieslaw04_FieldLaws: function 4 -/
def dailieslaw04_FieldLaws.j0 : Nat → Int → Int → Int → Int → Bool → Option (Bool)
  | 0, _, _, _, _, _ => none
  | k + 1, x0, x1, x17, x18, x94 => if x94 = true then (some false) else (if x0 = 0 then (if x18 = 41 then (some (x17 == 0)) else (some false)) else ((field_Mul.f k x0 x17).bind fun t123 => ((field_Div.f k x1 x0).bind fun bt124 => ((field_Mul.f k bt124.1 x0).bind fun t126 => (if x18 = 0 then (if t123 = 1 then (if bt124.2 = 0 then (some (t126 == x1)) else (some false)) else (some false)) else (some false))))))
def dailieslaw04_FieldLaws.f (k : Nat) (a0 : Int) (a1 : Int) (a2 : Int) : Option (Bool) := (dailieslaw04_alive.f k).bind fun t111 => ((field_Mul.f k a0 a1).bind fun t112 => ((field_Mul.f k a1 a2).bind fun t113 => ((field_Mul.f k a0 a2).bind fun t114 => ((field_Mul.f k a1 a0).bind fun t115 => ((field_Mul.f k t112 a2).bind fun t116 => ((field_Mul.f k a0 t113).bind fun t117 => ((field_Mul.f k a0 (Go.bits .xor .u8 a1 a2)).bind fun t118 => ((field_Mul.f k a0 1).bind fun t119 => ((field_Mul.f k a0 0).bind fun t120 => ((field_Inv.f k a0).bind fun bt121 => (if t111 = true then (if t112 = t115 then (if t116 = t117 then (if t118 = (Go.bits .xor .u8 t112 t114) then (if t119 = a0 then (if t120 = 0 then (if a0 = 0 then (dailieslaw04_FieldLaws.j0 k a0 a1 bt121.1 bt121.2 ((t112 == 0) != true)) else (dailieslaw04_FieldLaws.j0 k a0 a1 bt121.1 bt121.2 ((t112 == 0) != (a1 == 0)))) else (dailieslaw04_FieldLaws.j0 k a0 a1 bt121.1 bt121.2 true)) else (dailieslaw04_FieldLaws.j0 k a0 a1 bt121.1 bt121.2 true)) else (dailieslaw04_FieldLaws.j0 k a0 a1 bt121.1 bt121.2 true)) else (dailieslaw04_FieldLaws.j0 k a0 a1 bt121.1 bt121.2 true)) else (dailieslaw04_FieldLaws.j0 k a0 a1 bt121.1 bt121.2 true)) else (dailieslaw04_FieldLaws.j0 k a0 a1 bt121.1 bt121.2 true))))))))))))
theorem dailieslaw04_FieldLaws.mono_l : ∀ k, (∀ y0 y1 y2 y3 y4, LeO (dailieslaw04_FieldLaws.j0 k y0 y1 y2 y3 y4) (dailieslaw04_FieldLaws.j0 (k + 1) y0 y1 y2 y3 y4))
  | 0 => fun _ _ _ _ _ r h => by simp [dailieslaw04_FieldLaws.j0] at h
  | k + 1 => by
    have ih0 := dailieslaw04_FieldLaws.mono_l k
    · intro y0 y1 y2 y3 y4
      unfold dailieslaw04_FieldLaws.j0
      repeat' first
      | (with_reducible exact ih0 _ _ _ _ _)
      | (with_reducible exact dailieslaw04_alive.mono _)
      | (with_reducible exact field_Div.mono _ _ _)
      | (with_reducible exact field_Inv.mono _ _)
      | (with_reducible exact field_Mul.mono _ _ _)
      | (with_reducible exact LeO.refl _)
      | (with_reducible exact LeO.none _)
      | (with_reducible refine LeO.ite ?_ ?_)
      | (with_reducible refine LeO.bind ?_ (fun _ => ?_))
      | exact ih0 _ _ _ _ _
      | exact dailieslaw04_alive.mono _
      | exact field_Div.mono _ _ _
      | exact field_Inv.mono _ _
      | exact field_Mul.mono _ _ _
      | exact LeO.none _
      | refine LeO.ite ?_ ?_
      | refine LeO.bind ?_ (fun _ => ?_)
theorem dailieslaw04_FieldLaws.mono : ∀ a0 a1 a2 k, LeO (dailieslaw04_FieldLaws.f k a0 a1 a2) (dailieslaw04_FieldLaws.f (k + 1) a0 a1 a2) := by
  intro a0 a1 a2 k
  have ih0 := dailieslaw04_FieldLaws.mono_l k
  unfold dailieslaw04_FieldLaws.f
  repeat' first
      | (with_reducible exact ih0 _ _ _ _ _)
      | (with_reducible exact dailieslaw04_alive.mono _)
      | (with_reducible exact field_Div.mono _ _ _)
      | (with_reducible exact field_Inv.mono _ _)
      | (with_reducible exact field_Mul.mono _ _ _)
      | (with_reducible exact LeO.refl _)
      | (with_reducible exact LeO.none _)
      | (with_reducible refine LeO.ite ?_ ?_)
      | (with_reducible refine LeO.bind ?_ (fun _ => ?_))
      | exact ih0 _ _ _ _ _
      | exact dailieslaw04_alive.mono _
      | exact field_Div.mono _ _ _
      | exact field_Inv.mono _ _
      | exact field_Mul.mono _ _ _
      | exact LeO.none _
      | refine LeO.ite ?_ ?_
      | refine LeO.bind ?_ (fun _ => ?_)
set_option maxHeartbeats 8000000 in
set_option maxRecDepth 100000 in
theorem dailieslaw04_FieldLaws.calls (k : Nat) (a0 : Int) (a1 : Int) (a2 : Int) (r : Bool) (w : World) (h : dailieslaw04_FieldLaws.f k a0 a1 a2 = some r) :
    Calls Try.prog 4 #[.int .u8 a0, .int .u8 a1, .int .u8 a2] w fun e w' => e = .returned (.bool r) ∧ Drawn0 w w' := by
  have H : ((dailieslaw04_alive.f k).bind fun t111 => ((field_Mul.f k a0 a1).bind fun t112 => ((field_Mul.f k a1 a2).bind fun t113 => ((field_Mul.f k a0 a2).bind fun t114 => ((field_Mul.f k a1 a0).bind fun t115 => ((field_Mul.f k t112 a2).bind fun t116 => ((field_Mul.f k a0 t113).bind fun t117 => ((field_Mul.f k a0 (Go.bits .xor .u8 a1 a2)).bind fun t118 => ((field_Mul.f k a0 1).bind fun t119 => ((field_Mul.f k a0 0).bind fun t120 => ((field_Inv.f k a0).bind fun bt121 => (if t111 = true then (if t112 = t115 then (if t116 = t117 then (if t118 = (Go.bits .xor .u8 t112 t114) then (if t119 = a0 then (if t120 = 0 then (if a0 = 0 then (dailieslaw04_FieldLaws.j0 k a0 a1 bt121.1 bt121.2 ((t112 == 0) != true)) else (dailieslaw04_FieldLaws.j0 k a0 a1 bt121.1 bt121.2 ((t112 == 0) != (a1 == 0)))) else (dailieslaw04_FieldLaws.j0 k a0 a1 bt121.1 bt121.2 true)) else (dailieslaw04_FieldLaws.j0 k a0 a1 bt121.1 bt121.2 true)) else (dailieslaw04_FieldLaws.j0 k a0 a1 bt121.1 bt121.2 true)) else (dailieslaw04_FieldLaws.j0 k a0 a1 bt121.1 bt121.2 true)) else (dailieslaw04_FieldLaws.j0 k a0 a1 bt121.1 bt121.2 true)) else (dailieslaw04_FieldLaws.j0 k a0 a1 bt121.1 bt121.2 true))))))))))))) = some r := h
  clear h
  replace H := Option.bind_eq_some_iff.mp H
  obtain ⟨t111, A40, H⟩ := H
  replace H : ((field_Mul.f k a0 a1).bind fun t112 => ((field_Mul.f k a1 a2).bind fun t113 => ((field_Mul.f k a0 a2).bind fun t114 => ((field_Mul.f k a1 a0).bind fun t115 => ((field_Mul.f k t112 a2).bind fun t116 => ((field_Mul.f k a0 t113).bind fun t117 => ((field_Mul.f k a0 (Go.bits .xor .u8 a1 a2)).bind fun t118 => ((field_Mul.f k a0 1).bind fun t119 => ((field_Mul.f k a0 0).bind fun t120 => ((field_Inv.f k a0).bind fun bt121 => (if t111 = true then (if t112 = t115 then (if t116 = t117 then (if t118 = (Go.bits .xor .u8 t112 t114) then (if t119 = a0 then (if t120 = 0 then (if a0 = 0 then (dailieslaw04_FieldLaws.j0 k a0 a1 bt121.1 bt121.2 ((t112 == 0) != true)) else (dailieslaw04_FieldLaws.j0 k a0 a1 bt121.1 bt121.2 ((t112 == 0) != (a1 == 0)))) else (dailieslaw04_FieldLaws.j0 k a0 a1 bt121.1 bt121.2 true)) else (dailieslaw04_FieldLaws.j0 k a0 a1 bt121.1 bt121.2 true)) else (dailieslaw04_FieldLaws.j0 k a0 a1 bt121.1 bt121.2 true)) else (dailieslaw04_FieldLaws.j0 k a0 a1 bt121.1 bt121.2 true)) else (dailieslaw04_FieldLaws.j0 k a0 a1 bt121.1 bt121.2 true)) else (dailieslaw04_FieldLaws.j0 k a0 a1 bt121.1 bt121.2 true)))))))))))) = some r := H
  have A4 := Aside0.mk A40
  clear A40
  replace H := Option.bind_eq_some_iff.mp H
  obtain ⟨t112, A50, H⟩ := H
  replace H : ((field_Mul.f k a1 a2).bind fun t113 => ((field_Mul.f k a0 a2).bind fun t114 => ((field_Mul.f k a1 a0).bind fun t115 => ((field_Mul.f k t112 a2).bind fun t116 => ((field_Mul.f k a0 t113).bind fun t117 => ((field_Mul.f k a0 (Go.bits .xor .u8 a1 a2)).bind fun t118 => ((field_Mul.f k a0 1).bind fun t119 => ((field_Mul.f k a0 0).bind fun t120 => ((field_Inv.f k a0).bind fun bt121 => (if t111 = true then (if t112 = t115 then (if t116 = t117 then (if t118 = (Go.bits .xor .u8 t112 t114) then (if t119 = a0 then (if t120 = 0 then (if a0 = 0 then (dailieslaw04_FieldLaws.j0 k a0 a1 bt121.1 bt121.2 ((t112 == 0) != true)) else (dailieslaw04_FieldLaws.j0 k a0 a1 bt121.1 bt121.2 ((t112 == 0) != (a1 == 0)))) else (dailieslaw04_FieldLaws.j0 k a0 a1 bt121.1 bt121.2 true)) else (dailieslaw04_FieldLaws.j0 k a0 a1 bt121.1 bt121.2 true)) else (dailieslaw04_FieldLaws.j0 k a0 a1 bt121.1 bt121.2 true)) else (dailieslaw04_FieldLaws.j0 k a0 a1 bt121.1 bt121.2 true)) else (dailieslaw04_FieldLaws.j0 k a0 a1 bt121.1 bt121.2 true)) else (dailieslaw04_FieldLaws.j0 k a0 a1 bt121.1 bt121.2 true))))))))))) = some r := H
  have A5 := Aside0.mk A50
  clear A50
  replace H := Option.bind_eq_some_iff.mp H
  obtain ⟨t113, A60, H⟩ := H
  replace H : ((field_Mul.f k a0 a2).bind fun t114 => ((field_Mul.f k a1 a0).bind fun t115 => ((field_Mul.f k t112 a2).bind fun t116 => ((field_Mul.f k a0 t113).bind fun t117 => ((field_Mul.f k a0 (Go.bits .xor .u8 a1 a2)).bind fun t118 => ((field_Mul.f k a0 1).bind fun t119 => ((field_Mul.f k a0 0).bind fun t120 => ((field_Inv.f k a0).bind fun bt121 => (if t111 = true then (if t112 = t115 then (if t116 = t117 then (if t118 = (Go.bits .xor .u8 t112 t114) then (if t119 = a0 then (if t120 = 0 then (if a0 = 0 then (dailieslaw04_FieldLaws.j0 k a0 a1 bt121.1 bt121.2 ((t112 == 0) != true)) else (dailieslaw04_FieldLaws.j0 k a0 a1 bt121.1 bt121.2 ((t112 == 0) != (a1 == 0)))) else (dailieslaw04_FieldLaws.j0 k a0 a1 bt121.1 bt121.2 true)) else (dailieslaw04_FieldLaws.j0 k a0 a1 bt121.1 bt121.2 true)) else (dailieslaw04_FieldLaws.j0 k a0 a1 bt121.1 bt121.2 true)) else (dailieslaw04_FieldLaws.j0 k a0 a1 bt121.1 bt121.2 true)) else (dailieslaw04_FieldLaws.j0 k a0 a1 bt121.1 bt121.2 true)) else (dailieslaw04_FieldLaws.j0 k a0 a1 bt121.1 bt121.2 true)))))))))) = some r := H
  have A6 := Aside0.mk A60
  clear A60
  replace H := Option.bind_eq_some_iff.mp H
  obtain ⟨t114, A70, H⟩ := H
  replace H : ((field_Mul.f k a1 a0).bind fun t115 => ((field_Mul.f k t112 a2).bind fun t116 => ((field_Mul.f k a0 t113).bind fun t117 => ((field_Mul.f k a0 (Go.bits .xor .u8 a1 a2)).bind fun t118 => ((field_Mul.f k a0 1).bind fun t119 => ((field_Mul.f k a0 0).bind fun t120 => ((field_Inv.f k a0).bind fun bt121 => (if t111 = true then (if t112 = t115 then (if t116 = t117 then (if t118 = (Go.bits .xor .u8 t112 t114) then (if t119 = a0 then (if t120 = 0 then (if a0 = 0 then (dailieslaw04_FieldLaws.j0 k a0 a1 bt121.1 bt121.2 ((t112 == 0) != true)) else (dailieslaw04_FieldLaws.j0 k a0 a1 bt121.1 bt121.2 ((t112 == 0) != (a1 == 0)))) else (dailieslaw04_FieldLaws.j0 k a0 a1 bt121.1 bt121.2 true)) else (dailieslaw04_FieldLaws.j0 k a0 a1 bt121.1 bt121.2 true)) else (dailieslaw04_FieldLaws.j0 k a0 a1 bt121.1 bt121.2 true)) else (dailieslaw04_FieldLaws.j0 k a0 a1 bt121.1 bt121.2 true)) else (dailieslaw04_FieldLaws.j0 k a0 a1 bt121.1 bt121.2 true)) else (dailieslaw04_FieldLaws.j0 k a0 a1 bt121.1 bt121.2 true))))))))) = some r := H
  have A7 := Aside0.mk A70
  clear A70
  replace H := Option.bind_eq_some_iff.mp H
  obtain ⟨t115, A80, H⟩ := H
  replace H : ((field_Mul.f k t112 a2).bind fun t116 => ((field_Mul.f k a0 t113).bind fun t117 => ((field_Mul.f k a0 (Go.bits .xor .u8 a1 a2)).bind fun t118 => ((field_Mul.f k a0 1).bind fun t119 => ((field_Mul.f k a0 0).bind fun t120 => ((field_Inv.f k a0).bind fun bt121 => (if t111 = true then (if t112 = t115 then (if t116 = t117 then (if t118 = (Go.bits .xor .u8 t112 t114) then (if t119 = a0 then (if t120 = 0 then (if a0 = 0 then (dailieslaw04_FieldLaws.j0 k a0 a1 bt121.1 bt121.2 ((t112 == 0) != true)) else (dailieslaw04_FieldLaws.j0 k a0 a1 bt121.1 bt121.2 ((t112 == 0) != (a1 == 0)))) else (dailieslaw04_FieldLaws.j0 k a0 a1 bt121.1 bt121.2 true)) else (dailieslaw04_FieldLaws.j0 k a0 a1 bt121.1 bt121.2 true)) else (dailieslaw04_FieldLaws.j0 k a0 a1 bt121.1 bt121.2 true)) else (dailieslaw04_FieldLaws.j0 k a0 a1 bt121.1 bt121.2 true)) else (dailieslaw04_FieldLaws.j0 k a0 a1 bt121.1 bt121.2 true)) else (dailieslaw04_FieldLaws.j0 k a0 a1 bt121.1 bt121.2 true)))))))) = some r := H
  have A8 := Aside0.mk A80
  clear A80
  replace H := Option.bind_eq_some_iff.mp H
  obtain ⟨t116, A90, H⟩ := H
  replace H : ((field_Mul.f k a0 t113).bind fun t117 => ((field_Mul.f k a0 (Go.bits .xor .u8 a1 a2)).bind fun t118 => ((field_Mul.f k a0 1).bind fun t119 => ((field_Mul.f k a0 0).bind fun t120 => ((field_Inv.f k a0).bind fun bt121 => (if t111 = true then (if t112 = t115 then (if t116 = t117 then (if t118 = (Go.bits .xor .u8 t112 t114) then (if t119 = a0 then (if t120 = 0 then (if a0 = 0 then (dailieslaw04_FieldLaws.j0 k a0 a1 bt121.1 bt121.2 ((t112 == 0) != true)) else (dailieslaw04_FieldLaws.j0 k a0 a1 bt121.1 bt121.2 ((t112 == 0) != (a1 == 0)))) else (dailieslaw04_FieldLaws.j0 k a0 a1 bt121.1 bt121.2 true)) else (dailieslaw04_FieldLaws.j0 k a0 a1 bt121.1 bt121.2 true)) else (dailieslaw04_FieldLaws.j0 k a0 a1 bt121.1 bt121.2 true)) else (dailieslaw04_FieldLaws.j0 k a0 a1 bt121.1 bt121.2 true)) else (dailieslaw04_FieldLaws.j0 k a0 a1 bt121.1 bt121.2 true)) else (dailieslaw04_FieldLaws.j0 k a0 a1 bt121.1 bt121.2 true))))))) = some r := H
  have A9 := Aside0.mk A90
  clear A90
  replace H := Option.bind_eq_some_iff.mp H
  obtain ⟨t117, A100, H⟩ := H
  replace H : ((field_Mul.f k a0 (Go.bits .xor .u8 a1 a2)).bind fun t118 => ((field_Mul.f k a0 1).bind fun t119 => ((field_Mul.f k a0 0).bind fun t120 => ((field_Inv.f k a0).bind fun bt121 => (if t111 = true then (if t112 = t115 then (if t116 = t117 then (if t118 = (Go.bits .xor .u8 t112 t114) then (if t119 = a0 then (if t120 = 0 then (if a0 = 0 then (dailieslaw04_FieldLaws.j0 k a0 a1 bt121.1 bt121.2 ((t112 == 0) != true)) else (dailieslaw04_FieldLaws.j0 k a0 a1 bt121.1 bt121.2 ((t112 == 0) != (a1 == 0)))) else (dailieslaw04_FieldLaws.j0 k a0 a1 bt121.1 bt121.2 true)) else (dailieslaw04_FieldLaws.j0 k a0 a1 bt121.1 bt121.2 true)) else (dailieslaw04_FieldLaws.j0 k a0 a1 bt121.1 bt121.2 true)) else (dailieslaw04_FieldLaws.j0 k a0 a1 bt121.1 bt121.2 true)) else (dailieslaw04_FieldLaws.j0 k a0 a1 bt121.1 bt121.2 true)) else (dailieslaw04_FieldLaws.j0 k a0 a1 bt121.1 bt121.2 true)))))) = some r := H
  have A10 := Aside0.mk A100
  clear A100
  replace H := Option.bind_eq_some_iff.mp H
  obtain ⟨t118, A110, H⟩ := H
  replace H : ((field_Mul.f k a0 1).bind fun t119 => ((field_Mul.f k a0 0).bind fun t120 => ((field_Inv.f k a0).bind fun bt121 => (if t111 = true then (if t112 = t115 then (if t116 = t117 then (if t118 = (Go.bits .xor .u8 t112 t114) then (if t119 = a0 then (if t120 = 0 then (if a0 = 0 then (dailieslaw04_FieldLaws.j0 k a0 a1 bt121.1 bt121.2 ((t112 == 0) != true)) else (dailieslaw04_FieldLaws.j0 k a0 a1 bt121.1 bt121.2 ((t112 == 0) != (a1 == 0)))) else (dailieslaw04_FieldLaws.j0 k a0 a1 bt121.1 bt121.2 true)) else (dailieslaw04_FieldLaws.j0 k a0 a1 bt121.1 bt121.2 true)) else (dailieslaw04_FieldLaws.j0 k a0 a1 bt121.1 bt121.2 true)) else (dailieslaw04_FieldLaws.j0 k a0 a1 bt121.1 bt121.2 true)) else (dailieslaw04_FieldLaws.j0 k a0 a1 bt121.1 bt121.2 true)) else (dailieslaw04_FieldLaws.j0 k a0 a1 bt121.1 bt121.2 true))))) = some r := H
  have A11 := Aside0.mk A110
  clear A110
  replace H := Option.bind_eq_some_iff.mp H
  obtain ⟨t119, A120, H⟩ := H
  replace H : ((field_Mul.f k a0 0).bind fun t120 => ((field_Inv.f k a0).bind fun bt121 => (if t111 = true then (if t112 = t115 then (if t116 = t117 then (if t118 = (Go.bits .xor .u8 t112 t114) then (if t119 = a0 then (if t120 = 0 then (if a0 = 0 then (dailieslaw04_FieldLaws.j0 k a0 a1 bt121.1 bt121.2 ((t112 == 0) != true)) else (dailieslaw04_FieldLaws.j0 k a0 a1 bt121.1 bt121.2 ((t112 == 0) != (a1 == 0)))) else (dailieslaw04_FieldLaws.j0 k a0 a1 bt121.1 bt121.2 true)) else (dailieslaw04_FieldLaws.j0 k a0 a1 bt121.1 bt121.2 true)) else (dailieslaw04_FieldLaws.j0 k a0 a1 bt121.1 bt121.2 true)) else (dailieslaw04_FieldLaws.j0 k a0 a1 bt121.1 bt121.2 true)) else (dailieslaw04_FieldLaws.j0 k a0 a1 bt121.1 bt121.2 true)) else (dailieslaw04_FieldLaws.j0 k a0 a1 bt121.1 bt121.2 true)))) = some r := H
  have A12 := Aside0.mk A120
  clear A120
  replace H := Option.bind_eq_some_iff.mp H
  obtain ⟨t120, A130, H⟩ := H
  replace H : ((field_Inv.f k a0).bind fun bt121 => (if t111 = true then (if t112 = t115 then (if t116 = t117 then (if t118 = (Go.bits .xor .u8 t112 t114) then (if t119 = a0 then (if t120 = 0 then (if a0 = 0 then (dailieslaw04_FieldLaws.j0 k a0 a1 bt121.1 bt121.2 ((t112 == 0) != true)) else (dailieslaw04_FieldLaws.j0 k a0 a1 bt121.1 bt121.2 ((t112 == 0) != (a1 == 0)))) else (dailieslaw04_FieldLaws.j0 k a0 a1 bt121.1 bt121.2 true)) else (dailieslaw04_FieldLaws.j0 k a0 a1 bt121.1 bt121.2 true)) else (dailieslaw04_FieldLaws.j0 k a0 a1 bt121.1 bt121.2 true)) else (dailieslaw04_FieldLaws.j0 k a0 a1 bt121.1 bt121.2 true)) else (dailieslaw04_FieldLaws.j0 k a0 a1 bt121.1 bt121.2 true)) else (dailieslaw04_FieldLaws.j0 k a0 a1 bt121.1 bt121.2 true))) = some r := H
  have A13 := Aside0.mk A130
  clear A130
  replace H := Option.bind_eq_some_iff.mp H
  obtain ⟨⟨t121, t122⟩, A140, H⟩ := H
  replace H : (if t111 = true then (if t112 = t115 then (if t116 = t117 then (if t118 = (Go.bits .xor .u8 t112 t114) then (if t119 = a0 then (if t120 = 0 then (if a0 = 0 then (dailieslaw04_FieldLaws.j0 k a0 a1 t121 t122 ((t112 == 0) != true)) else (dailieslaw04_FieldLaws.j0 k a0 a1 t121 t122 ((t112 == 0) != (a1 == 0)))) else (dailieslaw04_FieldLaws.j0 k a0 a1 t121 t122 true)) else (dailieslaw04_FieldLaws.j0 k a0 a1 t121 t122 true)) else (dailieslaw04_FieldLaws.j0 k a0 a1 t121 t122 true)) else (dailieslaw04_FieldLaws.j0 k a0 a1 t121 t122 true)) else (dailieslaw04_FieldLaws.j0 k a0 a1 t121 t122 true)) else (dailieslaw04_FieldLaws.j0 k a0 a1 t121 t122 true)) = some r := H
  have A14 := Aside0.mk A140
  clear A140
  have HC15 := Aside0.mk H
  clear H
  go_enter Try.func4, Try.ntmps4
  go_upto_region 12 with (first | ((with_reducible refine gate_callee (f := 11) rfl ?_); refine goesL_ (some 23) rfl rfl Try.func11 (by kernel_rfl) rfl #[] rfl (by (try simp only [List.map_toArray, List.map_cons, List.map_nil]); first | done | rfl | (simp only [List.length_drop, List.length_take]; rfl)) ?_; (with_reducible refine (dailieslaw04_alive.calls k  t111 _ A4.out).mono ?_); rintro e w' ⟨rfl, ⟨nd, rfl⟩⟩; refine ⟨_, rfl, ?_⟩) | ((with_reducible refine gate_callee (f := 12) rfl ?_); refine goesL_ (some 26) rfl rfl Try.func12 (by kernel_rfl) rfl #[.int .u8 a0, .int .u8 a1] rfl (by (try simp only [List.map_toArray, List.map_cons, List.map_nil]); first | done | rfl | (simp only [List.length_drop, List.length_take]; rfl)) ?_; (with_reducible refine (field_Mul.calls k a0 a1 t112 _ A5.out).mono ?_); rintro e w' ⟨rfl, ⟨nd, rfl⟩⟩; refine ⟨_, rfl, ?_⟩) | ((with_reducible refine gate_callee (f := 12) rfl ?_); refine goesL_ (some 29) rfl rfl Try.func12 (by kernel_rfl) rfl #[.int .u8 a1, .int .u8 a2] rfl (by (try simp only [List.map_toArray, List.map_cons, List.map_nil]); first | done | rfl | (simp only [List.length_drop, List.length_take]; rfl)) ?_; (with_reducible refine (field_Mul.calls k a1 a2 t113 _ A6.out).mono ?_); rintro e w' ⟨rfl, ⟨nd, rfl⟩⟩; refine ⟨_, rfl, ?_⟩) | ((with_reducible refine gate_callee (f := 12) rfl ?_); refine goesL_ (some 32) rfl rfl Try.func12 (by kernel_rfl) rfl #[.int .u8 a0, .int .u8 a2] rfl (by (try simp only [List.map_toArray, List.map_cons, List.map_nil]); first | done | rfl | (simp only [List.length_drop, List.length_take]; rfl)) ?_; (with_reducible refine (field_Mul.calls k a0 a2 t114 _ A7.out).mono ?_); rintro e w' ⟨rfl, ⟨nd, rfl⟩⟩; refine ⟨_, rfl, ?_⟩) | ((with_reducible refine gate_callee (f := 12) rfl ?_); refine goesL_ (some 35) rfl rfl Try.func12 (by kernel_rfl) rfl #[.int .u8 a1, .int .u8 a0] rfl (by (try simp only [List.map_toArray, List.map_cons, List.map_nil]); first | done | rfl | (simp only [List.length_drop, List.length_take]; rfl)) ?_; (with_reducible refine (field_Mul.calls k a1 a0 t115 _ A8.out).mono ?_); rintro e w' ⟨rfl, ⟨nd, rfl⟩⟩; refine ⟨_, rfl, ?_⟩) | ((with_reducible refine gate_callee (f := 12) rfl ?_); refine goesL_ (some 38) rfl rfl Try.func12 (by kernel_rfl) rfl #[.int .u8 t112, .int .u8 a2] rfl (by (try simp only [List.map_toArray, List.map_cons, List.map_nil]); first | done | rfl | (simp only [List.length_drop, List.length_take]; rfl)) ?_; (with_reducible refine (field_Mul.calls k t112 a2 t116 _ A9.out).mono ?_); rintro e w' ⟨rfl, ⟨nd, rfl⟩⟩; refine ⟨_, rfl, ?_⟩) | ((with_reducible refine gate_callee (f := 12) rfl ?_); refine goesL_ (some 41) rfl rfl Try.func12 (by kernel_rfl) rfl #[.int .u8 a0, .int .u8 t113] rfl (by (try simp only [List.map_toArray, List.map_cons, List.map_nil]); first | done | rfl | (simp only [List.length_drop, List.length_take]; rfl)) ?_; (with_reducible refine (field_Mul.calls k a0 t113 t117 _ A10.out).mono ?_); rintro e w' ⟨rfl, ⟨nd, rfl⟩⟩; refine ⟨_, rfl, ?_⟩) | ((with_reducible refine gate_callee (f := 12) rfl ?_); refine goesL_ (some 46) rfl rfl Try.func12 (by kernel_rfl) rfl #[.int .u8 a0, .int .u8 (Go.bits .xor .u8 a1 a2)] rfl (by (try simp only [List.map_toArray, List.map_cons, List.map_nil]); first | done | rfl | (simp only [List.length_drop, List.length_take]; rfl)) ?_; (with_reducible refine (field_Mul.calls k a0 (Go.bits .xor .u8 a1 a2) t118 _ A11.out).mono ?_); rintro e w' ⟨rfl, ⟨nd, rfl⟩⟩; refine ⟨_, rfl, ?_⟩) | ((with_reducible refine gate_callee (f := 12) rfl ?_); refine goesL_ (some 48) rfl rfl Try.func12 (by kernel_rfl) rfl #[.int .u8 a0, .int .u8 1] rfl (by (try simp only [List.map_toArray, List.map_cons, List.map_nil]); first | done | rfl | (simp only [List.length_drop, List.length_take]; rfl)) ?_; (with_reducible refine (field_Mul.calls k a0 1 t119 _ A12.out).mono ?_); rintro e w' ⟨rfl, ⟨nd, rfl⟩⟩; refine ⟨_, rfl, ?_⟩) | ((with_reducible refine gate_callee (f := 12) rfl ?_); refine goesL_ (some 50) rfl rfl Try.func12 (by kernel_rfl) rfl #[.int .u8 a0, .int .u8 0] rfl (by (try simp only [List.map_toArray, List.map_cons, List.map_nil]); first | done | rfl | (simp only [List.length_drop, List.length_take]; rfl)) ?_; (with_reducible refine (field_Mul.calls k a0 0 t120 _ A13.out).mono ?_); rintro e w' ⟨rfl, ⟨nd, rfl⟩⟩; refine ⟨_, rfl, ?_⟩) | ((with_reducible refine gate_callee (f := 13) rfl ?_); refine goesL_ (some 53) rfl rfl Try.func13 (by kernel_rfl) rfl #[.int .u8 a0] rfl (by (try simp only [List.map_toArray, List.map_cons, List.map_nil]); first | done | rfl | (simp only [List.length_drop, List.length_take]; rfl)) ?_; (with_reducible refine (field_Inv.calls k a0 t121 t122 _ A14.out).mono ?_); rintro e w' ⟨rfl, ⟨nd, rfl⟩⟩; refine ⟨_, rfl, ?_⟩))
  (try simp only [Act.put, List.setIfInBounds_toArray, List.set_cons_zero, List.set_cons_succ])
  go_cut [94] (fun v94 wc => ∃ (kq : Nat) (x94_14 : Bool), v94 = .bool x94_14 ∧ Aside0 (dailieslaw04_FieldLaws.j0 kq a0 a1 t121 t122 x94_14 = some r) ∧ Aside0 (kq ≤ k) ∧ Drawn0 w wc)
  case first =>
    have H := HC15.out
    clear HC15
    by_cases c16 : t111 = true
    · subst c16
      have H1 : (if t112 = t115 then (if t116 = t117 then (if t118 = (Go.bits .xor .u8 t112 t114) then (if t119 = a0 then (if t120 = 0 then (if a0 = 0 then (dailieslaw04_FieldLaws.j0 k a0 a1 t121 t122 ((t112 == 0) != true)) else (dailieslaw04_FieldLaws.j0 k a0 a1 t121 t122 ((t112 == 0) != (a1 == 0)))) else (dailieslaw04_FieldLaws.j0 k a0 a1 t121 t122 true)) else (dailieslaw04_FieldLaws.j0 k a0 a1 t121 t122 true)) else (dailieslaw04_FieldLaws.j0 k a0 a1 t121 t122 true)) else (dailieslaw04_FieldLaws.j0 k a0 a1 t121 t122 true)) else (dailieslaw04_FieldLaws.j0 k a0 a1 t121 t122 true)) = some r := by rw [if_pos rfl] at H; exact H
      clear H
      have H := H1
      clear H1
      by_cases c17 : t112 = t115
      · rw [if_pos c17] at H
        have c17b0 : (t112 == t115) = true := beq_iff_eq.mpr c17
        have c17b1 : (t112 != t115) = false := bne_eq_false_iff_eq.mpr c17
        clear c17
        (first | rw [c17b0] | (simp only [i64_w, i32_w]; rw [c17b0]) | skip)
        by_cases c18 : t116 = t117
        · rw [if_pos c18] at H
          have c18b0 : (t116 == t117) = true := beq_iff_eq.mpr c18
          have c18b1 : (t116 != t117) = false := bne_eq_false_iff_eq.mpr c18
          clear c18
          by_cases c19 : t118 = (Go.bits .xor .u8 t112 t114)
          · rw [if_pos c19] at H
            have c19b0 : (t118 == (Go.bits .xor .u8 t112 t114)) = true := beq_iff_eq.mpr c19
            have c19b1 : (t118 != (Go.bits .xor .u8 t112 t114)) = false := bne_eq_false_iff_eq.mpr c19
            clear c19
            by_cases c20 : t119 = a0
            · rw [if_pos c20] at H
              have c20b0 : (t119 == a0) = true := beq_iff_eq.mpr c20
              have c20b1 : (t119 != a0) = false := bne_eq_false_iff_eq.mpr c20
              clear c20
              by_cases c21 : t120 = 0
              · rw [if_pos c21] at H
                have c21b0 : (t120 == 0) = true := beq_iff_eq.mpr c21
                have c21b1 : (t120 != 0) = false := bne_eq_false_iff_eq.mpr c21
                clear c21
                by_cases c22 : a0 = 0
                · rw [if_pos c22] at H
                  have c22b0 : (a0 == 0) = true := beq_iff_eq.mpr c22
                  have c22b1 : (a0 != 0) = false := bne_eq_false_iff_eq.mpr c22
                  clear c22
                  have H' := Aside0.mk H
                  clear H
                  go_wp2
                  go_meet
                  case rel => exact ⟨_, (((t112 == 0) != true)), (by first | rfl | (simp; done) | (simp [*]; done)), H', ⟨by first | omega | exact Nat.le_refl _⟩, by repeat (first | exact Drawn0.refl _ | apply Drawn0.step)⟩
                · rw [if_neg c22] at H
                  have c22b0 : (a0 == 0) = false := beq_eq_false_iff_ne.mpr c22
                  have c22b1 : (a0 != 0) = true := bne_iff_ne.mpr c22
                  have H' := Aside0.mk H
                  clear H
                  go_wp2
                  go_meet
                  case rel => exact ⟨_, (((t112 == 0) != (a1 == 0))), (by first | rfl | (simp; done) | (simp [*]; done)), H', ⟨by first | omega | exact Nat.le_refl _⟩, by repeat (first | exact Drawn0.refl _ | apply Drawn0.step)⟩
              · rw [if_neg c21] at H
                have c21b0 : (t120 == 0) = false := beq_eq_false_iff_ne.mpr c21
                have c21b1 : (t120 != 0) = true := bne_iff_ne.mpr c21
                have H' := Aside0.mk H
                clear H
                go_wp2
                go_meet
                case rel => exact ⟨_, (true), (by first | rfl | (simp; done) | (simp [*]; done)), H', ⟨by first | omega | exact Nat.le_refl _⟩, by repeat (first | exact Drawn0.refl _ | apply Drawn0.step)⟩
            · rw [if_neg c20] at H
              have c20b0 : (t119 == a0) = false := beq_eq_false_iff_ne.mpr c20
              have c20b1 : (t119 != a0) = true := bne_iff_ne.mpr c20
              have H' := Aside0.mk H
              clear H
              go_wp2
              go_meet
              case rel => exact ⟨_, (true), (by first | rfl | (simp; done) | (simp [*]; done)), H', ⟨by first | omega | exact Nat.le_refl _⟩, by repeat (first | exact Drawn0.refl _ | apply Drawn0.step)⟩
          · rw [if_neg c19] at H
            have c19b0 : (t118 == (Go.bits .xor .u8 t112 t114)) = false := beq_eq_false_iff_ne.mpr c19
            have c19b1 : (t118 != (Go.bits .xor .u8 t112 t114)) = true := bne_iff_ne.mpr c19
            have H' := Aside0.mk H
            clear H
            go_wp2
            go_meet
            case rel => exact ⟨_, (true), (by first | rfl | (simp; done) | (simp [*]; done)), H', ⟨by first | omega | exact Nat.le_refl _⟩, by repeat (first | exact Drawn0.refl _ | apply Drawn0.step)⟩
        · rw [if_neg c18] at H
          have c18b0 : (t116 == t117) = false := beq_eq_false_iff_ne.mpr c18
          have c18b1 : (t116 != t117) = true := bne_iff_ne.mpr c18
          have H' := Aside0.mk H
          clear H
          go_wp2
          go_meet
          case rel => exact ⟨_, (true), (by first | rfl | (simp; done) | (simp [*]; done)), H', ⟨by first | omega | exact Nat.le_refl _⟩, by repeat (first | exact Drawn0.refl _ | apply Drawn0.step)⟩
      · rw [if_neg c17] at H
        have c17b0 : (t112 == t115) = false := beq_eq_false_iff_ne.mpr c17
        have c17b1 : (t112 != t115) = true := bne_iff_ne.mpr c17
        (first | rw [c17b0] | (simp only [i64_w, i32_w]; rw [c17b0]) | skip)
        have H' := Aside0.mk H
        clear H
        go_wp2
        go_meet
        case rel => exact ⟨_, (true), (by first | rfl | (simp; done) | (simp [*]; done)), H', ⟨by first | omega | exact Nat.le_refl _⟩, by repeat (first | exact Drawn0.refl _ | apply Drawn0.step)⟩
    · replace c16 := Bool.eq_false_iff.mpr c16
      subst c16
      have H1 : (dailieslaw04_FieldLaws.j0 k a0 a1 t121 t122 true) = some r := by rw [if_neg (show ¬ (false = true) by decide)] at H; exact H
      clear H
      have H := H1
      clear H1
      have H' := Aside0.mk H
      clear H
      go_wp2
      go_meet
      case rel => exact ⟨_, (true), (by first | rfl | (simp; done) | (simp [*]; done)), H', ⟨by first | omega | exact Nat.le_refl _⟩, by repeat (first | exact Drawn0.refl _ | apply Drawn0.step)⟩
  case rest =>
    clear HC15
    try clear c1
    try clear c2
    try clear p2
    try clear c4
    try clear c11
    try clear c12
    try clear c13
    try clear c16
    try clear c17
    try clear c17b0
    try clear c17b1
    try clear c18
    try clear c18b0
    try clear c18b1
    try clear c19
    try clear c19b0
    try clear c19b1
    try clear c20
    try clear c20b0
    try clear c20b1
    try clear c21
    try clear c21b0
    try clear c21b1
    try clear c22
    try clear c22b0
    try clear c22b1
    obtain ⟨kq, x94_14, rfl, HA, HJ14, ⟨mc14, rfl⟩⟩ := hcut
    cases kq with
    | zero => exact absurd HA.out (by simp [dailieslaw04_FieldLaws.j0])
    | succ kj14 =>
      have H := HA.out
      clear HA
      simp only [dailieslaw04_FieldLaws.j0] at H
      by_cases c23 : x94_14 = true
      · subst c23
        have H1 : (some false) = some r := by rw [if_pos rfl] at H; exact H
        clear H
        have H := H1
        clear H1
        obtain rfl := Option.some.inj H
        go_wp2
        go_ret
        exact ⟨by first | rfl | (simp; done) | (simp [*]; done), by repeat (first | exact Drawn0.refl _ | apply Drawn0.step)⟩
      · replace c23 := Bool.eq_false_iff.mpr c23
        subst c23
        have H1 : (if a0 = 0 then (if t122 = 41 then (some (t121 == 0)) else (some false)) else ((field_Mul.f kj14 a0 t121).bind fun t123 => ((field_Div.f kj14 a1 a0).bind fun bt124 => ((field_Mul.f kj14 bt124.1 a0).bind fun t126 => (if t122 = 0 then (if t123 = 1 then (if bt124.2 = 0 then (some (t126 == a1)) else (some false)) else (some false)) else (some false)))))) = some r := by rw [if_neg (show ¬ (false = true) by decide)] at H; exact H
        clear H
        have H := H1
        clear H1
        by_cases c24 : a0 = 0
        · rw [if_pos c24] at H
          have c24b0 : (a0 == 0) = true := beq_iff_eq.mpr c24
          have c24b1 : (a0 != 0) = false := bne_eq_false_iff_eq.mpr c24
          clear c24
          by_cases c25 : t122 = 41
          · rw [if_pos c25] at H
            have c25b0 : (t122 == 41) = true := beq_iff_eq.mpr c25
            have c25b1 : (t122 != 41) = false := bne_eq_false_iff_eq.mpr c25
            clear c25
            obtain rfl := Option.some.inj H
            go_wp2
            go_ret
            exact ⟨by first | rfl | (simp; done) | (simp [*]; done), by repeat (first | exact Drawn0.refl _ | apply Drawn0.step)⟩
          · rw [if_neg c25] at H
            have c25b0 : (t122 == 41) = false := beq_eq_false_iff_ne.mpr c25
            have c25b1 : (t122 != 41) = true := bne_iff_ne.mpr c25
            obtain rfl := Option.some.inj H
            go_wp2
            go_ret
            exact ⟨by first | rfl | (simp; done) | (simp [*]; done), by repeat (first | exact Drawn0.refl _ | apply Drawn0.step)⟩
        · rw [if_neg c24] at H
          have c24b0 : (a0 == 0) = false := beq_eq_false_iff_ne.mpr c24
          have c24b1 : (a0 != 0) = true := bne_iff_ne.mpr c24
          replace H := Option.bind_eq_some_iff.mp H
          obtain ⟨t123, A260, H⟩ := H
          replace H : ((field_Div.f kj14 a1 a0).bind fun bt124 => ((field_Mul.f kj14 bt124.1 a0).bind fun t126 => (if t122 = 0 then (if t123 = 1 then (if bt124.2 = 0 then (some (t126 == a1)) else (some false)) else (some false)) else (some false)))) = some r := H
          have A26 := Aside0.mk A260
          clear A260
          replace H := Option.bind_eq_some_iff.mp H
          obtain ⟨⟨t124, t125⟩, A270, H⟩ := H
          replace H : ((field_Mul.f kj14 t124 a0).bind fun t126 => (if t122 = 0 then (if t123 = 1 then (if t125 = 0 then (some (t126 == a1)) else (some false)) else (some false)) else (some false))) = some r := H
          have A27 := Aside0.mk A270
          clear A270
          replace H := Option.bind_eq_some_iff.mp H
          obtain ⟨t126, A280, H⟩ := H
          replace H : (if t122 = 0 then (if t123 = 1 then (if t125 = 0 then (some (t126 == a1)) else (some false)) else (some false)) else (some false)) = some r := H
          have A28 := Aside0.mk A280
          clear A280
          by_cases c29 : t122 = 0
          · rw [if_pos c29] at H
            have c29b0 : (t122 == 0) = true := beq_iff_eq.mpr c29
            have c29b1 : (t122 != 0) = false := bne_eq_false_iff_eq.mpr c29
            clear c29
            by_cases c30 : t123 = 1
            · rw [if_pos c30] at H
              have c30b0 : (t123 == 1) = true := beq_iff_eq.mpr c30
              have c30b1 : (t123 != 1) = false := bne_eq_false_iff_eq.mpr c30
              clear c30
              by_cases c31 : t125 = 0
              · rw [if_pos c31] at H
                have c31b0 : (t125 == 0) = true := beq_iff_eq.mpr c31
                have c31b1 : (t125 != 0) = false := bne_eq_false_iff_eq.mpr c31
                clear c31
                obtain rfl := Option.some.inj H
                go_wp2_with (first | ((with_reducible refine gate_callee (f := 12) rfl ?_); refine goesL_ (some 105) rfl rfl Try.func12 (by kernel_rfl) rfl #[.int .u8 a0, .int .u8 t121] rfl (by (try simp only [List.map_toArray, List.map_cons, List.map_nil]); first | done | rfl | (simp only [List.length_drop, List.length_take]; rfl)) ?_; (with_reducible refine (field_Mul.calls kj14 a0 t121 t123 _ A26.out).mono ?_); rintro e w' ⟨rfl, ⟨nd, rfl⟩⟩; refine ⟨_, rfl, ?_⟩) | ((with_reducible refine gate_callee (f := 14) rfl ?_); refine goesL_ (some 109) rfl rfl Try.func14 (by kernel_rfl) rfl #[.int .u8 a1, .int .u8 a0] rfl (by (try simp only [List.map_toArray, List.map_cons, List.map_nil]); first | done | rfl | (simp only [List.length_drop, List.length_take]; rfl)) ?_; (with_reducible refine (field_Div.calls kj14 a1 a0 t124 t125 _ A27.out).mono ?_); rintro e w' ⟨rfl, ⟨nd, rfl⟩⟩; refine ⟨_, rfl, ?_⟩) | ((with_reducible refine gate_callee (f := 12) rfl ?_); refine goesL_ (some 114) rfl rfl Try.func12 (by kernel_rfl) rfl #[.int .u8 t124, .int .u8 a0] rfl (by (try simp only [List.map_toArray, List.map_cons, List.map_nil]); first | done | rfl | (simp only [List.length_drop, List.length_take]; rfl)) ?_; (with_reducible refine (field_Mul.calls kj14 t124 a0 t126 _ A28.out).mono ?_); rintro e w' ⟨rfl, ⟨nd, rfl⟩⟩; refine ⟨_, rfl, ?_⟩))
                go_ret
                exact ⟨by first | rfl | (simp; done) | (simp [*]; done), by repeat (first | exact Drawn0.refl _ | apply Drawn0.step)⟩
              · rw [if_neg c31] at H
                have c31b0 : (t125 == 0) = false := beq_eq_false_iff_ne.mpr c31
                have c31b1 : (t125 != 0) = true := bne_iff_ne.mpr c31
                obtain rfl := Option.some.inj H
                go_wp2_with (first | ((with_reducible refine gate_callee (f := 12) rfl ?_); refine goesL_ (some 105) rfl rfl Try.func12 (by kernel_rfl) rfl #[.int .u8 a0, .int .u8 t121] rfl (by (try simp only [List.map_toArray, List.map_cons, List.map_nil]); first | done | rfl | (simp only [List.length_drop, List.length_take]; rfl)) ?_; (with_reducible refine (field_Mul.calls kj14 a0 t121 t123 _ A26.out).mono ?_); rintro e w' ⟨rfl, ⟨nd, rfl⟩⟩; refine ⟨_, rfl, ?_⟩) | ((with_reducible refine gate_callee (f := 14) rfl ?_); refine goesL_ (some 109) rfl rfl Try.func14 (by kernel_rfl) rfl #[.int .u8 a1, .int .u8 a0] rfl (by (try simp only [List.map_toArray, List.map_cons, List.map_nil]); first | done | rfl | (simp only [List.length_drop, List.length_take]; rfl)) ?_; (with_reducible refine (field_Div.calls kj14 a1 a0 t124 t125 _ A27.out).mono ?_); rintro e w' ⟨rfl, ⟨nd, rfl⟩⟩; refine ⟨_, rfl, ?_⟩) | ((with_reducible refine gate_callee (f := 12) rfl ?_); refine goesL_ (some 114) rfl rfl Try.func12 (by kernel_rfl) rfl #[.int .u8 t124, .int .u8 a0] rfl (by (try simp only [List.map_toArray, List.map_cons, List.map_nil]); first | done | rfl | (simp only [List.length_drop, List.length_take]; rfl)) ?_; (with_reducible refine (field_Mul.calls kj14 t124 a0 t126 _ A28.out).mono ?_); rintro e w' ⟨rfl, ⟨nd, rfl⟩⟩; refine ⟨_, rfl, ?_⟩))
                go_ret
                exact ⟨by first | rfl | (simp; done) | (simp [*]; done), by repeat (first | exact Drawn0.refl _ | apply Drawn0.step)⟩
            · rw [if_neg c30] at H
              have c30b0 : (t123 == 1) = false := beq_eq_false_iff_ne.mpr c30
              have c30b1 : (t123 != 1) = true := bne_iff_ne.mpr c30
              obtain rfl := Option.some.inj H
              go_wp2_with (first | ((with_reducible refine gate_callee (f := 12) rfl ?_); refine goesL_ (some 105) rfl rfl Try.func12 (by kernel_rfl) rfl #[.int .u8 a0, .int .u8 t121] rfl (by (try simp only [List.map_toArray, List.map_cons, List.map_nil]); first | done | rfl | (simp only [List.length_drop, List.length_take]; rfl)) ?_; (with_reducible refine (field_Mul.calls kj14 a0 t121 t123 _ A26.out).mono ?_); rintro e w' ⟨rfl, ⟨nd, rfl⟩⟩; refine ⟨_, rfl, ?_⟩) | ((with_reducible refine gate_callee (f := 14) rfl ?_); refine goesL_ (some 109) rfl rfl Try.func14 (by kernel_rfl) rfl #[.int .u8 a1, .int .u8 a0] rfl (by (try simp only [List.map_toArray, List.map_cons, List.map_nil]); first | done | rfl | (simp only [List.length_drop, List.length_take]; rfl)) ?_; (with_reducible refine (field_Div.calls kj14 a1 a0 t124 t125 _ A27.out).mono ?_); rintro e w' ⟨rfl, ⟨nd, rfl⟩⟩; refine ⟨_, rfl, ?_⟩) | ((with_reducible refine gate_callee (f := 12) rfl ?_); refine goesL_ (some 114) rfl rfl Try.func12 (by kernel_rfl) rfl #[.int .u8 t124, .int .u8 a0] rfl (by (try simp only [List.map_toArray, List.map_cons, List.map_nil]); first | done | rfl | (simp only [List.length_drop, List.length_take]; rfl)) ?_; (with_reducible refine (field_Mul.calls kj14 t124 a0 t126 _ A28.out).mono ?_); rintro e w' ⟨rfl, ⟨nd, rfl⟩⟩; refine ⟨_, rfl, ?_⟩))
              go_ret
              exact ⟨by first | rfl | (simp; done) | (simp [*]; done), by repeat (first | exact Drawn0.refl _ | apply Drawn0.step)⟩
          · rw [if_neg c29] at H
            have c29b0 : (t122 == 0) = false := beq_eq_false_iff_ne.mpr c29
            have c29b1 : (t122 != 0) = true := bne_iff_ne.mpr c29
            obtain rfl := Option.some.inj H
            go_wp2_with (first | ((with_reducible refine gate_callee (f := 12) rfl ?_); refine goesL_ (some 105) rfl rfl Try.func12 (by kernel_rfl) rfl #[.int .u8 a0, .int .u8 t121] rfl (by (try simp only [List.map_toArray, List.map_cons, List.map_nil]); first | done | rfl | (simp only [List.length_drop, List.length_take]; rfl)) ?_; (with_reducible refine (field_Mul.calls kj14 a0 t121 t123 _ A26.out).mono ?_); rintro e w' ⟨rfl, ⟨nd, rfl⟩⟩; refine ⟨_, rfl, ?_⟩) | ((with_reducible refine gate_callee (f := 14) rfl ?_); refine goesL_ (some 109) rfl rfl Try.func14 (by kernel_rfl) rfl #[.int .u8 a1, .int .u8 a0] rfl (by (try simp only [List.map_toArray, List.map_cons, List.map_nil]); first | done | rfl | (simp only [List.length_drop, List.length_take]; rfl)) ?_; (with_reducible refine (field_Div.calls kj14 a1 a0 t124 t125 _ A27.out).mono ?_); rintro e w' ⟨rfl, ⟨nd, rfl⟩⟩; refine ⟨_, rfl, ?_⟩) | ((with_reducible refine gate_callee (f := 12) rfl ?_); refine goesL_ (some 114) rfl rfl Try.func12 (by kernel_rfl) rfl #[.int .u8 t124, .int .u8 a0] rfl (by (try simp only [List.map_toArray, List.map_cons, List.map_nil]); first | done | rfl | (simp only [List.length_drop, List.length_take]; rfl)) ?_; (with_reducible refine (field_Mul.calls kj14 t124 a0 t126 _ A28.out).mono ?_); rintro e w' ⟨rfl, ⟨nd, rfl⟩⟩; refine ⟨_, rfl, ?_⟩))
            go_ret
            exact ⟨by first | rfl | (simp; done) | (simp [*]; done), by repeat (first | exact Drawn0.refl _ | apply Drawn0.step)⟩

/-- THE ONE PURE STATEMENT of dailieslaw04_FieldLaws: yours. -/
def dailieslaw04_FieldLaws.Pure : Prop := ∀ (a0 : Int) (a1 : Int) (a2 : Int), (Lit.int .u8 a0).wf = true → (Lit.int .u8 a1).wf = true → (Lit.int .u8 a2).wf = true → ∃ k, dailieslaw04_FieldLaws.f k a0 a1 a2 = some true
theorem dailieslaw04_FieldLaws.walk (P : dailieslaw04_FieldLaws.Pure) (a0 : Int) (a1 : Int) (a2 : Int) (w : World) (w0 : (Lit.int .u8 a0).wf = true) (w1 : (Lit.int .u8 a1).wf = true) (w2 : (Lit.int .u8 a2).wf = true) :
    Calls Try.prog 4 #[.int .u8 a0, .int .u8 a1, .int .u8 a2] w fun e w' => e = .returned (.bool true) ∧ Below w.heap.size w w' := by
  obtain ⟨k, h⟩ := P a0 a1 a2 w0 w1 w2
  refine (dailieslaw04_FieldLaws.calls k a0 a1 a2 true w h).mono ?_
  rintro e w' ⟨rfl, hd⟩
  exact ⟨rfl, hd.below⟩

end Go.Proofs.Ytdleoljbnjjdgaa.PFieldLaws
