-- Printed by a program of this session (wrap.py) over the kit's print.py, with hand-proved contracts among its functions.
import Derived.Test.YtdhajlkiiphlfaaQBaseParityWidex0
import Derived.Test.YtdhajlkiiphlfaaQBaseParityWidex1
namespace Go.Proofs.Ytdhajlkiiphlfaa.QBaseParityWide
open Go.RowKit Go.Proofs.YtdhajlkiiphlfaaW.PrintWords Go.Proofs.YtdhajlkiiphlfaaW.PrintLast Go.Proofs.YtdhajlkiiphlfaaW.PrintMore
attribute [local go_sem] max2_int min2_int max_two min_two max_three min_three max_four min_four   -- for this text's walks alone
set_option linter.unusedVariables false
set_option linter.unusedSimpArgs false

/-! ### parity_fits: function 30 -/
mutual
def parity_fits.j0 : Nat → List (List Int) → List Int → List (List Int) → List Int → Int → Int → Bool → Option (List Bool × Int)
  | 0, _, _, _, _, _, _, _ => none
  | k + 1, x0, x1, x2, x3, x10, x11, x29 => if x29 = true then (some (([] : List Bool), 51)) else (if (x1.length : Int) = x10 then (if 0 ≤ (wrap64 (x10 + x11)) then (if (wrap64 (x10 + x11) : Int).toNat ≤ 281474976710656 then (parity_fits.l0 k x0 x1 x2 x10 x11 (List.replicate (wrap64 (x10 + x11) : Int).toNat false) 0 x3 (x3.length : Int) 0) else (none)) else (none)) else (some (([] : List Bool), 52)))
def parity_fits.l0 : Nat → List (List Int) → List Int → List (List Int) → Int → Int → List Bool → Int → List Int → Int → Int → Option (List Bool × Int)
  | 0, _, _, _, _, _, _, _, _, _, _ => none
  | k + 1, x0, x1, x2, x10, x11, x12, x13, x38, x39, x40 => if x40 < x39 then (if 0 ≤ x40 then (if x40 < (x38.length : Int) then (if (rd x38 x40) < 0 then (parity_fits.j2 k x0 x1 x2 x10 x11 x12 x13 (rd x38 x40) x38 x39 x40 true) else (parity_fits.j2 k x0 x1 x2 x10 x11 x12 x13 (rd x38 x40) x38 x39 x40 (decide ((rd x38 x40) ≥ (wrap64 (x10 + x11)))))) else (none)) else (none)) else (parity_fits.l1 k x0 x1 x2 x10 x11 x12 x13 x1 (x1.length : Int) 0)
def parity_fits.j2 : Nat → List (List Int) → List Int → List (List Int) → Int → Int → List Bool → Int → Int → List Int → Int → Int → Bool → Option (List Bool × Int)
  | 0, _, _, _, _, _, _, _, _, _, _, _, _ => none
  | k + 1, x0, x1, x2, x10, x11, x12, x13, x15, x38, x39, x40, x52 => if x52 = true then (some (([] : List Bool), 52)) else (if 0 ≤ x15 then (if x15 < (x12.length : Int) then (if rdOf false x12 x15 = true then (parity_fits.l0 k x0 x1 x2 x10 x11 (x12.set (x15 : Int).toNat true) x13 x38 x39 (wrap64 (x40 + 1))) else (parity_fits.l0 k x0 x1 x2 x10 x11 (x12.set (x15 : Int).toNat true) (wrap64 (x13 + 1)) x38 x39 (wrap64 (x40 + 1)))) else (none)) else (none))
def parity_fits.l1 : Nat → List (List Int) → List Int → List (List Int) → Int → Int → List Bool → Int → List Int → Int → Int → Option (List Bool × Int)
  | 0, _, _, _, _, _, _, _, _, _, _ => none
  | k + 1, x0, x1, x2, x10, x11, x12, x13, x64, x65, x66 => if x66 < x65 then (if 0 ≤ x66 then (if x66 < (x64.length : Int) then (if (rd x64 x66) < 0 then (some (([] : List Bool), 52)) else (if (rd x64 x66) > 16777216 then (some (([] : List Bool), 52)) else (if x66 < (x12.length : Int) then (if rdOf false x12 x66 = true then (parity_fits.l1 k x0 x1 x2 x10 x11 x12 x13 x64 x65 (wrap64 (x66 + 1))) else (if x66 < (x0.length : Int) then (if ((rd_L2 x0 x66).length : Int) = (rd x64 x66) then (parity_fits.l1 k x0 x1 x2 x10 x11 x12 x13 x64 x65 (wrap64 (x66 + 1))) else (some (([] : List Bool), 52))) else (none))) else (none)))) else (none)) else (none)) else (parity_fits.l2 k x1 x10 x11 x12 x13 x2 (x2.length : Int) 0)
def parity_fits.l2 : Nat → List Int → Int → Int → List Bool → Int → List (List Int) → Int → Int → Option (List Bool × Int)
  | 0, _, _, _, _, _, _, _, _ => none
  | k + 1, x1, x10, x11, x12, x13, x94, x95, x96 => if x96 < x95 then (if 0 ≤ x96 then (if x96 < (x94.length : Int) then (if 0 ≤ (wrap64 (x10 + x96)) then (if (wrap64 (x10 + x96)) < (x12.length : Int) then (if (rdOf false x12 (wrap64 (x10 + x96)) = true) then (parity_fits.l2 k x1 x10 x11 x12 x13 x94 x95 (wrap64 (x96 + 1))) else ((parity_wide.f k x1).bind fun t159 => (if ((rd_L2 x94 x96).length : Int) = t159 then (parity_fits.l2 k x1 x10 x11 x12 x13 x94 x95 (wrap64 (x96 + 1))) else (some (([] : List Bool), 52))))) else (none)) else (none)) else (none)) else (none)) else (if x13 > x11 then (some (([] : List Bool), 53)) else (some (x12, 0)))
end
def parity_fits.f (k : Nat) (l0 : List (List Int)) (l1 : List Int) (l2 : List (List Int)) (l3 : List Int) : Option (List Bool × Int) := if (l0.length : Int) > 200 then (parity_fits.j0 k l0 l1 l2 l3 (l0.length : Int) (l2.length : Int) true) else (parity_fits.j0 k l0 l1 l2 l3 (l0.length : Int) (l2.length : Int) (decide ((l2.length : Int) > 16)))
theorem parity_fits.mono_l : ∀ k, (∀ y0 y1 y2 y3 y4 y5 y6, LeO (parity_fits.j0 k y0 y1 y2 y3 y4 y5 y6) (parity_fits.j0 (k + 1) y0 y1 y2 y3 y4 y5 y6)) ∧ (∀ y0 y1 y2 y3 y4 y5 y6 y7 y8 y9, LeO (parity_fits.l0 k y0 y1 y2 y3 y4 y5 y6 y7 y8 y9) (parity_fits.l0 (k + 1) y0 y1 y2 y3 y4 y5 y6 y7 y8 y9)) ∧ (∀ y0 y1 y2 y3 y4 y5 y6 y7 y8 y9 y10 y11, LeO (parity_fits.j2 k y0 y1 y2 y3 y4 y5 y6 y7 y8 y9 y10 y11) (parity_fits.j2 (k + 1) y0 y1 y2 y3 y4 y5 y6 y7 y8 y9 y10 y11)) ∧ (∀ y0 y1 y2 y3 y4 y5 y6 y7 y8 y9, LeO (parity_fits.l1 k y0 y1 y2 y3 y4 y5 y6 y7 y8 y9) (parity_fits.l1 (k + 1) y0 y1 y2 y3 y4 y5 y6 y7 y8 y9)) ∧ (∀ y0 y1 y2 y3 y4 y5 y6 y7, LeO (parity_fits.l2 k y0 y1 y2 y3 y4 y5 y6 y7) (parity_fits.l2 (k + 1) y0 y1 y2 y3 y4 y5 y6 y7))
  | 0 => ⟨fun _ _ _ _ _ _ _ r h => by simp [parity_fits.j0] at h, fun _ _ _ _ _ _ _ _ _ _ r h => by simp [parity_fits.l0] at h, fun _ _ _ _ _ _ _ _ _ _ _ _ r h => by simp [parity_fits.j2] at h, fun _ _ _ _ _ _ _ _ _ _ r h => by simp [parity_fits.l1] at h, fun _ _ _ _ _ _ _ _ r h => by simp [parity_fits.l2] at h⟩
  | k + 1 => by
    obtain ⟨ih0, ih1, ih2, ih3, ih4⟩ := parity_fits.mono_l k
    refine ⟨?_, ?_, ?_, ?_, ?_⟩
    · intro y0 y1 y2 y3 y4 y5 y6
      unfold parity_fits.j0
      repeat' first
      | (with_reducible exact ih0 _ _ _ _ _ _ _)
      | (with_reducible exact ih1 _ _ _ _ _ _ _ _ _ _)
      | (with_reducible exact ih2 _ _ _ _ _ _ _ _ _ _ _ _)
      | (with_reducible exact ih3 _ _ _ _ _ _ _ _ _ _)
      | (with_reducible exact ih4 _ _ _ _ _ _ _ _)
      | (with_reducible exact parity_wide.mono _ _)
      | (with_reducible exact LeO.refl _)
      | (with_reducible exact LeO.none _)
      | (with_reducible refine LeO.ite ?_ ?_)
      | (with_reducible refine LeO.bind ?_ (fun _ => ?_))
      | exact ih0 _ _ _ _ _ _ _
      | exact ih1 _ _ _ _ _ _ _ _ _ _
      | exact ih2 _ _ _ _ _ _ _ _ _ _ _ _
      | exact ih3 _ _ _ _ _ _ _ _ _ _
      | exact ih4 _ _ _ _ _ _ _ _
      | exact parity_wide.mono _ _
      | exact LeO.none _
      | refine LeO.ite ?_ ?_
      | refine LeO.bind ?_ (fun _ => ?_)
    · intro y0 y1 y2 y3 y4 y5 y6 y7 y8 y9
      unfold parity_fits.l0
      repeat' first
      | (with_reducible exact ih0 _ _ _ _ _ _ _)
      | (with_reducible exact ih1 _ _ _ _ _ _ _ _ _ _)
      | (with_reducible exact ih2 _ _ _ _ _ _ _ _ _ _ _ _)
      | (with_reducible exact ih3 _ _ _ _ _ _ _ _ _ _)
      | (with_reducible exact ih4 _ _ _ _ _ _ _ _)
      | (with_reducible exact parity_wide.mono _ _)
      | (with_reducible exact LeO.refl _)
      | (with_reducible exact LeO.none _)
      | (with_reducible refine LeO.ite ?_ ?_)
      | (with_reducible refine LeO.bind ?_ (fun _ => ?_))
      | exact ih0 _ _ _ _ _ _ _
      | exact ih1 _ _ _ _ _ _ _ _ _ _
      | exact ih2 _ _ _ _ _ _ _ _ _ _ _ _
      | exact ih3 _ _ _ _ _ _ _ _ _ _
      | exact ih4 _ _ _ _ _ _ _ _
      | exact parity_wide.mono _ _
      | exact LeO.none _
      | refine LeO.ite ?_ ?_
      | refine LeO.bind ?_ (fun _ => ?_)
    · intro y0 y1 y2 y3 y4 y5 y6 y7 y8 y9 y10 y11
      unfold parity_fits.j2
      repeat' first
      | (with_reducible exact ih0 _ _ _ _ _ _ _)
      | (with_reducible exact ih1 _ _ _ _ _ _ _ _ _ _)
      | (with_reducible exact ih2 _ _ _ _ _ _ _ _ _ _ _ _)
      | (with_reducible exact ih3 _ _ _ _ _ _ _ _ _ _)
      | (with_reducible exact ih4 _ _ _ _ _ _ _ _)
      | (with_reducible exact parity_wide.mono _ _)
      | (with_reducible exact LeO.refl _)
      | (with_reducible exact LeO.none _)
      | (with_reducible refine LeO.ite ?_ ?_)
      | (with_reducible refine LeO.bind ?_ (fun _ => ?_))
      | exact ih0 _ _ _ _ _ _ _
      | exact ih1 _ _ _ _ _ _ _ _ _ _
      | exact ih2 _ _ _ _ _ _ _ _ _ _ _ _
      | exact ih3 _ _ _ _ _ _ _ _ _ _
      | exact ih4 _ _ _ _ _ _ _ _
      | exact parity_wide.mono _ _
      | exact LeO.none _
      | refine LeO.ite ?_ ?_
      | refine LeO.bind ?_ (fun _ => ?_)
    · intro y0 y1 y2 y3 y4 y5 y6 y7 y8 y9
      unfold parity_fits.l1
      repeat' first
      | (with_reducible exact ih0 _ _ _ _ _ _ _)
      | (with_reducible exact ih1 _ _ _ _ _ _ _ _ _ _)
      | (with_reducible exact ih2 _ _ _ _ _ _ _ _ _ _ _ _)
      | (with_reducible exact ih3 _ _ _ _ _ _ _ _ _ _)
      | (with_reducible exact ih4 _ _ _ _ _ _ _ _)
      | (with_reducible exact parity_wide.mono _ _)
      | (with_reducible exact LeO.refl _)
      | (with_reducible exact LeO.none _)
      | (with_reducible refine LeO.ite ?_ ?_)
      | (with_reducible refine LeO.bind ?_ (fun _ => ?_))
      | exact ih0 _ _ _ _ _ _ _
      | exact ih1 _ _ _ _ _ _ _ _ _ _
      | exact ih2 _ _ _ _ _ _ _ _ _ _ _ _
      | exact ih3 _ _ _ _ _ _ _ _ _ _
      | exact ih4 _ _ _ _ _ _ _ _
      | exact parity_wide.mono _ _
      | exact LeO.none _
      | refine LeO.ite ?_ ?_
      | refine LeO.bind ?_ (fun _ => ?_)
    · intro y0 y1 y2 y3 y4 y5 y6 y7
      unfold parity_fits.l2
      repeat' first
      | (with_reducible exact ih0 _ _ _ _ _ _ _)
      | (with_reducible exact ih1 _ _ _ _ _ _ _ _ _ _)
      | (with_reducible exact ih2 _ _ _ _ _ _ _ _ _ _ _ _)
      | (with_reducible exact ih3 _ _ _ _ _ _ _ _ _ _)
      | (with_reducible exact ih4 _ _ _ _ _ _ _ _)
      | (with_reducible exact parity_wide.mono _ _)
      | (with_reducible exact LeO.refl _)
      | (with_reducible exact LeO.none _)
      | (with_reducible refine LeO.ite ?_ ?_)
      | (with_reducible refine LeO.bind ?_ (fun _ => ?_))
      | exact ih0 _ _ _ _ _ _ _
      | exact ih1 _ _ _ _ _ _ _ _ _ _
      | exact ih2 _ _ _ _ _ _ _ _ _ _ _ _
      | exact ih3 _ _ _ _ _ _ _ _ _ _
      | exact ih4 _ _ _ _ _ _ _ _
      | exact parity_wide.mono _ _
      | exact LeO.none _
      | refine LeO.ite ?_ ?_
      | refine LeO.bind ?_ (fun _ => ?_)
theorem parity_fits.mono : ∀ a0 a1 a2 a3 k, LeO (parity_fits.f k a0 a1 a2 a3) (parity_fits.f (k + 1) a0 a1 a2 a3) := by
  intro a0 a1 a2 a3 k
  obtain ⟨ih0, ih1, ih2, ih3, ih4⟩ := parity_fits.mono_l k
  unfold parity_fits.f
  repeat' first
      | (with_reducible exact ih0 _ _ _ _ _ _ _)
      | (with_reducible exact ih1 _ _ _ _ _ _ _ _ _ _)
      | (with_reducible exact ih2 _ _ _ _ _ _ _ _ _ _ _ _)
      | (with_reducible exact ih3 _ _ _ _ _ _ _ _ _ _)
      | (with_reducible exact ih4 _ _ _ _ _ _ _ _)
      | (with_reducible exact parity_wide.mono _ _)
      | (with_reducible exact LeO.refl _)
      | (with_reducible exact LeO.none _)
      | (with_reducible refine LeO.ite ?_ ?_)
      | (with_reducible refine LeO.bind ?_ (fun _ => ?_))
      | exact ih0 _ _ _ _ _ _ _
      | exact ih1 _ _ _ _ _ _ _ _ _ _
      | exact ih2 _ _ _ _ _ _ _ _ _ _ _ _
      | exact ih3 _ _ _ _ _ _ _ _ _ _
      | exact ih4 _ _ _ _ _ _ _ _
      | exact parity_wide.mono _ _
      | exact LeO.none _
      | refine LeO.ite ?_ ?_
      | refine LeO.bind ?_ (fun _ => ?_)
set_option maxHeartbeats 8000000 in
set_option maxRecDepth 100000 in
theorem parity_fits.calls (k : Nat) (A0 : Option Addr) (c0 : Nat) (l0 : List (List Int)) (A1 : Option Addr) (c1 : Nat) (l1 : List Int) (A2 : Option Addr) (c2 : Nat) (l2 : List (List Int)) (A3 : Option Addr) (c3 : Nat) (l3 : List Int) (r1 : List Bool) (r2 : Int) (w : World) (hr0 : Kd.C (Kd.slice 5 (Kd.int .u8)) w A0 l0.length l0) (hc0 : l0.length ≤ c0) (hr1 : Kd.C (Kd.int .i64) w A1 l1.length l1) (hc1 : l1.length ≤ c1) (hr2 : Kd.C (Kd.slice 5 (Kd.int .u8)) w A2 l2.length l2) (hc2 : l2.length ≤ c2) (hr3 : Kd.C (Kd.int .i64) w A3 l3.length l3) (hc3 : l3.length ≤ c3) (h : parity_fits.f k l0 l1 l2 l3 = some (r1, r2)) :
    Calls Try.prog 30 #[.slice A0 l0.length c0, .slice A1 l1.length c1, .slice A2 l2.length c2, .slice A3 l3.length c3] w fun e w' => ∃ v0_ : Value, e = .returned (.tuple #[v0_, .int .i64 r2]) ∧ Kd.R Kd.bool 4 w' w.heap.size (fun _ => True) v0_ r1 ∧ Below w.heap.size w w' := by
  have HR0 := Aside0.mk hr0
  have HC0 := Aside0.mk hc0
  clear hr0 hc0
  have HR1 := Aside0.mk hr1
  have HC1 := Aside0.mk hc1
  clear hr1 hc1
  have HR2 := Aside0.mk hr2
  have HC2 := Aside0.mk hc2
  clear hr2 hc2
  have HR3 := Aside0.mk hr3
  have HC3 := Aside0.mk hc3
  clear hr3 hc3
  have HB := Aside0.mk (Below.refl w.heap.size w)
  have H : (if (l0.length : Int) > 200 then (parity_fits.j0 k l0 l1 l2 l3 (l0.length : Int) (l2.length : Int) true) else (parity_fits.j0 k l0 l1 l2 l3 (l0.length : Int) (l2.length : Int) (decide ((l2.length : Int) > 16)))) = some (r1, r2) := h
  clear h
  have HC5 := Aside0.mk H
  clear H
  go_enter Try.func30, Try.ntmps30
  go_upto_region 2 with (fail)
  go_cut [29] (fun v29 wc => ∃ (kq : Nat) (x29_4 : Bool), v29 = .bool x29_4 ∧ Aside0 (parity_fits.j0 kq l0 l1 l2 l3 (l0.length : Int) (l2.length : Int) x29_4 = some (r1, r2)) ∧ Aside0 (kq ≤ k) ∧ Aside0 (Below w.heap.size w wc))
  case first =>
    have H := HC5.out
    clear HC5
    by_cases c6 : (l0.length : Int) > 200
    · rw [if_pos c6] at H
      have c6b0 : decide (200 < (l0.length : Int)) = true := decide_eq_true c6
      have c6b1 : decide (200 < l0.length) = true := decide_eq_true (by omega)
      clear c6
      (first | rw [c6b0] | (simp only [i64_w, i32_w]; rw [c6b0]) | rw [c6b1] | rw [c6b2] | skip)
      have H' := Aside0.mk H
      clear H
      go_wp2
      go_meet
      case rel => exact ⟨_, (true), (by first | rfl | (simp; done) | (simp [*]; done)), H', ⟨by first | omega | exact Nat.le_refl _⟩, ⟨by repeat (first | (with_reducible first | exact HB.out | apply below_alloc | apply pw_below_drewN | apply below_drew1) | exact HB.out)⟩⟩
    · rw [if_neg c6] at H
      have c6b0 : decide (200 < (l0.length : Int)) = false := decide_eq_false c6
      have c6b1 : decide (200 < l0.length) = false := decide_eq_false (by omega)
      clear c6
      (first | rw [c6b0] | (simp only [i64_w, i32_w]; rw [c6b0]) | rw [c6b1] | rw [c6b2] | skip)
      have H' := Aside0.mk H
      clear H
      go_wp2
      go_meet
      case rel => exact ⟨_, (decide ((l2.length : Int) > 16)), (by first | rfl | (simp; done) | (simp [*]; done)), H', ⟨by first | omega | exact Nat.le_refl _⟩, ⟨by repeat (first | (with_reducible first | exact HB.out | apply below_alloc | apply pw_below_drewN | apply below_drew1) | exact HB.out)⟩⟩
  case rest =>
    clear HC5
    try clear c1
    try clear c2
    try clear p2
    try clear c3
    try clear c6
    try clear c6b0
    try clear c6b1
    try clear c6b2
    obtain ⟨kq, x29_4, rfl, HA, HJ4, HB⟩ := hcut
    cases kq with
    | zero => exact absurd HA.out (by simp [parity_fits.j0])
    | succ kj4 =>
      have H := HA.out
      clear HA
      simp only [parity_fits.j0] at H
      by_cases c7 : x29_4 = true
      · subst c7
        have H1 : (some (([] : List Bool), 51)) = some (r1, r2) := by rw [if_pos rfl] at H; exact H
        clear H
        have H := H1
        clear H1
        simp only [Option.some.injEq, Prod.mk.injEq] at H
        obtain ⟨rfl, rfl⟩ := H
        go_wp2
        go_ret2
        exact ⟨_, by first | rfl | (simp [errW_none, errW_some] <;> rfl) | (simp [*, errW_none, errW_some] <;> rfl), by first | exact Kd.R_nil _ _ _ _ _ | exact Kd.N_nil _ _ _ _ _ | exact Kd.V_nil _ _ _ _ _ | exact Kd.Q_nil _ _ _ _ _ | exact Kd.S_nil _ _ _ _ _, by repeat (first | (with_reducible first | exact HB.out | apply below_alloc | apply pw_below_drewN | apply below_drew1) | exact HB.out)⟩
      · replace c7 := Bool.eq_false_iff.mpr c7
        subst c7
        have H1 : (if (l1.length : Int) = (l0.length : Int) then (if 0 ≤ (wrap64 ((l0.length : Int) + (l2.length : Int))) then (if (wrap64 ((l0.length : Int) + (l2.length : Int)) : Int).toNat ≤ 281474976710656 then (parity_fits.l0 kj4 l0 l1 l2 (l0.length : Int) (l2.length : Int) (List.replicate (wrap64 ((l0.length : Int) + (l2.length : Int)) : Int).toNat false) 0 l3 (l3.length : Int) 0) else (none)) else (none)) else (some (([] : List Bool), 52))) = some (r1, r2) := by rw [if_neg (show ¬ (false = true) by decide)] at H; exact H
        clear H
        have H := H1
        clear H1
        by_cases c8 : (l1.length : Int) = (l0.length : Int)
        · rw [if_pos c8] at H
          have c8b0 : ((l1.length : Int) == (l0.length : Int)) = true := beq_iff_eq.mpr c8
          have c8b1 : ((l1.length : Int) != (l0.length : Int)) = false := bne_eq_false_iff_eq.mpr c8
          have c8b2 : (l1.length == l0.length) = true := by first | simpa using c8 | (simp at c8 ⊢; omega)
          clear c8
          obtain ⟨ji9, hji9⟩ : ∃ j_ : Int, (wrap64 ((l0.length : Int) + (l2.length : Int))) = j_ := ⟨_, rfl⟩
          replace H : (if 0 ≤ (ji9) then (if (ji9 : Int).toNat ≤ 281474976710656 then (parity_fits.l0 kj4 l0 l1 l2 (l0.length : Int) (l2.length : Int) (List.replicate (ji9 : Int).toNat false) 0 l3 (l3.length : Int) 0) else (none)) else (none)) = some (r1, r2) := by first | (rw [hji9] at H; exact H) | (simp only [hji9] at H ⊢; exact H)
          have hji9w : (IntKind.i64.wrap ((l0.length : Int) + (l2.length : Int))) = ji9 := (i64_w _).trans hji9
          by_cases c10 : 0 ≤ (ji9)
          · rw [if_pos c10] at H
            have c10b0 := eq_true c10
            have c10b1 : decide (0 ≤ (ji9)) = true := decide_eq_true c10
            clear c10
            by_cases c11 : (ji9 : Int).toNat ≤ 281474976710656
            · rw [if_pos c11] at H
              have c11b0 := eq_true c11
              have c11b1 : decide ((ji9 : Int).toNat ≤ 281474976710656) = true := decide_eq_true c11
              clear c11
              obtain ⟨y147, hy147⟩ : ∃ y_ : List Bool, y_ = (List.replicate (ji9 : Int).toNat false) := ⟨_, rfl⟩
              replace H : (parity_fits.l0 kj4 l0 l1 l2 (l0.length : Int) (l2.length : Int) y147 0 l3 (l3.length : Int) 0) = some (r1, r2) := by first | (rw [hy147]; with_reducible exact H) | (have H2_ := (Option.bind_some _ _).symm.trans H; rw [hy147]; with_reducible exact H2_) | (have H2_ := (Option.bind_some _ _).symm.trans H; with_reducible exact H2_) | with_reducible exact H | (rw [hy147]; exact H) | exact H
              have Ny147 := Aside0.mk hy147
              clear hy147
              have H' := Aside0.mk H
              clear H
              go_wp2_with (first | ((with_reducible refine gate_dst (N := 37) rfl ?_); (try (refine gate_guard (by rfl) ?_; dsimp only)); refine Kd.R_make Kd.bool _ 4 rfl (N := 37) rfl 66 _ _ rfl ji9 rfl rfl Try.underlying66 (.bool false) 1 info4 rfl (by decide) (by omega) false (ok := fun _ => True) (okp := fun _ => True) rfl (fun _ hk => hk) trivial (of_decide_eq_true (by first | (with_reducible assumption) | assumption)) (Nat.le_trans (Nat.mul_le_mul_right _ (of_decide_eq_true (by first | (with_reducible assumption) | assumption) : ji9.toNat ≤ 281474976710656)) (by omega)) (Below.refl _ _) (Nat.le_refl _) ?_; intro v148 w12 ho13 hb hg_ hnew_; clear hg_ hnew_; (first | rw [← Ny147.out] at ho13 | (simp only [Int.reduceToNat] at ho13; rw [← Ny147.out] at ho13)); have n0_ := Aside0.mk (Kd.R_lower ho13 (below_size (by repeat (first | (with_reducible first | exact HB.out | apply below_alloc | apply pw_below_drewN | apply below_drew1) | exact HB.out)))); have n1_ := Aside0.mk (below_step (by repeat (first | (with_reducible first | exact HB.out | apply below_alloc | apply pw_below_drewN | apply below_drew1) | exact HB.out)) hb); clear HB; have HO149 := n0_; have HB := n1_; clear n0_ n1_; clear hb ho13))
              go_loopg [13, 40] kj4 (fun kq v13 v40 w' => ∃ (x12_2 : List Bool) (x13_2 : Int) (x40_2 : Int), v13 = .int .i64 x13_2 ∧ v40 = .int .i64 x40_2 ∧ Aside0 (parity_fits.l0 kq l0 l1 l2 (l0.length : Int) (l2.length : Int) x12_2 x13_2 l3 (l3.length : Int) x40_2 = some (r1, r2)) ∧ Aside0 (kq ≤ kj4) ∧ Aside0 (Kd.R Kd.bool 4 w' w.heap.size (fun _ => True) v148 x12_2) ∧ Aside0 (Below w.heap.size w w'))
              case atStart => exact ⟨(y147), (0), (0), (by first | rfl | (simp; done) | (simp [*]; done)), (by first | rfl | (simp; done) | (simp [*]; done)), H', ⟨Nat.le_refl _⟩, ⟨by (with_reducible repeat (first | apply Kd.R_alloc | apply Kd.R_drewN | apply Kd.R_drew)); exact HO149.out⟩, ⟨by repeat (first | (with_reducible first | exact HB.out | apply below_alloc | apply pw_below_drewN | apply below_drew1) | exact HB.out)⟩⟩
              case round =>
                clear H'
                try clear c1
                try clear c2
                try clear p2
                try clear c3
                try clear c6
                try clear c6b0
                try clear c6b1
                try clear c6b2
                try clear p6
                try clear c7
                try clear c8
                try clear c8b0
                try clear c8b1
                try clear c8b2
                try clear c10
                try clear c10b0
                try clear c10b1
                try clear c11
                try clear c11b0
                try clear c11b1
                try clear p2
                obtain ⟨x12_2, x13_2, x40_2, rfl, rfl, HA, HK2, HO_12, HB⟩ := hrel
                cases gk with
                | zero => exact absurd HA.out (by simp [parity_fits.l0])
                | succ k2 =>
                  have H := HA.out
                  clear HA
                  simp only [parity_fits.l0] at H
                  by_cases c14 : x40_2 < (l3.length : Int)
                  · rw [if_pos c14] at H
                    have c14b0 : decide (x40_2 < (l3.length : Int)) = true := decide_eq_true c14
                    clear c14
                    by_cases c15 : 0 ≤ x40_2
                    · rw [if_pos c15] at H
                      have c15b0 : decide (0 ≤ x40_2) = true := decide_eq_true c15
                      clear c15
                      by_cases c16 : x40_2 < (l3.length : Int)
                      · rw [if_pos c16] at H
                        have c16b0 : decide (x40_2 < (l3.length : Int)) = true := decide_eq_true c16
                        clear c16
                        have HC17 := Aside0.mk H
                        clear H
                        have p150 : 0 ≤ (x40_2 : Int) := of_decide_eq_true (by first | (with_reducible assumption) | assumption)
                        have q150 : x40_2 < (l3.length : Int) := of_decide_eq_true (by first | (with_reducible assumption) | assumption)
                        obtain ⟨ad150, e150, hx150_0⟩ := Kd.at_int HR3.out x40_2 p150 q150
                        cases e150
                        replace hx150_0 := (HB.out.cell (World.block_lt_of_cell? w _ hx150_0)).trans hx150_0
                        replace p150 := eq_true p150
                        replace q150 := eq_true q150
                        go_upto_region 11 with (fail)
                        go_cut [52] (fun v52 wc => ∃ (kq : Nat) (x52_16 : Bool), v52 = .bool x52_16 ∧ Aside0 (parity_fits.j2 kq l0 l1 l2 (l0.length : Int) (l2.length : Int) x12_2 x13_2 (rd l3 x40_2) l3 (l3.length : Int) x40_2 x52_16 = some (r1, r2)) ∧ Aside0 (kq ≤ k2) ∧ Aside0 (Kd.R Kd.bool 4 wc w.heap.size (fun _ => True) v148 x12_2) ∧ Aside0 (Below w.heap.size w wc))
                        case first =>
                          have H := HC17.out
                          clear HC17
                          by_cases c18 : (rd l3 x40_2) < 0
                          · rw [if_pos c18] at H
                            have c18b0 : decide ((rd l3 x40_2) < 0) = true := decide_eq_true c18
                            clear c18
                            (first | rw [c18b0] | (simp only [i64_w, i32_w]; rw [c18b0]) | rw [c18b1] | rw [c18b2] | skip)
                            have H' := Aside0.mk H
                            clear H
                            go_wp2
                            go_meet
                            case rel => exact ⟨_, (true), (by first | rfl | (simp; done) | (simp [*]; done)), H', ⟨by have := HJ4.out; have := HK2.out; first | omega | exact Nat.le_refl _⟩, ⟨by (with_reducible repeat (first | apply Kd.R_alloc | apply Kd.R_drewN | apply Kd.R_drew)); exact HO_12.out⟩, ⟨by repeat (first | (with_reducible first | exact HB.out | apply below_alloc | apply pw_below_drewN | apply below_drew1) | exact HB.out)⟩⟩
                          · rw [if_neg c18] at H
                            have c18b0 : decide ((rd l3 x40_2) < 0) = false := decide_eq_false c18
                            clear c18
                            (first | rw [c18b0] | (simp only [i64_w, i32_w]; rw [c18b0]) | rw [c18b1] | rw [c18b2] | skip)
                            have H' := Aside0.mk H
                            clear H
                            go_wp2
                            go_meet
                            case rel => exact ⟨_, (decide ((rd l3 x40_2) ≥ (wrap64 ((l0.length : Int) + (l2.length : Int))))), (by first | rfl | (simp; done) | (simp [*]; done)), H', ⟨by have := HJ4.out; have := HK2.out; first | omega | exact Nat.le_refl _⟩, ⟨by (with_reducible repeat (first | apply Kd.R_alloc | apply Kd.R_drewN | apply Kd.R_drew)); exact HO_12.out⟩, ⟨by repeat (first | (with_reducible first | exact HB.out | apply below_alloc | apply pw_below_drewN | apply below_drew1) | exact HB.out)⟩⟩
                        case rest =>
                          clear HC17
                          try clear c1
                          try clear p1
                          try clear q1
                          try clear hx1
                          try clear c2
                          try clear p2
                          try clear c3
                          try clear c6
                          try clear c6b0
                          try clear c6b1
                          try clear c6b2
                          try clear p6
                          try clear c7
                          try clear c8
                          try clear c8b0
                          try clear c8b1
                          try clear c8b2
                          try clear c10
                          try clear c10b0
                          try clear c10b1
                          try clear c11
                          try clear c11b0
                          try clear c11b1
                          try clear c14
                          try clear c14b0
                          try clear c15
                          try clear c15b0
                          try clear p15
                          try clear q15
                          try clear hx15
                          try clear c16
                          try clear c16b0
                          try clear c18
                          try clear c18b0
                          try clear c18b1
                          try clear c18b2
                          try clear hx150_0
                          try clear p150
                          try clear p2
                          try clear p6
                          try clear q150
                          obtain ⟨kq, x52_16, rfl, HA, HJ16, HO_12, HB⟩ := hcut
                          cases kq with
                          | zero => exact absurd HA.out (by simp [parity_fits.j2])
                          | succ kj16 =>
                            have H := HA.out
                            clear HA
                            simp only [parity_fits.j2] at H
                            by_cases c19 : x52_16 = true
                            · subst c19
                              have H1 : (some (([] : List Bool), 52)) = some (r1, r2) := by rw [if_pos rfl] at H; exact H
                              clear H
                              have H := H1
                              clear H1
                              simp only [Option.some.injEq, Prod.mk.injEq] at H
                              obtain ⟨rfl, rfl⟩ := H
                              go_wp2
                              go_ret2
                              exact ⟨_, by first | rfl | (simp [errW_none, errW_some] <;> rfl) | (simp only [← hji9]; first | rfl | (simp [errW_none, errW_some] <;> rfl)) | (simp [*, errW_none, errW_some] <;> rfl), by first | exact Kd.R_nil _ _ _ _ _ | exact Kd.N_nil _ _ _ _ _ | exact Kd.V_nil _ _ _ _ _ | exact Kd.Q_nil _ _ _ _ _ | exact Kd.S_nil _ _ _ _ _, by repeat (first | (with_reducible first | exact HB.out | apply below_alloc | apply pw_below_drewN | apply below_drew1) | exact HB.out)⟩
                            · replace c19 := Bool.eq_false_iff.mpr c19
                              subst c19
                              have H1 : (if 0 ≤ (rd l3 x40_2) then (if (rd l3 x40_2) < (x12_2.length : Int) then (if rdOf false x12_2 (rd l3 x40_2) = true then (parity_fits.l0 kj16 l0 l1 l2 (l0.length : Int) (l2.length : Int) (x12_2.set ((rd l3 x40_2) : Int).toNat true) x13_2 l3 (l3.length : Int) (wrap64 (x40_2 + 1))) else (parity_fits.l0 kj16 l0 l1 l2 (l0.length : Int) (l2.length : Int) (x12_2.set ((rd l3 x40_2) : Int).toNat true) (wrap64 (x13_2 + 1)) l3 (l3.length : Int) (wrap64 (x40_2 + 1)))) else (none)) else (none)) = some (r1, r2) := by rw [if_neg (show ¬ (false = true) by decide)] at H; exact H
                              clear H
                              have H := H1
                              clear H1
                              by_cases c20 : 0 ≤ (rd l3 x40_2)
                              · rw [if_pos c20] at H
                                have c20b0 : decide (0 ≤ (rd l3 x40_2)) = true := decide_eq_true c20
                                clear c20
                                by_cases c21 : (rd l3 x40_2) < (x12_2.length : Int)
                                · rw [if_pos c21] at H
                                  have c21b0 : decide ((rd l3 x40_2) < (x12_2.length : Int)) = true := decide_eq_true c21
                                  clear c21
                                  obtain ⟨bq22, hbq22⟩ : ∃ b_ : Bool, b_ = (rdOf false x12_2 (rd l3 x40_2)) := ⟨_, rfl⟩
                                  replace H : (if bq22 = true then (parity_fits.l0 kj16 l0 l1 l2 (l0.length : Int) (l2.length : Int) (x12_2.set ((rd l3 x40_2) : Int).toNat true) x13_2 l3 (l3.length : Int) (wrap64 (x40_2 + 1))) else (parity_fits.l0 kj16 l0 l1 l2 (l0.length : Int) (l2.length : Int) (x12_2.set ((rd l3 x40_2) : Int).toNat true) (wrap64 (x13_2 + 1)) l3 (l3.length : Int) (wrap64 (x40_2 + 1)))) = some (r1, r2) := by rw [← hbq22] at H; exact H
                                  have Nbq22 := Aside0.mk hbq22
                                  clear hbq22
                                  by_cases c23 : bq22 = true
                                  · subst c23
                                    have H1 : (parity_fits.l0 kj16 l0 l1 l2 (l0.length : Int) (l2.length : Int) (x12_2.set ((rd l3 x40_2) : Int).toNat true) x13_2 l3 (l3.length : Int) (wrap64 (x40_2 + 1))) = some (r1, r2) := by rw [if_pos rfl] at H; exact H
                                    clear H
                                    have H := H1
                                    clear H1
                                    obtain ⟨y152, hy152⟩ : ∃ y_ : List Bool, y_ = (x12_2.set ((rd l3 x40_2) : Int).toNat true) := ⟨_, rfl⟩
                                    replace H : (parity_fits.l0 kj16 l0 l1 l2 (l0.length : Int) (l2.length : Int) y152 x13_2 l3 (l3.length : Int) (wrap64 (x40_2 + 1))) = some (r1, r2) := by first | (rw [hy152]; with_reducible exact H) | (have H2_ := (Option.bind_some _ _).symm.trans H; rw [hy152]; with_reducible exact H2_) | (have H2_ := (Option.bind_some _ _).symm.trans H; with_reducible exact H2_) | with_reducible exact H | (rw [hy152]; exact H) | exact H
                                    have Ny152 := Aside0.mk hy152
                                    clear hy152
                                    have H' := Aside0.mk H
                                    clear H
                                    obtain ⟨Ao25, co25, eo25⟩ := Kd.R_slice HO_12.out
                                    subst eo25
                                    have p151 : 0 ≤ ((rd l3 x40_2) : Int) := of_decide_eq_true (by first | (with_reducible assumption) | assumption)
                                    have q151 : (rd l3 x40_2) < (x12_2.length : Int) := of_decide_eq_true (by first | (with_reducible assumption) | assumption)
                                    obtain ⟨ad151, e151, hx151_0⟩ := Kd.at_bool (Kd.R_reads' HO_12.out).2.2 (rd l3 x40_2) p151 q151
                                    (try rw [← Nbq22.out] at hx151_0)
                                    cases e151
                                    replace p151 := eq_true p151
                                    replace q151 := eq_true q151
                                    have p24 : 0 ≤ ((rd l3 x40_2) : Int) := of_decide_eq_true (by first | (with_reducible assumption) | assumption)
                                    have q24 : ((rd l3 x40_2) : Int) < ((x12_2.length : Int) : Int) := of_decide_eq_true (by first | (with_reducible assumption) | assumption)
                                    obtain ⟨go24, co24, eo24, gb24, gl24, cl24, HG24⟩ := Kd.R_form HO_12.out (by omega)
                                    (first | cases eo24 | (injection eo24 with ea_ en_ ec_; (first | subst ea_ | (injection ea_ with ea_; subst ea_)); subst ec_; clear en_))
                                    have GB24 := Aside0.mk gb24
                                    have GG24 := Aside0.mk HG24
                                    clear gb24 gl24 HG24
                                    (first | simp only [add_plain] at hx151_0 | skip)
                                    obtain ⟨hx24_0, hf24_0⟩ := Kd.R_celln false HO_12.out ((rd l3 x40_2) : Int) p24 q24
                                    replace p24 := eq_true p24
                                    replace q24 := eq_true q24
                                    have HP26 := Kd.R_putg HO_12.out ((rd l3 x40_2) : Int) true
                                    go_wp2_with (first | ((with_reducible refine gate_store (t := 4) (p := 62) rfl ?_); refine store_event (t := 4) (p := 62) (v := ?vo_w27) (w1 := (wc.setCell ⟨go24, ((rd l3 x40_2) : Int).toNat, none⟩ (.bool true))) ?hg ?ho ?hn ?hr ?_; (case ho => rfl); (case hg => rfl); (case hn => rfl); (case hr => first | (go_simp; done) | (go_simp; rfl)); intro w27 hw; have hg : wc.grownBy w27 (some go24) := (by rw [hw]; exact HP26.2); have hp_ : Kd.R Kd.bool 4 w27 w.heap.size (fun _ => True) (.slice (some ⟨go24, 0, none⟩) x12_2.length co25) y152 := (by rw [hw, Ny152.out]; exact HP26.1); clear HP26; have n0_ := Aside0.mk (hp_); have n1_ := Aside0.mk ((by rw [hw]; exact below_set (HB.out) GB24.out : Below w.heap.size w w27)); clear HO_12; clear HB; have HO_12 := n0_; have HB := n1_; clear n0_ n1_; clear hg hw hp_))
                                    go_roundg kj16
                                    case measure => have := HJ4.out; have := HK2.out; have := HJ16.out; omega
                                    case rel => exact ⟨(y152), (x13_2), (wrap64 (x40_2 + 1)), (by first | rfl | (simp; done) | (simp [*]; done)), (by first | rfl | (simp; done) | (simp [*]; done)), H', ⟨by have := HJ4.out; have := HK2.out; have := HJ16.out; omega⟩, ⟨by (with_reducible repeat (first | apply Kd.R_alloc | apply Kd.R_drewN | apply Kd.R_drew)); exact HO_12.out⟩, ⟨by repeat (first | (with_reducible first | exact HB.out | apply below_alloc | apply pw_below_drewN | apply below_drew1) | exact HB.out)⟩⟩
                                  · replace c23 := Bool.eq_false_iff.mpr c23
                                    subst c23
                                    have H1 : (parity_fits.l0 kj16 l0 l1 l2 (l0.length : Int) (l2.length : Int) (x12_2.set ((rd l3 x40_2) : Int).toNat true) (wrap64 (x13_2 + 1)) l3 (l3.length : Int) (wrap64 (x40_2 + 1))) = some (r1, r2) := by rw [if_neg (show ¬ (false = true) by decide)] at H; exact H
                                    clear H
                                    have H := H1
                                    clear H1
                                    obtain ⟨y153, hy153⟩ : ∃ y_ : List Bool, y_ = (x12_2.set ((rd l3 x40_2) : Int).toNat true) := ⟨_, rfl⟩
                                    replace H : (parity_fits.l0 kj16 l0 l1 l2 (l0.length : Int) (l2.length : Int) y153 (wrap64 (x13_2 + 1)) l3 (l3.length : Int) (wrap64 (x40_2 + 1))) = some (r1, r2) := by first | (rw [hy153]; with_reducible exact H) | (have H2_ := (Option.bind_some _ _).symm.trans H; rw [hy153]; with_reducible exact H2_) | (have H2_ := (Option.bind_some _ _).symm.trans H; with_reducible exact H2_) | with_reducible exact H | (rw [hy153]; exact H) | exact H
                                    have Ny153 := Aside0.mk hy153
                                    clear hy153
                                    have H' := Aside0.mk H
                                    clear H
                                    obtain ⟨Ao29, co29, eo29⟩ := Kd.R_slice HO_12.out
                                    subst eo29
                                    have p151 : 0 ≤ ((rd l3 x40_2) : Int) := of_decide_eq_true (by first | (with_reducible assumption) | assumption)
                                    have q151 : (rd l3 x40_2) < (x12_2.length : Int) := of_decide_eq_true (by first | (with_reducible assumption) | assumption)
                                    obtain ⟨ad151, e151, hx151_0⟩ := Kd.at_bool (Kd.R_reads' HO_12.out).2.2 (rd l3 x40_2) p151 q151
                                    (try rw [← Nbq22.out] at hx151_0)
                                    cases e151
                                    replace p151 := eq_true p151
                                    replace q151 := eq_true q151
                                    have p28 : 0 ≤ ((rd l3 x40_2) : Int) := of_decide_eq_true (by first | (with_reducible assumption) | assumption)
                                    have q28 : ((rd l3 x40_2) : Int) < ((x12_2.length : Int) : Int) := of_decide_eq_true (by first | (with_reducible assumption) | assumption)
                                    obtain ⟨go28, co28, eo28, gb28, gl28, cl28, HG28⟩ := Kd.R_form HO_12.out (by omega)
                                    (first | cases eo28 | (injection eo28 with ea_ en_ ec_; (first | subst ea_ | (injection ea_ with ea_; subst ea_)); subst ec_; clear en_))
                                    have GB28 := Aside0.mk gb28
                                    have GG28 := Aside0.mk HG28
                                    clear gb28 gl28 HG28
                                    (first | simp only [add_plain] at hx151_0 | skip)
                                    obtain ⟨hx28_0, hf28_0⟩ := Kd.R_celln false HO_12.out ((rd l3 x40_2) : Int) p28 q28
                                    replace p28 := eq_true p28
                                    replace q28 := eq_true q28
                                    have HP30 := Kd.R_putg HO_12.out ((rd l3 x40_2) : Int) true
                                    go_wp2_with (first | ((with_reducible refine gate_store (t := 4) (p := 62) rfl ?_); refine store_event (t := 4) (p := 62) (v := ?vo_w31) (w1 := (wc.setCell ⟨go28, ((rd l3 x40_2) : Int).toNat, none⟩ (.bool true))) ?hg ?ho ?hn ?hr ?_; (case ho => rfl); (case hg => rfl); (case hn => rfl); (case hr => first | (go_simp; done) | (go_simp; rfl)); intro w31 hw; have hg : wc.grownBy w31 (some go28) := (by rw [hw]; exact HP30.2); have hp_ : Kd.R Kd.bool 4 w31 w.heap.size (fun _ => True) (.slice (some ⟨go28, 0, none⟩) x12_2.length co29) y153 := (by rw [hw, Ny153.out]; exact HP30.1); clear HP30; have n0_ := Aside0.mk (hp_); have n1_ := Aside0.mk ((by rw [hw]; exact below_set (HB.out) GB28.out : Below w.heap.size w w31)); clear HO_12; clear HB; have HO_12 := n0_; have HB := n1_; clear n0_ n1_; clear hg hw hp_))
                                    go_roundg kj16
                                    case measure => have := HJ4.out; have := HK2.out; have := HJ16.out; omega
                                    case rel => exact ⟨(y153), (wrap64 (x13_2 + 1)), (wrap64 (x40_2 + 1)), (by first | rfl | (simp; done) | (simp [*]; done)), (by first | rfl | (simp; done) | (simp [*]; done)), H', ⟨by have := HJ4.out; have := HK2.out; have := HJ16.out; omega⟩, ⟨by (with_reducible repeat (first | apply Kd.R_alloc | apply Kd.R_drewN | apply Kd.R_drew)); exact HO_12.out⟩, ⟨by repeat (first | (with_reducible first | exact HB.out | apply below_alloc | apply pw_below_drewN | apply below_drew1) | exact HB.out)⟩⟩
                                · rw [if_neg c21] at H
                                  exact absurd H (by simp)
                              · rw [if_neg c20] at H
                                exact absurd H (by simp)
                      · rw [if_neg c16] at H
                        exact absurd H (by simp)
                    · rw [if_neg c15] at H
                      exact absurd H (by simp)
                  · rw [if_neg c14] at H
                    have c14b0 : decide (x40_2 < (l3.length : Int)) = false := decide_eq_false c14
                    clear c14
                    have H' := Aside0.mk H
                    clear H
                    go_wp2
                    go_loopg [66] k2 (fun kq v66 w' => ∃ (x66_3 : Int), v66 = .int .i64 x66_3 ∧ Aside0 (parity_fits.l1 kq l0 l1 l2 (l0.length : Int) (l2.length : Int) x12_2 x13_2 l1 (l1.length : Int) x66_3 = some (r1, r2)) ∧ Aside0 (kq ≤ k2) ∧ Aside0 (Kd.R Kd.bool 4 w' w.heap.size (fun _ => True) v148 x12_2) ∧ Aside0 (Below w.heap.size w w'))
                    case atStart => exact ⟨(0), (by first | rfl | (simp; done) | (simp [*]; done)), H', ⟨Nat.le_refl _⟩, ⟨by (with_reducible repeat (first | apply Kd.R_alloc | apply Kd.R_drewN | apply Kd.R_drew)); exact HO_12.out⟩, ⟨by repeat (first | (with_reducible first | exact HB.out | apply below_alloc | apply pw_below_drewN | apply below_drew1) | exact HB.out)⟩⟩
                    case round =>
                      clear H'
                      try clear c1
                      try clear p1
                      try clear q1
                      try clear hx1
                      try clear c2
                      try clear p2
                      try clear q2
                      try clear hx2
                      try clear c3
                      try clear c6
                      try clear c6b0
                      try clear c6b1
                      try clear c6b2
                      try clear p6
                      try clear c7
                      try clear c8
                      try clear c8b0
                      try clear c8b1
                      try clear c8b2
                      try clear c10
                      try clear c10b0
                      try clear c10b1
                      try clear c11
                      try clear c11b0
                      try clear c11b1
                      try clear c14
                      try clear c14b0
                      try clear c15
                      try clear c15b0
                      try clear p15
                      try clear q15
                      try clear hx15
                      try clear c16
                      try clear c16b0
                      try clear c18
                      try clear c18b0
                      try clear c18b1
                      try clear c18b2
                      try clear c19
                      try clear c20
                      try clear c20b0
                      try clear c21
                      try clear c21b0
                      try clear q22
                      try clear c23
                      try clear p24
                      try clear q24
                      try clear hx24
                      try clear hf24
                      try clear p28
                      try clear q28
                      try clear hx28
                      try clear hf28
                      try clear c30
                      try clear hx150_0
                      try clear hx151_0
                      try clear hx24_0
                      try clear hx28_0
                      try clear p1
                      try clear p15
                      try clear p150
                      try clear p151
                      try clear p2
                      try clear p24
                      try clear p28
                      try clear p6
                      try clear q1
                      try clear q15
                      try clear q150
                      try clear q151
                      try clear q24
                      try clear q28
                      obtain ⟨x66_3, rfl, HA, HK3, HO_12, HB⟩ := hrel
                      cases gk with
                      | zero => exact absurd HA.out (by simp [parity_fits.l1])
                      | succ k3 =>
                        have H := HA.out
                        clear HA
                        simp only [parity_fits.l1] at H
                        by_cases c32 : x66_3 < (l1.length : Int)
                        · rw [if_pos c32] at H
                          have c32b0 : decide (x66_3 < (l1.length : Int)) = true := decide_eq_true c32
                          clear c32
                          by_cases c33 : 0 ≤ x66_3
                          · rw [if_pos c33] at H
                            have c33b0 : decide (0 ≤ x66_3) = true := decide_eq_true c33
                            clear c33
                            by_cases c34 : x66_3 < (l1.length : Int)
                            · rw [if_pos c34] at H
                              have c34b0 : decide (x66_3 < (l1.length : Int)) = true := decide_eq_true c34
                              clear c34
                              by_cases c35 : (rd l1 x66_3) < 0
                              · rw [if_pos c35] at H
                                have c35b0 : decide ((rd l1 x66_3) < 0) = true := decide_eq_true c35
                                clear c35
                                simp only [Option.some.injEq, Prod.mk.injEq] at H
                                obtain ⟨rfl, rfl⟩ := H
                                have p154 : 0 ≤ (x66_3 : Int) := of_decide_eq_true (by first | (with_reducible assumption) | assumption)
                                have q154 : x66_3 < (l1.length : Int) := of_decide_eq_true (by first | (with_reducible assumption) | assumption)
                                obtain ⟨ad154, e154, hx154_0⟩ := Kd.at_int HR1.out x66_3 p154 q154
                                cases e154
                                replace hx154_0 := (HB.out.cell (World.block_lt_of_cell? w _ hx154_0)).trans hx154_0
                                replace p154 := eq_true p154
                                replace q154 := eq_true q154
                                go_wp2
                                go_ret2
                                exact ⟨_, by first | rfl | (simp [errW_none, errW_some] <;> rfl) | (simp only [← hji9]; first | rfl | (simp [errW_none, errW_some] <;> rfl)) | (simp [*, errW_none, errW_some] <;> rfl), by first | exact Kd.R_nil _ _ _ _ _ | exact Kd.N_nil _ _ _ _ _ | exact Kd.V_nil _ _ _ _ _ | exact Kd.Q_nil _ _ _ _ _ | exact Kd.S_nil _ _ _ _ _, by repeat (first | (with_reducible first | exact HB.out | apply below_alloc | apply pw_below_drewN | apply below_drew1) | exact HB.out)⟩
                              · rw [if_neg c35] at H
                                have c35b0 : decide ((rd l1 x66_3) < 0) = false := decide_eq_false c35
                                clear c35
                                by_cases c36 : (rd l1 x66_3) > 16777216
                                · rw [if_pos c36] at H
                                  have c36b0 : decide (16777216 < (rd l1 x66_3)) = true := decide_eq_true c36
                                  clear c36
                                  simp only [Option.some.injEq, Prod.mk.injEq] at H
                                  obtain ⟨rfl, rfl⟩ := H
                                  have p154 : 0 ≤ (x66_3 : Int) := of_decide_eq_true (by first | (with_reducible assumption) | assumption)
                                  have q154 : x66_3 < (l1.length : Int) := of_decide_eq_true (by first | (with_reducible assumption) | assumption)
                                  obtain ⟨ad154, e154, hx154_0⟩ := Kd.at_int HR1.out x66_3 p154 q154
                                  cases e154
                                  replace hx154_0 := (HB.out.cell (World.block_lt_of_cell? w _ hx154_0)).trans hx154_0
                                  replace p154 := eq_true p154
                                  replace q154 := eq_true q154
                                  go_wp2
                                  go_ret2
                                  exact ⟨_, by first | rfl | (simp [errW_none, errW_some] <;> rfl) | (simp only [← hji9]; first | rfl | (simp [errW_none, errW_some] <;> rfl)) | (simp [*, errW_none, errW_some] <;> rfl), by first | exact Kd.R_nil _ _ _ _ _ | exact Kd.N_nil _ _ _ _ _ | exact Kd.V_nil _ _ _ _ _ | exact Kd.Q_nil _ _ _ _ _ | exact Kd.S_nil _ _ _ _ _, by repeat (first | (with_reducible first | exact HB.out | apply below_alloc | apply pw_below_drewN | apply below_drew1) | exact HB.out)⟩
                                · rw [if_neg c36] at H
                                  have c36b0 : decide (16777216 < (rd l1 x66_3)) = false := decide_eq_false c36
                                  clear c36
                                  by_cases c37 : x66_3 < (x12_2.length : Int)
                                  · rw [if_pos c37] at H
                                    have c37b0 : decide (x66_3 < (x12_2.length : Int)) = true := decide_eq_true c37
                                    clear c37
                                    obtain ⟨bq38, hbq38⟩ : ∃ b_ : Bool, b_ = (rdOf false x12_2 x66_3) := ⟨_, rfl⟩
                                    replace H : (if bq38 = true then (parity_fits.l1 k3 l0 l1 l2 (l0.length : Int) (l2.length : Int) x12_2 x13_2 l1 (l1.length : Int) (wrap64 (x66_3 + 1))) else (if x66_3 < (l0.length : Int) then (if ((rd_L2 l0 x66_3).length : Int) = (rd l1 x66_3) then (parity_fits.l1 k3 l0 l1 l2 (l0.length : Int) (l2.length : Int) x12_2 x13_2 l1 (l1.length : Int) (wrap64 (x66_3 + 1))) else (some (([] : List Bool), 52))) else (none))) = some (r1, r2) := by rw [← hbq38] at H; exact H
                                    have Nbq38 := Aside0.mk hbq38
                                    clear hbq38
                                    by_cases c39 : bq38 = true
                                    · subst c39
                                      have H1 : (parity_fits.l1 k3 l0 l1 l2 (l0.length : Int) (l2.length : Int) x12_2 x13_2 l1 (l1.length : Int) (wrap64 (x66_3 + 1))) = some (r1, r2) := by rw [if_pos rfl] at H; exact H
                                      clear H
                                      have H := H1
                                      clear H1
                                      have H' := Aside0.mk H
                                      clear H
                                      have p154 : 0 ≤ (x66_3 : Int) := of_decide_eq_true (by first | (with_reducible assumption) | assumption)
                                      have q154 : x66_3 < (l1.length : Int) := of_decide_eq_true (by first | (with_reducible assumption) | assumption)
                                      obtain ⟨ad154, e154, hx154_0⟩ := Kd.at_int HR1.out x66_3 p154 q154
                                      cases e154
                                      replace hx154_0 := (HB.out.cell (World.block_lt_of_cell? w _ hx154_0)).trans hx154_0
                                      replace p154 := eq_true p154
                                      replace q154 := eq_true q154
                                      obtain ⟨Ao40, co40, eo40⟩ := Kd.R_slice HO_12.out
                                      subst eo40
                                      have p155 : 0 ≤ (x66_3 : Int) := of_decide_eq_true (by first | (with_reducible assumption) | assumption)
                                      have q155 : x66_3 < (x12_2.length : Int) := of_decide_eq_true (by first | (with_reducible assumption) | assumption)
                                      obtain ⟨ad155, e155, hx155_0⟩ := Kd.at_bool (Kd.R_reads' HO_12.out).2.2 x66_3 p155 q155
                                      (try rw [← Nbq38.out] at hx155_0)
                                      cases e155
                                      replace p155 := eq_true p155
                                      replace q155 := eq_true q155
                                      go_wp2
                                      go_roundg k3
                                      case measure => have := HJ4.out; have := HK2.out; have := HK3.out; omega
                                      case rel => exact ⟨(wrap64 (x66_3 + 1)), (by first | rfl | (simp; done) | (simp [*]; done)), H', ⟨by have := HJ4.out; have := HK2.out; have := HK3.out; omega⟩, ⟨by (with_reducible repeat (first | apply Kd.R_alloc | apply Kd.R_drewN | apply Kd.R_drew)); exact HO_12.out⟩, ⟨by repeat (first | (with_reducible first | exact HB.out | apply below_alloc | apply pw_below_drewN | apply below_drew1) | exact HB.out)⟩⟩
                                    · replace c39 := Bool.eq_false_iff.mpr c39
                                      subst c39
                                      have H1 : (if x66_3 < (l0.length : Int) then (if ((rd_L2 l0 x66_3).length : Int) = (rd l1 x66_3) then (parity_fits.l1 k3 l0 l1 l2 (l0.length : Int) (l2.length : Int) x12_2 x13_2 l1 (l1.length : Int) (wrap64 (x66_3 + 1))) else (some (([] : List Bool), 52))) else (none)) = some (r1, r2) := by rw [if_neg (show ¬ (false = true) by decide)] at H; exact H
                                      clear H
                                      have H := H1
                                      clear H1
                                      by_cases c41 : x66_3 < (l0.length : Int)
                                      · rw [if_pos c41] at H
                                        have c41b0 : decide (x66_3 < (l0.length : Int)) = true := decide_eq_true c41
                                        clear c41
                                        by_cases c42 : ((rd_L2 l0 x66_3).length : Int) = (rd l1 x66_3)
                                        · rw [if_pos c42] at H
                                          have c42b0 : (((rd_L2 l0 x66_3).length : Int) == (rd l1 x66_3)) = true := beq_iff_eq.mpr c42
                                          have c42b1 : (((rd_L2 l0 x66_3).length : Int) != (rd l1 x66_3)) = false := bne_eq_false_iff_eq.mpr c42
                                          clear c42
                                          have H' := Aside0.mk H
                                          clear H
                                          have p154 : 0 ≤ (x66_3 : Int) := of_decide_eq_true (by first | (with_reducible assumption) | assumption)
                                          have q154 : x66_3 < (l1.length : Int) := of_decide_eq_true (by first | (with_reducible assumption) | assumption)
                                          obtain ⟨ad154, e154, hx154_0⟩ := Kd.at_int HR1.out x66_3 p154 q154
                                          cases e154
                                          replace hx154_0 := (HB.out.cell (World.block_lt_of_cell? w _ hx154_0)).trans hx154_0
                                          replace p154 := eq_true p154
                                          replace q154 := eq_true q154
                                          obtain ⟨Ao43, co43, eo43⟩ := Kd.R_slice HO_12.out
                                          subst eo43
                                          have p155 : 0 ≤ (x66_3 : Int) := of_decide_eq_true (by first | (with_reducible assumption) | assumption)
                                          have q155 : x66_3 < (x12_2.length : Int) := of_decide_eq_true (by first | (with_reducible assumption) | assumption)
                                          obtain ⟨ad155, e155, hx155_0⟩ := Kd.at_bool (Kd.R_reads' HO_12.out).2.2 x66_3 p155 q155
                                          (try rw [← Nbq38.out] at hx155_0)
                                          cases e155
                                          replace p155 := eq_true p155
                                          replace q155 := eq_true q155
                                          have p156 : 0 ≤ (x66_3 : Int) := of_decide_eq_true (by first | (with_reducible assumption) | assumption)
                                          have q156 : x66_3 < (l0.length : Int) := of_decide_eq_true (by first | (with_reducible assumption) | assumption)
                                          obtain ⟨ad156, A156_0, c156_0, e156, hx156_0, hl156_0, hi156_0⟩ := at_L2 HR0.out x66_3 p156 q156
                                          cases e156
                                          replace hx156_0 := (HB.out.cell (World.block_lt_of_cell? w _ hx156_0)).trans hx156_0
                                          have HR156_0 := Aside0.mk hi156_0
                                          have HC156_0 := Aside0.mk hl156_0
                                          clear hi156_0 hl156_0
                                          replace p156 := eq_true p156
                                          replace q156 := eq_true q156
                                          go_wp2
                                          go_roundg k3
                                          case measure => have := HJ4.out; have := HK2.out; have := HK3.out; omega
                                          case rel => exact ⟨(wrap64 (x66_3 + 1)), (by first | rfl | (simp; done) | (simp [*]; done)), H', ⟨by have := HJ4.out; have := HK2.out; have := HK3.out; omega⟩, ⟨by (with_reducible repeat (first | apply Kd.R_alloc | apply Kd.R_drewN | apply Kd.R_drew)); exact HO_12.out⟩, ⟨by repeat (first | (with_reducible first | exact HB.out | apply below_alloc | apply pw_below_drewN | apply below_drew1) | exact HB.out)⟩⟩
                                        · rw [if_neg c42] at H
                                          have c42b0 : (((rd_L2 l0 x66_3).length : Int) == (rd l1 x66_3)) = false := beq_eq_false_iff_ne.mpr c42
                                          have c42b1 : (((rd_L2 l0 x66_3).length : Int) != (rd l1 x66_3)) = true := bne_iff_ne.mpr c42
                                          simp only [Option.some.injEq, Prod.mk.injEq] at H
                                          obtain ⟨rfl, rfl⟩ := H
                                          have p154 : 0 ≤ (x66_3 : Int) := of_decide_eq_true (by first | (with_reducible assumption) | assumption)
                                          have q154 : x66_3 < (l1.length : Int) := of_decide_eq_true (by first | (with_reducible assumption) | assumption)
                                          obtain ⟨ad154, e154, hx154_0⟩ := Kd.at_int HR1.out x66_3 p154 q154
                                          cases e154
                                          replace hx154_0 := (HB.out.cell (World.block_lt_of_cell? w _ hx154_0)).trans hx154_0
                                          replace p154 := eq_true p154
                                          replace q154 := eq_true q154
                                          obtain ⟨Ao44, co44, eo44⟩ := Kd.R_slice HO_12.out
                                          subst eo44
                                          have p155 : 0 ≤ (x66_3 : Int) := of_decide_eq_true (by first | (with_reducible assumption) | assumption)
                                          have q155 : x66_3 < (x12_2.length : Int) := of_decide_eq_true (by first | (with_reducible assumption) | assumption)
                                          obtain ⟨ad155, e155, hx155_0⟩ := Kd.at_bool (Kd.R_reads' HO_12.out).2.2 x66_3 p155 q155
                                          (try rw [← Nbq38.out] at hx155_0)
                                          cases e155
                                          replace p155 := eq_true p155
                                          replace q155 := eq_true q155
                                          have p156 : 0 ≤ (x66_3 : Int) := of_decide_eq_true (by first | (with_reducible assumption) | assumption)
                                          have q156 : x66_3 < (l0.length : Int) := of_decide_eq_true (by first | (with_reducible assumption) | assumption)
                                          obtain ⟨ad156, A156_0, c156_0, e156, hx156_0, hl156_0, hi156_0⟩ := at_L2 HR0.out x66_3 p156 q156
                                          cases e156
                                          replace hx156_0 := (HB.out.cell (World.block_lt_of_cell? w _ hx156_0)).trans hx156_0
                                          have HR156_0 := Aside0.mk hi156_0
                                          have HC156_0 := Aside0.mk hl156_0
                                          clear hi156_0 hl156_0
                                          replace p156 := eq_true p156
                                          replace q156 := eq_true q156
                                          go_wp2
                                          go_ret2
                                          exact ⟨_, by first | rfl | (simp [errW_none, errW_some] <;> rfl) | (simp only [← hji9]; first | rfl | (simp [errW_none, errW_some] <;> rfl)) | (simp [*, errW_none, errW_some] <;> rfl), by first | exact Kd.R_nil _ _ _ _ _ | exact Kd.N_nil _ _ _ _ _ | exact Kd.V_nil _ _ _ _ _ | exact Kd.Q_nil _ _ _ _ _ | exact Kd.S_nil _ _ _ _ _, by repeat (first | (with_reducible first | exact HB.out | apply below_alloc | apply pw_below_drewN | apply below_drew1) | exact HB.out)⟩
                                      · rw [if_neg c41] at H
                                        exact absurd H (by simp)
                                  · rw [if_neg c37] at H
                                    exact absurd H (by simp)
                            · rw [if_neg c34] at H
                              exact absurd H (by simp)
                          · rw [if_neg c33] at H
                            exact absurd H (by simp)
                        · rw [if_neg c32] at H
                          have c32b0 : decide (x66_3 < (l1.length : Int)) = false := decide_eq_false c32
                          clear c32
                          have H' := Aside0.mk H
                          clear H
                          go_wp2
                          go_loopg [96] k3 (fun kq v96 w' => ∃ (x96_4 : Int), v96 = .int .i64 x96_4 ∧ Aside0 (parity_fits.l2 kq l1 (l0.length : Int) (l2.length : Int) x12_2 x13_2 l2 (l2.length : Int) x96_4 = some (r1, r2)) ∧ Aside0 (kq ≤ k3) ∧ Aside0 (Kd.R Kd.bool 4 w' w.heap.size (fun _ => True) v148 x12_2) ∧ Aside0 (Below w.heap.size w w'))
                          case atStart => exact ⟨(0), (by first | rfl | (simp; done) | (simp [*]; done)), H', ⟨Nat.le_refl _⟩, ⟨by (with_reducible repeat (first | apply Kd.R_alloc | apply Kd.R_drewN | apply Kd.R_drew)); exact HO_12.out⟩, ⟨by repeat (first | (with_reducible first | exact HB.out | apply below_alloc | apply pw_below_drewN | apply below_drew1) | exact HB.out)⟩⟩
                          case round =>
                            clear H'
                            try clear c1
                            try clear p1
                            try clear q1
                            try clear hx1
                            try clear c2
                            try clear p2
                            try clear q2
                            try clear hx2
                            try clear c3
                            try clear q3
                            try clear c4
                            try clear c6
                            try clear c6b0
                            try clear c6b1
                            try clear c6b2
                            try clear p6
                            try clear c7
                            try clear c8
                            try clear c8b0
                            try clear c8b1
                            try clear c8b2
                            try clear c10
                            try clear c10b0
                            try clear c10b1
                            try clear c11
                            try clear c11b0
                            try clear c11b1
                            try clear c14
                            try clear c14b0
                            try clear c15
                            try clear c15b0
                            try clear p15
                            try clear q15
                            try clear hx15
                            try clear c16
                            try clear c16b0
                            try clear c18
                            try clear c18b0
                            try clear c18b1
                            try clear c18b2
                            try clear c19
                            try clear c20
                            try clear c20b0
                            try clear c21
                            try clear c21b0
                            try clear q22
                            try clear c23
                            try clear p24
                            try clear q24
                            try clear hx24
                            try clear hf24
                            try clear p28
                            try clear q28
                            try clear hx28
                            try clear hf28
                            try clear c30
                            try clear c32
                            try clear c32b0
                            try clear c33
                            try clear c33b0
                            try clear c34
                            try clear c34b0
                            try clear c35
                            try clear c35b0
                            try clear c36
                            try clear c36b0
                            try clear c37
                            try clear c37b0
                            try clear q38
                            try clear c39
                            try clear c41
                            try clear c41b0
                            try clear c42
                            try clear c42b0
                            try clear c42b1
                            try clear hx150_0
                            try clear hx151_0
                            try clear hx154_0
                            try clear hx155_0
                            try clear hx156_0
                            try clear hx24_0
                            try clear hx28_0
                            try clear p1
                            try clear p15
                            try clear p150
                            try clear p151
                            try clear p154
                            try clear p155
                            try clear p156
                            try clear p2
                            try clear p24
                            try clear p28
                            try clear p6
                            try clear q1
                            try clear q15
                            try clear q150
                            try clear q151
                            try clear q154
                            try clear q155
                            try clear q156
                            try clear q2
                            try clear q22
                            try clear q24
                            try clear q28
                            obtain ⟨x96_4, rfl, HA, HK4, HO_12, HB⟩ := hrel
                            cases gk with
                            | zero => exact absurd HA.out (by simp [parity_fits.l2])
                            | succ k4 =>
                              have H := HA.out
                              clear HA
                              simp only [parity_fits.l2] at H
                              by_cases c45 : x96_4 < (l2.length : Int)
                              · rw [if_pos c45] at H
                                have c45b0 : decide (x96_4 < (l2.length : Int)) = true := decide_eq_true c45
                                clear c45
                                by_cases c46 : 0 ≤ x96_4
                                · rw [if_pos c46] at H
                                  have c46b0 : decide (0 ≤ x96_4) = true := decide_eq_true c46
                                  clear c46
                                  by_cases c47 : x96_4 < (l2.length : Int)
                                  · rw [if_pos c47] at H
                                    have c47b0 : decide (x96_4 < (l2.length : Int)) = true := decide_eq_true c47
                                    clear c47
                                    obtain ⟨ji48, hji48⟩ : ∃ j_ : Int, (wrap64 ((l0.length : Int) + x96_4)) = j_ := ⟨_, rfl⟩
                                    replace H : (if 0 ≤ (ji48) then (if (ji48) < (x12_2.length : Int) then (if (rdOf false x12_2 (ji48) = true) then (parity_fits.l2 k4 l1 (l0.length : Int) (l2.length : Int) x12_2 x13_2 l2 (l2.length : Int) (wrap64 (x96_4 + 1))) else ((parity_wide.f k4 l1).bind fun t159 => (if ((rd_L2 l2 x96_4).length : Int) = t159 then (parity_fits.l2 k4 l1 (l0.length : Int) (l2.length : Int) x12_2 x13_2 l2 (l2.length : Int) (wrap64 (x96_4 + 1))) else (some (([] : List Bool), 52))))) else (none)) else (none)) = some (r1, r2) := by first | (rw [hji48] at H; exact H) | (simp only [hji48] at H ⊢; exact H)
                                    have hji48w : (IntKind.i64.wrap ((l0.length : Int) + x96_4)) = ji48 := (i64_w _).trans hji48
                                    by_cases c49 : 0 ≤ (ji48)
                                    · rw [if_pos c49] at H
                                      have c49b0 : decide (0 ≤ (ji48)) = true := decide_eq_true c49
                                      clear c49
                                      by_cases c50 : (ji48) < (x12_2.length : Int)
                                      · rw [if_pos c50] at H
                                        have c50b0 : decide ((ji48) < (x12_2.length : Int)) = true := decide_eq_true c50
                                        clear c50
                                        obtain ⟨bq51, hbq51⟩ : ∃ b_ : Bool, b_ = (rdOf false x12_2 (ji48)) := ⟨_, rfl⟩
                                        replace H : (if (bq51 = true) then (parity_fits.l2 k4 l1 (l0.length : Int) (l2.length : Int) x12_2 x13_2 l2 (l2.length : Int) (wrap64 (x96_4 + 1))) else ((parity_wide.f k4 l1).bind fun t159 => (if ((rd_L2 l2 x96_4).length : Int) = t159 then (parity_fits.l2 k4 l1 (l0.length : Int) (l2.length : Int) x12_2 x13_2 l2 (l2.length : Int) (wrap64 (x96_4 + 1))) else (some (([] : List Bool), 52))))) = some (r1, r2) := by rw [← hbq51] at H; exact H
                                        have Nbq51 := Aside0.mk hbq51
                                        clear hbq51
                                        by_cases c52 : (bq51 = true)
                                        · subst c52
                                          have H1 : (parity_fits.l2 k4 l1 (l0.length : Int) (l2.length : Int) x12_2 x13_2 l2 (l2.length : Int) (wrap64 (x96_4 + 1))) = some (r1, r2) := by rw [if_pos rfl] at H; exact H
                                          clear H
                                          have H := H1
                                          clear H1
                                          have H' := Aside0.mk H
                                          clear H
                                          have p157 : 0 ≤ (x96_4 : Int) := of_decide_eq_true (by first | (with_reducible assumption) | assumption)
                                          have q157 : x96_4 < (l2.length : Int) := of_decide_eq_true (by first | (with_reducible assumption) | assumption)
                                          obtain ⟨ad157, A157_0, c157_0, e157, hx157_0, hl157_0, hi157_0⟩ := at_L2 HR2.out x96_4 p157 q157
                                          cases e157
                                          replace hx157_0 := (HB.out.cell (World.block_lt_of_cell? w _ hx157_0)).trans hx157_0
                                          have HR157_0 := Aside0.mk hi157_0
                                          have HC157_0 := Aside0.mk hl157_0
                                          clear hi157_0 hl157_0
                                          replace p157 := eq_true p157
                                          replace q157 := eq_true q157
                                          obtain ⟨Ao53, co53, eo53⟩ := Kd.R_slice HO_12.out
                                          subst eo53
                                          have p158 : 0 ≤ ((ji48) : Int) := of_decide_eq_true (by first | (with_reducible assumption) | assumption)
                                          have q158 : (ji48) < (x12_2.length : Int) := of_decide_eq_true (by first | (with_reducible assumption) | assumption)
                                          obtain ⟨ad158, e158, hx158_0⟩ := Kd.at_bool (Kd.R_reads' HO_12.out).2.2 (ji48) p158 q158
                                          (try rw [← Nbq51.out] at hx158_0)
                                          cases e158
                                          replace p158 := eq_true p158
                                          replace q158 := eq_true q158
                                          go_wp2
                                          go_roundg k4
                                          case measure => have := HJ4.out; have := HK2.out; have := HK3.out; have := HK4.out; omega
                                          case rel => exact ⟨(wrap64 (x96_4 + 1)), (by first | rfl | (simp; done) | (simp [*]; done)), H', ⟨by have := HJ4.out; have := HK2.out; have := HK3.out; have := HK4.out; omega⟩, ⟨by (with_reducible repeat (first | apply Kd.R_alloc | apply Kd.R_drewN | apply Kd.R_drew)); exact HO_12.out⟩, ⟨by repeat (first | (with_reducible first | exact HB.out | apply below_alloc | apply pw_below_drewN | apply below_drew1) | exact HB.out)⟩⟩
                                        · replace c52 := Bool.eq_false_iff.mpr c52
                                          subst c52
                                          have H1 : ((parity_wide.f k4 l1).bind fun t159 => (if ((rd_L2 l2 x96_4).length : Int) = t159 then (parity_fits.l2 k4 l1 (l0.length : Int) (l2.length : Int) x12_2 x13_2 l2 (l2.length : Int) (wrap64 (x96_4 + 1))) else (some (([] : List Bool), 52)))) = some (r1, r2) := by rw [if_neg (show ¬ (false = true) by decide)] at H; exact H
                                          clear H
                                          have H := H1
                                          clear H1
                                          replace H := Option.bind_eq_some_iff.mp H
                                          obtain ⟨t159, A540, H⟩ := H
                                          replace H : (if ((rd_L2 l2 x96_4).length : Int) = t159 then (parity_fits.l2 k4 l1 (l0.length : Int) (l2.length : Int) x12_2 x13_2 l2 (l2.length : Int) (wrap64 (x96_4 + 1))) else (some (([] : List Bool), 52))) = some (r1, r2) := H
                                          have A54 := Aside0.mk A540
                                          clear A540
                                          by_cases c55 : ((rd_L2 l2 x96_4).length : Int) = t159
                                          · rw [if_pos c55] at H
                                            have c55b0 : (((rd_L2 l2 x96_4).length : Int) == t159) = true := beq_iff_eq.mpr c55
                                            have c55b1 : (((rd_L2 l2 x96_4).length : Int) != t159) = false := bne_eq_false_iff_eq.mpr c55
                                            clear c55
                                            have H' := Aside0.mk H
                                            clear H
                                            have p157 : 0 ≤ (x96_4 : Int) := of_decide_eq_true (by first | (with_reducible assumption) | assumption)
                                            have q157 : x96_4 < (l2.length : Int) := of_decide_eq_true (by first | (with_reducible assumption) | assumption)
                                            obtain ⟨ad157, A157_0, c157_0, e157, hx157_0, hl157_0, hi157_0⟩ := at_L2 HR2.out x96_4 p157 q157
                                            cases e157
                                            replace hx157_0 := (HB.out.cell (World.block_lt_of_cell? w _ hx157_0)).trans hx157_0
                                            have HR157_0 := Aside0.mk hi157_0
                                            have HC157_0 := Aside0.mk hl157_0
                                            clear hi157_0 hl157_0
                                            replace p157 := eq_true p157
                                            replace q157 := eq_true q157
                                            obtain ⟨Ao56, co56, eo56⟩ := Kd.R_slice HO_12.out
                                            subst eo56
                                            have p158 : 0 ≤ ((ji48) : Int) := of_decide_eq_true (by first | (with_reducible assumption) | assumption)
                                            have q158 : (ji48) < (x12_2.length : Int) := of_decide_eq_true (by first | (with_reducible assumption) | assumption)
                                            obtain ⟨ad158, e158, hx158_0⟩ := Kd.at_bool (Kd.R_reads' HO_12.out).2.2 (ji48) p158 q158
                                            (try rw [← Nbq51.out] at hx158_0)
                                            cases e158
                                            replace p158 := eq_true p158
                                            replace q158 := eq_true q158
                                            go_wp2_with (first | (go_at_call 31; (with_reducible refine (parity_wide.calls k4 _ _ l1 t159 _ ?side1 ?side2 A54.out).mono ?_); (case side1 => repeat (first | exact (Kd.C_below HR1.out HB.out) | (with_reducible refine Kd.C_alloc ?_ _) | (with_reducible refine Kd.C_drewN ?_ _) | (with_reducible refine Kd.C_drew ?_))); (case side2 => exact HC1.out); rintro e w57 ⟨rfl, hb⟩; have n0_ := Aside0.mk (Kd.R_below (by (with_reducible repeat (first | apply Kd.R_alloc | apply Kd.R_drewN | apply Kd.R_drew)); exact HO_12.out) hb); have n1_ := Aside0.mk (below_step (by repeat (first | (with_reducible first | exact HB.out | apply below_alloc | apply pw_below_drewN | apply below_drew1) | exact HB.out)) hb); clear HO_12; clear HB; have HO_12 := n0_; have HB := n1_; clear n0_ n1_; (try clear hb); (try clear hb2); (try clear hk); (try clear hi)))
                                            go_roundg k4
                                            case measure => have := HJ4.out; have := HK2.out; have := HK3.out; have := HK4.out; omega
                                            case rel => exact ⟨(wrap64 (x96_4 + 1)), (by first | rfl | (simp; done) | (simp [*]; done)), H', ⟨by have := HJ4.out; have := HK2.out; have := HK3.out; have := HK4.out; omega⟩, ⟨by (with_reducible repeat (first | apply Kd.R_alloc | apply Kd.R_drewN | apply Kd.R_drew)); exact HO_12.out⟩, ⟨by repeat (first | (with_reducible first | exact HB.out | apply below_alloc | apply pw_below_drewN | apply below_drew1) | exact HB.out)⟩⟩
                                          · rw [if_neg c55] at H
                                            have c55b0 : (((rd_L2 l2 x96_4).length : Int) == t159) = false := beq_eq_false_iff_ne.mpr c55
                                            have c55b1 : (((rd_L2 l2 x96_4).length : Int) != t159) = true := bne_iff_ne.mpr c55
                                            simp only [Option.some.injEq, Prod.mk.injEq] at H
                                            obtain ⟨rfl, rfl⟩ := H
                                            have p157 : 0 ≤ (x96_4 : Int) := of_decide_eq_true (by first | (with_reducible assumption) | assumption)
                                            have q157 : x96_4 < (l2.length : Int) := of_decide_eq_true (by first | (with_reducible assumption) | assumption)
                                            obtain ⟨ad157, A157_0, c157_0, e157, hx157_0, hl157_0, hi157_0⟩ := at_L2 HR2.out x96_4 p157 q157
                                            cases e157
                                            replace hx157_0 := (HB.out.cell (World.block_lt_of_cell? w _ hx157_0)).trans hx157_0
                                            have HR157_0 := Aside0.mk hi157_0
                                            have HC157_0 := Aside0.mk hl157_0
                                            clear hi157_0 hl157_0
                                            replace p157 := eq_true p157
                                            replace q157 := eq_true q157
                                            obtain ⟨Ao58, co58, eo58⟩ := Kd.R_slice HO_12.out
                                            subst eo58
                                            have p158 : 0 ≤ ((ji48) : Int) := of_decide_eq_true (by first | (with_reducible assumption) | assumption)
                                            have q158 : (ji48) < (x12_2.length : Int) := of_decide_eq_true (by first | (with_reducible assumption) | assumption)
                                            obtain ⟨ad158, e158, hx158_0⟩ := Kd.at_bool (Kd.R_reads' HO_12.out).2.2 (ji48) p158 q158
                                            (try rw [← Nbq51.out] at hx158_0)
                                            cases e158
                                            replace p158 := eq_true p158
                                            replace q158 := eq_true q158
                                            go_wp2_with (first | (go_at_call 31; (with_reducible refine (parity_wide.calls k4 _ _ l1 t159 _ ?side1 ?side2 A54.out).mono ?_); (case side1 => repeat (first | exact (Kd.C_below HR1.out HB.out) | (with_reducible refine Kd.C_alloc ?_ _) | (with_reducible refine Kd.C_drewN ?_ _) | (with_reducible refine Kd.C_drew ?_))); (case side2 => exact HC1.out); rintro e w59 ⟨rfl, hb⟩; have n0_ := Aside0.mk (Kd.R_below (by (with_reducible repeat (first | apply Kd.R_alloc | apply Kd.R_drewN | apply Kd.R_drew)); exact HO_12.out) hb); have n1_ := Aside0.mk (below_step (by repeat (first | (with_reducible first | exact HB.out | apply below_alloc | apply pw_below_drewN | apply below_drew1) | exact HB.out)) hb); clear HO_12; clear HB; have HO_12 := n0_; have HB := n1_; clear n0_ n1_; (try clear hb); (try clear hb2); (try clear hk); (try clear hi)))
                                            go_ret2
                                            exact ⟨_, by first | rfl | (simp [errW_none, errW_some] <;> rfl) | (simp only [← hji9, ← hji48]; first | rfl | (simp [errW_none, errW_some] <;> rfl)) | (simp [*, errW_none, errW_some] <;> rfl), by first | exact Kd.R_nil _ _ _ _ _ | exact Kd.N_nil _ _ _ _ _ | exact Kd.V_nil _ _ _ _ _ | exact Kd.Q_nil _ _ _ _ _ | exact Kd.S_nil _ _ _ _ _, by repeat (first | (with_reducible first | exact HB.out | apply below_alloc | apply pw_below_drewN | apply below_drew1) | exact HB.out)⟩
                                      · rw [if_neg c50] at H
                                        exact absurd H (by simp)
                                    · rw [if_neg c49] at H
                                      exact absurd H (by simp)
                                  · rw [if_neg c47] at H
                                    exact absurd H (by simp)
                                · rw [if_neg c46] at H
                                  exact absurd H (by simp)
                              · rw [if_neg c45] at H
                                have c45b0 : decide (x96_4 < (l2.length : Int)) = false := decide_eq_false c45
                                clear c45
                                by_cases c60 : x13_2 > (l2.length : Int)
                                · rw [if_pos c60] at H
                                  have c60b0 : decide ((l2.length : Int) < x13_2) = true := decide_eq_true c60
                                  clear c60
                                  simp only [Option.some.injEq, Prod.mk.injEq] at H
                                  obtain ⟨rfl, rfl⟩ := H
                                  go_wp2
                                  go_ret2
                                  exact ⟨_, by first | rfl | (simp [errW_none, errW_some] <;> rfl) | (simp only [← hji9]; first | rfl | (simp [errW_none, errW_some] <;> rfl)) | (simp [*, errW_none, errW_some] <;> rfl), by first | exact Kd.R_nil _ _ _ _ _ | exact Kd.N_nil _ _ _ _ _ | exact Kd.V_nil _ _ _ _ _ | exact Kd.Q_nil _ _ _ _ _ | exact Kd.S_nil _ _ _ _ _, by repeat (first | (with_reducible first | exact HB.out | apply below_alloc | apply pw_below_drewN | apply below_drew1) | exact HB.out)⟩
                                · rw [if_neg c60] at H
                                  have c60b0 : decide ((l2.length : Int) < x13_2) = false := decide_eq_false c60
                                  clear c60
                                  simp only [Option.some.injEq, Prod.mk.injEq] at H
                                  obtain ⟨rfl, rfl⟩ := H
                                  go_wp2
                                  go_ret2
                                  exact ⟨_, by first | rfl | (simp [errW_none, errW_some] <;> rfl) | (simp only [← hji9]; first | rfl | (simp [errW_none, errW_some] <;> rfl)) | (simp [*, errW_none, errW_some] <;> rfl), by (with_reducible repeat (first | apply Kd.R_alloc | apply Kd.R_drewN | apply Kd.R_drew)); exact HO_12.out, by repeat (first | (with_reducible first | exact HB.out | apply below_alloc | apply pw_below_drewN | apply below_drew1) | exact HB.out)⟩
            · rw [if_neg c11] at H
              exact absurd H (by simp)
          · rw [if_neg c10] at H
            exact absurd H (by simp)
        · rw [if_neg c8] at H
          have c8b0 : ((l1.length : Int) == (l0.length : Int)) = false := beq_eq_false_iff_ne.mpr c8
          have c8b1 : ((l1.length : Int) != (l0.length : Int)) = true := bne_iff_ne.mpr c8
          have c8b2 : (l1.length == l0.length) = false := by first | simpa using c8 | (simp at c8 ⊢; omega)
          simp only [Option.some.injEq, Prod.mk.injEq] at H
          obtain ⟨rfl, rfl⟩ := H
          go_wp2
          go_ret2
          exact ⟨_, by first | rfl | (simp [errW_none, errW_some] <;> rfl) | (simp [*, errW_none, errW_some] <;> rfl), by first | exact Kd.R_nil _ _ _ _ _ | exact Kd.N_nil _ _ _ _ _ | exact Kd.V_nil _ _ _ _ _ | exact Kd.Q_nil _ _ _ _ _ | exact Kd.S_nil _ _ _ _ _, by repeat (first | (with_reducible first | exact HB.out | apply below_alloc | apply pw_below_drewN | apply below_drew1) | exact HB.out)⟩

end Go.Proofs.Ytdhajlkiiphlfaa.QBaseParityWide
