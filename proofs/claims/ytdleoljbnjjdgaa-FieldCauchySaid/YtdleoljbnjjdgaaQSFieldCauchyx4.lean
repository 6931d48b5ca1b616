-- Printed by a program of this session (wrap.py) over the kit's print.py, with hand-proved contracts among its functions.
import Derived.Test.YtdleoljbnjjdgaaQSFieldCauchyx0
import Derived.Test.YtdleoljbnjjdgaaQSFieldCauchyx1
import Derived.Test.YtdleoljbnjjdgaaQSFieldCauchyx2
import Derived.Test.YtdleoljbnjjdgaaQSFieldCauchyx3
namespace Go.Proofs.Ytdleoljbnjjdgaa.QSFieldCauchy
open Go.RowKit Go.Proofs.YtdleoljbnjjdgaaW.PrintWords Go.Proofs.YtdleoljbnjjdgaaW.PrintLast Go.Proofs.YtdleoljbnjjdgaaW.PrintMore
attribute [local go_sem] max2_int min2_int max_two min_two max_three min_three max_four min_four   -- for this text's walks alone
set_option linter.unusedVariables false
set_option linter.unusedSimpArgs false

/-! ### dailieslaw04_FieldCauchy: function 10 -/
mutual
def dailieslaw04_FieldCauchy.j0 : Nat → List Int → List Int → List Int → Bool → Int → Int → Int → Option (Bool)
  | 0, _, _, _, _, _, _, _ => none
  | k + 1, x0, x1, x2, x7, x8, x9, x10 => if (x0.length : Int) > 1 then (if 1 < (x0.length : Int) then ((dailieslaw04_pick.f (rd x0 1) (wrap64 (256 - x8))).bind fun t149 => (dailieslaw04_FieldCauchy.j1 k x0 x1 x2 x7 x8 (wrap64 (1 + t149)) x10)) else (none)) else (dailieslaw04_FieldCauchy.j1 k x0 x1 x2 x7 x8 x9 x10)
def dailieslaw04_FieldCauchy.j1 : Nat → List Int → List Int → List Int → Bool → Int → Int → Int → Option (Bool)
  | 0, _, _, _, _, _, _, _ => none
  | k + 1, x0, x1, x2, x7, x8, x9, x10 => if (x0.length : Int) > 2 then (if 2 < (x0.length : Int) then ((dailieslaw04_pick.f (rd x0 2) (mn x8 x9)).bind fun t151 => (dailieslaw04_FieldCauchy.j2 k x1 x2 x7 x8 x9 (wrap64 (1 + t151)))) else (none)) else (dailieslaw04_FieldCauchy.j2 k x1 x2 x7 x8 x9 (mn (mn x10 x8) x9))
def dailieslaw04_FieldCauchy.j2 : Nat → List Int → List Int → Bool → Int → Int → Int → Option (Bool)
  | 0, _, _, _, _, _, _ => none
  | k + 1, x1, x2, x7, x8, x9, x10 => (field_Cauchy.f k x8 x9).bind fun bt152 => (if x7 = true then (if bt152.2 = 0 then (dailieslaw04_FieldCauchy.j3 k x1 x2 x8 x9 x10 bt152.1 ((bt152.1.length : Int) != x8)) else (dailieslaw04_FieldCauchy.j3 k x1 x2 x8 x9 x10 bt152.1 true)) else (dailieslaw04_FieldCauchy.j3 k x1 x2 x8 x9 x10 bt152.1 true))
def dailieslaw04_FieldCauchy.j3 : Nat → List Int → List Int → Int → Int → Int → List (List Int) → Bool → Option (Bool)
  | 0, _, _, _, _, _, _, _ => none
  | k + 1, x1, x2, x8, x9, x10, x11, x80 => if x80 = true then (some false) else ((dailieslaw04_chosen.f k x1 x8 x10).bind fun t156 => ((dailieslaw04_chosen.f k x2 x9 x10).bind fun t159 => (dailieslaw04_FieldCauchy.l0 k x10 x11 t156 t159 ([] : List (List Int)) ([] : List (List Int)) 0)))
def dailieslaw04_FieldCauchy.l0 : Nat → Int → List (List Int) → List Int → List Int → List (List Int) → List (List Int) → Int → Option (Bool)
  | 0, _, _, _, _, _, _, _ => none
  | k + 1, x10, x11, x13, x14, x15, x16, x17 => if x17 < x10 then (if 0 ≤ x10 then (if (x10 : Int).toNat ≤ 281474976710656 then (dailieslaw04_FieldCauchy.l1 k x10 x11 x13 x14 x15 x16 x17 (List.replicate (x10 : Int).toNat 0) 0) else (none)) else (none)) else ((field_Solve.f x15 x16).bind fun bt162 => ((field_Times.f k x15 bt162.1).bind fun bt166 => ((dailieslaw04_same.f bt166.1 x16).bind fun t170 => (if bt162.2 = 0 then (if bt166.2 = 0 then (some t170) else (some false)) else (some false)))))
def dailieslaw04_FieldCauchy.l1 : Nat → Int → List (List Int) → List Int → List Int → List (List Int) → List (List Int) → Int → List Int → Int → Option (Bool)
  | 0, _, _, _, _, _, _, _, _, _ => none
  | k + 1, x10, x11, x13, x14, x15, x16, x17, x18, x19 => if x19 < x10 then (if 0 ≤ x19 then (if x19 < (x14.length : Int) then (if 0 ≤ x17 then (if x17 < (x13.length : Int) then (if 0 ≤ (rd x13 x17) then (if (rd x13 x17) < (x11.length : Int) then (if (rd x14 x19) ≥ ((rd_L1 x11 (rd x13 x17)).length : Int) then (some false) else (if 0 ≤ (rd x14 x19) then (if (rd x14 x19) < ((rd_L1 x11 (rd x13 x17)).length : Int) then (if x19 < (x18.length : Int) then (dailieslaw04_FieldCauchy.l1 k x10 x11 x13 x14 x15 x16 x17 (x18.set (x19 : Int).toNat (rd (rd_L1 x11 (rd x13 x17)) (rd x14 x19))) (wrap64 (x19 + 1))) else (none)) else (none)) else (none))) else (none)) else (none)) else (none)) else (none)) else (none)) else (none)) else (if x15.length < 5864062014805 then (if x16.length < 5864062014805 then (dailieslaw04_FieldCauchy.l0 k x10 x11 x13 x14 (x15 ++ [x18]) (x16 ++ [(([(x17) % 256, (wrap64 (3 * x17)) % 256] : List Int))]) (wrap64 (x17 + 1))) else (none)) else (none))
end
def dailieslaw04_FieldCauchy.f (k : Nat) (l0 : List Int) (l1 : List Int) (l2 : List Int) : Option (Bool) := (dailieslaw04_alive.f k).bind fun t145 => (if (l0.length : Int) > 0 then (if 0 < (l0.length : Int) then ((dailieslaw04_pick.f (rd l0 0) 255).bind fun t147 => (dailieslaw04_FieldCauchy.j0 k l0 l1 l2 t145 (wrap64 (1 + t147)) (mn 4 (wrap64 (256 - (wrap64 (1 + t147))))) 2)) else (none)) else (dailieslaw04_FieldCauchy.j0 k l0 l1 l2 t145 3 4 2))
theorem dailieslaw04_FieldCauchy.mono_l : ∀ k, (∀ y0 y1 y2 y3 y4 y5 y6, LeO (dailieslaw04_FieldCauchy.j0 k y0 y1 y2 y3 y4 y5 y6) (dailieslaw04_FieldCauchy.j0 (k + 1) y0 y1 y2 y3 y4 y5 y6)) ∧ (∀ y0 y1 y2 y3 y4 y5 y6, LeO (dailieslaw04_FieldCauchy.j1 k y0 y1 y2 y3 y4 y5 y6) (dailieslaw04_FieldCauchy.j1 (k + 1) y0 y1 y2 y3 y4 y5 y6)) ∧ (∀ y0 y1 y2 y3 y4 y5, LeO (dailieslaw04_FieldCauchy.j2 k y0 y1 y2 y3 y4 y5) (dailieslaw04_FieldCauchy.j2 (k + 1) y0 y1 y2 y3 y4 y5)) ∧ (∀ y0 y1 y2 y3 y4 y5 y6, LeO (dailieslaw04_FieldCauchy.j3 k y0 y1 y2 y3 y4 y5 y6) (dailieslaw04_FieldCauchy.j3 (k + 1) y0 y1 y2 y3 y4 y5 y6)) ∧ (∀ y0 y1 y2 y3 y4 y5 y6, LeO (dailieslaw04_FieldCauchy.l0 k y0 y1 y2 y3 y4 y5 y6) (dailieslaw04_FieldCauchy.l0 (k + 1) y0 y1 y2 y3 y4 y5 y6)) ∧ (∀ y0 y1 y2 y3 y4 y5 y6 y7 y8, LeO (dailieslaw04_FieldCauchy.l1 k y0 y1 y2 y3 y4 y5 y6 y7 y8) (dailieslaw04_FieldCauchy.l1 (k + 1) y0 y1 y2 y3 y4 y5 y6 y7 y8))
  | 0 => ⟨fun _ _ _ _ _ _ _ r h => by simp [dailieslaw04_FieldCauchy.j0] at h, fun _ _ _ _ _ _ _ r h => by simp [dailieslaw04_FieldCauchy.j1] at h, fun _ _ _ _ _ _ r h => by simp [dailieslaw04_FieldCauchy.j2] at h, fun _ _ _ _ _ _ _ r h => by simp [dailieslaw04_FieldCauchy.j3] at h, fun _ _ _ _ _ _ _ r h => by simp [dailieslaw04_FieldCauchy.l0] at h, fun _ _ _ _ _ _ _ _ _ r h => by simp [dailieslaw04_FieldCauchy.l1] at h⟩
  | k + 1 => by
    obtain ⟨ih0, ih1, ih2, ih3, ih4, ih5⟩ := dailieslaw04_FieldCauchy.mono_l k
    refine ⟨?_, ?_, ?_, ?_, ?_, ?_⟩
    · intro y0 y1 y2 y3 y4 y5 y6
      unfold dailieslaw04_FieldCauchy.j0
      repeat' first
      | (with_reducible exact ih0 _ _ _ _ _ _ _)
      | (with_reducible exact ih1 _ _ _ _ _ _ _)
      | (with_reducible exact ih2 _ _ _ _ _ _)
      | (with_reducible exact ih3 _ _ _ _ _ _ _)
      | (with_reducible exact ih4 _ _ _ _ _ _ _)
      | (with_reducible exact ih5 _ _ _ _ _ _ _ _ _)
      | (with_reducible exact dailieslaw04_alive.mono _)
      | (with_reducible exact dailieslaw04_chosen.mono _ _ _ _)
      | (with_reducible exact field_Cauchy.mono _ _ _)
      | (with_reducible exact field_Times.mono _ _ _)
      | (with_reducible exact LeO.refl _)
      | (with_reducible exact LeO.none _)
      | (with_reducible refine LeO.ite ?_ ?_)
      | (with_reducible refine LeO.bind ?_ (fun _ => ?_))
      | exact ih0 _ _ _ _ _ _ _
      | exact ih1 _ _ _ _ _ _ _
      | exact ih2 _ _ _ _ _ _
      | exact ih3 _ _ _ _ _ _ _
      | exact ih4 _ _ _ _ _ _ _
      | exact ih5 _ _ _ _ _ _ _ _ _
      | exact dailieslaw04_alive.mono _
      | exact dailieslaw04_chosen.mono _ _ _ _
      | exact field_Cauchy.mono _ _ _
      | exact field_Times.mono _ _ _
      | exact LeO.none _
      | refine LeO.ite ?_ ?_
      | refine LeO.bind ?_ (fun _ => ?_)
    · intro y0 y1 y2 y3 y4 y5 y6
      unfold dailieslaw04_FieldCauchy.j1
      repeat' first
      | (with_reducible exact ih0 _ _ _ _ _ _ _)
      | (with_reducible exact ih1 _ _ _ _ _ _ _)
      | (with_reducible exact ih2 _ _ _ _ _ _)
      | (with_reducible exact ih3 _ _ _ _ _ _ _)
      | (with_reducible exact ih4 _ _ _ _ _ _ _)
      | (with_reducible exact ih5 _ _ _ _ _ _ _ _ _)
      | (with_reducible exact dailieslaw04_alive.mono _)
      | (with_reducible exact dailieslaw04_chosen.mono _ _ _ _)
      | (with_reducible exact field_Cauchy.mono _ _ _)
      | (with_reducible exact field_Times.mono _ _ _)
      | (with_reducible exact LeO.refl _)
      | (with_reducible exact LeO.none _)
      | (with_reducible refine LeO.ite ?_ ?_)
      | (with_reducible refine LeO.bind ?_ (fun _ => ?_))
      | exact ih0 _ _ _ _ _ _ _
      | exact ih1 _ _ _ _ _ _ _
      | exact ih2 _ _ _ _ _ _
      | exact ih3 _ _ _ _ _ _ _
      | exact ih4 _ _ _ _ _ _ _
      | exact ih5 _ _ _ _ _ _ _ _ _
      | exact dailieslaw04_alive.mono _
      | exact dailieslaw04_chosen.mono _ _ _ _
      | exact field_Cauchy.mono _ _ _
      | exact field_Times.mono _ _ _
      | exact LeO.none _
      | refine LeO.ite ?_ ?_
      | refine LeO.bind ?_ (fun _ => ?_)
    · intro y0 y1 y2 y3 y4 y5
      unfold dailieslaw04_FieldCauchy.j2
      repeat' first
      | (with_reducible exact ih0 _ _ _ _ _ _ _)
      | (with_reducible exact ih1 _ _ _ _ _ _ _)
      | (with_reducible exact ih2 _ _ _ _ _ _)
      | (with_reducible exact ih3 _ _ _ _ _ _ _)
      | (with_reducible exact ih4 _ _ _ _ _ _ _)
      | (with_reducible exact ih5 _ _ _ _ _ _ _ _ _)
      | (with_reducible exact dailieslaw04_alive.mono _)
      | (with_reducible exact dailieslaw04_chosen.mono _ _ _ _)
      | (with_reducible exact field_Cauchy.mono _ _ _)
      | (with_reducible exact field_Times.mono _ _ _)
      | (with_reducible exact LeO.refl _)
      | (with_reducible exact LeO.none _)
      | (with_reducible refine LeO.ite ?_ ?_)
      | (with_reducible refine LeO.bind ?_ (fun _ => ?_))
      | exact ih0 _ _ _ _ _ _ _
      | exact ih1 _ _ _ _ _ _ _
      | exact ih2 _ _ _ _ _ _
      | exact ih3 _ _ _ _ _ _ _
      | exact ih4 _ _ _ _ _ _ _
      | exact ih5 _ _ _ _ _ _ _ _ _
      | exact dailieslaw04_alive.mono _
      | exact dailieslaw04_chosen.mono _ _ _ _
      | exact field_Cauchy.mono _ _ _
      | exact field_Times.mono _ _ _
      | exact LeO.none _
      | refine LeO.ite ?_ ?_
      | refine LeO.bind ?_ (fun _ => ?_)
    · intro y0 y1 y2 y3 y4 y5 y6
      unfold dailieslaw04_FieldCauchy.j3
      repeat' first
      | (with_reducible exact ih0 _ _ _ _ _ _ _)
      | (with_reducible exact ih1 _ _ _ _ _ _ _)
      | (with_reducible exact ih2 _ _ _ _ _ _)
      | (with_reducible exact ih3 _ _ _ _ _ _ _)
      | (with_reducible exact ih4 _ _ _ _ _ _ _)
      | (with_reducible exact ih5 _ _ _ _ _ _ _ _ _)
      | (with_reducible exact dailieslaw04_alive.mono _)
      | (with_reducible exact dailieslaw04_chosen.mono _ _ _ _)
      | (with_reducible exact field_Cauchy.mono _ _ _)
      | (with_reducible exact field_Times.mono _ _ _)
      | (with_reducible exact LeO.refl _)
      | (with_reducible exact LeO.none _)
      | (with_reducible refine LeO.ite ?_ ?_)
      | (with_reducible refine LeO.bind ?_ (fun _ => ?_))
      | exact ih0 _ _ _ _ _ _ _
      | exact ih1 _ _ _ _ _ _ _
      | exact ih2 _ _ _ _ _ _
      | exact ih3 _ _ _ _ _ _ _
      | exact ih4 _ _ _ _ _ _ _
      | exact ih5 _ _ _ _ _ _ _ _ _
      | exact dailieslaw04_alive.mono _
      | exact dailieslaw04_chosen.mono _ _ _ _
      | exact field_Cauchy.mono _ _ _
      | exact field_Times.mono _ _ _
      | exact LeO.none _
      | refine LeO.ite ?_ ?_
      | refine LeO.bind ?_ (fun _ => ?_)
    · intro y0 y1 y2 y3 y4 y5 y6
      unfold dailieslaw04_FieldCauchy.l0
      repeat' first
      | (with_reducible exact ih0 _ _ _ _ _ _ _)
      | (with_reducible exact ih1 _ _ _ _ _ _ _)
      | (with_reducible exact ih2 _ _ _ _ _ _)
      | (with_reducible exact ih3 _ _ _ _ _ _ _)
      | (with_reducible exact ih4 _ _ _ _ _ _ _)
      | (with_reducible exact ih5 _ _ _ _ _ _ _ _ _)
      | (with_reducible exact dailieslaw04_alive.mono _)
      | (with_reducible exact dailieslaw04_chosen.mono _ _ _ _)
      | (with_reducible exact field_Cauchy.mono _ _ _)
      | (with_reducible exact field_Times.mono _ _ _)
      | (with_reducible exact LeO.refl _)
      | (with_reducible exact LeO.none _)
      | (with_reducible refine LeO.ite ?_ ?_)
      | (with_reducible refine LeO.bind ?_ (fun _ => ?_))
      | exact ih0 _ _ _ _ _ _ _
      | exact ih1 _ _ _ _ _ _ _
      | exact ih2 _ _ _ _ _ _
      | exact ih3 _ _ _ _ _ _ _
      | exact ih4 _ _ _ _ _ _ _
      | exact ih5 _ _ _ _ _ _ _ _ _
      | exact dailieslaw04_alive.mono _
      | exact dailieslaw04_chosen.mono _ _ _ _
      | exact field_Cauchy.mono _ _ _
      | exact field_Times.mono _ _ _
      | exact LeO.none _
      | refine LeO.ite ?_ ?_
      | refine LeO.bind ?_ (fun _ => ?_)
    · intro y0 y1 y2 y3 y4 y5 y6 y7 y8
      unfold dailieslaw04_FieldCauchy.l1
      repeat' first
      | (with_reducible exact ih0 _ _ _ _ _ _ _)
      | (with_reducible exact ih1 _ _ _ _ _ _ _)
      | (with_reducible exact ih2 _ _ _ _ _ _)
      | (with_reducible exact ih3 _ _ _ _ _ _ _)
      | (with_reducible exact ih4 _ _ _ _ _ _ _)
      | (with_reducible exact ih5 _ _ _ _ _ _ _ _ _)
      | (with_reducible exact dailieslaw04_alive.mono _)
      | (with_reducible exact dailieslaw04_chosen.mono _ _ _ _)
      | (with_reducible exact field_Cauchy.mono _ _ _)
      | (with_reducible exact field_Times.mono _ _ _)
      | (with_reducible exact LeO.refl _)
      | (with_reducible exact LeO.none _)
      | (with_reducible refine LeO.ite ?_ ?_)
      | (with_reducible refine LeO.bind ?_ (fun _ => ?_))
      | exact ih0 _ _ _ _ _ _ _
      | exact ih1 _ _ _ _ _ _ _
      | exact ih2 _ _ _ _ _ _
      | exact ih3 _ _ _ _ _ _ _
      | exact ih4 _ _ _ _ _ _ _
      | exact ih5 _ _ _ _ _ _ _ _ _
      | exact dailieslaw04_alive.mono _
      | exact dailieslaw04_chosen.mono _ _ _ _
      | exact field_Cauchy.mono _ _ _
      | exact field_Times.mono _ _ _
      | exact LeO.none _
      | refine LeO.ite ?_ ?_
      | refine LeO.bind ?_ (fun _ => ?_)
theorem dailieslaw04_FieldCauchy.mono : ∀ a0 a1 a2 k, LeO (dailieslaw04_FieldCauchy.f k a0 a1 a2) (dailieslaw04_FieldCauchy.f (k + 1) a0 a1 a2) := by
  intro a0 a1 a2 k
  obtain ⟨ih0, ih1, ih2, ih3, ih4, ih5⟩ := dailieslaw04_FieldCauchy.mono_l k
  unfold dailieslaw04_FieldCauchy.f
  repeat' first
      | (with_reducible exact ih0 _ _ _ _ _ _ _)
      | (with_reducible exact ih1 _ _ _ _ _ _ _)
      | (with_reducible exact ih2 _ _ _ _ _ _)
      | (with_reducible exact ih3 _ _ _ _ _ _ _)
      | (with_reducible exact ih4 _ _ _ _ _ _ _)
      | (with_reducible exact ih5 _ _ _ _ _ _ _ _ _)
      | (with_reducible exact dailieslaw04_alive.mono _)
      | (with_reducible exact dailieslaw04_chosen.mono _ _ _ _)
      | (with_reducible exact field_Cauchy.mono _ _ _)
      | (with_reducible exact field_Times.mono _ _ _)
      | (with_reducible exact LeO.refl _)
      | (with_reducible exact LeO.none _)
      | (with_reducible refine LeO.ite ?_ ?_)
      | (with_reducible refine LeO.bind ?_ (fun _ => ?_))
      | exact ih0 _ _ _ _ _ _ _
      | exact ih1 _ _ _ _ _ _ _
      | exact ih2 _ _ _ _ _ _
      | exact ih3 _ _ _ _ _ _ _
      | exact ih4 _ _ _ _ _ _ _
      | exact ih5 _ _ _ _ _ _ _ _ _
      | exact dailieslaw04_alive.mono _
      | exact dailieslaw04_chosen.mono _ _ _ _
      | exact field_Cauchy.mono _ _ _
      | exact field_Times.mono _ _ _
      | exact LeO.none _
      | refine LeO.ite ?_ ?_
      | refine LeO.bind ?_ (fun _ => ?_)
def dailieslaw04_FieldCauchy.T27 : Bool × List (List Nat × List Nat) := (true, [([], []), ([], []), ([0, 1], [0, 1]), ([2], [2]), ([], []), ([], []), ([], []), ([5, 6], [5, 6]), ([7], [7]), ([4, 8], [4, 8]), ([9], [9]), ([10], [10]), ([3, 11], [3, 11])])
def dailieslaw04_FieldCauchy.B27 : List Nat := [0, 0, 3, 7, 0, 0, 0, 96, 224, 496, 1008, 2032, 4095]
theorem dailieslaw04_FieldCauchy.tab27 : rtab .any (opsOf Try.f10 27) = dailieslaw04_FieldCauchy.T27 := by kernel_rfl
theorem dailieslaw04_FieldCauchy.bits27 : waitsOk dailieslaw04_FieldCauchy.T27.2 dailieslaw04_FieldCauchy.B27 = true := by kernel_rfl
def dailieslaw04_FieldCauchy.T29 : Bool × List (List Nat × List Nat) := (true, [([], []), ([], []), ([], []), ([], []), ([], []), ([3, 4], [3, 4]), ([5], [5]), ([2, 6], [2, 6]), ([7], [7]), ([], []), ([], []), ([9, 10], [9, 10]), ([11], [11]), ([8, 12], [8, 12]), ([13], [13]), ([0, 1, 0, 1, 2, 3, 4, 5, 6, 7, 8, 9, 10, 11, 12, 13, 14], [0, 1]), ([15, 14, 0, 1, 2, 3, 4, 5, 6, 7, 8, 9, 10, 11, 12, 13, 14], [14, 15])])
def dailieslaw04_FieldCauchy.B29 : List Nat := [0, 0, 0, 0, 0, 24, 56, 124, 252, 0, 0, 1536, 3584, 8188, 16380, 32767, 65535]
theorem dailieslaw04_FieldCauchy.tab29 : rtab .any (opsOf Try.f10 29) = dailieslaw04_FieldCauchy.T29 := by kernel_rfl
theorem dailieslaw04_FieldCauchy.bits29 : waitsOk dailieslaw04_FieldCauchy.T29.2 dailieslaw04_FieldCauchy.B29 = true := by kernel_rfl
set_option maxHeartbeats 8000000 in
set_option maxRecDepth 100000 in
theorem dailieslaw04_FieldCauchy.calls (k : Nat) (A0 : Option Addr) (c0 : Nat) (l0 : List Int) (A1 : Option Addr) (c1 : Nat) (l1 : List Int) (A2 : Option Addr) (c2 : Nat) (l2 : List Int) (r : Bool) (w : World) (hr0 : Kd.C (Kd.int .i64) w A0 l0.length l0) (hc0 : l0.length ≤ c0) (hr1 : Kd.C (Kd.int .i64) w A1 l1.length l1) (hc1 : l1.length ≤ c1) (hr2 : Kd.C (Kd.int .i64) w A2 l2.length l2) (hc2 : l2.length ≤ c2) (h : dailieslaw04_FieldCauchy.f k l0 l1 l2 = some r) :
    Calls Try.prog 10 #[.slice A0 l0.length c0, .slice A1 l1.length c1, .slice A2 l2.length c2] w fun e w' => e = .returned (.bool r) ∧ Below w.heap.size w w' := by
  have HR0 := Aside0.mk hr0
  have HC0 := Aside0.mk hc0
  clear hr0 hc0
  have HR1 := Aside0.mk hr1
  have HC1 := Aside0.mk hc1
  clear hr1 hc1
  have HR2 := Aside0.mk hr2
  have HC2 := Aside0.mk hc2
  clear hr2 hc2
  have HB := Aside0.mk (Below.refl w.heap.size w)
  have H : ((dailieslaw04_alive.f k).bind fun t145 => (if (l0.length : Int) > 0 then (if 0 < (l0.length : Int) then ((dailieslaw04_pick.f (rd l0 0) 255).bind fun t147 => (dailieslaw04_FieldCauchy.j0 k l0 l1 l2 t145 (wrap64 (1 + t147)) (mn 4 (wrap64 (256 - (wrap64 (1 + t147))))) 2)) else (none)) else (dailieslaw04_FieldCauchy.j0 k l0 l1 l2 t145 3 4 2))) = some r := h
  clear h
  replace H := Option.bind_eq_some_iff.mp H
  obtain ⟨t145, A40, H⟩ := H
  replace H : (if (l0.length : Int) > 0 then (if 0 < (l0.length : Int) then ((dailieslaw04_pick.f (rd l0 0) 255).bind fun t147 => (dailieslaw04_FieldCauchy.j0 k l0 l1 l2 t145 (wrap64 (1 + t147)) (mn 4 (wrap64 (256 - (wrap64 (1 + t147))))) 2)) else (none)) else (dailieslaw04_FieldCauchy.j0 k l0 l1 l2 t145 3 4 2)) = some r := H
  have A4 := Aside0.mk A40
  clear A40
  have HC5 := Aside0.mk H
  clear H
  go_enter Try.func10, Try.ntmps10
  go_upto_if 28 with (first | ((with_reducible refine gate_callee (f := 11) rfl ?_); refine goesL_ (some 25) rfl rfl Try.func11 (by kernel_rfl) rfl #[] rfl (by (try simp only [List.map_toArray, List.map_cons, List.map_nil]); first | done | rfl | (simp only [List.length_drop, List.length_take]; rfl)) ?_; (with_reducible refine (dailieslaw04_alive.calls k  t145 _ A4.out).mono ?_); rintro e w' ⟨rfl, ⟨nd, rfl⟩⟩; refine ⟨_, rfl, ?_⟩))
  (try simp only [Act.put, List.setIfInBounds_toArray, List.set_cons_zero, List.set_cons_succ])
  go_cut [8, 9] (fun v8 v9 wc => ∃ (kq : Nat) (x8_4 : Int) (x9_4 : Int), v8 = .int .i64 x8_4 ∧ v9 = .int .i64 x9_4 ∧ Aside0 (dailieslaw04_FieldCauchy.j0 kq l0 l1 l2 t145 x8_4 x9_4 2 = some r) ∧ Aside0 (kq ≤ k) ∧ Aside0 (Below w.heap.size w wc))
  case first =>
    have H := HC5.out
    clear HC5
    by_cases c6 : (l0.length : Int) > 0
    · rw [if_pos c6] at H
      have c6b0 : decide (0 < (l0.length : Int)) = true := decide_eq_true c6
      have c6b1 : decide (0 < l0.length) = true := decide_eq_true (by omega)
      clear c6
      (first | rw [c6b0] | (simp only [i64_w, i32_w]; rw [c6b0]) | rw [c6b1] | rw [c6b2] | skip)
      by_cases c7 : 0 < (l0.length : Int)
      · rw [if_pos c7] at H
        have c7b0 : decide (0 < (l0.length : Int)) = true := decide_eq_true c7
        have c7b1 : decide (0 < l0.length) = true := decide_eq_true (by omega)
        clear c7
        replace H := Option.bind_eq_some_iff.mp H
        obtain ⟨t147, A80, H⟩ := H
        replace H : (dailieslaw04_FieldCauchy.j0 k l0 l1 l2 t145 (wrap64 (1 + t147)) (mn 4 (wrap64 (256 - (wrap64 (1 + t147))))) 2) = some r := H
        have A8 := Aside0.mk A80
        clear A80
        obtain ⟨ji9, hji9⟩ : ∃ j_ : Int, (mn 4 (wrap64 (256 - (wrap64 (1 + t147))))) = j_ := ⟨_, rfl⟩
        replace H : (dailieslaw04_FieldCauchy.j0 k l0 l1 l2 t145 (wrap64 (1 + t147)) ji9 2) = some r := by first | (rw [hji9] at H; exact H) | (simp only [hji9] at H ⊢; exact H)
        (try rw [hji9] at A8)
        (try (have hji9h : ji9 ≤ 4 := by (rw [← hji9]; unfold mn; (repeat' split) <;> omega)))
        (try (have hji9g : ji9 ≤ 64 := by omega))
        have hji9_ : (if (wrap64 (256 - (wrap64 (1 + t147)))) < 4 then (wrap64 (256 - (wrap64 (1 + t147)))) else 4) = ji9 := hji9
        have H' := Aside0.mk H
        clear H
        have p146 : 0 ≤ (0 : Int) := (by omega)
        have q146 : 0 < (l0.length : Int) := of_decide_eq_true (by first | (with_reducible assumption) | assumption)
        obtain ⟨ad146, e146, hx146_0⟩ := Kd.at_int HR0.out 0 p146 q146
        cases e146
        have qi146 : (0 < l0.length) = True := eq_true (by omega)
        (try rw [show ((0 : Int)).toNat = 0 from rfl] at hx146_0)
        (try rw [Addr.add_zero'] at hx146_0)
        replace hx146_0 := (HB.out.cell (World.block_lt_of_cell? w _ hx146_0)).trans hx146_0
        replace p146 := eq_true p146
        replace q146 := eq_true q146
        go_wp2_with (first | ((with_reducible refine gate_callee (f := 20) rfl ?_); refine goesL_ (some 32) rfl rfl Try.func20 (by kernel_rfl) rfl #[.int .i64 (rd l0 0), .int .i64 255] rfl (by (try simp only [List.map_toArray, List.map_cons, List.map_nil]); first | done | rfl | (simp only [List.length_drop, List.length_take]; rfl)) ?_; (with_reducible refine (dailieslaw04_pick.calls (rd l0 0) 255 t147 _ A8.out).mono ?_); rintro e w' ⟨rfl, ⟨nd, rfl⟩⟩; refine ⟨_, rfl, ?_⟩))
        go_meet
        case rel => exact ⟨_, (wrap64 (1 + t147)), (ji9), (by first | rfl | (simp; done) | (simp [*]; done)), (by first | rfl | (simp; done) | (simp only [← hji9] <;> (first | rfl | simp)) | (simp [*]; done)), H', ⟨by first | omega | exact Nat.le_refl _⟩, ⟨by repeat (first | (with_reducible first | exact HB.out | apply below_alloc | apply pw_below_drewN | apply below_drew1) | exact HB.out)⟩⟩
      · rw [if_neg c7] at H
        exact absurd H (by simp)
    · rw [if_neg c6] at H
      have c6b0 : decide (0 < (l0.length : Int)) = false := decide_eq_false c6
      have c6b1 : decide (0 < l0.length) = false := decide_eq_false (by omega)
      clear c6
      (first | rw [c6b0] | (simp only [i64_w, i32_w]; rw [c6b0]) | rw [c6b1] | rw [c6b2] | skip)
      have H' := Aside0.mk H
      clear H
      go_wp2
      go_meet
      case rel => exact ⟨_, (3), (4), (by first | rfl | (simp; done) | (simp [*]; done)), (by first | rfl | (simp; done) | (simp [*]; done)), H', ⟨by first | omega | exact Nat.le_refl _⟩, ⟨by repeat (first | (with_reducible first | exact HB.out | apply below_alloc | apply pw_below_drewN | apply below_drew1) | exact HB.out)⟩⟩
  case rest =>
    clear HC5
    try clear c1
    try clear p1
    try clear q1
    try clear hx1
    try clear qi1
    try clear c2
    try clear p2
    try clear c6
    try clear c6b0
    try clear c6b1
    try clear c6b2
    try clear p6
    try clear c7
    try clear c7b0
    try clear c7b1
    try clear hx146_0
    try clear p146
    try clear q146
    obtain ⟨kq, x8_4, x9_4, rfl, rfl, HA, HJ4, HB⟩ := hcut
    cases kq with
    | zero => exact absurd HA.out (by simp [dailieslaw04_FieldCauchy.j0])
    | succ kj4 =>
      have H := HA.out
      clear HA
      simp only [dailieslaw04_FieldCauchy.j0] at H
      have HC10 := Aside0.mk H
      clear H
      go_upto_if 40 with (fail)
      go_cut [9] (fun v9 wc => ∃ (kq : Nat) (x9_9 : Int), v9 = .int .i64 x9_9 ∧ Aside0 (dailieslaw04_FieldCauchy.j1 kq l0 l1 l2 t145 x8_4 x9_9 2 = some r) ∧ Aside0 (kq ≤ kj4) ∧ Aside0 (Below w.heap.size w wc))
      case first =>
        have H := HC10.out
        clear HC10
        by_cases c11 : (l0.length : Int) > 1
        · rw [if_pos c11] at H
          have c11b0 : decide (1 < (l0.length : Int)) = true := decide_eq_true c11
          have c11b1 : decide (1 < l0.length) = true := decide_eq_true (by omega)
          clear c11
          (first | rw [c11b0] | (simp only [i64_w, i32_w]; rw [c11b0]) | rw [c11b1] | rw [c11b2] | skip)
          by_cases c12 : 1 < (l0.length : Int)
          · rw [if_pos c12] at H
            have c12b0 : decide (1 < (l0.length : Int)) = true := decide_eq_true c12
            have c12b1 : decide (1 < l0.length) = true := decide_eq_true (by omega)
            clear c12
            replace H := Option.bind_eq_some_iff.mp H
            obtain ⟨t149, A130, H⟩ := H
            replace H : (dailieslaw04_FieldCauchy.j1 kj4 l0 l1 l2 t145 x8_4 (wrap64 (1 + t149)) 2) = some r := H
            have A13 := Aside0.mk A130
            clear A130
            have H' := Aside0.mk H
            clear H
            have p148 : 0 ≤ (1 : Int) := (by omega)
            have q148 : 1 < (l0.length : Int) := of_decide_eq_true (by first | (with_reducible assumption) | assumption)
            obtain ⟨ad148, e148, hx148_0⟩ := Kd.at_int HR0.out 1 p148 q148
            cases e148
            (try simp only [show (1 : Int).toNat = 1 from rfl, Nat.reduceMul, Nat.reduceEqDiff, Go.Addr.add, ↓reduceIte] at hx148_0)
            have qi148 : (1 < l0.length) = True := eq_true (by omega)
            (try rw [show ((1 : Int)).toNat = 1 from rfl] at hx148_0)
            replace hx148_0 := (HB.out.cell (World.block_lt_of_cell? w _ hx148_0)).trans hx148_0
            replace p148 := eq_true p148
            replace q148 := eq_true q148
            go_wp2_with (first | ((with_reducible refine gate_callee (f := 20) rfl ?_); refine goesL_ (some 46) rfl rfl Try.func20 (by kernel_rfl) rfl #[.int .i64 (rd l0 1), .int .i64 (wrap64 (256 - x8_4))] rfl (by (try simp only [List.map_toArray, List.map_cons, List.map_nil]); first | done | rfl | (simp only [List.length_drop, List.length_take]; rfl)) ?_; (with_reducible refine (dailieslaw04_pick.calls (rd l0 1) (wrap64 (256 - x8_4)) t149 _ A13.out).mono ?_); rintro e w' ⟨rfl, ⟨nd, rfl⟩⟩; refine ⟨_, rfl, ?_⟩))
            go_meet
            case rel => exact ⟨_, (wrap64 (1 + t149)), (by first | rfl | (simp; done) | (simp [*]; done)), H', ⟨by have := HJ4.out; first | omega | exact Nat.le_refl _⟩, ⟨by repeat (first | (with_reducible first | exact HB.out | apply below_alloc | apply pw_below_drewN | apply below_drew1) | exact HB.out)⟩⟩
          · rw [if_neg c12] at H
            exact absurd H (by simp)
        · rw [if_neg c11] at H
          have c11b0 : decide (1 < (l0.length : Int)) = false := decide_eq_false c11
          have c11b1 : decide (1 < l0.length) = false := decide_eq_false (by omega)
          clear c11
          (first | rw [c11b0] | (simp only [i64_w, i32_w]; rw [c11b0]) | rw [c11b1] | rw [c11b2] | skip)
          have H' := Aside0.mk H
          clear H
          go_wp2
          go_meet
          case rel => exact ⟨_, (x9_4), (by first | rfl | (simp; done) | (simp [*]; done)), H', ⟨by have := HJ4.out; first | omega | exact Nat.le_refl _⟩, ⟨by repeat (first | (with_reducible first | exact HB.out | apply below_alloc | apply pw_below_drewN | apply below_drew1) | exact HB.out)⟩⟩
      case rest =>
        clear HC10
        try clear c1
        try clear p1
        try clear q1
        try clear hx1
        try clear qi1
        try clear c2
        try clear p2
        try clear c6
        try clear c6b0
        try clear c6b1
        try clear c6b2
        try clear p6
        try clear c7
        try clear c7b0
        try clear c7b1
        try clear c10
        try clear c11
        try clear c11b0
        try clear c11b1
        try clear c11b2
        try clear c12
        try clear c12b0
        try clear c12b1
        try clear hx146_0
        try clear hx148_0
        try clear p1
        try clear p146
        try clear p148
        try clear p2
        try clear p6
        try clear q1
        try clear q146
        try clear q148
        obtain ⟨kq, x9_9, rfl, HA, HJ9, HB⟩ := hcut
        cases kq with
        | zero => exact absurd HA.out (by simp [dailieslaw04_FieldCauchy.j1])
        | succ kj9 =>
          have H := HA.out
          clear HA
          simp only [dailieslaw04_FieldCauchy.j1] at H
          obtain ⟨ji14, hji14⟩ : ∃ j_ : Int, (mn 2 x8_4) = j_ := ⟨_, rfl⟩
          replace H : (if (l0.length : Int) > 2 then (if 2 < (l0.length : Int) then ((dailieslaw04_pick.f (rd l0 2) (mn x8_4 x9_9)).bind fun t151 => (dailieslaw04_FieldCauchy.j2 kj9 l1 l2 t145 x8_4 x9_9 (wrap64 (1 + t151)))) else (none)) else (dailieslaw04_FieldCauchy.j2 kj9 l1 l2 t145 x8_4 x9_9 (mn (ji14) x9_9))) = some r := by first | (rw [hji14] at H; exact H) | (simp only [hji14] at H ⊢; exact H)
          have hji14_ : (if x8_4 < 2 then x8_4 else 2) = ji14 := hji14
          obtain ⟨ji15, hji15⟩ : ∃ j_ : Int, (mn (ji14) x9_9) = j_ := ⟨_, rfl⟩
          replace H : (if (l0.length : Int) > 2 then (if 2 < (l0.length : Int) then ((dailieslaw04_pick.f (rd l0 2) (mn x8_4 x9_9)).bind fun t151 => (dailieslaw04_FieldCauchy.j2 kj9 l1 l2 t145 x8_4 x9_9 (wrap64 (1 + t151)))) else (none)) else (dailieslaw04_FieldCauchy.j2 kj9 l1 l2 t145 x8_4 x9_9 ji15)) = some r := by first | (rw [hji15] at H; exact H) | (simp only [hji15] at H ⊢; exact H)
          have hji15_ : (if x9_9 < (ji14) then x9_9 else (ji14)) = ji15 := hji15
          have HC16 := Aside0.mk H
          clear H
          go_upto_if 54 with (fail)
          go_cut [10] (fun v10 wc => ∃ (kq : Nat) (x10_15 : Int), v10 = .int .i64 x10_15 ∧ Aside0 (dailieslaw04_FieldCauchy.j2 kq l1 l2 t145 x8_4 x9_9 x10_15 = some r) ∧ Aside0 (kq ≤ kj9) ∧ Aside0 (Below w.heap.size w wc))
          case first =>
            have H := HC16.out
            clear HC16
            by_cases c17 : (l0.length : Int) > 2
            · rw [if_pos c17] at H
              have c17b0 : decide (2 < (l0.length : Int)) = true := decide_eq_true c17
              have c17b1 : decide (2 < l0.length) = true := decide_eq_true (by omega)
              clear c17
              (first | rw [c17b0] | (simp only [i64_w, i32_w]; rw [c17b0]) | rw [c17b1] | rw [c17b2] | skip)
              by_cases c18 : 2 < (l0.length : Int)
              · rw [if_pos c18] at H
                have c18b0 : decide (2 < (l0.length : Int)) = true := decide_eq_true c18
                have c18b1 : decide (2 < l0.length) = true := decide_eq_true (by omega)
                clear c18
                obtain ⟨ji19, hji19⟩ : ∃ j_ : Int, (mn x8_4 x9_9) = j_ := ⟨_, rfl⟩
                replace H : ((dailieslaw04_pick.f (rd l0 2) (ji19)).bind fun t151 => (dailieslaw04_FieldCauchy.j2 kj9 l1 l2 t145 x8_4 x9_9 (wrap64 (1 + t151)))) = some r := by first | (rw [hji19] at H; exact H) | (simp only [hji19] at H ⊢; exact H)
                have hji19_ : (if x9_9 < x8_4 then x9_9 else x8_4) = ji19 := hji19
                replace H := Option.bind_eq_some_iff.mp H
                obtain ⟨t151, A200, H⟩ := H
                replace H : (dailieslaw04_FieldCauchy.j2 kj9 l1 l2 t145 x8_4 x9_9 (wrap64 (1 + t151))) = some r := H
                have A20 := Aside0.mk A200
                clear A200
                have H' := Aside0.mk H
                clear H
                have p150 : 0 ≤ (2 : Int) := (by omega)
                have q150 : 2 < (l0.length : Int) := of_decide_eq_true (by first | (with_reducible assumption) | assumption)
                obtain ⟨ad150, e150, hx150_0⟩ := Kd.at_int HR0.out 2 p150 q150
                cases e150
                (try simp only [show (2 : Int).toNat = 2 from rfl, Nat.reduceMul, Nat.reduceEqDiff, Go.Addr.add, ↓reduceIte] at hx150_0)
                have qi150 : (2 < l0.length) = True := eq_true (by omega)
                (try rw [show ((2 : Int)).toNat = 2 from rfl] at hx150_0)
                replace hx150_0 := (HB.out.cell (World.block_lt_of_cell? w _ hx150_0)).trans hx150_0
                replace p150 := eq_true p150
                replace q150 := eq_true q150
                go_wp2_with (first | ((with_reducible refine gate_callee (f := 20) rfl ?_); refine goesL_ (some 61) rfl rfl Try.func20 (by kernel_rfl) rfl #[.int .i64 (rd l0 2), .int .i64 ji19] rfl (by (try simp only [List.map_toArray, List.map_cons, List.map_nil]); first | done | (simp only [hji19]; rfl) | rfl | (simp only [List.length_drop, List.length_take]; rfl)) ?_; (with_reducible refine (dailieslaw04_pick.calls (rd l0 2) ji19 t151 _ A20.out).mono ?_); rintro e w' ⟨rfl, ⟨nd, rfl⟩⟩; refine ⟨_, rfl, ?_⟩))
                go_meet
                case rel => exact ⟨_, (wrap64 (1 + t151)), (by first | rfl | (simp; done) | (simp [*]; done)), H', ⟨by have := HJ4.out; have := HJ9.out; first | omega | exact Nat.le_refl _⟩, ⟨by repeat (first | (with_reducible first | exact HB.out | apply below_alloc | apply pw_below_drewN | apply below_drew1) | exact HB.out)⟩⟩
              · rw [if_neg c18] at H
                exact absurd H (by simp)
            · rw [if_neg c17] at H
              have c17b0 : decide (2 < (l0.length : Int)) = false := decide_eq_false c17
              have c17b1 : decide (2 < l0.length) = false := decide_eq_false (by omega)
              clear c17
              (first | rw [c17b0] | (simp only [i64_w, i32_w]; rw [c17b0]) | rw [c17b1] | rw [c17b2] | skip)
              have H' := Aside0.mk H
              clear H
              go_wp2
              go_meet
              case rel => exact ⟨_, (ji15), (by first | rfl | (simp; done) | (simp only [← hji15] <;> (first | rfl | simp)) | (simp [*]; done)), H', ⟨by have := HJ4.out; have := HJ9.out; first | omega | exact Nat.le_refl _⟩, ⟨by repeat (first | (with_reducible first | exact HB.out | apply below_alloc | apply pw_below_drewN | apply below_drew1) | exact HB.out)⟩⟩
          case rest =>
            clear HC16
            try clear c1
            try clear p1
            try clear q1
            try clear hx1
            try clear qi1
            try clear c2
            try clear p2
            try clear c6
            try clear c6b0
            try clear c6b1
            try clear c6b2
            try clear p6
            try clear c7
            try clear c7b0
            try clear c7b1
            try clear c10
            try clear c11
            try clear c11b0
            try clear c11b1
            try clear c11b2
            try clear c12
            try clear c12b0
            try clear c12b1
            try clear p14
            try clear q14
            try clear hx14
            try clear qi14
            try clear p15
            try clear q15
            try clear hx15
            try clear qi15
            try clear c17
            try clear c17b0
            try clear c17b1
            try clear c17b2
            try clear c18
            try clear c18b0
            try clear c18b1
            try clear c20
            try clear hx146_0
            try clear hx148_0
            try clear hx150_0
            try clear p1
            try clear p146
            try clear p148
            try clear p150
            try clear p2
            try clear p6
            try clear q1
            try clear q146
            try clear q148
            try clear q150
            obtain ⟨kq, x10_15, rfl, HA, HJ15, HB⟩ := hcut
            cases kq with
            | zero => exact absurd HA.out (by simp [dailieslaw04_FieldCauchy.j2])
            | succ kj15 =>
              have H := HA.out
              clear HA
              simp only [dailieslaw04_FieldCauchy.j2] at H
              replace H := Option.bind_eq_some_iff.mp H
              obtain ⟨⟨t152, t153⟩, A210, H⟩ := H
              replace H : (if t145 = true then (if t153 = 0 then (dailieslaw04_FieldCauchy.j3 kj15 l1 l2 x8_4 x9_9 x10_15 t152 ((t152.length : Int) != x8_4)) else (dailieslaw04_FieldCauchy.j3 kj15 l1 l2 x8_4 x9_9 x10_15 t152 true)) else (dailieslaw04_FieldCauchy.j3 kj15 l1 l2 x8_4 x9_9 x10_15 t152 true)) = some r := H
              have A21 := Aside0.mk A210
              clear A210
              have HC22 := Aside0.mk H
              clear H
              go_upto_region 14 with (first | ((with_reducible refine gate_callee (f := 21) rfl ?_); refine goesL_ (some 66) rfl rfl Try.func21 (by kernel_rfl) rfl #[.int .i64 x8_4, .int .i64 x9_9] rfl (by (try simp only [List.map_toArray, List.map_cons, List.map_nil]); first | done | rfl | (simp only [List.length_drop, List.length_take]; rfl)) ?_; (with_reducible refine (field_Cauchy.calls kj15 x8_4 x9_9 t152 t153 _ A21.out).mono ?_); rintro e w23 ⟨v154, rfl, ho0, hb⟩; refine ⟨_, rfl, ?_⟩; have n0_ := Aside0.mk (Kd.S_lower ho0 (below_size (by repeat (first | (with_reducible first | exact HB.out | apply below_alloc | apply pw_below_drewN | apply below_drew1) | exact HB.out)))); have n1_ := Aside0.mk (below_step (by repeat (first | (with_reducible first | exact HB.out | apply below_alloc | apply pw_below_drewN | apply below_drew1) | exact HB.out)) hb); clear HB; have HO155 := n0_; have HB := n1_; clear n0_ n1_; (try clear hb); (try clear hb2); (try clear hk); (try clear hi); (try clear ho0)))
              (try simp only [Act.put, List.setIfInBounds_toArray, List.set_cons_zero, List.set_cons_succ])
              go_cut [80] (fun v80 wc => ∃ (kq : Nat) (x80_21 : Bool), v80 = .bool x80_21 ∧ Aside0 (dailieslaw04_FieldCauchy.j3 kq l1 l2 x8_4 x9_9 x10_15 t152 x80_21 = some r) ∧ Aside0 (kq ≤ kj15) ∧ Aside0 (Kd.S (Kd.slice 5 (Kd.int .u8)) 29 wc w.heap.size (fun _ => True) v154 t152) ∧ Aside0 (Below w.heap.size w wc))
              case first =>
                have H := HC22.out
                clear HC22
                by_cases c24 : t145 = true
                · subst c24
                  have H1 : (if t153 = 0 then (dailieslaw04_FieldCauchy.j3 kj15 l1 l2 x8_4 x9_9 x10_15 t152 ((t152.length : Int) != x8_4)) else (dailieslaw04_FieldCauchy.j3 kj15 l1 l2 x8_4 x9_9 x10_15 t152 true)) = some r := by rw [if_pos rfl] at H; exact H
                  clear H
                  have H := H1
                  clear H1
                  by_cases c25 : t153 = 0
                  · rw [if_pos c25] at H
                    have c25b0 : (t153 == 0) = true := beq_iff_eq.mpr c25
                    have c25b1 : (t153 != 0) = false := bne_eq_false_iff_eq.mpr c25
                    clear c25
                    (first | rw [c25b0] | (simp only [i64_w, i32_w]; rw [c25b0]) | rw [c25b1] | rw [c25b2] | skip)
                    have H' := Aside0.mk H
                    clear H
                    obtain ⟨Ao26, co26, eo26⟩ := Kd.S_slice HO155.out
                    subst eo26
                    go_wp2
                    go_meet
                    case rel => exact ⟨_, (((t152.length : Int) != x8_4)), (by first | rfl | (simp; done) | (simp [*]; done)), H', ⟨by have := HJ4.out; have := HJ9.out; have := HJ15.out; first | omega | exact Nat.le_refl _⟩, ⟨by (with_reducible repeat (first | apply Kd.S_alloc | apply Kd.S_drewN | apply Kd.S_drew)); exact HO155.out⟩, ⟨by repeat (first | (with_reducible first | exact HB.out | apply below_alloc | apply pw_below_drewN | apply below_drew1) | exact HB.out)⟩⟩
                  · rw [if_neg c25] at H
                    have c25b0 : (t153 == 0) = false := beq_eq_false_iff_ne.mpr c25
                    have c25b1 : (t153 != 0) = true := bne_iff_ne.mpr c25
                    (first | rw [c25b0] | (simp only [i64_w, i32_w]; rw [c25b0]) | rw [c25b1] | rw [c25b2] | skip)
                    have H' := Aside0.mk H
                    clear H
                    go_wp2
                    go_meet
                    case rel => exact ⟨_, (true), (by first | rfl | (simp; done) | (simp [*]; done)), H', ⟨by have := HJ4.out; have := HJ9.out; have := HJ15.out; first | omega | exact Nat.le_refl _⟩, ⟨by (with_reducible repeat (first | apply Kd.S_alloc | apply Kd.S_drewN | apply Kd.S_drew)); exact HO155.out⟩, ⟨by repeat (first | (with_reducible first | exact HB.out | apply below_alloc | apply pw_below_drewN | apply below_drew1) | exact HB.out)⟩⟩
                · replace c24 := Bool.eq_false_iff.mpr c24
                  subst c24
                  have H1 : (dailieslaw04_FieldCauchy.j3 kj15 l1 l2 x8_4 x9_9 x10_15 t152 true) = some r := by rw [if_neg (show ¬ (false = true) by decide)] at H; exact H
                  clear H
                  have H := H1
                  clear H1
                  have H' := Aside0.mk H
                  clear H
                  go_wp2
                  go_meet
                  case rel => exact ⟨_, (true), (by first | rfl | (simp; done) | (simp [*]; done)), H', ⟨by have := HJ4.out; have := HJ9.out; have := HJ15.out; first | omega | exact Nat.le_refl _⟩, ⟨by (with_reducible repeat (first | apply Kd.S_alloc | apply Kd.S_drewN | apply Kd.S_drew)); exact HO155.out⟩, ⟨by repeat (first | (with_reducible first | exact HB.out | apply below_alloc | apply pw_below_drewN | apply below_drew1) | exact HB.out)⟩⟩
              case rest =>
                clear HC22
                try clear c1
                try clear p1
                try clear q1
                try clear hx1
                try clear qi1
                try clear c2
                try clear p2
                try clear c6
                try clear c6b0
                try clear c6b1
                try clear c6b2
                try clear p6
                try clear c7
                try clear c7b0
                try clear c7b1
                try clear c10
                try clear c11
                try clear c11b0
                try clear c11b1
                try clear c11b2
                try clear c12
                try clear c12b0
                try clear c12b1
                try clear p14
                try clear q14
                try clear hx14
                try clear qi14
                try clear p15
                try clear q15
                try clear hx15
                try clear qi15
                try clear c17
                try clear c17b0
                try clear c17b1
                try clear c17b2
                try clear c18
                try clear c18b0
                try clear c18b1
                try clear c20
                try clear c21
                try clear c24
                try clear c25
                try clear c25b0
                try clear c25b1
                try clear c25b2
                try clear hx146_0
                try clear hx148_0
                try clear hx150_0
                try clear p1
                try clear p14
                try clear p146
                try clear p148
                try clear p15
                try clear p150
                try clear p2
                try clear p6
                try clear q1
                try clear q14
                try clear q146
                try clear q148
                try clear q15
                try clear q150
                obtain ⟨kq, x80_21, rfl, HA, HJ21, HO_11, HB⟩ := hcut
                cases kq with
                | zero => exact absurd HA.out (by simp [dailieslaw04_FieldCauchy.j3])
                | succ kj21 =>
                  have H := HA.out
                  clear HA
                  simp only [dailieslaw04_FieldCauchy.j3] at H
                  by_cases c27 : x80_21 = true
                  · subst c27
                    have H1 : (some false) = some r := by rw [if_pos rfl] at H; exact H
                    clear H
                    have H := H1
                    clear H1
                    obtain rfl := Option.some.inj H
                    go_wp2
                    go_ret
                    exact ⟨by first | rfl | (simp [errW_none, errW_some] <;> rfl) | (simp only [← hji14, ← hji15]; first | rfl | (simp [errW_none, errW_some] <;> rfl)) | (simp [*, errW_none, errW_some] <;> rfl), by repeat (first | (with_reducible first | exact HB.out | apply below_alloc | apply pw_below_drewN | apply below_drew1) | exact HB.out)⟩
                  · replace c27 := Bool.eq_false_iff.mpr c27
                    subst c27
                    have H1 : ((dailieslaw04_chosen.f kj21 l1 x8_4 x10_15).bind fun t156 => ((dailieslaw04_chosen.f kj21 l2 x9_9 x10_15).bind fun t159 => (dailieslaw04_FieldCauchy.l0 kj21 x10_15 t152 t156 t159 ([] : List (List Int)) ([] : List (List Int)) 0))) = some r := by rw [if_neg (show ¬ (false = true) by decide)] at H; exact H
                    clear H
                    have H := H1
                    clear H1
                    replace H := Option.bind_eq_some_iff.mp H
                    obtain ⟨t156, A280, H⟩ := H
                    replace H : ((dailieslaw04_chosen.f kj21 l2 x9_9 x10_15).bind fun t159 => (dailieslaw04_FieldCauchy.l0 kj21 x10_15 t152 t156 t159 ([] : List (List Int)) ([] : List (List Int)) 0)) = some r := H
                    have A28 := Aside0.mk A280
                    clear A280
                    replace H := Option.bind_eq_some_iff.mp H
                    obtain ⟨t159, A290, H⟩ := H
                    replace H : (dailieslaw04_FieldCauchy.l0 kj21 x10_15 t152 t156 t159 ([] : List (List Int)) ([] : List (List Int)) 0) = some r := H
                    have A29 := Aside0.mk A290
                    clear A290
                    have H' := Aside0.mk H
                    clear H
                    go_wp2_with (first | ((with_reducible refine gate_callee (f := 35) rfl ?_); refine goesL_ (some 84) rfl rfl Try.func35 (by kernel_rfl) rfl #[.slice A1 l1.length c1, .int .i64 x8_4, .int .i64 x10_15] rfl (by (try simp only [List.map_toArray, List.map_cons, List.map_nil]); first | done | rfl | (simp only [List.length_drop, List.length_take]; rfl)) ?_; (with_reducible refine (dailieslaw04_chosen.calls kj21 _ _ l1 x8_4 x10_15 t156 _ ?side1 ?side2 A28.out).mono ?_); (case side1 => repeat (first | exact (Kd.C_below HR1.out HB.out) | (with_reducible refine Kd.C_alloc ?_ _) | (with_reducible refine Kd.C_drewN ?_ _) | (with_reducible refine Kd.C_drew ?_))); (case side2 => exact HC1.out); rintro e w30 ⟨v157, rfl, ho0, hb⟩; refine ⟨_, rfl, ?_⟩; have n0_ := Aside0.mk (Kd.S_below (by (with_reducible repeat (first | apply Kd.S_alloc | apply Kd.S_drewN | apply Kd.S_drew)); exact HO_11.out) hb); have n1_ := Aside0.mk (Kd.R_lower ho0 (below_size (by repeat (first | (with_reducible first | exact HB.out | apply below_alloc | apply pw_below_drewN | apply below_drew1) | exact HB.out)))); have n2_ := Aside0.mk (below_step (by repeat (first | (with_reducible first | exact HB.out | apply below_alloc | apply pw_below_drewN | apply below_drew1) | exact HB.out)) hb); clear HO_11; clear HB; have HO_11 := n0_; have HO158 := n1_; have HB := n2_; clear n0_ n1_ n2_; (try clear hb); (try clear hb2); (try clear hk); (try clear hi); (try clear ho0)) | ((with_reducible refine gate_callee (f := 35) rfl ?_); refine goesL_ (some 88) rfl rfl Try.func35 (by kernel_rfl) rfl #[.slice A2 l2.length c2, .int .i64 x9_9, .int .i64 x10_15] rfl (by (try simp only [List.map_toArray, List.map_cons, List.map_nil]); first | done | rfl | (simp only [List.length_drop, List.length_take]; rfl)) ?_; (with_reducible refine (dailieslaw04_chosen.calls kj21 _ _ l2 x9_9 x10_15 t159 _ ?side1 ?side2 A29.out).mono ?_); (case side1 => repeat (first | exact (Kd.C_below HR2.out HB.out) | (with_reducible refine Kd.C_alloc ?_ _) | (with_reducible refine Kd.C_drewN ?_ _) | (with_reducible refine Kd.C_drew ?_))); (case side2 => exact HC2.out); rintro e w31 ⟨v160, rfl, ho0, hb⟩; refine ⟨_, rfl, ?_⟩; have n0_ := Aside0.mk (Kd.S_below (by (with_reducible repeat (first | apply Kd.S_alloc | apply Kd.S_drewN | apply Kd.S_drew)); exact HO_11.out) hb); have n1_ := Aside0.mk (Kd.R_elder' (by (with_reducible repeat (first | apply Kd.R_alloc | apply Kd.R_drewN | apply Kd.R_drew)); exact HO158.out) (Kd.R_base ho0) hb); have n2_ := Aside0.mk (Kd.R_lower (Kd.R_new' ho0 (Kd.R_lt (by (with_reducible repeat (first | apply Kd.R_alloc | apply Kd.R_drewN | apply Kd.R_drew)); exact HO158.out))) (below_size (by repeat (first | (with_reducible first | exact HB.out | apply below_alloc | apply pw_below_drewN | apply below_drew1) | exact HB.out)))); have n3_ := Aside0.mk (below_step (by repeat (first | (with_reducible first | exact HB.out | apply below_alloc | apply pw_below_drewN | apply below_drew1) | exact HB.out)) hb); clear HO_11; clear HO158; clear HB; have HO_11 := n0_; have HO158 := n1_; have HO161 := n2_; have HB := n3_; clear n0_ n1_ n2_ n3_; (try clear hb); (try clear hb2); (try clear hk); (try clear hi); (try clear ho0)))
                    go_loopg [15, 16, 17] kj21 (fun kq v15 v16 v17 w' => ∃ (x15_5 : List (List Int)) (x16_5 : List (List Int)) (x17_5 : Int), v17 = .int .i64 x17_5 ∧ Aside0 (dailieslaw04_FieldCauchy.l0 kq x10_15 t152 t156 t159 x15_5 x16_5 x17_5 = some r) ∧ Aside0 (kq ≤ kj21) ∧ Aside0 (Kd.S (Kd.slice 5 (Kd.int .u8)) 29 w' w.heap.size (fun k_ => some k_ ≠ (v15 : Value).ownBlock ∧ some k_ ≠ (v16 : Value).ownBlock) v154 t152) ∧ Aside0 (Kd.R (Kd.int .i64) 3 w' w.heap.size (fun k_ => some k_ ≠ (v160 : Value).ownBlock) v157 t156) ∧ Aside0 (Kd.R (Kd.int .i64) 3 w' w.heap.size (fun k_ => some k_ ≠ (v157 : Value).ownBlock) v160 t159) ∧ Aside0 (Kd.S (Kd.slice 5 (Kd.int .u8)) 29 w' w.heap.size (fun k_ => some k_ ≠ (v154 : Value).ownBlock ∧ some k_ ≠ (v16 : Value).ownBlock) v15 x15_5) ∧ Aside0 (Kd.S (Kd.slice 5 (Kd.int .u8)) 29 w' w.heap.size (fun k_ => some k_ ≠ (v154 : Value).ownBlock ∧ some k_ ≠ (v15 : Value).ownBlock) v16 x16_5) ∧ Aside0 (Below w.heap.size w w'))
                    case atStart => exact ⟨(([] : List (List Int))), (([] : List (List Int))), (0), (by first | rfl | (simp; done) | (simp [*]; done)), H', ⟨Nat.le_refl _⟩, ⟨by (with_reducible repeat (first | apply Kd.S_alloc | apply Kd.S_drewN | apply Kd.S_drew)); exact Kd.S_mono HO_11.out (fun _ hk => ⟨(by simp [Value.ownBlock]), (by simp [Value.ownBlock])⟩)⟩, ⟨by (with_reducible repeat (first | apply Kd.R_alloc | apply Kd.R_drewN | apply Kd.R_drew)); exact Kd.R_mono HO158.out (fun _ hk => hk.2)⟩, ⟨by (with_reducible repeat (first | apply Kd.R_alloc | apply Kd.R_drewN | apply Kd.R_drew)); exact Kd.R_mono HO161.out (fun _ hk => hk.2)⟩, ⟨by first | exact Kd.S_nil _ _ _ _ _ | exact Kd.N_nil _ _ _ _ _ | exact Kd.V_nil _ _ _ _ _ | exact Kd.Q_nil _ _ _ _ _ | exact Kd.R_nil _ _ _ _ _⟩, ⟨by first | exact Kd.S_nil _ _ _ _ _ | exact Kd.N_nil _ _ _ _ _ | exact Kd.V_nil _ _ _ _ _ | exact Kd.Q_nil _ _ _ _ _ | exact Kd.R_nil _ _ _ _ _⟩, ⟨by repeat (first | (with_reducible first | exact HB.out | apply below_alloc | apply pw_below_drewN | apply below_drew1) | exact HB.out)⟩⟩
                    case round =>
                      clear H'
                      try clear c1
                      try clear p1
                      try clear q1
                      try clear hx1
                      try clear qi1
                      try clear c2
                      try clear p2
                      try clear c3
                      try clear c6
                      try clear c6b0
                      try clear c6b1
                      try clear c6b2
                      try clear p6
                      try clear c7
                      try clear c7b0
                      try clear c7b1
                      try clear c10
                      try clear c11
                      try clear c11b0
                      try clear c11b1
                      try clear c11b2
                      try clear c12
                      try clear c12b0
                      try clear c12b1
                      try clear p14
                      try clear q14
                      try clear hx14
                      try clear qi14
                      try clear p15
                      try clear q15
                      try clear hx15
                      try clear qi15
                      try clear c17
                      try clear c17b0
                      try clear c17b1
                      try clear c17b2
                      try clear c18
                      try clear c18b0
                      try clear c18b1
                      try clear c20
                      try clear c21
                      try clear c24
                      try clear c25
                      try clear c25b0
                      try clear c25b1
                      try clear c25b2
                      try clear c27
                      try clear hx146_0
                      try clear hx148_0
                      try clear hx150_0
                      try clear p1
                      try clear p14
                      try clear p146
                      try clear p148
                      try clear p15
                      try clear p150
                      try clear p2
                      try clear p6
                      try clear q1
                      try clear q14
                      try clear q146
                      try clear q148
                      try clear q15
                      try clear q150
                      obtain ⟨x15_5, x16_5, x17_5, rfl, HA, HK5, HO_11, HO_13, HO_14, HO_15, HO_16, HB⟩ := hrel
                      cases gk with
                      | zero => exact absurd HA.out (by simp [dailieslaw04_FieldCauchy.l0])
                      | succ k5 =>
                        have H := HA.out
                        clear HA
                        simp only [dailieslaw04_FieldCauchy.l0] at H
                        by_cases c32 : x17_5 < x10_15
                        · rw [if_pos c32] at H
                          have c32b0 : decide (x17_5 < x10_15) = true := decide_eq_true c32
                          clear c32
                          by_cases c33 : 0 ≤ x10_15
                          · rw [if_pos c33] at H
                            have c33b0 := eq_true c33
                            have c33b1 : decide (0 ≤ x10_15) = true := decide_eq_true c33
                            clear c33
                            by_cases c34 : (x10_15 : Int).toNat ≤ 281474976710656
                            · rw [if_pos c34] at H
                              have c34b0 := eq_true c34
                              have c34b1 : decide ((x10_15 : Int).toNat ≤ 281474976710656) = true := decide_eq_true c34
                              clear c34
                              obtain ⟨y171, hy171⟩ : ∃ y_ : List Int, y_ = (List.replicate (x10_15 : Int).toNat 0) := ⟨_, rfl⟩
                              replace H : (dailieslaw04_FieldCauchy.l1 k5 x10_15 t152 t156 t159 x15_5 x16_5 x17_5 y171 0) = some r := by first | (rw [hy171]; with_reducible exact H) | (have H2_ := (Option.bind_some _ _).symm.trans H; rw [hy171]; with_reducible exact H2_) | (have H2_ := (Option.bind_some _ _).symm.trans H; with_reducible exact H2_) | with_reducible exact H | (rw [hy171]; exact H) | exact H
                              have Ny171 := Aside0.mk hy171
                              clear hy171
                              have H' := Aside0.mk H
                              clear H
                              go_wp2_with (first | ((with_reducible refine gate_dst (N := 95) rfl ?_); (try (refine gate_guard (by rfl) ?_; dsimp only)); refine Kd.R_make (Kd.int .u8) _ 5 rfl (N := 95) rfl 29 _ _ rfl x10_15 rfl rfl Try.underlying29 (.int .u8 0) 1 info5 rfl (by decide) (by omega) 0 (ok := fun _ => True) (okp := fun _ => True) rfl (fun _ hk => hk) trivial (of_decide_eq_true (by first | (with_reducible assumption) | assumption)) (Nat.le_trans (Nat.mul_le_mul_right _ (of_decide_eq_true (by first | (with_reducible assumption) | assumption) : x10_15.toNat ≤ 281474976710656)) (by omega)) (Below.refl _ _) (Nat.le_refl _) ?_; intro v172 w35 ho36 hb hg_ hnew_; clear hg_ hnew_; (first | rw [← Ny171.out] at ho36 | (simp only [Int.reduceToNat] at ho36; rw [← Ny171.out] at ho36)); have n0_ := Aside0.mk (Kd.S_elder' (by (with_reducible repeat (first | apply Kd.S_alloc | apply Kd.S_drewN | apply Kd.S_drew)); exact HO_11.out) (Kd.R_base ho36) hb); have n1_ := Aside0.mk (Kd.R_below (by (with_reducible repeat (first | apply Kd.R_alloc | apply Kd.R_drewN | apply Kd.R_drew)); exact HO_13.out) hb); have n2_ := Aside0.mk (Kd.R_below (by (with_reducible repeat (first | apply Kd.R_alloc | apply Kd.R_drewN | apply Kd.R_drew)); exact HO_14.out) hb); have n3_ := Aside0.mk (Kd.S_elder' (by (with_reducible repeat (first | apply Kd.S_alloc | apply Kd.S_drewN | apply Kd.S_drew)); exact HO_15.out) (Kd.R_base ho36) hb); have n4_ := Aside0.mk (Kd.S_elder' (by (with_reducible repeat (first | apply Kd.S_alloc | apply Kd.S_drewN | apply Kd.S_drew)); exact HO_16.out) (Kd.R_base ho36) hb); have n5_ := Aside0.mk (Kd.R_lower ho36 (below_size (by repeat (first | (with_reducible first | exact HB.out | apply below_alloc | apply pw_below_drewN | apply below_drew1) | exact HB.out)))); have n6_ := Aside0.mk (below_step (by repeat (first | (with_reducible first | exact HB.out | apply below_alloc | apply pw_below_drewN | apply below_drew1) | exact HB.out)) hb); clear HO_11; clear HO_13; clear HO_14; clear HO_15; clear HO_16; clear HB; have HO_11 := n0_; have HO_13 := n1_; have HO_14 := n2_; have HO_15 := n3_; have HO_16 := n4_; have HO173 := n5_; have HB := n6_; clear n0_ n1_ n2_ n3_ n4_ n5_ n6_; clear hb ho36))
                              go_loopg [19] k5 (fun kq v19 w' => ∃ (x18_6 : List Int) (x19_6 : Int), v19 = .int .i64 x19_6 ∧ Aside0 (dailieslaw04_FieldCauchy.l1 kq x10_15 t152 t156 t159 x15_5 x16_5 x17_5 x18_6 x19_6 = some r) ∧ Aside0 (kq ≤ k5) ∧ Aside0 (Kd.S (Kd.slice 5 (Kd.int .u8)) 29 w' w.heap.size (fun k_ => some k_ ≠ (u15 : Value).ownBlock ∧ some k_ ≠ (u16 : Value).ownBlock ∧ some k_ ≠ (v172 : Value).ownBlock) v154 t152) ∧ Aside0 (Kd.R (Kd.int .i64) 3 w' w.heap.size (fun k_ => some k_ ≠ (v160 : Value).ownBlock) v157 t156) ∧ Aside0 (Kd.R (Kd.int .i64) 3 w' w.heap.size (fun k_ => some k_ ≠ (v157 : Value).ownBlock) v160 t159) ∧ Aside0 (Kd.S (Kd.slice 5 (Kd.int .u8)) 29 w' w.heap.size (fun k_ => some k_ ≠ (v154 : Value).ownBlock ∧ some k_ ≠ (u16 : Value).ownBlock ∧ some k_ ≠ (v172 : Value).ownBlock) u15 x15_5) ∧ Aside0 (Kd.S (Kd.slice 5 (Kd.int .u8)) 29 w' w.heap.size (fun k_ => some k_ ≠ (v154 : Value).ownBlock ∧ some k_ ≠ (u15 : Value).ownBlock ∧ some k_ ≠ (v172 : Value).ownBlock) u16 x16_5) ∧ Aside0 (Kd.R (Kd.int .u8) 5 w' w.heap.size (fun _ => True) v172 x18_6) ∧ Aside0 (Below w.heap.size w w'))
                              case atStart => exact ⟨(y171), (0), (by first | rfl | (simp; done) | (simp [*]; done)), H', ⟨Nat.le_refl _⟩, ⟨by (with_reducible repeat (first | apply Kd.S_alloc | apply Kd.S_drewN | apply Kd.S_drew)); exact Kd.S_mono HO_11.out (fun _ hk => ⟨hk.1.1, ⟨hk.1.2, hk.2⟩⟩)⟩, ⟨by (with_reducible repeat (first | apply Kd.R_alloc | apply Kd.R_drewN | apply Kd.R_drew)); exact HO_13.out⟩, ⟨by (with_reducible repeat (first | apply Kd.R_alloc | apply Kd.R_drewN | apply Kd.R_drew)); exact HO_14.out⟩, ⟨by (with_reducible repeat (first | apply Kd.S_alloc | apply Kd.S_drewN | apply Kd.S_drew)); exact Kd.S_mono HO_15.out (fun _ hk => ⟨hk.1.1, ⟨hk.1.2, hk.2⟩⟩)⟩, ⟨by (with_reducible repeat (first | apply Kd.S_alloc | apply Kd.S_drewN | apply Kd.S_drew)); exact Kd.S_mono HO_16.out (fun _ hk => ⟨hk.1.1, ⟨hk.1.2, hk.2⟩⟩)⟩, ⟨by (with_reducible repeat (first | apply Kd.R_alloc | apply Kd.R_drewN | apply Kd.R_drew)); exact HO173.out⟩, ⟨by repeat (first | (with_reducible first | exact HB.out | apply below_alloc | apply pw_below_drewN | apply below_drew1) | exact HB.out)⟩⟩
                              case round =>
                                clear H'
                                try clear c1
                                try clear p1
                                try clear q1
                                try clear hx1
                                try clear qi1
                                try clear c2
                                try clear p2
                                try clear c3
                                try clear c6
                                try clear c6b0
                                try clear c6b1
                                try clear c6b2
                                try clear p6
                                try clear c7
                                try clear c7b0
                                try clear c7b1
                                try clear c10
                                try clear c11
                                try clear c11b0
                                try clear c11b1
                                try clear c11b2
                                try clear c12
                                try clear c12b0
                                try clear c12b1
                                try clear p14
                                try clear q14
                                try clear hx14
                                try clear qi14
                                try clear p15
                                try clear q15
                                try clear hx15
                                try clear qi15
                                try clear c17
                                try clear c17b0
                                try clear c17b1
                                try clear c17b2
                                try clear c18
                                try clear c18b0
                                try clear c18b1
                                try clear c20
                                try clear c21
                                try clear c24
                                try clear c25
                                try clear c25b0
                                try clear c25b1
                                try clear c25b2
                                try clear c27
                                try clear c32
                                try clear c32b0
                                try clear c33
                                try clear c33b0
                                try clear c33b1
                                try clear c34
                                try clear c34b0
                                try clear c34b1
                                try clear c35
                                try clear hx146_0
                                try clear hx148_0
                                try clear hx150_0
                                try clear p1
                                try clear p14
                                try clear p146
                                try clear p148
                                try clear p15
                                try clear p150
                                try clear p2
                                try clear p6
                                try clear q1
                                try clear q14
                                try clear q146
                                try clear q148
                                try clear q15
                                try clear q150
                                obtain ⟨x18_6, x19_6, rfl, HA, HK6, HO_11, HO_13, HO_14, HO_15, HO_16, HO_18, HB⟩ := hrel
                                cases gk with
                                | zero => exact absurd HA.out (by simp [dailieslaw04_FieldCauchy.l1])
                                | succ k6 =>
                                  have H := HA.out
                                  clear HA
                                  simp only [dailieslaw04_FieldCauchy.l1] at H
                                  by_cases c37 : x19_6 < x10_15
                                  · rw [if_pos c37] at H
                                    have c37b0 : decide (x19_6 < x10_15) = true := decide_eq_true c37
                                    clear c37
                                    by_cases c38 : 0 ≤ x19_6
                                    · rw [if_pos c38] at H
                                      have c38b0 : decide (0 ≤ x19_6) = true := decide_eq_true c38
                                      clear c38
                                      by_cases c39 : x19_6 < (t159.length : Int)
                                      · rw [if_pos c39] at H
                                        have c39b0 : decide (x19_6 < (t159.length : Int)) = true := decide_eq_true c39
                                        clear c39
                                        by_cases c40 : 0 ≤ x17_5
                                        · rw [if_pos c40] at H
                                          have c40b0 : decide (0 ≤ x17_5) = true := decide_eq_true c40
                                          clear c40
                                          by_cases c41 : x17_5 < (t156.length : Int)
                                          · rw [if_pos c41] at H
                                            have c41b0 : decide (x17_5 < (t156.length : Int)) = true := decide_eq_true c41
                                            clear c41
                                            by_cases c42 : 0 ≤ (rd t156 x17_5)
                                            · rw [if_pos c42] at H
                                              have c42b0 : decide (0 ≤ (rd t156 x17_5)) = true := decide_eq_true c42
                                              clear c42
                                              by_cases c43 : (rd t156 x17_5) < (t152.length : Int)
                                              · rw [if_pos c43] at H
                                                have c43b0 : decide ((rd t156 x17_5) < (t152.length : Int)) = true := decide_eq_true c43
                                                clear c43
                                                by_cases c44 : (rd t159 x19_6) ≥ ((rd_L1 t152 (rd t156 x17_5)).length : Int)
                                                · rw [if_pos c44] at H
                                                  have c44b0 : decide (((rd_L1 t152 (rd t156 x17_5)).length : Int) ≤ (rd t159 x19_6)) = true := decide_eq_true c44
                                                  clear c44
                                                  obtain rfl := Option.some.inj H
                                                  try go_wp2
                                                  have n0_ := Aside0.mk (Kd.S_drew HO_11.out)
                                                  have n1_ := Aside0.mk (Kd.R_drew HO_13.out)
                                                  have n2_ := Aside0.mk (Kd.R_drew HO_14.out)
                                                  have n3_ := Aside0.mk (Kd.S_drew HO_15.out)
                                                  have n4_ := Aside0.mk (Kd.S_drew HO_16.out)
                                                  have n5_ := Aside0.mk (Kd.R_drew HO_18.out)
                                                  have n6_ := Aside0.mk (below_drew1 HB.out)
                                                  clear HO_11
                                                  clear HO_13
                                                  clear HO_14
                                                  clear HO_15
                                                  clear HO_16
                                                  clear HO_18
                                                  clear HB
                                                  have HO_11 := n0_
                                                  have HO_13 := n1_
                                                  have HO_14 := n2_
                                                  have HO_15 := n3_
                                                  have HO_16 := n4_
                                                  have HO_18 := n5_
                                                  have HB := n6_
                                                  clear n0_ n1_ n2_ n3_ n4_ n5_ n6_
                                                  obtain ⟨Ao46, co46, eo46⟩ := Kd.R_slice HO_14.out
                                                  (first | subst eo46 | (injection eo46 with f1_ f2_ f3_; have f4_ := f1_.symm; have f5_ := f3_.symm; clear f1_ f2_ f3_; subst f4_; subst f5_))
                                                  have p174 : 0 ≤ (x19_6 : Int) := of_decide_eq_true (by first | (with_reducible assumption) | assumption)
                                                  have q174 : x19_6 < (t159.length : Int) := of_decide_eq_true (by first | (with_reducible assumption) | assumption)
                                                  obtain ⟨ad174, e174, hx174_0⟩ := Kd.at_int (Kd.R_reads' HO_14.out).2.2 x19_6 p174 q174
                                                  cases e174
                                                  replace p174 := eq_true p174
                                                  replace q174 := eq_true q174
                                                  obtain ⟨Ao47, co47, eo47⟩ := Kd.R_slice HO_13.out
                                                  (first | subst eo47 | (injection eo47 with f1_ f2_ f3_; have f4_ := f1_.symm; have f5_ := f3_.symm; clear f1_ f2_ f3_; subst f4_; subst f5_))
                                                  have p175 : 0 ≤ (x17_5 : Int) := of_decide_eq_true (by first | (with_reducible assumption) | assumption)
                                                  have q175 : x17_5 < (t156.length : Int) := of_decide_eq_true (by first | (with_reducible assumption) | assumption)
                                                  obtain ⟨ad175, e175, hx175_0⟩ := Kd.at_int (Kd.R_reads' HO_13.out).2.2 x17_5 p175 q175
                                                  cases e175
                                                  replace p175 := eq_true p175
                                                  replace q175 := eq_true q175
                                                  obtain ⟨Ao48, co48, eo48⟩ := Kd.S_slice HO_11.out
                                                  (first | subst eo48 | (injection eo48 with f1_ f2_ f3_; have f4_ := f1_.symm; have f5_ := f3_.symm; clear f1_ f2_ f3_; subst f4_; subst f5_))
                                                  have p176 : 0 ≤ ((rd t156 x17_5) : Int) := of_decide_eq_true (by first | (with_reducible assumption) | assumption)
                                                  have q176 : (rd t156 x17_5) < (t152.length : Int) := of_decide_eq_true (by first | (with_reducible assumption) | assumption)
                                                  obtain ⟨ad176, A176_0, c176_0, e176, hx176_0, hl176_0, hi176_0⟩ := at_L1 (Kd.S_reads' HO_11.out).2.2 (rd t156 x17_5) p176 q176
                                                  cases e176
                                                  obtain ⟨ce176, hce176, hMe176, hcc176⟩ := Kd.S_get HO_11.out [] (rd t156 x17_5) p176 (by first | exact q176 | exact of_decide_eq_true (by first | (with_reducible assumption) | assumption) | (have e_ := (Kd.S_reads' HO_11.out).1; omega))
                                                  obtain ⟨ve176_0, rfl, ge176_0⟩ := hMe176
                                                  have hv176_0 := hcc176 0 _ rfl
                                                  rw [Nat.add_zero, show ((Kd.slice 5 (Kd.int .u8))).sz = 1 from rfl, Nat.mul_one] at hv176_0
                                                  replace hv176_0 := Option.some.inj (hv176_0.symm.trans hx176_0)
                                                  rw [hv176_0] at ge176_0
                                                  have HL176_0 := Aside0.mk (show Kd.R (Kd.int .u8) 5 _ _ _ _ (rd_L1 t152 (rd t156 x17_5)) from ge176_0)
                                                  clear hv176_0 ge176_0
                                                  clear hcc176 hce176
                                                  have HR176_0 := Aside0.mk hi176_0
                                                  have HC176_0 := Aside0.mk hl176_0
                                                  clear hi176_0 hl176_0
                                                  replace p176 := eq_true p176
                                                  replace q176 := eq_true q176
                                                  refine start_ (n := 13) (S := fun w' => w'.cell? (ad174.add (x19_6).toNat) = some (.int .i64 (rd t159 x19_6)) ∧ w'.cell? (ad175.add (x17_5).toNat) = some (.int .i64 (rd t156 x17_5)) ∧ w'.cell? (ad176.add ((rd t156 x17_5)).toNat) = some (.slice A176_0 (rd_L1 t152 (rd t156 x17_5)).length c176_0)) (ds := []) #[false, false, false, false, false, false, false, false, false, false, false, false, false] (by kernel_rfl) rfl rfl ⟨hx174_0, hx175_0, hx176_0⟩ (fun hHeld => ?_); refine with_tabW dailieslaw04_FieldCauchy.tab27 dailieslaw04_FieldCauchy.bits27 (fun HT_ HW_ => ?_)
                                                  generalize wr.drew = w45 at HO_11 HO_13 HO_14 HO_15 HO_16 HO_18 HB HL176_0 HR176_0 hx174_0 hx175_0 hx176_0 hHeld ⊢
                                                  refine pure_ (i := 0) (N := some 101) (v := ?_) (a' := ?_) #[true, false, false, false, false, false, false, false, false, false, false, false, false] rfl rfl (any_of HT_.out (by kernel_rfl)) (fun _ _ _ h => h) (Or.inl ⟨by rfl, ?_⟩) ?_ ?_
                                                  rotate_left
                                                  · intro w'
                                                    go_simp
                                                    with_reducible rfl
                                                  rotate_left
                                                  · simp only [Act.put, List.setIfInBounds_toArray, List.set_cons_zero, List.set_cons_succ, i64_w, i32_w]
                                                    rfl
                                                  refine pure_ (i := 1) (N := some 102) (v := ?_) (a' := ?_) #[true, true, false, false, false, false, false, false, false, false, false, false, false] rfl rfl (any_of HT_.out (by kernel_rfl)) (fun _ _ _ h => h) (Or.inl ⟨by rfl, ?_⟩) ?_ ?_
                                                  rotate_left
                                                  · intro w'
                                                    go_simp
                                                    with_reducible rfl
                                                  rotate_left
                                                  · simp only [Act.put, List.setIfInBounds_toArray, List.set_cons_zero, List.set_cons_succ, i64_w, i32_w]
                                                    rfl
                                                  refine pure_ (i := 2) (N := some 103) (v := ?_) (a' := ?_) #[true, true, true, false, false, false, false, false, false, false, false, false, false] rfl rfl (any_of HT_.out (by kernel_rfl)) (fun _ _ _ h => h) (Or.inl ⟨by rfl, ?_⟩) ?_ ?_
                                                  rotate_left
                                                  · intro w'
                                                    go_simp
                                                    with_reducible rfl
                                                  rotate_left
                                                  · simp only [Act.put, List.setIfInBounds_toArray, List.set_cons_zero, List.set_cons_succ, i64_w, i32_w]
                                                    rfl
                                                  refine pure_ (i := 4) (N := some 105) (v := ?_) (a' := ?_) #[true, true, true, false, true, false, false, false, false, false, false, false, false] rfl rfl (any_of HT_.out (by kernel_rfl)) (fun _ _ _ h => h) (Or.inl ⟨by rfl, ?_⟩) ?_ ?_
                                                  rotate_left
                                                  · intro w'
                                                    go_simp
                                                    with_reducible rfl
                                                  rotate_left
                                                  · simp only [Act.put, List.setIfInBounds_toArray, List.set_cons_zero, List.set_cons_succ, i64_w, i32_w]
                                                    rfl
                                                  refine pure_ (i := 5) (N := some 106) (v := ?_) (a' := ?_) #[true, true, true, false, true, true, false, false, false, false, false, false, false] rfl rfl (any_of HT_.out (by kernel_rfl)) (fun _ _ _ h => h) (Or.inl ⟨by rfl, ?_⟩) ?_ ?_
                                                  rotate_left
                                                  · intro w'
                                                    go_simp
                                                    with_reducible rfl
                                                  rotate_left
                                                  · simp only [Act.put, List.setIfInBounds_toArray, List.set_cons_zero, List.set_cons_succ, i64_w, i32_w]
                                                    rfl
                                                  refine pure_ (i := 6) (N := some 107) (v := ?_) (a' := ?_) #[true, true, true, false, true, true, true, false, false, false, false, false, false] rfl rfl (any_of HT_.out (by kernel_rfl)) (fun _ _ _ h => h) (Or.inl ⟨by rfl, ?_⟩) ?_ ?_
                                                  rotate_left
                                                  · intro w'
                                                    go_simp
                                                    with_reducible rfl
                                                  rotate_left
                                                  · simp only [Act.put, List.setIfInBounds_toArray, List.set_cons_zero, List.set_cons_succ, i64_w, i32_w]
                                                    rfl
                                                  refine pure_ (i := 7) (N := some 108) (v := ?_) (a' := ?_) #[true, true, true, false, true, true, true, true, false, false, false, false, false] rfl rfl (any_of HT_.out (by kernel_rfl)) (fun _ _ _ h => h) (Or.inl ⟨by rfl, ?_⟩) ?_ ?_
                                                  rotate_left
                                                  · intro w'
                                                    go_simp
                                                    with_reducible rfl
                                                  rotate_left
                                                  · simp only [Act.put, List.setIfInBounds_toArray, List.set_cons_zero, List.set_cons_succ, i64_w, i32_w]
                                                    rfl
                                                  refine take_ (i := 3) (N := some 104) (v := ?_) (a' := ?_) #[true, true, true, true, true, true, true, true, false, false, false, false, false] rfl rfl (take_ofW HT_.out HW_.out (by kernel_rfl)) (fun _ _ _ h => h) (Or.inl ⟨by rfl, ?_⟩) hHeld ?_ ?_
                                                  rotate_left
                                                  · rintro w' ⟨s0, s1, s2⟩
                                                    go_simp
                                                    with_reducible rfl
                                                  rotate_left
                                                  · simp only [Act.put, List.setIfInBounds_toArray, List.set_cons_zero, List.set_cons_succ, i64_w, i32_w]
                                                    rfl
                                                  refine take_ (i := 8) (N := some 109) (v := ?_) (a' := ?_) #[true, true, true, true, true, true, true, true, true, false, false, false, false] rfl rfl (take_ofW HT_.out HW_.out (by kernel_rfl)) (fun _ _ _ h => h) (Or.inl ⟨by rfl, ?_⟩) hHeld ?_ ?_
                                                  rotate_left
                                                  · rintro w' ⟨s0, s1, s2⟩
                                                    go_simp
                                                    with_reducible rfl
                                                  rotate_left
                                                  · simp only [Act.put, List.setIfInBounds_toArray, List.set_cons_zero, List.set_cons_succ, i64_w, i32_w]
                                                    rfl
                                                  refine pure_ (i := 9) (N := some 110) (v := ?_) (a' := ?_) #[true, true, true, true, true, true, true, true, true, true, false, false, false] rfl rfl (any_of HT_.out (by kernel_rfl)) (fun _ _ _ h => h) (Or.inl ⟨by rfl, ?_⟩) ?_ ?_
                                                  rotate_left
                                                  · intro w'
                                                    go_simp
                                                    with_reducible rfl
                                                  rotate_left
                                                  · simp only [Act.put, List.setIfInBounds_toArray, List.set_cons_zero, List.set_cons_succ, i64_w, i32_w]
                                                    rfl
                                                  refine take_ (i := 10) (N := some 111) (v := ?_) (a' := ?_) #[true, true, true, true, true, true, true, true, true, true, true, false, false] rfl rfl (take_ofW HT_.out HW_.out (by kernel_rfl)) (fun _ _ _ h => h) (Or.inl ⟨by rfl, ?_⟩) hHeld ?_ ?_
                                                  rotate_left
                                                  · rintro w' ⟨s0, s1, s2⟩
                                                    go_simp
                                                    with_reducible rfl
                                                  rotate_left
                                                  · simp only [Act.put, List.setIfInBounds_toArray, List.set_cons_zero, List.set_cons_succ, i64_w, i32_w]
                                                    rfl
                                                  refine pure_ (i := 11) (N := some 112) (v := ?_) (a' := ?_) #[true, true, true, true, true, true, true, true, true, true, true, true, false] rfl rfl (any_of HT_.out (by kernel_rfl)) (fun _ _ _ h => h) (Or.inl ⟨by rfl, ?_⟩) ?_ ?_
                                                  rotate_left
                                                  · intro w'
                                                    go_simp
                                                    with_reducible rfl
                                                  rotate_left
                                                  · simp only [Act.put, List.setIfInBounds_toArray, List.set_cons_zero, List.set_cons_succ, i64_w, i32_w]
                                                    rfl
                                                  refine pure_ (i := 12) (N := some 113) (v := ?_) (a' := ?_) #[true, true, true, true, true, true, true, true, true, true, true, true, true] rfl rfl (any_of HT_.out (by kernel_rfl)) (fun _ _ _ h => h) (Or.inl ⟨by rfl, ?_⟩) ?_ ?_
                                                  rotate_left
                                                  · intro w'
                                                    go_simp
                                                    with_reducible rfl
                                                  rotate_left
                                                  · simp only [Act.put, List.setIfInBounds_toArray, List.set_cons_zero, List.set_cons_succ, i64_w, i32_w]
                                                    rfl
                                                  refine done_ (done_of HT_.out (by kernel_rfl)) ?_
                                                  try go_wp2
                                                  go_ret
                                                  exact ⟨by first | rfl | (simp [errW_none, errW_some] <;> rfl) | (simp only [← hji14, ← hji15]; first | rfl | (simp [errW_none, errW_some] <;> rfl)) | (simp [*, errW_none, errW_some] <;> rfl), by repeat (first | (with_reducible first | exact HB.out | apply below_alloc | apply pw_below_drewN | apply below_drew1) | exact HB.out)⟩
                                                · rw [if_neg c44] at H
                                                  have c44b0 : decide (((rd_L1 t152 (rd t156 x17_5)).length : Int) ≤ (rd t159 x19_6)) = false := decide_eq_false c44
                                                  clear c44
                                                  by_cases c49 : 0 ≤ (rd t159 x19_6)
                                                  · rw [if_pos c49] at H
                                                    have c49b0 : decide (0 ≤ (rd t159 x19_6)) = true := decide_eq_true c49
                                                    clear c49
                                                    by_cases c50 : (rd t159 x19_6) < ((rd_L1 t152 (rd t156 x17_5)).length : Int)
                                                    · rw [if_pos c50] at H
                                                      have c50b0 : decide ((rd t159 x19_6) < ((rd_L1 t152 (rd t156 x17_5)).length : Int)) = true := decide_eq_true c50
                                                      clear c50
                                                      by_cases c51 : x19_6 < (x18_6.length : Int)
                                                      · rw [if_pos c51] at H
                                                        have c51b0 : decide (x19_6 < (x18_6.length : Int)) = true := decide_eq_true c51
                                                        clear c51
                                                        obtain ⟨y181, hy181⟩ : ∃ y_ : List Int, y_ = (x18_6.set (x19_6 : Int).toNat (rd (rd_L1 t152 (rd t156 x17_5)) (rd t159 x19_6))) := ⟨_, rfl⟩
                                                        replace H : (dailieslaw04_FieldCauchy.l1 k6 x10_15 t152 t156 t159 x15_5 x16_5 x17_5 y181 (wrap64 (x19_6 + 1))) = some r := by first | (rw [hy181]; with_reducible exact H) | (have H2_ := (Option.bind_some _ _).symm.trans H; rw [hy181]; with_reducible exact H2_) | (have H2_ := (Option.bind_some _ _).symm.trans H; with_reducible exact H2_) | with_reducible exact H | (rw [hy181]; exact H) | exact H
                                                        have Ny181 := Aside0.mk hy181
                                                        clear hy181
                                                        have H' := Aside0.mk H
                                                        clear H
                                                        try go_wp2
                                                        have n0_ := Aside0.mk (Kd.S_drew HO_11.out)
                                                        have n1_ := Aside0.mk (Kd.R_drew HO_13.out)
                                                        have n2_ := Aside0.mk (Kd.R_drew HO_14.out)
                                                        have n3_ := Aside0.mk (Kd.S_drew HO_15.out)
                                                        have n4_ := Aside0.mk (Kd.S_drew HO_16.out)
                                                        have n5_ := Aside0.mk (Kd.R_drew HO_18.out)
                                                        have n6_ := Aside0.mk (below_drew1 HB.out)
                                                        clear HO_11
                                                        clear HO_13
                                                        clear HO_14
                                                        clear HO_15
                                                        clear HO_16
                                                        clear HO_18
                                                        clear HB
                                                        have HO_11 := n0_
                                                        have HO_13 := n1_
                                                        have HO_14 := n2_
                                                        have HO_15 := n3_
                                                        have HO_16 := n4_
                                                        have HO_18 := n5_
                                                        have HB := n6_
                                                        clear n0_ n1_ n2_ n3_ n4_ n5_ n6_
                                                        obtain ⟨Ao54, co54, eo54⟩ := Kd.R_slice HO_14.out
                                                        (first | subst eo54 | (injection eo54 with f1_ f2_ f3_; have f4_ := f1_.symm; have f5_ := f3_.symm; clear f1_ f2_ f3_; subst f4_; subst f5_))
                                                        have p174 : 0 ≤ (x19_6 : Int) := of_decide_eq_true (by first | (with_reducible assumption) | assumption)
                                                        have q174 : x19_6 < (t159.length : Int) := of_decide_eq_true (by first | (with_reducible assumption) | assumption)
                                                        obtain ⟨ad174, e174, hx174_0⟩ := Kd.at_int (Kd.R_reads' HO_14.out).2.2 x19_6 p174 q174
                                                        cases e174
                                                        replace p174 := eq_true p174
                                                        replace q174 := eq_true q174
                                                        obtain ⟨Ao55, co55, eo55⟩ := Kd.R_slice HO_13.out
                                                        (first | subst eo55 | (injection eo55 with f1_ f2_ f3_; have f4_ := f1_.symm; have f5_ := f3_.symm; clear f1_ f2_ f3_; subst f4_; subst f5_))
                                                        have p175 : 0 ≤ (x17_5 : Int) := of_decide_eq_true (by first | (with_reducible assumption) | assumption)
                                                        have q175 : x17_5 < (t156.length : Int) := of_decide_eq_true (by first | (with_reducible assumption) | assumption)
                                                        obtain ⟨ad175, e175, hx175_0⟩ := Kd.at_int (Kd.R_reads' HO_13.out).2.2 x17_5 p175 q175
                                                        cases e175
                                                        replace p175 := eq_true p175
                                                        replace q175 := eq_true q175
                                                        obtain ⟨Ao56, co56, eo56⟩ := Kd.S_slice HO_11.out
                                                        (first | subst eo56 | (injection eo56 with f1_ f2_ f3_; have f4_ := f1_.symm; have f5_ := f3_.symm; clear f1_ f2_ f3_; subst f4_; subst f5_))
                                                        have p176 : 0 ≤ ((rd t156 x17_5) : Int) := of_decide_eq_true (by first | (with_reducible assumption) | assumption)
                                                        have q176 : (rd t156 x17_5) < (t152.length : Int) := of_decide_eq_true (by first | (with_reducible assumption) | assumption)
                                                        obtain ⟨ad176, A176_0, c176_0, e176, hx176_0, hl176_0, hi176_0⟩ := at_L1 (Kd.S_reads' HO_11.out).2.2 (rd t156 x17_5) p176 q176
                                                        cases e176
                                                        obtain ⟨ce176, hce176, hMe176, hcc176⟩ := Kd.S_get HO_11.out [] (rd t156 x17_5) p176 (by first | exact q176 | exact of_decide_eq_true (by first | (with_reducible assumption) | assumption) | (have e_ := (Kd.S_reads' HO_11.out).1; omega))
                                                        obtain ⟨ve176_0, rfl, ge176_0⟩ := hMe176
                                                        have hv176_0 := hcc176 0 _ rfl
                                                        rw [Nat.add_zero, show ((Kd.slice 5 (Kd.int .u8))).sz = 1 from rfl, Nat.mul_one] at hv176_0
                                                        replace hv176_0 := Option.some.inj (hv176_0.symm.trans hx176_0)
                                                        rw [hv176_0] at ge176_0
                                                        have HL176_0 := Aside0.mk (show Kd.R (Kd.int .u8) 5 _ _ _ _ (rd_L1 t152 (rd t156 x17_5)) from ge176_0)
                                                        clear hv176_0 ge176_0
                                                        clear hcc176 hce176
                                                        have HR176_0 := Aside0.mk hi176_0
                                                        have HC176_0 := Aside0.mk hl176_0
                                                        clear hi176_0 hl176_0
                                                        replace p176 := eq_true p176
                                                        replace q176 := eq_true q176
                                                        refine start_ (n := 13) (S := fun w' => w'.cell? (ad174.add (x19_6).toNat) = some (.int .i64 (rd t159 x19_6)) ∧ w'.cell? (ad175.add (x17_5).toNat) = some (.int .i64 (rd t156 x17_5)) ∧ w'.cell? (ad176.add ((rd t156 x17_5)).toNat) = some (.slice A176_0 (rd_L1 t152 (rd t156 x17_5)).length c176_0)) (ds := []) #[false, false, false, false, false, false, false, false, false, false, false, false, false] (by kernel_rfl) rfl rfl ⟨hx174_0, hx175_0, hx176_0⟩ (fun hHeld => ?_); refine with_tabW dailieslaw04_FieldCauchy.tab27 dailieslaw04_FieldCauchy.bits27 (fun HT_ HW_ => ?_)
                                                        generalize wr.drew = w53 at HO_11 HO_13 HO_14 HO_15 HO_16 HO_18 HB HL176_0 HR176_0 hx174_0 hx175_0 hx176_0 hHeld ⊢
                                                        refine pure_ (i := 0) (N := some 101) (v := ?_) (a' := ?_) #[true, false, false, false, false, false, false, false, false, false, false, false, false] rfl rfl (any_of HT_.out (by kernel_rfl)) (fun _ _ _ h => h) (Or.inl ⟨by rfl, ?_⟩) ?_ ?_
                                                        rotate_left
                                                        · intro w'
                                                          go_simp
                                                          with_reducible rfl
                                                        rotate_left
                                                        · simp only [Act.put, List.setIfInBounds_toArray, List.set_cons_zero, List.set_cons_succ, i64_w, i32_w]
                                                          rfl
                                                        refine pure_ (i := 1) (N := some 102) (v := ?_) (a' := ?_) #[true, true, false, false, false, false, false, false, false, false, false, false, false] rfl rfl (any_of HT_.out (by kernel_rfl)) (fun _ _ _ h => h) (Or.inl ⟨by rfl, ?_⟩) ?_ ?_
                                                        rotate_left
                                                        · intro w'
                                                          go_simp
                                                          with_reducible rfl
                                                        rotate_left
                                                        · simp only [Act.put, List.setIfInBounds_toArray, List.set_cons_zero, List.set_cons_succ, i64_w, i32_w]
                                                          rfl
                                                        refine pure_ (i := 2) (N := some 103) (v := ?_) (a' := ?_) #[true, true, true, false, false, false, false, false, false, false, false, false, false] rfl rfl (any_of HT_.out (by kernel_rfl)) (fun _ _ _ h => h) (Or.inl ⟨by rfl, ?_⟩) ?_ ?_
                                                        rotate_left
                                                        · intro w'
                                                          go_simp
                                                          with_reducible rfl
                                                        rotate_left
                                                        · simp only [Act.put, List.setIfInBounds_toArray, List.set_cons_zero, List.set_cons_succ, i64_w, i32_w]
                                                          rfl
                                                        refine pure_ (i := 4) (N := some 105) (v := ?_) (a' := ?_) #[true, true, true, false, true, false, false, false, false, false, false, false, false] rfl rfl (any_of HT_.out (by kernel_rfl)) (fun _ _ _ h => h) (Or.inl ⟨by rfl, ?_⟩) ?_ ?_
                                                        rotate_left
                                                        · intro w'
                                                          go_simp
                                                          with_reducible rfl
                                                        rotate_left
                                                        · simp only [Act.put, List.setIfInBounds_toArray, List.set_cons_zero, List.set_cons_succ, i64_w, i32_w]
                                                          rfl
                                                        refine pure_ (i := 5) (N := some 106) (v := ?_) (a' := ?_) #[true, true, true, false, true, true, false, false, false, false, false, false, false] rfl rfl (any_of HT_.out (by kernel_rfl)) (fun _ _ _ h => h) (Or.inl ⟨by rfl, ?_⟩) ?_ ?_
                                                        rotate_left
                                                        · intro w'
                                                          go_simp
                                                          with_reducible rfl
                                                        rotate_left
                                                        · simp only [Act.put, List.setIfInBounds_toArray, List.set_cons_zero, List.set_cons_succ, i64_w, i32_w]
                                                          rfl
                                                        refine pure_ (i := 6) (N := some 107) (v := ?_) (a' := ?_) #[true, true, true, false, true, true, true, false, false, false, false, false, false] rfl rfl (any_of HT_.out (by kernel_rfl)) (fun _ _ _ h => h) (Or.inl ⟨by rfl, ?_⟩) ?_ ?_
                                                        rotate_left
                                                        · intro w'
                                                          go_simp
                                                          with_reducible rfl
                                                        rotate_left
                                                        · simp only [Act.put, List.setIfInBounds_toArray, List.set_cons_zero, List.set_cons_succ, i64_w, i32_w]
                                                          rfl
                                                        refine pure_ (i := 7) (N := some 108) (v := ?_) (a' := ?_) #[true, true, true, false, true, true, true, true, false, false, false, false, false] rfl rfl (any_of HT_.out (by kernel_rfl)) (fun _ _ _ h => h) (Or.inl ⟨by rfl, ?_⟩) ?_ ?_
                                                        rotate_left
                                                        · intro w'
                                                          go_simp
                                                          with_reducible rfl
                                                        rotate_left
                                                        · simp only [Act.put, List.setIfInBounds_toArray, List.set_cons_zero, List.set_cons_succ, i64_w, i32_w]
                                                          rfl
                                                        refine take_ (i := 3) (N := some 104) (v := ?_) (a' := ?_) #[true, true, true, true, true, true, true, true, false, false, false, false, false] rfl rfl (take_ofW HT_.out HW_.out (by kernel_rfl)) (fun _ _ _ h => h) (Or.inl ⟨by rfl, ?_⟩) hHeld ?_ ?_
                                                        rotate_left
                                                        · rintro w' ⟨s0, s1, s2⟩
                                                          go_simp
                                                          with_reducible rfl
                                                        rotate_left
                                                        · simp only [Act.put, List.setIfInBounds_toArray, List.set_cons_zero, List.set_cons_succ, i64_w, i32_w]
                                                          rfl
                                                        refine take_ (i := 8) (N := some 109) (v := ?_) (a' := ?_) #[true, true, true, true, true, true, true, true, true, false, false, false, false] rfl rfl (take_ofW HT_.out HW_.out (by kernel_rfl)) (fun _ _ _ h => h) (Or.inl ⟨by rfl, ?_⟩) hHeld ?_ ?_
                                                        rotate_left
                                                        · rintro w' ⟨s0, s1, s2⟩
                                                          go_simp
                                                          with_reducible rfl
                                                        rotate_left
                                                        · simp only [Act.put, List.setIfInBounds_toArray, List.set_cons_zero, List.set_cons_succ, i64_w, i32_w]
                                                          rfl
                                                        refine pure_ (i := 9) (N := some 110) (v := ?_) (a' := ?_) #[true, true, true, true, true, true, true, true, true, true, false, false, false] rfl rfl (any_of HT_.out (by kernel_rfl)) (fun _ _ _ h => h) (Or.inl ⟨by rfl, ?_⟩) ?_ ?_
                                                        rotate_left
                                                        · intro w'
                                                          go_simp
                                                          with_reducible rfl
                                                        rotate_left
                                                        · simp only [Act.put, List.setIfInBounds_toArray, List.set_cons_zero, List.set_cons_succ, i64_w, i32_w]
                                                          rfl
                                                        refine take_ (i := 10) (N := some 111) (v := ?_) (a' := ?_) #[true, true, true, true, true, true, true, true, true, true, true, false, false] rfl rfl (take_ofW HT_.out HW_.out (by kernel_rfl)) (fun _ _ _ h => h) (Or.inl ⟨by rfl, ?_⟩) hHeld ?_ ?_
                                                        rotate_left
                                                        · rintro w' ⟨s0, s1, s2⟩
                                                          go_simp
                                                          with_reducible rfl
                                                        rotate_left
                                                        · simp only [Act.put, List.setIfInBounds_toArray, List.set_cons_zero, List.set_cons_succ, i64_w, i32_w]
                                                          rfl
                                                        refine pure_ (i := 11) (N := some 112) (v := ?_) (a' := ?_) #[true, true, true, true, true, true, true, true, true, true, true, true, false] rfl rfl (any_of HT_.out (by kernel_rfl)) (fun _ _ _ h => h) (Or.inl ⟨by rfl, ?_⟩) ?_ ?_
                                                        rotate_left
                                                        · intro w'
                                                          go_simp
                                                          with_reducible rfl
                                                        rotate_left
                                                        · simp only [Act.put, List.setIfInBounds_toArray, List.set_cons_zero, List.set_cons_succ, i64_w, i32_w]
                                                          rfl
                                                        refine pure_ (i := 12) (N := some 113) (v := ?_) (a' := ?_) #[true, true, true, true, true, true, true, true, true, true, true, true, true] rfl rfl (any_of HT_.out (by kernel_rfl)) (fun _ _ _ h => h) (Or.inl ⟨by rfl, ?_⟩) ?_ ?_
                                                        rotate_left
                                                        · intro w'
                                                          go_simp
                                                          with_reducible rfl
                                                        rotate_left
                                                        · simp only [Act.put, List.setIfInBounds_toArray, List.set_cons_zero, List.set_cons_succ, i64_w, i32_w]
                                                          rfl
                                                        refine done_ (done_of HT_.out (by kernel_rfl)) ?_
                                                        try go_wp2
                                                        have n0_ := Aside0.mk (Kd.S_drew HO_11.out)
                                                        have n1_ := Aside0.mk (Kd.R_drew HO_13.out)
                                                        have n2_ := Aside0.mk (Kd.R_drew HO_14.out)
                                                        have n3_ := Aside0.mk (Kd.S_drew HO_15.out)
                                                        have n4_ := Aside0.mk (Kd.S_drew HO_16.out)
                                                        have n5_ := Aside0.mk (Kd.R_drew HO_18.out)
                                                        have n6_ := Aside0.mk (Kd.R_drew HL176_0.out)
                                                        have n7_ := Aside0.mk (Kd.C_drew HR176_0.out)
                                                        have n8_ := Aside0.mk (below_drew1 HB.out)
                                                        clear HO_11
                                                        clear HO_13
                                                        clear HO_14
                                                        clear HO_15
                                                        clear HO_16
                                                        clear HO_18
                                                        clear HL176_0
                                                        clear HR176_0
                                                        clear HB
                                                        have HO_11 := n0_
                                                        have HO_13 := n1_
                                                        have HO_14 := n2_
                                                        have HO_15 := n3_
                                                        have HO_16 := n4_
                                                        have HO_18 := n5_
                                                        have HL176_0 := n6_
                                                        have HR176_0 := n7_
                                                        have HB := n8_
                                                        clear n0_ n1_ n2_ n3_ n4_ n5_ n6_ n7_ n8_
                                                        have p177 : 0 ≤ (x17_5 : Int) := of_decide_eq_true (by first | (with_reducible assumption) | assumption)
                                                        have q177 : x17_5 < (t156.length : Int) := of_decide_eq_true (by first | (with_reducible assumption) | assumption)
                                                        obtain ⟨ad177, e177, hx177_0⟩ := Kd.at_int (Kd.R_reads' HO_13.out).2.2 x17_5 p177 q177
                                                        obtain rfl : ad175 = ad177 := (by injection e177)
                                                        replace p177 := eq_true p177
                                                        replace q177 := eq_true q177
                                                        have p178 : 0 ≤ ((rd t156 x17_5) : Int) := of_decide_eq_true (by first | (with_reducible assumption) | assumption)
                                                        have q178 : (rd t156 x17_5) < (t152.length : Int) := of_decide_eq_true (by first | (with_reducible assumption) | assumption)
                                                        obtain ⟨ad178, A178_0, c178_0, e178, hx178_0, hl178_0, hi178_0⟩ := at_L1 (Kd.S_reads' HO_11.out).2.2 (rd t156 x17_5) p178 q178
                                                        obtain rfl : ad176 = ad178 := (by injection e178)
                                                        obtain ⟨ce178, hce178, hMe178, hcc178⟩ := Kd.S_get HO_11.out [] (rd t156 x17_5) p178 (by first | exact q178 | exact of_decide_eq_true (by first | (with_reducible assumption) | assumption) | (have e_ := (Kd.S_reads' HO_11.out).1; omega))
                                                        obtain ⟨ve178_0, rfl, ge178_0⟩ := hMe178
                                                        have hv178_0 := hcc178 0 _ rfl
                                                        rw [Nat.add_zero, show ((Kd.slice 5 (Kd.int .u8))).sz = 1 from rfl, Nat.mul_one] at hv178_0
                                                        replace hv178_0 := Option.some.inj (hv178_0.symm.trans hx178_0)
                                                        rw [hv178_0] at ge178_0
                                                        have HL178_0 := Aside0.mk (show Kd.R (Kd.int .u8) 5 _ _ _ _ (rd_L1 t152 (rd t156 x17_5)) from ge178_0)
                                                        clear hv178_0 ge178_0
                                                        clear hcc178 hce178
                                                        have HR178_0 := Aside0.mk hi178_0
                                                        have HC178_0 := Aside0.mk hl178_0
                                                        clear hi178_0 hl178_0
                                                        replace p178 := eq_true p178
                                                        replace q178 := eq_true q178
                                                        have p179 : 0 ≤ (x19_6 : Int) := of_decide_eq_true (by first | (with_reducible assumption) | assumption)
                                                        have q179 : x19_6 < (t159.length : Int) := of_decide_eq_true (by first | (with_reducible assumption) | assumption)
                                                        obtain ⟨ad179, e179, hx179_0⟩ := Kd.at_int (Kd.R_reads' HO_14.out).2.2 x19_6 p179 q179
                                                        obtain rfl : ad174 = ad179 := (by injection e179)
                                                        replace p179 := eq_true p179
                                                        replace q179 := eq_true q179
                                                        have p180 : 0 ≤ ((rd t159 x19_6) : Int) := of_decide_eq_true (by first | (with_reducible assumption) | assumption)
                                                        have q180 : (rd t159 x19_6) < ((rd_L1 t152 (rd t156 x17_5)).length : Int) := of_decide_eq_true (by first | (with_reducible assumption) | assumption)
                                                        obtain ⟨ad180, e180, hx180_0⟩ := Kd.at_int (by repeat (first | (with_reducible exact HR178_0.out) | (with_reducible refine Kd.C_alloc ?_ _) | (with_reducible refine Kd.C_drewN ?_ _) | (with_reducible refine Kd.C_drew ?_) | exact HR178_0.out)) (rd t159 x19_6) p180 q180
                                                        cases e180
                                                        replace p180 := eq_true p180
                                                        replace q180 := eq_true q180
                                                        have p52 : 0 ≤ (x19_6 : Int) := of_decide_eq_true (by first | (with_reducible assumption) | assumption)
                                                        have q52 : (x19_6 : Int) < ((x18_6.length : Int) : Int) := of_decide_eq_true (by first | (with_reducible assumption) | assumption)
                                                        obtain ⟨go52, co52, eo52, gb52, gl52, cl52, HG52⟩ := Kd.R_form HO_18.out (by omega)
                                                        (first | cases eo52 | (injection eo52 with ea_ en_ ec_; (first | subst ea_ | (injection ea_ with ea_; subst ea_)); subst ec_; clear en_))
                                                        have GB52 := Aside0.mk gb52
                                                        have GG52 := Aside0.mk HG52
                                                        clear gb52 gl52 HG52
                                                        obtain ⟨hx52_0, hf52_0⟩ := Kd.R_celln 0 HO_18.out (x19_6 : Int) p52 q52
                                                        replace p52 := eq_true p52
                                                        replace q52 := eq_true q52
                                                        have HP58 := Kd.R_putn HO_18.out (x19_6 : Int) (rd (rd_L1 t152 (rd t156 x17_5)) (rd t159 x19_6))
                                                        rw [← Ny181.out] at HP58
                                                        have HQ58 := Aside0.mk HP58
                                                        clear HP58
                                                        refine start_ (n := 17) (S := fun w' => w'.cell? (ad175.add (x17_5).toNat) = some (.int .i64 (rd t156 x17_5)) ∧ w'.cell? (ad176.add ((rd t156 x17_5)).toNat) = some (.slice (some ad180) (rd_L1 t152 (rd t156 x17_5)).length c178_0) ∧ w'.cell? (ad174.add (x19_6).toNat) = some (.int .i64 (rd t159 x19_6)) ∧ w'.cell? (ad180.add ((rd t159 x19_6)).toNat) = some (.int .u8 (rd (rd_L1 t152 (rd t156 x17_5)) (rd t159 x19_6)))) (ds := [16]) #[false, false, false, false, false, false, false, false, false, false, false, false, false, false, false, false, false] (by kernel_rfl) rfl rfl ⟨hx177_0, hx178_0, hx179_0, hx180_0⟩ (fun hHeld => ?_); refine with_tabW dailieslaw04_FieldCauchy.tab29 dailieslaw04_FieldCauchy.bits29 (fun HT_ HW_ => ?_)
                                                        generalize w53.drew = w57 at HO_11 HO_13 HO_14 HO_15 HO_16 HO_18 HL176_0 HR176_0 HB GG52 HL178_0 HQ58 HR178_0 hf52_0 hx177_0 hx178_0 hx179_0 hx180_0 hx52_0 hHeld ⊢
                                                        refine pure_ (i := 0) (N := some 114) (v := ?_) (a' := ?_) #[true, false, false, false, false, false, false, false, false, false, false, false, false, false, false, false, false] rfl rfl (any_of HT_.out (by kernel_rfl)) (fun _ _ _ h => h) (Or.inl ⟨by rfl, ?_⟩) ?_ ?_
                                                        rotate_left
                                                        · intro w'
                                                          go_simp
                                                          with_reducible rfl
                                                        rotate_left
                                                        · simp only [Act.put, List.setIfInBounds_toArray, List.set_cons_zero, List.set_cons_succ, i64_w, i32_w]
                                                          rfl
                                                        refine pure_ (i := 1) (N := some 115) (v := ?_) (a' := ?_) #[true, true, false, false, false, false, false, false, false, false, false, false, false, false, false, false, false] rfl rfl (any_of HT_.out (by kernel_rfl)) (fun _ _ _ h => h) (Or.inl ⟨by rfl, ?_⟩) ?_ ?_
                                                        rotate_left
                                                        · intro w'
                                                          go_simp
                                                          with_reducible rfl
                                                        rotate_left
                                                        · simp only [Act.put, List.setIfInBounds_toArray, List.set_cons_zero, List.set_cons_succ, i64_w, i32_w]
                                                          rfl
                                                        refine pure_ (i := 2) (N := some 116) (v := ?_) (a' := ?_) #[true, true, true, false, false, false, false, false, false, false, false, false, false, false, false, false, false] rfl rfl (any_of HT_.out (by kernel_rfl)) (fun _ _ _ h => h) (Or.inl ⟨by rfl, ?_⟩) ?_ ?_
                                                        rotate_left
                                                        · intro w'
                                                          go_simp
                                                          with_reducible rfl
                                                        rotate_left
                                                        · simp only [Act.put, List.setIfInBounds_toArray, List.set_cons_zero, List.set_cons_succ, i64_w, i32_w]
                                                          rfl
                                                        refine pure_ (i := 3) (N := some 117) (v := ?_) (a' := ?_) #[true, true, true, true, false, false, false, false, false, false, false, false, false, false, false, false, false] rfl rfl (any_of HT_.out (by kernel_rfl)) (fun _ _ _ h => h) (Or.inl ⟨by rfl, ?_⟩) ?_ ?_
                                                        rotate_left
                                                        · intro w'
                                                          go_simp
                                                          with_reducible rfl
                                                        rotate_left
                                                        · simp only [Act.put, List.setIfInBounds_toArray, List.set_cons_zero, List.set_cons_succ, i64_w, i32_w]
                                                          rfl
                                                        refine pure_ (i := 4) (N := some 118) (v := ?_) (a' := ?_) #[true, true, true, true, true, false, false, false, false, false, false, false, false, false, false, false, false] rfl rfl (any_of HT_.out (by kernel_rfl)) (fun _ _ _ h => h) (Or.inl ⟨by rfl, ?_⟩) ?_ ?_
                                                        rotate_left
                                                        · intro w'
                                                          go_simp
                                                          with_reducible rfl
                                                        rotate_left
                                                        · simp only [Act.put, List.setIfInBounds_toArray, List.set_cons_zero, List.set_cons_succ, i64_w, i32_w]
                                                          rfl
                                                        refine pure_ (i := 5) (N := some 119) (v := ?_) (a' := ?_) #[true, true, true, true, true, true, false, false, false, false, false, false, false, false, false, false, false] rfl rfl (any_of HT_.out (by kernel_rfl)) (fun _ _ _ h => h) (Or.inl ⟨by rfl, ?_⟩) ?_ ?_
                                                        rotate_left
                                                        · intro w'
                                                          go_simp
                                                          with_reducible rfl
                                                        rotate_left
                                                        · simp only [Act.put, List.setIfInBounds_toArray, List.set_cons_zero, List.set_cons_succ, i64_w, i32_w]
                                                          rfl
                                                        refine pure_ (i := 9) (N := some 123) (v := ?_) (a' := ?_) #[true, true, true, true, true, true, false, false, false, true, false, false, false, false, false, false, false] rfl rfl (any_of HT_.out (by kernel_rfl)) (fun _ _ _ h => h) (Or.inl ⟨by rfl, ?_⟩) ?_ ?_
                                                        rotate_left
                                                        · intro w'
                                                          go_simp
                                                          with_reducible rfl
                                                        rotate_left
                                                        · simp only [Act.put, List.setIfInBounds_toArray, List.set_cons_zero, List.set_cons_succ, i64_w, i32_w]
                                                          rfl
                                                        refine pure_ (i := 10) (N := some 124) (v := ?_) (a' := ?_) #[true, true, true, true, true, true, false, false, false, true, true, false, false, false, false, false, false] rfl rfl (any_of HT_.out (by kernel_rfl)) (fun _ _ _ h => h) (Or.inl ⟨by rfl, ?_⟩) ?_ ?_
                                                        rotate_left
                                                        · intro w'
                                                          go_simp
                                                          with_reducible rfl
                                                        rotate_left
                                                        · simp only [Act.put, List.setIfInBounds_toArray, List.set_cons_zero, List.set_cons_succ, i64_w, i32_w]
                                                          rfl
                                                        refine pure_ (i := 11) (N := some 125) (v := ?_) (a' := ?_) #[true, true, true, true, true, true, false, false, false, true, true, true, false, false, false, false, false] rfl rfl (any_of HT_.out (by kernel_rfl)) (fun _ _ _ h => h) (Or.inl ⟨by rfl, ?_⟩) ?_ ?_
                                                        rotate_left
                                                        · intro w'
                                                          go_simp
                                                          with_reducible rfl
                                                        rotate_left
                                                        · simp only [Act.put, List.setIfInBounds_toArray, List.set_cons_zero, List.set_cons_succ, i64_w, i32_w]
                                                          rfl
                                                        refine take_ (i := 6) (N := some 120) (v := ?_) (a' := ?_) #[true, true, true, true, true, true, true, false, false, true, true, true, false, false, false, false, false] rfl rfl (take_ofW HT_.out HW_.out (by kernel_rfl)) (fun _ _ _ h => h) (Or.inl ⟨by rfl, ?_⟩) hHeld ?_ ?_
                                                        rotate_left
                                                        · rintro w' ⟨s0, s1, s2, s3⟩
                                                          go_simp
                                                          with_reducible rfl
                                                        rotate_left
                                                        · simp only [Act.put, List.setIfInBounds_toArray, List.set_cons_zero, List.set_cons_succ, i64_w, i32_w]
                                                          rfl
                                                        refine pure_ (i := 7) (N := some 121) (v := ?_) (a' := ?_) #[true, true, true, true, true, true, true, true, false, true, true, true, false, false, false, false, false] rfl rfl (any_of HT_.out (by kernel_rfl)) (fun _ _ _ h => h) (Or.inl ⟨by rfl, ?_⟩) ?_ ?_
                                                        rotate_left
                                                        · intro w'
                                                          go_simp
                                                          with_reducible rfl
                                                        rotate_left
                                                        · simp only [Act.put, List.setIfInBounds_toArray, List.set_cons_zero, List.set_cons_succ, i64_w, i32_w]
                                                          rfl
                                                        refine take_ (i := 8) (N := some 122) (v := ?_) (a' := ?_) #[true, true, true, true, true, true, true, true, true, true, true, true, false, false, false, false, false] rfl rfl (take_ofW HT_.out HW_.out (by kernel_rfl)) (fun _ _ _ h => h) (Or.inl ⟨by rfl, ?_⟩) hHeld ?_ ?_
                                                        rotate_left
                                                        · rintro w' ⟨s0, s1, s2, s3⟩
                                                          go_simp
                                                          with_reducible rfl
                                                        rotate_left
                                                        · simp only [Act.put, List.setIfInBounds_toArray, List.set_cons_zero, List.set_cons_succ, i64_w, i32_w]
                                                          rfl
                                                        refine take_ (i := 12) (N := some 126) (v := ?_) (a' := ?_) #[true, true, true, true, true, true, true, true, true, true, true, true, true, false, false, false, false] rfl rfl (take_ofW HT_.out HW_.out (by kernel_rfl)) (fun _ _ _ h => h) (Or.inl ⟨by rfl, ?_⟩) hHeld ?_ ?_
                                                        rotate_left
                                                        · rintro w' ⟨s0, s1, s2, s3⟩
                                                          go_simp
                                                          with_reducible rfl
                                                        rotate_left
                                                        · simp only [Act.put, List.setIfInBounds_toArray, List.set_cons_zero, List.set_cons_succ, i64_w, i32_w]
                                                          rfl
                                                        refine pure_ (i := 13) (N := some 127) (v := ?_) (a' := ?_) #[true, true, true, true, true, true, true, true, true, true, true, true, true, true, false, false, false] rfl rfl (any_of HT_.out (by kernel_rfl)) (fun _ _ _ h => h) (Or.inl ⟨by rfl, ?_⟩) ?_ ?_
                                                        rotate_left
                                                        · intro w'
                                                          go_simp
                                                          with_reducible rfl
                                                        rotate_left
                                                        · simp only [Act.put, List.setIfInBounds_toArray, List.set_cons_zero, List.set_cons_succ, i64_w, i32_w]
                                                          rfl
                                                        refine take_ (i := 14) (N := some 128) (v := ?_) (a' := ?_) #[true, true, true, true, true, true, true, true, true, true, true, true, true, true, true, false, false] rfl rfl (take_ofW HT_.out HW_.out (by kernel_rfl)) (fun _ _ _ h => h) (Or.inl ⟨by rfl, ?_⟩) hHeld ?_ ?_
                                                        rotate_left
                                                        · rintro w' ⟨s0, s1, s2, s3⟩
                                                          go_simp
                                                          with_reducible rfl
                                                        rotate_left
                                                        · simp only [Act.put, List.setIfInBounds_toArray, List.set_cons_zero, List.set_cons_succ, i64_w, i32_w]
                                                          rfl
                                                        refine pure_ (i := 15) (N := some 129) (v := ?_) (a' := ?_) #[true, true, true, true, true, true, true, true, true, true, true, true, true, true, true, true, false] rfl rfl (any_of HT_.out (by kernel_rfl)) (fun _ _ _ h => h) (Or.inl ⟨by rfl, ?_⟩) ?_ ?_
                                                        rotate_left
                                                        · intro w'
                                                          go_simp
                                                          with_reducible rfl
                                                        rotate_left
                                                        · simp only [Act.put, List.setIfInBounds_toArray, List.set_cons_zero, List.set_cons_succ, i64_w, i32_w]
                                                          rfl
                                                        refine last_ (i := 16) (N := none) #[true, true, true, true, true, true, true, true, true, true, true, true, true, true, true, true, true] rfl rfl (one_of HT_.out (by kernel_rfl)) (by decide) (fun K hK => ?_)
                                                        refine skip_ (w1 := ?_) (by rfl) rfl ?_ ?_
                                                        rotate_left
                                                        · go_simp
                                                          rfl
                                                        refine hK.out _ _ ?_
                                                        clear hK K
                                                        refine done_ (done_of HT_.out (by kernel_rfl)) ?_
                                                        try go_wp2
                                                        go_roundg k6
                                                        case measure => have := HJ4.out; have := HJ9.out; have := HJ15.out; have := HJ21.out; have := HK5.out; have := HK6.out; omega
                                                        case rel => exact ⟨(y181), (wrap64 (x19_6 + 1)), (by first | rfl | (simp; done) | (simp [*]; done)), H', ⟨by have := HJ4.out; have := HJ9.out; have := HJ15.out; have := HJ21.out; have := HK5.out; have := HK6.out; omega⟩, ⟨by (with_reducible repeat (first | apply Kd.S_alloc | apply Kd.S_drewN | apply Kd.S_drew)); exact Kd.S_mono (Kd.S_far (p := ⟨go52, (x19_6 : Int).toNat, none⟩) (Kd.S_mono HO_11.out (fun k_ hk => (⟨hk, fun e_ => hk.2.2 (by rw [e_]; rfl)⟩ : _ ∧ k_ ≠ go52))) (fun _ hk => hk.2) (.int .u8 (rd (rd_L1 t152 (rd t156 x17_5)) (rd t159 x19_6)))) (fun _ hk => ⟨hk.1.1, ⟨hk.1.2.1, hk.1.2.2⟩⟩)⟩, ⟨by (with_reducible repeat (first | apply Kd.R_alloc | apply Kd.R_drewN | apply Kd.R_drew)); exact Kd.R_mono (Kd.R_far (p := ⟨go52, (x19_6 : Int).toNat, none⟩) (Kd.R_types HO_13.out GG52.out (by decide)) (fun _ hk => hk.2) (.int .u8 (rd (rd_L1 t152 (rd t156 x17_5)) (rd t159 x19_6)))) (fun _ hk => hk.1)⟩, ⟨by (with_reducible repeat (first | apply Kd.R_alloc | apply Kd.R_drewN | apply Kd.R_drew)); exact Kd.R_mono (Kd.R_far (p := ⟨go52, (x19_6 : Int).toNat, none⟩) (Kd.R_types HO_14.out GG52.out (by decide)) (fun _ hk => hk.2) (.int .u8 (rd (rd_L1 t152 (rd t156 x17_5)) (rd t159 x19_6)))) (fun _ hk => hk.1)⟩, ⟨by (with_reducible repeat (first | apply Kd.S_alloc | apply Kd.S_drewN | apply Kd.S_drew)); exact Kd.S_mono (Kd.S_far (p := ⟨go52, (x19_6 : Int).toNat, none⟩) (Kd.S_mono HO_15.out (fun k_ hk => (⟨hk, fun e_ => hk.2.2 (by rw [e_]; rfl)⟩ : _ ∧ k_ ≠ go52))) (fun _ hk => hk.2) (.int .u8 (rd (rd_L1 t152 (rd t156 x17_5)) (rd t159 x19_6)))) (fun _ hk => ⟨hk.1.1, ⟨hk.1.2.1, hk.1.2.2⟩⟩)⟩, ⟨by (with_reducible repeat (first | apply Kd.S_alloc | apply Kd.S_drewN | apply Kd.S_drew)); exact Kd.S_mono (Kd.S_far (p := ⟨go52, (x19_6 : Int).toNat, none⟩) (Kd.S_mono HO_16.out (fun k_ hk => (⟨hk, fun e_ => hk.2.2 (by rw [e_]; rfl)⟩ : _ ∧ k_ ≠ go52))) (fun _ hk => hk.2) (.int .u8 (rd (rd_L1 t152 (rd t156 x17_5)) (rd t159 x19_6)))) (fun _ hk => ⟨hk.1.1, ⟨hk.1.2.1, hk.1.2.2⟩⟩)⟩, ⟨by (with_reducible repeat (first | apply Kd.R_alloc | apply Kd.R_drewN | apply Kd.R_drew)); exact HQ58.out⟩, ⟨by repeat (first | (with_reducible first | exact HB.out | apply below_alloc | apply pw_below_drewN | apply below_drew1 | refine below_set ?_ GB52.out) | exact HB.out)⟩⟩
                                                      · rw [if_neg c51] at H
                                                        exact absurd H (by simp)
                                                    · rw [if_neg c50] at H
                                                      exact absurd H (by simp)
                                                  · rw [if_neg c49] at H
                                                    exact absurd H (by simp)
                                              · rw [if_neg c43] at H
                                                exact absurd H (by simp)
                                            · rw [if_neg c42] at H
                                              exact absurd H (by simp)
                                          · rw [if_neg c41] at H
                                            exact absurd H (by simp)
                                        · rw [if_neg c40] at H
                                          exact absurd H (by simp)
                                      · rw [if_neg c39] at H
                                        exact absurd H (by simp)
                                    · rw [if_neg c38] at H
                                      exact absurd H (by simp)
                                  · rw [if_neg c37] at H
                                    have c37b0 : decide (x19_6 < x10_15) = false := decide_eq_false c37
                                    clear c37
                                    by_cases c59 : x15_5.length < 5864062014805
                                    · rw [if_pos c59] at H
                                      have LMc59 := Aside0.mk c59
                                      clear c59
                                      obtain ⟨y182, hy182⟩ : ∃ y_ : List (List Int), y_ = (x15_5 ++ [x18_6]) := ⟨_, rfl⟩
                                      replace H : (if x16_5.length < 5864062014805 then (dailieslaw04_FieldCauchy.l0 k6 x10_15 t152 t156 t159 y182 (x16_5 ++ [(([(x17_5) % 256, (wrap64 (3 * x17_5)) % 256] : List Int))]) (wrap64 (x17_5 + 1))) else (none)) = some r := by first | (rw [hy182]; with_reducible exact H) | (have H2_ := (Option.bind_some _ _).symm.trans H; rw [hy182]; with_reducible exact H2_) | (have H2_ := (Option.bind_some _ _).symm.trans H; with_reducible exact H2_) | with_reducible exact H | (rw [hy182]; exact H) | exact H
                                      have Ny182 := Aside0.mk hy182
                                      clear hy182
                                      obtain ⟨y185, hy185⟩ : ∃ y_ : List Int, y_ = (([(x17_5) % 256, (wrap64 (3 * x17_5)) % 256] : List Int)) := ⟨_, rfl⟩
                                      replace H : (if x16_5.length < 5864062014805 then (dailieslaw04_FieldCauchy.l0 k6 x10_15 t152 t156 t159 y182 (x16_5 ++ [y185]) (wrap64 (x17_5 + 1))) else (none)) = some r := by first | (rw [hy185]; with_reducible exact H) | (have H2_ := (Option.bind_some _ _).symm.trans H; rw [hy185]; with_reducible exact H2_) | (have H2_ := (Option.bind_some _ _).symm.trans H; with_reducible exact H2_) | with_reducible exact H | (rw [hy185]; exact H) | exact H
                                      have Ny185 := Aside0.mk hy185
                                      clear hy185
                                      by_cases c60 : x16_5.length < 5864062014805
                                      · rw [if_pos c60] at H
                                        have LMc60 := Aside0.mk c60
                                        clear c60
                                        obtain ⟨y188, hy188⟩ : ∃ y_ : List (List Int), y_ = (x16_5 ++ [y185]) := ⟨_, rfl⟩
                                        replace H : (dailieslaw04_FieldCauchy.l0 k6 x10_15 t152 t156 t159 y182 y188 (wrap64 (x17_5 + 1))) = some r := by first | (rw [hy188]; with_reducible exact H) | (have H2_ := (Option.bind_some _ _).symm.trans H; rw [hy188]; with_reducible exact H2_) | (have H2_ := (Option.bind_some _ _).symm.trans H; with_reducible exact H2_) | with_reducible exact H | (rw [hy188]; exact H) | exact H
                                        have Ny188 := Aside0.mk hy188
                                        clear hy188
                                        have H' := Aside0.mk H
                                        clear H
                                        obtain ⟨Ao62, co62, eo62⟩ := Kd.R_slice HO_18.out
                                        subst eo62
                                        go_wp2_with (first | ((with_reducible refine gate_builtin (b := .append) (xs := #[.tmp 130, .tmp 132]) rfl ?_); (try (refine gate_guard (by rfl) ?_; dsimp only)); at_builtin; refine Kd.S_append (Kd.slice 5 (Kd.int .u8)) (w0 := w) w.heap.size rfl (.tmp 130) (.tmp 132) 38 29 (.slice none 0 0) 24 rfl Try.underlying38 info29 rfl (by decide) (by omega) u15 x15_5 x18_6 [.slice Ao62 x18_6.length co62] (fun k_ => some k_ ≠ (v154 : Value).ownBlock ∧ some k_ ≠ (u16 : Value).ownBlock) (fun k_ => some k_ = (.slice Ao62 x18_6.length co62 : Value).ownBlock) rfl rfl ?aP (fun k_ hk_ => ((Kd.R_mono (ok' := fun k_ => ((fun k_ => some k_ ≠ (v154 : Value).ownBlock ∧ some k_ ≠ (u16 : Value).ownBlock)) k_ ∧ some k_ ≠ (u15 : Value).ownBlock) (Kd.R_apart' (Kd.R_apart' (Kd.R_apart' (HO_18.out) (Kd.S_typed HO_11.out) (by decide)) (Kd.S_typed HO_16.out) (by decide)) (Kd.S_typed HO_15.out) (by decide)) (fun k_ hk => ⟨⟨hk.1.1.2, hk.1.2⟩, hk.2⟩))).1 k_ hk_.symm) ?aF ?aO ?aB ?aS ?aL ?_; (case aP => exact Kd.M_row (Kd.R_mono (Kd.R_tight rfl (Kd.R_mono (ok' := fun k_ => ((fun k_ => some k_ ≠ (v154 : Value).ownBlock ∧ some k_ ≠ (u16 : Value).ownBlock)) k_ ∧ some k_ ≠ (u15 : Value).ownBlock) (Kd.R_apart' (Kd.R_apart' (Kd.R_apart' (HO_18.out) (Kd.S_typed HO_11.out) (by decide)) (Kd.S_typed HO_16.out) (by decide)) (Kd.S_typed HO_15.out) (by decide)) (fun k_ hk => ⟨⟨hk.1.1.2, hk.1.2⟩, hk.2⟩))) (fun _ h_ => h_))); (case aB => exact (by repeat (first | (with_reducible first | exact HB.out | apply below_alloc | apply pw_below_drewN | apply below_drew1) | exact HB.out))); (case aF => exact (fun k_ hk => ⟨Kd.fresh' (Kd.S_lt (by (with_reducible repeat (first | apply Kd.S_alloc | apply Kd.S_drewN | apply Kd.S_drew)); exact HO_11.out)) k_ hk, Kd.fresh' (Kd.S_lt (by (with_reducible repeat (first | apply Kd.S_alloc | apply Kd.S_drewN | apply Kd.S_drew)); exact HO_16.out)) k_ hk⟩)); (case aO => exact (by (with_reducible repeat (first | apply Kd.S_alloc | apply Kd.S_drewN | apply Kd.S_drew)); exact Kd.S_mono HO_15.out (fun k_ hk => ⟨⟨hk.1, hk.2.1⟩, fun e_ => hk.2.2 e_⟩))); (case aS => exact (below_size (by repeat (first | (with_reducible first | exact HB.out | apply below_alloc | apply pw_below_drewN | apply below_drew1) | exact HB.out)))); (case aL => have := LMc59.out; omega); intro v183 w61 ho hb hg hat; rw [← Ny182.out] at ho; have n0_ := Aside0.mk (Kd.S_after (ok := (fun k_ => some k_ ≠ (u16 : Value).ownBlock ∧ some k_ ≠ (.slice Ao62 x18_6.length co62 : Value).ownBlock)) (by (with_reducible repeat (first | apply Kd.S_alloc | apply Kd.S_drewN | apply Kd.S_drew)); exact Kd.S_mono HO_11.out (fun _ hk => ⟨⟨hk.2.1, hk.2.2⟩, hk.1⟩)) hg hat); have n1_ := Aside0.mk (Kd.R_over' (by (with_reducible repeat (first | apply Kd.R_alloc | apply Kd.R_drewN | apply Kd.R_drew)); exact HO_13.out) (Kd.S_typed (by (with_reducible repeat (first | apply Kd.S_alloc | apply Kd.S_drewN | apply Kd.S_drew)); exact HO_15.out)) (by decide) hg); have n2_ := Aside0.mk (Kd.R_over' (by (with_reducible repeat (first | apply Kd.R_alloc | apply Kd.R_drewN | apply Kd.R_drew)); exact HO_14.out) (Kd.S_typed (by (with_reducible repeat (first | apply Kd.S_alloc | apply Kd.S_drewN | apply Kd.S_drew)); exact HO_15.out)) (by decide) hg); have n3_ := Aside0.mk (Kd.S_after (ok := (fun k_ => some k_ ≠ (v154 : Value).ownBlock ∧ some k_ ≠ (.slice Ao62 x18_6.length co62 : Value).ownBlock)) (by (with_reducible repeat (first | apply Kd.S_alloc | apply Kd.S_drewN | apply Kd.S_drew)); exact Kd.S_mono HO_16.out (fun _ hk => ⟨⟨hk.1, hk.2.2⟩, hk.2.1⟩)) hg hat); have n4_ := Aside0.mk (hb); have n5_ := Aside0.mk (ho); clear HO_11; clear HO_13; clear HO_14; clear HO_16; clear HB; clear HO_15; clear HO_18; have HO_11 := n0_; have HO_13 := n1_; have HO_14 := n2_; have HO_16 := n3_; have HB := n4_; have HO184 := n5_; clear n0_ n1_ n2_ n3_ n4_ n5_; clear ho hb hg hat) | ((with_reducible refine gate_dst (N := 140) rfl ?_); (try (refine gate_guard (by rfl) ?_; dsimp only)); refine Kd.R_lit (Kd.int .u8) _ 5 ?hg (N := 140) ?hd (xs := ([(x17_5) % 256, (wrap64 (3 * x17_5)) % 256] : List Int)) (inner := [.int .u8 ((x17_5) % 256), .int .u8 ((wrap64 (3 * x17_5)) % 256)]) (ok := fun _ => True) (okp := fun _ => True) ?hr ?hp (fun _ hk => hk) trivial (Below.refl _ _) (Nat.le_refl _) (by simp) ?_; (case hd => rfl); (case hg => rfl); (case hr => first | (go_simp; done) | (go_simp; rfl)); (case hp => exact (Reps.one (show Kd.M (Kd.int .u8) _ _ _ ((x17_5) % 256) [.int .u8 ((x17_5) % 256)] from rfl) (Reps.one (show Kd.M (Kd.int .u8) _ _ _ ((wrap64 (3 * x17_5)) % 256) [.int .u8 ((wrap64 (3 * x17_5)) % 256)] from rfl) (Reps.none _ _)))); intro v186 w63 ho64 hb hg_ hnew_; clear hg_ hnew_; (first | rw [← Ny185.out] at ho64 | (simp only [Int.reduceToNat] at ho64; rw [← Ny185.out] at ho64)); have n0_ := Aside0.mk (Kd.S_elder' (by (with_reducible repeat (first | apply Kd.S_alloc | apply Kd.S_drewN | apply Kd.S_drew)); exact HO_11.out) (Kd.R_base ho64) hb); have n1_ := Aside0.mk (Kd.R_below (by (with_reducible repeat (first | apply Kd.R_alloc | apply Kd.R_drewN | apply Kd.R_drew)); exact HO_13.out) hb); have n2_ := Aside0.mk (Kd.R_below (by (with_reducible repeat (first | apply Kd.R_alloc | apply Kd.R_drewN | apply Kd.R_drew)); exact HO_14.out) hb); have n3_ := Aside0.mk (Kd.S_elder' (by (with_reducible repeat (first | apply Kd.S_alloc | apply Kd.S_drewN | apply Kd.S_drew)); exact HO_16.out) (Kd.R_base ho64) hb); have n4_ := Aside0.mk (Kd.S_elder' (by (with_reducible repeat (first | apply Kd.S_alloc | apply Kd.S_drewN | apply Kd.S_drew)); exact HO184.out) (Kd.R_base ho64) hb); have n5_ := Aside0.mk (Kd.R_lower ho64 (below_size (by repeat (first | (with_reducible first | exact HB.out | apply below_alloc | apply pw_below_drewN | apply below_drew1) | exact HB.out)))); have n6_ := Aside0.mk (below_step (by repeat (first | (with_reducible first | exact HB.out | apply below_alloc | apply pw_below_drewN | apply below_drew1) | exact HB.out)) hb); clear HO_11; clear HO_13; clear HO_14; clear HO_16; clear HO184; clear HB; have HO_11 := n0_; have HO_13 := n1_; have HO_14 := n2_; have HO_16 := n3_; have HO184 := n4_; have HO187 := n5_; have HB := n6_; clear n0_ n1_ n2_ n3_ n4_ n5_ n6_; clear hb ho64; obtain ⟨Ao66, co66, eo66⟩ := Kd.R_slice HO187.out; subst eo66) | ((with_reducible refine gate_builtin (b := .append) (xs := #[.tmp 134, .tmp 141]) rfl ?_); (try (refine gate_guard (by rfl) ?_; dsimp only)); at_builtin; refine Kd.S_append (Kd.slice 5 (Kd.int .u8)) (w0 := w) w.heap.size rfl (.tmp 134) (.tmp 141) 38 29 (.slice none 0 0) 24 rfl Try.underlying38 info29 rfl (by decide) (by omega) u16 x16_5 y185 [.slice Ao66 y185.length co66] (fun k_ => some k_ ≠ (v154 : Value).ownBlock ∧ some k_ ≠ (v183 : Value).ownBlock) (fun k_ => some k_ = (.slice Ao66 y185.length co66 : Value).ownBlock) rfl rfl ?aP (fun k_ hk_ => ((Kd.R_mono (ok' := fun k_ => ((fun k_ => some k_ ≠ (v154 : Value).ownBlock ∧ some k_ ≠ (v183 : Value).ownBlock)) k_ ∧ some k_ ≠ (u16 : Value).ownBlock) (Kd.R_apart' (Kd.R_apart' (Kd.R_apart' (HO187.out) (Kd.S_typed HO_11.out) (by decide)) (Kd.S_typed HO184.out) (by decide)) (Kd.S_typed HO_16.out) (by decide)) (fun k_ hk => ⟨⟨hk.1.1.2, hk.1.2⟩, hk.2⟩))).1 k_ hk_.symm) ?aF ?aO ?aB ?aS ?aL ?_; (case aP => exact Kd.M_row (Kd.R_mono (Kd.R_tight rfl (Kd.R_mono (ok' := fun k_ => ((fun k_ => some k_ ≠ (v154 : Value).ownBlock ∧ some k_ ≠ (v183 : Value).ownBlock)) k_ ∧ some k_ ≠ (u16 : Value).ownBlock) (Kd.R_apart' (Kd.R_apart' (Kd.R_apart' (HO187.out) (Kd.S_typed HO_11.out) (by decide)) (Kd.S_typed HO184.out) (by decide)) (Kd.S_typed HO_16.out) (by decide)) (fun k_ hk => ⟨⟨hk.1.1.2, hk.1.2⟩, hk.2⟩))) (fun _ h_ => h_))); (case aB => exact (by repeat (first | (with_reducible first | exact HB.out | apply below_alloc | apply pw_below_drewN | apply below_drew1) | exact HB.out))); (case aF => exact (fun k_ hk => ⟨Kd.fresh' (Kd.S_lt (by (with_reducible repeat (first | apply Kd.S_alloc | apply Kd.S_drewN | apply Kd.S_drew)); exact HO_11.out)) k_ hk, Kd.fresh' (Kd.S_lt (by (with_reducible repeat (first | apply Kd.S_alloc | apply Kd.S_drewN | apply Kd.S_drew)); exact HO184.out)) k_ hk⟩)); (case aO => exact (by (with_reducible repeat (first | apply Kd.S_alloc | apply Kd.S_drewN | apply Kd.S_drew)); exact Kd.S_mono HO_16.out (fun k_ hk => ⟨⟨hk.1.1.1, hk.1.2⟩, fun e_ => hk.2 e_⟩))); (case aS => exact (below_size (by repeat (first | (with_reducible first | exact HB.out | apply below_alloc | apply pw_below_drewN | apply below_drew1) | exact HB.out)))); (case aL => have := LMc60.out; omega); intro v189 w65 ho hb hg hat; rw [← Ny188.out] at ho; have n0_ := Aside0.mk (Kd.S_after (ok := (fun k_ => some k_ ≠ (v183 : Value).ownBlock ∧ some k_ ≠ (.slice Ao66 y185.length co66 : Value).ownBlock)) (by (with_reducible repeat (first | apply Kd.S_alloc | apply Kd.S_drewN | apply Kd.S_drew)); exact Kd.S_mono HO_11.out (fun _ hk => ⟨⟨hk.1.2, hk.2⟩, hk.1.1.1⟩)) hg hat); have n1_ := Aside0.mk (Kd.R_over' (by (with_reducible repeat (first | apply Kd.R_alloc | apply Kd.R_drewN | apply Kd.R_drew)); exact HO_13.out) (Kd.S_typed (by (with_reducible repeat (first | apply Kd.S_alloc | apply Kd.S_drewN | apply Kd.S_drew)); exact HO_16.out)) (by decide) hg); have n2_ := Aside0.mk (Kd.R_over' (by (with_reducible repeat (first | apply Kd.R_alloc | apply Kd.R_drewN | apply Kd.R_drew)); exact HO_14.out) (Kd.S_typed (by (with_reducible repeat (first | apply Kd.S_alloc | apply Kd.S_drewN | apply Kd.S_drew)); exact HO_16.out)) (by decide) hg); have n3_ := Aside0.mk (Kd.S_after (ok := (fun k_ => some k_ ≠ (v154 : Value).ownBlock ∧ some k_ ≠ (.slice Ao66 y185.length co66 : Value).ownBlock)) (by (with_reducible repeat (first | apply Kd.S_alloc | apply Kd.S_drewN | apply Kd.S_drew)); exact Kd.S_mono HO184.out (fun _ hk => ⟨⟨hk.1.1, hk.2⟩, hk.1.2⟩)) hg hat); have n4_ := Aside0.mk (hb); have n5_ := Aside0.mk (ho); clear HO_11; clear HO_13; clear HO_14; clear HO184; clear HB; clear HO_16; clear HO187; have HO_11 := n0_; have HO_13 := n1_; have HO_14 := n2_; have HO184 := n3_; have HB := n4_; have HO190 := n5_; clear n0_ n1_ n2_ n3_ n4_ n5_; clear ho hb hg hat))
                                        go_roundg k6
                                        case measure => have := HJ4.out; have := HJ9.out; have := HJ15.out; have := HJ21.out; have := HK5.out; have := HK6.out; omega
                                        case rel => exact ⟨(y182), (y188), (wrap64 (x17_5 + 1)), (by first | rfl | (simp; done) | (simp [*]; done)), H', ⟨by have := HJ4.out; have := HJ9.out; have := HJ15.out; have := HJ21.out; have := HK5.out; have := HK6.out; omega⟩, ⟨by (with_reducible repeat (first | apply Kd.S_alloc | apply Kd.S_drewN | apply Kd.S_drew)); exact Kd.S_mono HO_11.out (fun _ hk => ⟨hk.1.1, hk.2⟩)⟩, ⟨by (with_reducible repeat (first | apply Kd.R_alloc | apply Kd.R_drewN | apply Kd.R_drew)); exact HO_13.out⟩, ⟨by (with_reducible repeat (first | apply Kd.R_alloc | apply Kd.R_drewN | apply Kd.R_drew)); exact HO_14.out⟩, ⟨by (with_reducible repeat (first | apply Kd.S_alloc | apply Kd.S_drewN | apply Kd.S_drew)); exact Kd.S_mono HO184.out (fun _ hk => ⟨hk.1.1, hk.2⟩)⟩, ⟨by (with_reducible repeat (first | apply Kd.S_alloc | apply Kd.S_drewN | apply Kd.S_drew)); exact HO190.out⟩, ⟨by repeat (first | (with_reducible first | exact HB.out | apply below_alloc | apply pw_below_drewN | apply below_drew1) | exact HB.out)⟩⟩
                                      · rw [if_neg c60] at H
                                        exact absurd H (by simp)
                                    · rw [if_neg c59] at H
                                      exact absurd H (by simp)
                            · rw [if_neg c34] at H
                              exact absurd H (by simp)
                          · rw [if_neg c33] at H
                            exact absurd H (by simp)
                        · rw [if_neg c32] at H
                          have c32b0 : decide (x17_5 < x10_15) = false := decide_eq_false c32
                          clear c32
                          replace H := Option.bind_eq_some_iff.mp H
                          obtain ⟨⟨t162, t163⟩, A670, H⟩ := H
                          replace H : ((field_Times.f k5 x15_5 t162).bind fun bt166 => ((dailieslaw04_same.f bt166.1 x16_5).bind fun t170 => (if t163 = 0 then (if bt166.2 = 0 then (some t170) else (some false)) else (some false)))) = some r := H
                          have A67 := Aside0.mk A670
                          clear A670
                          replace H := Option.bind_eq_some_iff.mp H
                          obtain ⟨⟨t166, t167⟩, A680, H⟩ := H
                          replace H : ((dailieslaw04_same.f t166 x16_5).bind fun t170 => (if t163 = 0 then (if t167 = 0 then (some t170) else (some false)) else (some false))) = some r := H
                          have A68 := Aside0.mk A680
                          clear A680
                          replace H := Option.bind_eq_some_iff.mp H
                          obtain ⟨t170, A690, H⟩ := H
                          replace H : (if t163 = 0 then (if t167 = 0 then (some t170) else (some false)) else (some false)) = some r := H
                          have A69 := Aside0.mk A690
                          clear A690
                          by_cases c70 : t163 = 0
                          · rw [if_pos c70] at H
                            have c70b0 : (t163 == 0) = true := beq_iff_eq.mpr c70
                            have c70b1 : (t163 != 0) = false := bne_eq_false_iff_eq.mpr c70
                            clear c70
                            by_cases c71 : t167 = 0
                            · rw [if_pos c71] at H
                              have c71b0 : (t167 == 0) = true := beq_iff_eq.mpr c71
                              have c71b1 : (t167 != 0) = false := bne_eq_false_iff_eq.mpr c71
                              clear c71
                              obtain rfl := Option.some.inj H
                              obtain ⟨Ao72, co72, eo72⟩ := Kd.S_slice HO_15.out
                              subst eo72
                              obtain ⟨Ao73, co73, eo73⟩ := Kd.S_slice HO_16.out
                              subst eo73
                              go_wp2_with (first | ((with_reducible refine gate_callee (f := 34) rfl ?_); refine goesL_ (some 146) rfl rfl Try.func34 (by kernel_rfl) rfl #[.slice Ao72 x15_5.length co72, .slice Ao73 x16_5.length co73] rfl (by (try simp only [List.map_toArray, List.map_cons, List.map_nil]); first | done | rfl | (simp only [List.length_drop, List.length_take]; rfl)) ?_; (with_reducible refine (field_Solve.calls _ _ x15_5 _ _ x16_5 t162 t163 _ ?side1 ?side2 ?side3 ?side4 A67.out).mono ?_); (case side1 => repeat (first | exact (Kd.S_reads' HO_15.out).2.2 | (with_reducible refine Kd.C_alloc ?_ _) | (with_reducible refine Kd.C_drewN ?_ _) | (with_reducible refine Kd.C_drew ?_))); (case side2 => exact (Kd.S_reads' HO_15.out).2.1); (case side3 => repeat (first | exact (Kd.S_reads' HO_16.out).2.2 | (with_reducible refine Kd.C_alloc ?_ _) | (with_reducible refine Kd.C_drewN ?_ _) | (with_reducible refine Kd.C_drew ?_))); (case side4 => exact (Kd.S_reads' HO_16.out).2.1); rintro e w74 ⟨v164, rfl, ho0, hb⟩; refine ⟨_, rfl, ?_⟩; have n0_ := Aside0.mk (Kd.S_elder' (by (with_reducible repeat (first | apply Kd.S_alloc | apply Kd.S_drewN | apply Kd.S_drew)); exact HO_11.out) (Kd.S_base ho0) hb); have n1_ := Aside0.mk (Kd.R_below (by (with_reducible repeat (first | apply Kd.R_alloc | apply Kd.R_drewN | apply Kd.R_drew)); exact HO_13.out) hb); have n2_ := Aside0.mk (Kd.R_below (by (with_reducible repeat (first | apply Kd.R_alloc | apply Kd.R_drewN | apply Kd.R_drew)); exact HO_14.out) hb); have n3_ := Aside0.mk (Kd.S_elder' (by (with_reducible repeat (first | apply Kd.S_alloc | apply Kd.S_drewN | apply Kd.S_drew)); exact HO_15.out) (Kd.S_base ho0) hb); have n4_ := Aside0.mk (Kd.S_elder' (by (with_reducible repeat (first | apply Kd.S_alloc | apply Kd.S_drewN | apply Kd.S_drew)); exact HO_16.out) (Kd.S_base ho0) hb); have n5_ := Aside0.mk (Kd.S_lower (Kd.S_new' (Kd.S_new' (Kd.S_new' ho0 (Kd.S_lt (by (with_reducible repeat (first | apply Kd.S_alloc | apply Kd.S_drewN | apply Kd.S_drew)); exact HO_11.out))) (Kd.S_lt (by (with_reducible repeat (first | apply Kd.S_alloc | apply Kd.S_drewN | apply Kd.S_drew)); exact HO_15.out))) (Kd.S_lt (by (with_reducible repeat (first | apply Kd.S_alloc | apply Kd.S_drewN | apply Kd.S_drew)); exact HO_16.out))) (below_size (by repeat (first | (with_reducible first | exact HB.out | apply below_alloc | apply pw_below_drewN | apply below_drew1) | exact HB.out)))); have n6_ := Aside0.mk (below_step (by repeat (first | (with_reducible first | exact HB.out | apply below_alloc | apply pw_below_drewN | apply below_drew1) | exact HB.out)) hb); clear HO_11; clear HO_13; clear HO_14; clear HO_15; clear HO_16; clear HB; have HO_11 := n0_; have HO_13 := n1_; have HO_14 := n2_; have HO_15 := n3_; have HO_16 := n4_; have HO165 := n5_; have HB := n6_; clear n0_ n1_ n2_ n3_ n4_ n5_ n6_; (try clear hb); (try clear hb2); (try clear hk); (try clear hi); (try clear ho0); obtain ⟨Ao75, co75, eo75⟩ := Kd.S_slice HO165.out; subst eo75) | ((with_reducible refine gate_callee (f := 33) rfl ?_); refine goesL_ (some 152) rfl rfl Try.func33 (by kernel_rfl) rfl #[.slice Ao72 x15_5.length co72, .slice Ao75 t162.length co75] rfl (by (try simp only [List.map_toArray, List.map_cons, List.map_nil]); first | done | rfl | (simp only [List.length_drop, List.length_take]; rfl)) ?_; (with_reducible refine (field_Times.calls k5 _ _ x15_5 _ _ t162 t166 t167 _ ?side1 ?side2 ?side3 ?side4 A68.out).mono ?_); (case side1 => repeat (first | exact (Kd.S_reads' HO_15.out).2.2 | (with_reducible refine Kd.C_alloc ?_ _) | (with_reducible refine Kd.C_drewN ?_ _) | (with_reducible refine Kd.C_drew ?_))); (case side2 => exact (Kd.S_reads' HO_15.out).2.1); (case side3 => repeat (first | exact (Kd.S_reads' HO165.out).2.2 | (with_reducible refine Kd.C_alloc ?_ _) | (with_reducible refine Kd.C_drewN ?_ _) | (with_reducible refine Kd.C_drew ?_))); (case side4 => exact (Kd.S_reads' HO165.out).2.1); rintro e w76 ⟨v168, rfl, ho0, hb⟩; refine ⟨_, rfl, ?_⟩; have n0_ := Aside0.mk (Kd.S_elder' (by (with_reducible repeat (first | apply Kd.S_alloc | apply Kd.S_drewN | apply Kd.S_drew)); exact HO_11.out) (Kd.S_base ho0) hb); have n1_ := Aside0.mk (Kd.R_below (by (with_reducible repeat (first | apply Kd.R_alloc | apply Kd.R_drewN | apply Kd.R_drew)); exact HO_13.out) hb); have n2_ := Aside0.mk (Kd.R_below (by (with_reducible repeat (first | apply Kd.R_alloc | apply Kd.R_drewN | apply Kd.R_drew)); exact HO_14.out) hb); have n3_ := Aside0.mk (Kd.S_elder' (by (with_reducible repeat (first | apply Kd.S_alloc | apply Kd.S_drewN | apply Kd.S_drew)); exact HO_15.out) (Kd.S_base ho0) hb); have n4_ := Aside0.mk (Kd.S_elder' (by (with_reducible repeat (first | apply Kd.S_alloc | apply Kd.S_drewN | apply Kd.S_drew)); exact HO_16.out) (Kd.S_base ho0) hb); have n5_ := Aside0.mk (Kd.S_elder' (by (with_reducible repeat (first | apply Kd.S_alloc | apply Kd.S_drewN | apply Kd.S_drew)); exact HO165.out) (Kd.S_base ho0) hb); have n6_ := Aside0.mk (Kd.S_lower (Kd.S_new' (Kd.S_new' (Kd.S_new' (Kd.S_new' ho0 (Kd.S_lt (by (with_reducible repeat (first | apply Kd.S_alloc | apply Kd.S_drewN | apply Kd.S_drew)); exact HO_11.out))) (Kd.S_lt (by (with_reducible repeat (first | apply Kd.S_alloc | apply Kd.S_drewN | apply Kd.S_drew)); exact HO_15.out))) (Kd.S_lt (by (with_reducible repeat (first | apply Kd.S_alloc | apply Kd.S_drewN | apply Kd.S_drew)); exact HO_16.out))) (Kd.S_lt (by (with_reducible repeat (first | apply Kd.S_alloc | apply Kd.S_drewN | apply Kd.S_drew)); exact HO165.out))) (below_size (by repeat (first | (with_reducible first | exact HB.out | apply below_alloc | apply pw_below_drewN | apply below_drew1) | exact HB.out)))); have n7_ := Aside0.mk (below_step (by repeat (first | (with_reducible first | exact HB.out | apply below_alloc | apply pw_below_drewN | apply below_drew1) | exact HB.out)) hb); clear HO_11; clear HO_13; clear HO_14; clear HO_15; clear HO_16; clear HO165; clear HB; have HO_11 := n0_; have HO_13 := n1_; have HO_14 := n2_; have HO_15 := n3_; have HO_16 := n4_; have HO165 := n5_; have HO169 := n6_; have HB := n7_; clear n0_ n1_ n2_ n3_ n4_ n5_ n6_ n7_; (try clear hb); (try clear hb2); (try clear hk); (try clear hi); (try clear ho0); obtain ⟨Ao77, co77, eo77⟩ := Kd.S_slice HO169.out; subst eo77) | ((with_reducible refine gate_callee (f := 23) rfl ?_); refine goesL_ (some 157) rfl rfl Try.func23 (by kernel_rfl) rfl #[.slice Ao77 t166.length co77, .slice Ao73 x16_5.length co73] rfl (by (try simp only [List.map_toArray, List.map_cons, List.map_nil]); first | done | rfl | (simp only [List.length_drop, List.length_take]; rfl)) ?_; (with_reducible refine (dailieslaw04_same.calls _ _ t166 _ _ x16_5 t170 _ ?side1 ?side2 ?side3 ?side4 A69.out).mono ?_); (case side1 => repeat (first | exact (Kd.S_reads' HO169.out).2.2 | (with_reducible refine Kd.C_alloc ?_ _) | (with_reducible refine Kd.C_drewN ?_ _) | (with_reducible refine Kd.C_drew ?_))); (case side2 => exact (Kd.S_reads' HO169.out).2.1); (case side3 => repeat (first | exact (Kd.S_reads' HO_16.out).2.2 | (with_reducible refine Kd.C_alloc ?_ _) | (with_reducible refine Kd.C_drewN ?_ _) | (with_reducible refine Kd.C_drew ?_))); (case side4 => exact (Kd.S_reads' HO_16.out).2.1); rintro e w' ⟨rfl, ⟨nd, rfl⟩⟩; refine ⟨_, rfl, ?_⟩))
                              go_ret
                              exact ⟨by first | rfl | (simp [errW_none, errW_some] <;> rfl) | (simp only [← hji14, ← hji15]; first | rfl | (simp [errW_none, errW_some] <;> rfl)) | (simp [*, errW_none, errW_some] <;> rfl), by repeat (first | (with_reducible first | exact HB.out | apply below_alloc | apply pw_below_drewN | apply below_drew1) | exact HB.out)⟩
                            · rw [if_neg c71] at H
                              have c71b0 : (t167 == 0) = false := beq_eq_false_iff_ne.mpr c71
                              have c71b1 : (t167 != 0) = true := bne_iff_ne.mpr c71
                              obtain rfl := Option.some.inj H
                              obtain ⟨Ao78, co78, eo78⟩ := Kd.S_slice HO_15.out
                              subst eo78
                              obtain ⟨Ao79, co79, eo79⟩ := Kd.S_slice HO_16.out
                              subst eo79
                              go_wp2_with (first | ((with_reducible refine gate_callee (f := 34) rfl ?_); refine goesL_ (some 146) rfl rfl Try.func34 (by kernel_rfl) rfl #[.slice Ao78 x15_5.length co78, .slice Ao79 x16_5.length co79] rfl (by (try simp only [List.map_toArray, List.map_cons, List.map_nil]); first | done | rfl | (simp only [List.length_drop, List.length_take]; rfl)) ?_; (with_reducible refine (field_Solve.calls _ _ x15_5 _ _ x16_5 t162 t163 _ ?side1 ?side2 ?side3 ?side4 A67.out).mono ?_); (case side1 => repeat (first | exact (Kd.S_reads' HO_15.out).2.2 | (with_reducible refine Kd.C_alloc ?_ _) | (with_reducible refine Kd.C_drewN ?_ _) | (with_reducible refine Kd.C_drew ?_))); (case side2 => exact (Kd.S_reads' HO_15.out).2.1); (case side3 => repeat (first | exact (Kd.S_reads' HO_16.out).2.2 | (with_reducible refine Kd.C_alloc ?_ _) | (with_reducible refine Kd.C_drewN ?_ _) | (with_reducible refine Kd.C_drew ?_))); (case side4 => exact (Kd.S_reads' HO_16.out).2.1); rintro e w80 ⟨v164, rfl, ho0, hb⟩; refine ⟨_, rfl, ?_⟩; have n0_ := Aside0.mk (Kd.S_elder' (by (with_reducible repeat (first | apply Kd.S_alloc | apply Kd.S_drewN | apply Kd.S_drew)); exact HO_11.out) (Kd.S_base ho0) hb); have n1_ := Aside0.mk (Kd.R_below (by (with_reducible repeat (first | apply Kd.R_alloc | apply Kd.R_drewN | apply Kd.R_drew)); exact HO_13.out) hb); have n2_ := Aside0.mk (Kd.R_below (by (with_reducible repeat (first | apply Kd.R_alloc | apply Kd.R_drewN | apply Kd.R_drew)); exact HO_14.out) hb); have n3_ := Aside0.mk (Kd.S_elder' (by (with_reducible repeat (first | apply Kd.S_alloc | apply Kd.S_drewN | apply Kd.S_drew)); exact HO_15.out) (Kd.S_base ho0) hb); have n4_ := Aside0.mk (Kd.S_elder' (by (with_reducible repeat (first | apply Kd.S_alloc | apply Kd.S_drewN | apply Kd.S_drew)); exact HO_16.out) (Kd.S_base ho0) hb); have n5_ := Aside0.mk (Kd.S_lower (Kd.S_new' (Kd.S_new' (Kd.S_new' ho0 (Kd.S_lt (by (with_reducible repeat (first | apply Kd.S_alloc | apply Kd.S_drewN | apply Kd.S_drew)); exact HO_11.out))) (Kd.S_lt (by (with_reducible repeat (first | apply Kd.S_alloc | apply Kd.S_drewN | apply Kd.S_drew)); exact HO_15.out))) (Kd.S_lt (by (with_reducible repeat (first | apply Kd.S_alloc | apply Kd.S_drewN | apply Kd.S_drew)); exact HO_16.out))) (below_size (by repeat (first | (with_reducible first | exact HB.out | apply below_alloc | apply pw_below_drewN | apply below_drew1) | exact HB.out)))); have n6_ := Aside0.mk (below_step (by repeat (first | (with_reducible first | exact HB.out | apply below_alloc | apply pw_below_drewN | apply below_drew1) | exact HB.out)) hb); clear HO_11; clear HO_13; clear HO_14; clear HO_15; clear HO_16; clear HB; have HO_11 := n0_; have HO_13 := n1_; have HO_14 := n2_; have HO_15 := n3_; have HO_16 := n4_; have HO165 := n5_; have HB := n6_; clear n0_ n1_ n2_ n3_ n4_ n5_ n6_; (try clear hb); (try clear hb2); (try clear hk); (try clear hi); (try clear ho0); obtain ⟨Ao81, co81, eo81⟩ := Kd.S_slice HO165.out; subst eo81) | ((with_reducible refine gate_callee (f := 33) rfl ?_); refine goesL_ (some 152) rfl rfl Try.func33 (by kernel_rfl) rfl #[.slice Ao78 x15_5.length co78, .slice Ao81 t162.length co81] rfl (by (try simp only [List.map_toArray, List.map_cons, List.map_nil]); first | done | rfl | (simp only [List.length_drop, List.length_take]; rfl)) ?_; (with_reducible refine (field_Times.calls k5 _ _ x15_5 _ _ t162 t166 t167 _ ?side1 ?side2 ?side3 ?side4 A68.out).mono ?_); (case side1 => repeat (first | exact (Kd.S_reads' HO_15.out).2.2 | (with_reducible refine Kd.C_alloc ?_ _) | (with_reducible refine Kd.C_drewN ?_ _) | (with_reducible refine Kd.C_drew ?_))); (case side2 => exact (Kd.S_reads' HO_15.out).2.1); (case side3 => repeat (first | exact (Kd.S_reads' HO165.out).2.2 | (with_reducible refine Kd.C_alloc ?_ _) | (with_reducible refine Kd.C_drewN ?_ _) | (with_reducible refine Kd.C_drew ?_))); (case side4 => exact (Kd.S_reads' HO165.out).2.1); rintro e w82 ⟨v168, rfl, ho0, hb⟩; refine ⟨_, rfl, ?_⟩; have n0_ := Aside0.mk (Kd.S_elder' (by (with_reducible repeat (first | apply Kd.S_alloc | apply Kd.S_drewN | apply Kd.S_drew)); exact HO_11.out) (Kd.S_base ho0) hb); have n1_ := Aside0.mk (Kd.R_below (by (with_reducible repeat (first | apply Kd.R_alloc | apply Kd.R_drewN | apply Kd.R_drew)); exact HO_13.out) hb); have n2_ := Aside0.mk (Kd.R_below (by (with_reducible repeat (first | apply Kd.R_alloc | apply Kd.R_drewN | apply Kd.R_drew)); exact HO_14.out) hb); have n3_ := Aside0.mk (Kd.S_elder' (by (with_reducible repeat (first | apply Kd.S_alloc | apply Kd.S_drewN | apply Kd.S_drew)); exact HO_15.out) (Kd.S_base ho0) hb); have n4_ := Aside0.mk (Kd.S_elder' (by (with_reducible repeat (first | apply Kd.S_alloc | apply Kd.S_drewN | apply Kd.S_drew)); exact HO_16.out) (Kd.S_base ho0) hb); have n5_ := Aside0.mk (Kd.S_elder' (by (with_reducible repeat (first | apply Kd.S_alloc | apply Kd.S_drewN | apply Kd.S_drew)); exact HO165.out) (Kd.S_base ho0) hb); have n6_ := Aside0.mk (Kd.S_lower (Kd.S_new' (Kd.S_new' (Kd.S_new' (Kd.S_new' ho0 (Kd.S_lt (by (with_reducible repeat (first | apply Kd.S_alloc | apply Kd.S_drewN | apply Kd.S_drew)); exact HO_11.out))) (Kd.S_lt (by (with_reducible repeat (first | apply Kd.S_alloc | apply Kd.S_drewN | apply Kd.S_drew)); exact HO_15.out))) (Kd.S_lt (by (with_reducible repeat (first | apply Kd.S_alloc | apply Kd.S_drewN | apply Kd.S_drew)); exact HO_16.out))) (Kd.S_lt (by (with_reducible repeat (first | apply Kd.S_alloc | apply Kd.S_drewN | apply Kd.S_drew)); exact HO165.out))) (below_size (by repeat (first | (with_reducible first | exact HB.out | apply below_alloc | apply pw_below_drewN | apply below_drew1) | exact HB.out)))); have n7_ := Aside0.mk (below_step (by repeat (first | (with_reducible first | exact HB.out | apply below_alloc | apply pw_below_drewN | apply below_drew1) | exact HB.out)) hb); clear HO_11; clear HO_13; clear HO_14; clear HO_15; clear HO_16; clear HO165; clear HB; have HO_11 := n0_; have HO_13 := n1_; have HO_14 := n2_; have HO_15 := n3_; have HO_16 := n4_; have HO165 := n5_; have HO169 := n6_; have HB := n7_; clear n0_ n1_ n2_ n3_ n4_ n5_ n6_ n7_; (try clear hb); (try clear hb2); (try clear hk); (try clear hi); (try clear ho0); obtain ⟨Ao83, co83, eo83⟩ := Kd.S_slice HO169.out; subst eo83) | ((with_reducible refine gate_callee (f := 23) rfl ?_); refine goesL_ (some 157) rfl rfl Try.func23 (by kernel_rfl) rfl #[.slice Ao83 t166.length co83, .slice Ao79 x16_5.length co79] rfl (by (try simp only [List.map_toArray, List.map_cons, List.map_nil]); first | done | rfl | (simp only [List.length_drop, List.length_take]; rfl)) ?_; (with_reducible refine (dailieslaw04_same.calls _ _ t166 _ _ x16_5 t170 _ ?side1 ?side2 ?side3 ?side4 A69.out).mono ?_); (case side1 => repeat (first | exact (Kd.S_reads' HO169.out).2.2 | (with_reducible refine Kd.C_alloc ?_ _) | (with_reducible refine Kd.C_drewN ?_ _) | (with_reducible refine Kd.C_drew ?_))); (case side2 => exact (Kd.S_reads' HO169.out).2.1); (case side3 => repeat (first | exact (Kd.S_reads' HO_16.out).2.2 | (with_reducible refine Kd.C_alloc ?_ _) | (with_reducible refine Kd.C_drewN ?_ _) | (with_reducible refine Kd.C_drew ?_))); (case side4 => exact (Kd.S_reads' HO_16.out).2.1); rintro e w' ⟨rfl, ⟨nd, rfl⟩⟩; refine ⟨_, rfl, ?_⟩))
                              go_ret
                              exact ⟨by first | rfl | (simp [errW_none, errW_some] <;> rfl) | (simp only [← hji14, ← hji15]; first | rfl | (simp [errW_none, errW_some] <;> rfl)) | (simp [*, errW_none, errW_some] <;> rfl), by repeat (first | (with_reducible first | exact HB.out | apply below_alloc | apply pw_below_drewN | apply below_drew1) | exact HB.out)⟩
                          · rw [if_neg c70] at H
                            have c70b0 : (t163 == 0) = false := beq_eq_false_iff_ne.mpr c70
                            have c70b1 : (t163 != 0) = true := bne_iff_ne.mpr c70
                            obtain rfl := Option.some.inj H
                            obtain ⟨Ao84, co84, eo84⟩ := Kd.S_slice HO_15.out
                            subst eo84
                            obtain ⟨Ao85, co85, eo85⟩ := Kd.S_slice HO_16.out
                            subst eo85
                            go_wp2_with (first | ((with_reducible refine gate_callee (f := 34) rfl ?_); refine goesL_ (some 146) rfl rfl Try.func34 (by kernel_rfl) rfl #[.slice Ao84 x15_5.length co84, .slice Ao85 x16_5.length co85] rfl (by (try simp only [List.map_toArray, List.map_cons, List.map_nil]); first | done | rfl | (simp only [List.length_drop, List.length_take]; rfl)) ?_; (with_reducible refine (field_Solve.calls _ _ x15_5 _ _ x16_5 t162 t163 _ ?side1 ?side2 ?side3 ?side4 A67.out).mono ?_); (case side1 => repeat (first | exact (Kd.S_reads' HO_15.out).2.2 | (with_reducible refine Kd.C_alloc ?_ _) | (with_reducible refine Kd.C_drewN ?_ _) | (with_reducible refine Kd.C_drew ?_))); (case side2 => exact (Kd.S_reads' HO_15.out).2.1); (case side3 => repeat (first | exact (Kd.S_reads' HO_16.out).2.2 | (with_reducible refine Kd.C_alloc ?_ _) | (with_reducible refine Kd.C_drewN ?_ _) | (with_reducible refine Kd.C_drew ?_))); (case side4 => exact (Kd.S_reads' HO_16.out).2.1); rintro e w86 ⟨v164, rfl, ho0, hb⟩; refine ⟨_, rfl, ?_⟩; have n0_ := Aside0.mk (Kd.S_elder' (by (with_reducible repeat (first | apply Kd.S_alloc | apply Kd.S_drewN | apply Kd.S_drew)); exact HO_11.out) (Kd.S_base ho0) hb); have n1_ := Aside0.mk (Kd.R_below (by (with_reducible repeat (first | apply Kd.R_alloc | apply Kd.R_drewN | apply Kd.R_drew)); exact HO_13.out) hb); have n2_ := Aside0.mk (Kd.R_below (by (with_reducible repeat (first | apply Kd.R_alloc | apply Kd.R_drewN | apply Kd.R_drew)); exact HO_14.out) hb); have n3_ := Aside0.mk (Kd.S_elder' (by (with_reducible repeat (first | apply Kd.S_alloc | apply Kd.S_drewN | apply Kd.S_drew)); exact HO_15.out) (Kd.S_base ho0) hb); have n4_ := Aside0.mk (Kd.S_elder' (by (with_reducible repeat (first | apply Kd.S_alloc | apply Kd.S_drewN | apply Kd.S_drew)); exact HO_16.out) (Kd.S_base ho0) hb); have n5_ := Aside0.mk (Kd.S_lower (Kd.S_new' (Kd.S_new' (Kd.S_new' ho0 (Kd.S_lt (by (with_reducible repeat (first | apply Kd.S_alloc | apply Kd.S_drewN | apply Kd.S_drew)); exact HO_11.out))) (Kd.S_lt (by (with_reducible repeat (first | apply Kd.S_alloc | apply Kd.S_drewN | apply Kd.S_drew)); exact HO_15.out))) (Kd.S_lt (by (with_reducible repeat (first | apply Kd.S_alloc | apply Kd.S_drewN | apply Kd.S_drew)); exact HO_16.out))) (below_size (by repeat (first | (with_reducible first | exact HB.out | apply below_alloc | apply pw_below_drewN | apply below_drew1) | exact HB.out)))); have n6_ := Aside0.mk (below_step (by repeat (first | (with_reducible first | exact HB.out | apply below_alloc | apply pw_below_drewN | apply below_drew1) | exact HB.out)) hb); clear HO_11; clear HO_13; clear HO_14; clear HO_15; clear HO_16; clear HB; have HO_11 := n0_; have HO_13 := n1_; have HO_14 := n2_; have HO_15 := n3_; have HO_16 := n4_; have HO165 := n5_; have HB := n6_; clear n0_ n1_ n2_ n3_ n4_ n5_ n6_; (try clear hb); (try clear hb2); (try clear hk); (try clear hi); (try clear ho0); obtain ⟨Ao87, co87, eo87⟩ := Kd.S_slice HO165.out; subst eo87) | ((with_reducible refine gate_callee (f := 33) rfl ?_); refine goesL_ (some 152) rfl rfl Try.func33 (by kernel_rfl) rfl #[.slice Ao84 x15_5.length co84, .slice Ao87 t162.length co87] rfl (by (try simp only [List.map_toArray, List.map_cons, List.map_nil]); first | done | rfl | (simp only [List.length_drop, List.length_take]; rfl)) ?_; (with_reducible refine (field_Times.calls k5 _ _ x15_5 _ _ t162 t166 t167 _ ?side1 ?side2 ?side3 ?side4 A68.out).mono ?_); (case side1 => repeat (first | exact (Kd.S_reads' HO_15.out).2.2 | (with_reducible refine Kd.C_alloc ?_ _) | (with_reducible refine Kd.C_drewN ?_ _) | (with_reducible refine Kd.C_drew ?_))); (case side2 => exact (Kd.S_reads' HO_15.out).2.1); (case side3 => repeat (first | exact (Kd.S_reads' HO165.out).2.2 | (with_reducible refine Kd.C_alloc ?_ _) | (with_reducible refine Kd.C_drewN ?_ _) | (with_reducible refine Kd.C_drew ?_))); (case side4 => exact (Kd.S_reads' HO165.out).2.1); rintro e w88 ⟨v168, rfl, ho0, hb⟩; refine ⟨_, rfl, ?_⟩; have n0_ := Aside0.mk (Kd.S_elder' (by (with_reducible repeat (first | apply Kd.S_alloc | apply Kd.S_drewN | apply Kd.S_drew)); exact HO_11.out) (Kd.S_base ho0) hb); have n1_ := Aside0.mk (Kd.R_below (by (with_reducible repeat (first | apply Kd.R_alloc | apply Kd.R_drewN | apply Kd.R_drew)); exact HO_13.out) hb); have n2_ := Aside0.mk (Kd.R_below (by (with_reducible repeat (first | apply Kd.R_alloc | apply Kd.R_drewN | apply Kd.R_drew)); exact HO_14.out) hb); have n3_ := Aside0.mk (Kd.S_elder' (by (with_reducible repeat (first | apply Kd.S_alloc | apply Kd.S_drewN | apply Kd.S_drew)); exact HO_15.out) (Kd.S_base ho0) hb); have n4_ := Aside0.mk (Kd.S_elder' (by (with_reducible repeat (first | apply Kd.S_alloc | apply Kd.S_drewN | apply Kd.S_drew)); exact HO_16.out) (Kd.S_base ho0) hb); have n5_ := Aside0.mk (Kd.S_elder' (by (with_reducible repeat (first | apply Kd.S_alloc | apply Kd.S_drewN | apply Kd.S_drew)); exact HO165.out) (Kd.S_base ho0) hb); have n6_ := Aside0.mk (Kd.S_lower (Kd.S_new' (Kd.S_new' (Kd.S_new' (Kd.S_new' ho0 (Kd.S_lt (by (with_reducible repeat (first | apply Kd.S_alloc | apply Kd.S_drewN | apply Kd.S_drew)); exact HO_11.out))) (Kd.S_lt (by (with_reducible repeat (first | apply Kd.S_alloc | apply Kd.S_drewN | apply Kd.S_drew)); exact HO_15.out))) (Kd.S_lt (by (with_reducible repeat (first | apply Kd.S_alloc | apply Kd.S_drewN | apply Kd.S_drew)); exact HO_16.out))) (Kd.S_lt (by (with_reducible repeat (first | apply Kd.S_alloc | apply Kd.S_drewN | apply Kd.S_drew)); exact HO165.out))) (below_size (by repeat (first | (with_reducible first | exact HB.out | apply below_alloc | apply pw_below_drewN | apply below_drew1) | exact HB.out)))); have n7_ := Aside0.mk (below_step (by repeat (first | (with_reducible first | exact HB.out | apply below_alloc | apply pw_below_drewN | apply below_drew1) | exact HB.out)) hb); clear HO_11; clear HO_13; clear HO_14; clear HO_15; clear HO_16; clear HO165; clear HB; have HO_11 := n0_; have HO_13 := n1_; have HO_14 := n2_; have HO_15 := n3_; have HO_16 := n4_; have HO165 := n5_; have HO169 := n6_; have HB := n7_; clear n0_ n1_ n2_ n3_ n4_ n5_ n6_ n7_; (try clear hb); (try clear hb2); (try clear hk); (try clear hi); (try clear ho0); obtain ⟨Ao89, co89, eo89⟩ := Kd.S_slice HO169.out; subst eo89) | ((with_reducible refine gate_callee (f := 23) rfl ?_); refine goesL_ (some 157) rfl rfl Try.func23 (by kernel_rfl) rfl #[.slice Ao89 t166.length co89, .slice Ao85 x16_5.length co85] rfl (by (try simp only [List.map_toArray, List.map_cons, List.map_nil]); first | done | rfl | (simp only [List.length_drop, List.length_take]; rfl)) ?_; (with_reducible refine (dailieslaw04_same.calls _ _ t166 _ _ x16_5 t170 _ ?side1 ?side2 ?side3 ?side4 A69.out).mono ?_); (case side1 => repeat (first | exact (Kd.S_reads' HO169.out).2.2 | (with_reducible refine Kd.C_alloc ?_ _) | (with_reducible refine Kd.C_drewN ?_ _) | (with_reducible refine Kd.C_drew ?_))); (case side2 => exact (Kd.S_reads' HO169.out).2.1); (case side3 => repeat (first | exact (Kd.S_reads' HO_16.out).2.2 | (with_reducible refine Kd.C_alloc ?_ _) | (with_reducible refine Kd.C_drewN ?_ _) | (with_reducible refine Kd.C_drew ?_))); (case side4 => exact (Kd.S_reads' HO_16.out).2.1); rintro e w' ⟨rfl, ⟨nd, rfl⟩⟩; refine ⟨_, rfl, ?_⟩))
                            go_ret
                            exact ⟨by first | rfl | (simp [errW_none, errW_some] <;> rfl) | (simp only [← hji14, ← hji15]; first | rfl | (simp [errW_none, errW_some] <;> rfl)) | (simp [*, errW_none, errW_some] <;> rfl), by repeat (first | (with_reducible first | exact HB.out | apply below_alloc | apply pw_below_drewN | apply below_drew1) | exact HB.out)⟩

/-- THE ONE PURE STATEMENT of dailieslaw04_FieldCauchy: yours. -/
def dailieslaw04_FieldCauchy.Pure : Prop := ∀ (l0 : List Int) (l1 : List Int) (l2 : List Int), l0.length ≤ maxLen → l0.length * 8 ≤ 140737488351232 → (∀ x ∈ l0, (Lit.int .i64 x).wf = true) → l1.length ≤ maxLen → l1.length * 8 ≤ 140737488351232 → (∀ x ∈ l1, (Lit.int .i64 x).wf = true) → l2.length ≤ maxLen → l2.length * 8 ≤ 140737488351232 → (∀ x ∈ l2, (Lit.int .i64 x).wf = true) → ∃ k, dailieslaw04_FieldCauchy.f k l0 l1 l2 = some true
theorem dailieslaw04_FieldCauchy.walk (P : dailieslaw04_FieldCauchy.Pure) (a0 : Option Addr) (len0 cap0 : Nat) (z0 : List Int) (a1 : Option Addr) (len1 cap1 : Nat) (z1 : List Int) (a2 : Option Addr) (len2 cap2 : Nat) (z2 : List Int) (w : World) (w0 : (a0 = none ∧ len0 = 0 ∧ cap0 = 0 ∧ z0 = []) ∨ ∃ x, a0 = some x ∧ len0 ≤ cap0 ∧ cap0 ≤ maxLen ∧ z0.length = cap0 ∧ (∀ i, i < z0.length → w.cell? (x.add i) = some (.int .i64 (z0.getD i 0))) ∧ ∀ n ∈ z0, (Lit.int .i64 n).wf = true) (y0 : len0 * 8 ≤ 140737488351232) (w1 : (a1 = none ∧ len1 = 0 ∧ cap1 = 0 ∧ z1 = []) ∨ ∃ x, a1 = some x ∧ len1 ≤ cap1 ∧ cap1 ≤ maxLen ∧ z1.length = cap1 ∧ (∀ i, i < z1.length → w.cell? (x.add i) = some (.int .i64 (z1.getD i 0))) ∧ ∀ n ∈ z1, (Lit.int .i64 n).wf = true) (y1 : len1 * 8 ≤ 140737488351232) (w2 : (a2 = none ∧ len2 = 0 ∧ cap2 = 0 ∧ z2 = []) ∨ ∃ x, a2 = some x ∧ len2 ≤ cap2 ∧ cap2 ≤ maxLen ∧ z2.length = cap2 ∧ (∀ i, i < z2.length → w.cell? (x.add i) = some (.int .i64 (z2.getD i 0))) ∧ ∀ n ∈ z2, (Lit.int .i64 n).wf = true) (y2 : len2 * 8 ≤ 140737488351232) :
    Calls Try.prog 10 #[.slice a0 len0 cap0, .slice a1 len1 cap1, .slice a2 len2 cap2] w fun e w' => e = .returned (.bool true) ∧ Below w.heap.size w w' := by
  obtain ⟨l0, rfl, hr0, hm0, hw0, hc0⟩ := ReadsInt.ofRowC w0
  obtain ⟨l1, rfl, hr1, hm1, hw1, hc1⟩ := ReadsInt.ofRowC w1
  obtain ⟨l2, rfl, hr2, hm2, hw2, hc2⟩ := ReadsInt.ofRowC w2
  obtain ⟨k, h⟩ := P l0 l1 l2 hm0 y0 hw0 hm1 y1 hw1 hm2 y2 hw2
  refine (dailieslaw04_FieldCauchy.calls k _ _ l0 _ _ l1 _ _ l2 true w (Kd.C_of_reads (d := (0 : Int)) (h1 := fun _ => rfl) hr0) hc0 (Kd.C_of_reads (d := (0 : Int)) (h1 := fun _ => rfl) hr1) hc1 (Kd.C_of_reads (d := (0 : Int)) (h1 := fun _ => rfl) hr2) hc2 h).mono ?_
  rintro e w' ⟨rfl, hd⟩
  exact ⟨rfl, hd⟩

end Go.Proofs.Ytdleoljbnjjdgaa.QSFieldCauchy
