/- A part of the proof of ParityPlays: see the text's theorems. No conditions beyond their own. -/
import Derived.Test.YtdhajlkiiphlfaaYa
import Derived.Laws.CopyOwn
import Derived.WalkKit
import Derived.Laws.BitsLemmas
import Derived.WalkMore
import Derived.Great.Walk
import Derived.StillTailTactics
set_option linter.unusedVariables false
set_option linter.unusedSimpArgs false
namespace Go.Proofs.Ytdhajlkiiphlfaa.QB
open Go.RowKit Go.Proofs.YtdhajlkiiphlfaaW.PrintWords Go.Proofs.YtdhajlkiiphlfaaW.PrintLast Go.Proofs.YtdhajlkiiphlfaaW.PrintMore
attribute [local go_sem] q1c q1d q1y q1z q0v q0w q1e q1f
mutual
def parity_fits.j0 : Nat → List (List Int) → List Int → List (List Int) → List Int → Int → Int → Bool → Option (List Bool × Int)
 | 0, _, _, _, _, _, _, _ => none
 | k + 1, x0, x1, x2, x3, x10, x11, x29 => if x29 = true then (some (([] : List Bool), 51)) else (if (x1.length : Int) = x10 then (if 0 ≤ (wrap64 (x10 + x11)) then (if (wrap64 (x10 + x11) : Int).toNat ≤ 281474976710656 then (parity_fits.l0 k x0 x1 x2 x10 x11 (List.replicate (wrap64 (x10 + x11) : Int).toNat false) 0 x3 (x3.length : Int) 0) else (none)) else (none)) else (some (([] : List Bool), 52)))
def parity_fits.l0 : Nat → List (List Int) → List Int → List (List Int) → Int → Int → List Bool → Int → List Int → Int → Int → Option (List Bool × Int)
 | 0, _, _, _, _, _, _, _, _, _, _ => none
 | k + 1, x0, x1, x2, x10, x11, x12, x13, x38, x39, x40 => if x40 < x39 then (if 0 ≤ x40 then (if x40 < (x38.length : Int) then (if (rd x38 x40) < 0 then (parity_fits.j2 k x0 x1 x2 x10 x11 x12 x13 (rd x38 x40) x38 x39 x40 true) else (parity_fits.j2 k x0 x1 x2 x10 x11 x12 x13 (rd x38 x40) x38 x39 x40 (decide ((rd x38 x40) ≥ (wrap64 (x10 + x11)))))) else (none)) else (none)) else (parity_fits.l1 k x0 x1 x2 x10 x11 x12 x13 x1 (x1.length : Int) 0)
def parity_fits.j2 : Nat → List (List Int) → List Int → List (List Int) → Int → Int → List Bool → Int → Int → List Int → Int → Int → Bool → Option (List Bool × Int)
 | 0, _, _, _, _, _, _, _, _, _, _, _, _ => none
 | k + 1, x0, x1, x2, x10, x11, x12, x13, x15, x38, x39, x40, x52 => if x52 = true then (some (([] : List Bool), 52)) else (if 0 ≤ x15 then (if x15 < (x12.length : Int) then (if rdOf false x12 x15 = true then (parity_fits.l0 k x0 x1 x2 x10 x11 (x12.set (x15 : Int).toNat true) x13 x38 x39 (wrap64 (x40 + 1))) else (parity_fits.l0 k x0 x1 x2 x10 x11 (x12.set (x15 : Int).toNat true) (wrap64 (x13 + 1)) x38 x39 (wrap64 (x40 + 1)))) else (none)) else (none))
def parity_fits.l1 : Nat → List (List Int) → List Int → List (List Int) → Int → Int → List Bool → Int → List Int → Int → Int → Option (List Bool × Int)
 | 0, _, _, _, _, _, _, _, _, _, _ => none
 | k + 1, x0, x1, x2, x10, x11, x12, x13, x64, x65, x66 => if x66 < x65 then (if 0 ≤ x66 then (if x66 < (x64.length : Int) then (if (rd x64 x66) < 0 then (some (([] : List Bool), 52)) else (if (rd x64 x66) > 16777216 then (some (([] : List Bool), 52)) else (if x66 < (x12.length : Int) then (if rdOf false x12 x66 = true then (parity_fits.l1 k x0 x1 x2 x10 x11 x12 x13 x64 x65 (wrap64 (x66 + 1))) else (if x66 < (x0.length : Int) then (if ((rd_L2 x0 x66).length : Int) = (rd x64 x66) then (parity_fits.l1 k x0 x1 x2 x10 x11 x12 x13 x64 x65 (wrap64 (x66 + 1))) else (some (([] : List Bool), 52))) else (none))) else (none)))) else (none)) else (none)) else (parity_fits.l2 k x1 x10 x11 x12 x13 x2 (x2.length : Int) 0)
def parity_fits.l2 : Nat → List Int → Int → Int → List Bool → Int → List (List Int) → Int → Int → Option (List Bool × Int)
 | 0, _, _, _, _, _, _, _, _ => none
 | k + 1, x1, x10, x11, x12, x13, x94, x95, x96 => if x96 < x95 then (if 0 ≤ x96 then (if x96 < (x94.length : Int) then (if 0 ≤ (wrap64 (x10 + x96)) then (if (wrap64 (x10 + x96)) < (x12.length : Int) then (if (rdOf false x12 (wrap64 (x10 + x96)) = true) then (parity_fits.l2 k x1 x10 x11 x12 x13 x94 x95 (wrap64 (x96 + 1))) else ((parity_wide.f k x1).bind fun t159 => (if ((rd_L2 x94 x96).length : Int) = t159 then (parity_fits.l2 k x1 x10 x11 x12 x13 x94 x95 (wrap64 (x96 + 1))) else (some (([] : List Bool), 52))))) else (none)) else (none)) else (none)) else (none)) else (if x13 > x11 then (some (([] : List Bool), 53)) else (some (x12, 0)))
end
def parity_fits.f (k : Nat) (l0 : List (List Int)) (l1 : List Int) (l2 : List (List Int)) (l3 : List Int) : Option (List Bool × Int) := if (l0.length : Int) > 200 then (parity_fits.j0 k l0 l1 l2 l3 (l0.length : Int) (l2.length : Int) true) else (parity_fits.j0 k l0 l1 l2 l3 (l0.length : Int) (l2.length : Int) (decide ((l2.length : Int) > 16)))
set_option maxHeartbeats 8000000 in
set_option maxRecDepth 100000 in
theorem parity_fits.calls (k : Nat) (A0 : Option Addr) (c0 : Nat) (l0 : List (List Int)) (A1 : Option Addr) (c1 : Nat) (l1 : List Int) (A2 : Option Addr) (c2 : Nat) (l2 : List (List Int)) (A3 : Option Addr) (c3 : Nat) (l3 : List Int) (r1 : List Bool) (r2 : Int) (w : World) (hr0 : Kd.C (Kd.slice 5 (Kd.int .u8)) w A0 l0.length l0) (hc0 : l0.length ≤ c0) (hr1 : Kd.C (Kd.int .i64) w A1 l1.length l1) (hc1 : l1.length ≤ c1) (hr2 : Kd.C (Kd.slice 5 (Kd.int .u8)) w A2 l2.length l2) (hc2 : l2.length ≤ c2) (hr3 : Kd.C (Kd.int .i64) w A3 l3.length l3) (hc3 : l3.length ≤ c3) (h : parity_fits.f k l0 l1 l2 l3 = some (r1, r2)) :
    Calls Try.prog 30 #[.slice A0 l0.length c0, .slice A1 l1.length c1, .slice A2 l2.length c2, .slice A3 l3.length c3] w fun e w' => ∃ v0_ : Value, e = .returned (.tuple #[v0_, .int .i64 r2]) ∧ Kd.R Kd.bool 4 w' w.heap.size (fun _ => True) v0_ r1 ∧ Below w.heap.size w w' := by
 have HR0 := sqM hr0
 have HC0 := sqM hc0
 clear hr0 hc0
 have HR1 := sqM hr1
 have HC1 := sqM hc1
 clear hr1 hc1
 have HR2 := sqM hr2
 have HC2 := sqM hc2
 clear hr2 hc2
 have HR3 := sqM hr3
 have HC3 := sqM hc3
 clear hr3 hc3
 have HB := sqM (Below.refl w.heap.size w)
 have H : (if (l0.length : Int) > 200 then (parity_fits.j0 k l0 l1 l2 l3 (l0.length : Int) (l2.length : Int) true) else (parity_fits.j0 k l0 l1 l2 l3 (l0.length : Int) (l2.length : Int) (decide ((l2.length : Int) > 16)))) = some (r1, r2) := h
 clear h
 have HC5 := sqM H
 clear H
 go_enter Try.func30, Try.ntmps30
 go_upto_region 2 with (fail)
 go_cut [29] (fun v29 wc => ∃ (kq : Nat) (x29_4 : Bool), v29 = .bool x29_4 ∧ Aside0 (parity_fits.j0 kq l0 l1 l2 l3 (l0.length : Int) (l2.length : Int) x29_4 = some (r1, r2)) ∧ Aside0 (kq ≤ k) ∧ Aside0 (Below w.heap.size w wc))
 case first =>
  have H := HC5.out
  clear HC5
  by_cases c6 : (l0.length : Int) > 200
  ·
   rw [if_pos c6] at H
   have c6b0 : decide (200 < (l0.length : Int)) = true := decide_eq_true c6
   have c6b1 : decide (200 < l0.length) = true := decide_eq_true (by omega)
   clear c6
   (skip)
   have H' := sqM H
   clear H
   go_wp2
   go_meet
   case rel => exact ⟨_, (true), (by rfl), H', ⟨by omega⟩, ⟨by repeat ((with_reducible (exact HB.out)))⟩⟩
  ·
   rw [if_neg c6] at H
   have c6b0 : decide (200 < (l0.length : Int)) = false := decide_eq_false c6
   have c6b1 : decide (200 < l0.length) = false := decide_eq_false (by omega)
   clear c6
   (skip)
   have H' := sqM H
   clear H
   go_wp2
   go_meet
   case rel => exact ⟨_, (decide ((l2.length : Int) > 16)), (by rfl), H', ⟨by omega⟩, ⟨by repeat ((with_reducible (exact HB.out)))⟩⟩
 case rest =>
  clear HC5
  obtain ⟨kq, x29_4, rfl, HA, HJ4, HB⟩ := hcut
  cases kq with
  | zero => exact absurd HA.out (by simp [parity_fits.j0])
  | succ kj4 =>
   have H := HA.out
   clear HA
   simp only [parity_fits.j0] at H
   by_cases c7 : x29_4 = true
   ·
    subst c7
    have H1 : (some (([] : List Bool), 51)) = some (r1, r2) := by rw [if_pos rfl] at H; exact H
    clear H
    have H := H1
    clear H1
    simp only [Option.some.injEq, Prod.mk.injEq] at H
    obtain ⟨rfl, rfl⟩ := H
    go_wp2
    go_ret2
    exact ⟨_, by rfl, by exact Kd.R_nil _ _ _ _ _, by repeat ((with_reducible (exact HB.out)))⟩
   ·
    replace c7 := Bool.eq_false_iff.mpr c7
    subst c7
    have H1 : (if (l1.length : Int) = (l0.length : Int) then (if 0 ≤ (wrap64 ((l0.length : Int) + (l2.length : Int))) then (if (wrap64 ((l0.length : Int) + (l2.length : Int)) : Int).toNat ≤ 281474976710656 then (parity_fits.l0 kj4 l0 l1 l2 (l0.length : Int) (l2.length : Int) (List.replicate (wrap64 ((l0.length : Int) + (l2.length : Int)) : Int).toNat false) 0 l3 (l3.length : Int) 0) else (none)) else (none)) else (some (([] : List Bool), 52))) = some (r1, r2) := by rw [if_neg (show ¬ (false = true) by decide)] at H; exact H
    clear H
    have H := H1
    clear H1
    by_cases c8 : (l1.length : Int) = (l0.length : Int)
    ·
     rw [if_pos c8] at H
     have c8b0 : ((l1.length : Int) == (l0.length : Int)) = true := beq_iff_eq.mpr c8
     have c8b1 : ((l1.length : Int) != (l0.length : Int)) = false := bne_eq_false_iff_eq.mpr c8
     have c8b2 : (l1.length == l0.length) = true := by (simp at c8 ⊢; omega)
     clear c8
     obtain ⟨ji9, hji9⟩ : ∃ j_ : Int, (wrap64 ((l0.length : Int) + (l2.length : Int))) = j_ := ⟨_, rfl⟩
     replace H : (if 0 ≤ (ji9) then (if (ji9 : Int).toNat ≤ 281474976710656 then (parity_fits.l0 kj4 l0 l1 l2 (l0.length : Int) (l2.length : Int) (List.replicate (ji9 : Int).toNat false) 0 l3 (l3.length : Int) 0) else (none)) else (none)) = some (r1, r2) := by (rw [hji9] at H; exact H)
     have hji9w : (IntKind.i64.wrap ((l0.length : Int) + (l2.length : Int))) = ji9 := (i64_w _).trans hji9
     by_cases c10 : 0 ≤ (ji9)
     ·
      rw [if_pos c10] at H
      have c10b0 := eq_true c10
      have c10b1 : decide (0 ≤ (ji9)) = true := decide_eq_true c10
      clear c10
      by_cases c11 : (ji9 : Int).toNat ≤ 281474976710656
      ·
       rw [if_pos c11] at H
       have c11b0 := eq_true c11
       have c11b1 : decide ((ji9 : Int).toNat ≤ 281474976710656) = true := decide_eq_true c11
       clear c11
       obtain ⟨y147, hy147⟩ : ∃ y_ : List Bool, y_ = (List.replicate (ji9 : Int).toNat false) := ⟨_, rfl⟩
       replace H : (parity_fits.l0 kj4 l0 l1 l2 (l0.length : Int) (l2.length : Int) y147 0 l3 (l3.length : Int) 0) = some (r1, r2) := by (rw [hy147]; with_reducible exact H)
       have Ny147 := sqM hy147
       clear hy147
       have H' := sqM H
       clear H
       go_wp2_with (first | ((with_reducible refine q1t (N := 37) rfl ?_); (try (refine q0r (by rfl) ?_; dsimp only)); refine Kd.R_make Kd.bool _ 4 rfl (N := 37) rfl 66 _ _ rfl ji9 rfl rfl Try.underlying66 (.bool false) 1 info4 rfl (by decide) (by omega) false (ok := fun _ => True) (okp := fun _ => True) rfl (fun _ hk => hk) trivial (of_decide_eq_true (by (with_reducible assumption))) (Nat.le_trans (Nat.mul_le_mul_right _ (of_decide_eq_true (by (with_reducible assumption)) : ji9.toNat ≤ 281474976710656)) (by omega)) (Below.refl _ _) (Nat.le_refl _) ?_; intro v148 w12 ho13 hb hg_ hnew_; clear hg_ hnew_; (rw [← Ny147.out] at ho13); have n0_ := sqM (Kd.R_lower ho13 (q01 (by repeat ((with_reducible (exact HB.out)))))); have n1_ := sqM (q04 (by repeat ((with_reducible (exact HB.out)))) hb); clear HB; have HO149 := n0_; have HB := n1_; clear n0_ n1_; clear hb ho13))
       go_loopg [13, 40] kj4 (fun kq v13 v40 w' => ∃ (x12_2 : List Bool) (x13_2 : Int) (x40_2 : Int), v13 = .int .i64 x13_2 ∧ v40 = .int .i64 x40_2 ∧ Aside0 (parity_fits.l0 kq l0 l1 l2 (l0.length : Int) (l2.length : Int) x12_2 x13_2 l3 (l3.length : Int) x40_2 = some (r1, r2)) ∧ Aside0 (kq ≤ kj4) ∧ Aside0 (Kd.R Kd.bool 4 w' w.heap.size (fun _ => True) v148 x12_2) ∧ Aside0 (Below w.heap.size w w'))
       case atStart => exact ⟨(y147), (0), (0), (by rfl), (by rfl), H', ⟨Nat.le_refl _⟩, ⟨by (with_reducible repeat (first | apply Kd.R_alloc | apply Kd.R_drewN | apply Kd.R_drew)); exact HO149.out⟩, ⟨by repeat ((with_reducible (exact HB.out)))⟩⟩
       case round =>
        clear H'
        try clear c8b0
        try clear c8b1
        try clear c8b2
        try clear c10b0
        try clear c10b1
        try clear c11b0
        try clear c11b1
        obtain ⟨x12_2, x13_2, x40_2, rfl, rfl, HA, HK2, HO_12, HB⟩ := hrel
        cases gk with
        | zero => exact absurd HA.out (by simp [parity_fits.l0])
        | succ k2 =>
         have H := HA.out
         clear HA
         simp only [parity_fits.l0] at H
         by_cases c14 : x40_2 < (l3.length : Int)
         ·
          rw [if_pos c14] at H
          have c14b0 : decide (x40_2 < (l3.length : Int)) = true := decide_eq_true c14
          clear c14
          by_cases c15 : 0 ≤ x40_2
          ·
           rw [if_pos c15] at H
           have c15b0 : decide (0 ≤ x40_2) = true := decide_eq_true c15
           clear c15
           by_cases c16 : x40_2 < (l3.length : Int)
           ·
            rw [if_pos c16] at H
            have c16b0 : decide (x40_2 < (l3.length : Int)) = true := decide_eq_true c16
            clear c16
            have HC17 := sqM H
            clear H
            have p150 : 0 ≤ (x40_2 : Int) := of_decide_eq_true (by (with_reducible assumption))
            have q150 : x40_2 < (l3.length : Int) := of_decide_eq_true (by (with_reducible assumption))
            obtain ⟨ad150, e150, hx150_0⟩ := Kd.at_int HR3.out x40_2 p150 q150
            cases e150
            replace hx150_0 := (HB.out.cell (World.block_lt_of_cell? w _ hx150_0)).trans hx150_0
            replace p150 := eq_true p150
            replace q150 := eq_true q150
            go_upto_region 11 with (fail)
            go_cut [52] (fun v52 wc => ∃ (kq : Nat) (x52_16 : Bool), v52 = .bool x52_16 ∧ Aside0 (parity_fits.j2 kq l0 l1 l2 (l0.length : Int) (l2.length : Int) x12_2 x13_2 (rd l3 x40_2) l3 (l3.length : Int) x40_2 x52_16 = some (r1, r2)) ∧ Aside0 (kq ≤ k2) ∧ Aside0 (Kd.R Kd.bool 4 wc w.heap.size (fun _ => True) v148 x12_2) ∧ Aside0 (Below w.heap.size w wc))
            case first =>
             have H := HC17.out
             clear HC17
             by_cases c18 : (rd l3 x40_2) < 0
             · rw [if_pos c18] at H
               have c18b0 : decide ((rd l3 x40_2) < 0) = true := decide_eq_true c18
               clear c18
               (skip)
               have H' := sqM H
               clear H
               go_wp2
               go_meet
               case rel => exact ⟨_, (true), (by rfl), H', ⟨by have := HJ4.out; have := HK2.out; (omega)⟩, ⟨by (with_reducible repeat (first | apply Kd.R_alloc | apply Kd.R_drewN | apply Kd.R_drew)); exact HO_12.out⟩, ⟨by repeat ((with_reducible (exact HB.out)))⟩⟩
             · rw [if_neg c18] at H
               have c18b0 : decide ((rd l3 x40_2) < 0) = false := decide_eq_false c18
               clear c18
               (skip)
               have H' := sqM H
               clear H
               go_wp2
               go_meet
               case rel => exact ⟨_, (decide ((rd l3 x40_2) ≥ (wrap64 ((l0.length : Int) + (l2.length : Int))))), (by (simp [*]; done)), H', ⟨by have := HJ4.out; have := HK2.out; (omega)⟩, ⟨by (with_reducible repeat (first | apply Kd.R_alloc | apply Kd.R_drewN | apply Kd.R_drew)); exact HO_12.out⟩, ⟨by repeat ((with_reducible (exact HB.out)))⟩⟩
            case rest =>
             clear HC17
             try clear c14b0
             try clear c15b0
             try clear c16b0
             try clear hx150_0
             try clear p150
             try clear q150
             obtain ⟨kq, x52_16, rfl, HA, HJ16, HO_12, HB⟩ := hcut
             cases kq with
             | zero => exact absurd HA.out (by simp [parity_fits.j2])
             | succ kj16 =>
              have H := HA.out
              clear HA
              simp only [parity_fits.j2] at H
              by_cases c19 : x52_16 = true
              · subst c19
                have H1 : (some (([] : List Bool), 52)) = some (r1, r2) := by rw [if_pos rfl] at H; exact H
                clear H
                have H := H1
                clear H1
                simp only [Option.some.injEq, Prod.mk.injEq] at H
                obtain ⟨rfl, rfl⟩ := H
                go_wp2
                go_ret2
                exact ⟨_, by rfl, by exact Kd.R_nil _ _ _ _ _, by repeat ((with_reducible (exact HB.out)))⟩
              ·
               replace c19 := Bool.eq_false_iff.mpr c19
               subst c19
               have H1 : (if 0 ≤ (rd l3 x40_2) then (if (rd l3 x40_2) < (x12_2.length : Int) then (if rdOf false x12_2 (rd l3 x40_2) = true then (parity_fits.l0 kj16 l0 l1 l2 (l0.length : Int) (l2.length : Int) (x12_2.set ((rd l3 x40_2) : Int).toNat true) x13_2 l3 (l3.length : Int) (wrap64 (x40_2 + 1))) else (parity_fits.l0 kj16 l0 l1 l2 (l0.length : Int) (l2.length : Int) (x12_2.set ((rd l3 x40_2) : Int).toNat true) (wrap64 (x13_2 + 1)) l3 (l3.length : Int) (wrap64 (x40_2 + 1)))) else (none)) else (none)) = some (r1, r2) := by rw [if_neg (show ¬ (false = true) by decide)] at H; exact H
               clear H
               have H := H1
               clear H1
               by_cases c20 : 0 ≤ (rd l3 x40_2)
               ·
                rw [if_pos c20] at H
                have c20b0 : decide (0 ≤ (rd l3 x40_2)) = true := decide_eq_true c20
                clear c20
                by_cases c21 : (rd l3 x40_2) < (x12_2.length : Int)
                ·
                 rw [if_pos c21] at H
                 have c21b0 : decide ((rd l3 x40_2) < (x12_2.length : Int)) = true := decide_eq_true c21
                 clear c21
                 obtain ⟨bq22, hbq22⟩ : ∃ b_ : Bool, b_ = (rdOf false x12_2 (rd l3 x40_2)) := ⟨_, rfl⟩
                 replace H : (if bq22 = true then (parity_fits.l0 kj16 l0 l1 l2 (l0.length : Int) (l2.length : Int) (x12_2.set ((rd l3 x40_2) : Int).toNat true) x13_2 l3 (l3.length : Int) (wrap64 (x40_2 + 1))) else (parity_fits.l0 kj16 l0 l1 l2 (l0.length : Int) (l2.length : Int) (x12_2.set ((rd l3 x40_2) : Int).toNat true) (wrap64 (x13_2 + 1)) l3 (l3.length : Int) (wrap64 (x40_2 + 1)))) = some (r1, r2) := by rw [← hbq22] at H; exact H
                 have Nbq22 := sqM hbq22
                 clear hbq22
                 by_cases c23 : bq22 = true
                 ·
                  subst c23
                  have H1 : (parity_fits.l0 kj16 l0 l1 l2 (l0.length : Int) (l2.length : Int) (x12_2.set ((rd l3 x40_2) : Int).toNat true) x13_2 l3 (l3.length : Int) (wrap64 (x40_2 + 1))) = some (r1, r2) := by rw [if_pos rfl] at H; exact H
                  clear H
                  have H := H1
                  clear H1
                  obtain ⟨y152, hy152⟩ : ∃ y_ : List Bool, y_ = (x12_2.set ((rd l3 x40_2) : Int).toNat true) := ⟨_, rfl⟩
                  replace H : (parity_fits.l0 kj16 l0 l1 l2 (l0.length : Int) (l2.length : Int) y152 x13_2 l3 (l3.length : Int) (wrap64 (x40_2 + 1))) = some (r1, r2) := by (rw [hy152]; with_reducible exact H)
                  have Ny152 := sqM hy152
                  clear hy152
                  have H' := sqM H
                  clear H
                  obtain ⟨Ao25, co25, eo25⟩ := Kd.R_slice HO_12.out
                  subst eo25
                  have p151 : 0 ≤ ((rd l3 x40_2) : Int) := of_decide_eq_true (by (with_reducible assumption))
                  have q151 : (rd l3 x40_2) < (x12_2.length : Int) := of_decide_eq_true (by (with_reducible assumption))
                  obtain ⟨ad151, e151, hx151_0⟩ := Kd.at_bool (Kd.R_reads' HO_12.out).2.2 (rd l3 x40_2) p151 q151
                  (try rw [← Nbq22.out] at hx151_0)
                  cases e151
                  replace p151 := eq_true p151
                  replace q151 := eq_true q151
                  have p24 : 0 ≤ ((rd l3 x40_2) : Int) := of_decide_eq_true (by (with_reducible assumption))
                  have q24 : ((rd l3 x40_2) : Int) < ((x12_2.length : Int) : Int) := of_decide_eq_true (by (with_reducible assumption))
                  obtain ⟨go24, co24, eo24, gb24, gl24, cl24, HG24⟩ := Kd.R_form HO_12.out (by omega)
                  (cases eo24)
                  have GB24 := sqM gb24
                  have GG24 := sqM HG24
                  clear gb24 gl24 HG24
                  (simp only [add_plain] at hx151_0)
                  obtain ⟨hx24_0, hf24_0⟩ := Kd.R_celln false HO_12.out ((rd l3 x40_2) : Int) p24 q24
                  replace p24 := eq_true p24
                  replace q24 := eq_true q24
                  have HP26 := Kd.R_putg HO_12.out ((rd l3 x40_2) : Int) true
                  go_wp2_with (first | ((with_reducible refine q1j (t := 4) (p := 62) rfl ?_); refine q14 (t := 4) (p := 62) (v := ?vo_w27) (w1 := (wc.setCell ⟨go24, ((rd l3 x40_2) : Int).toNat, none⟩ (.bool true))) ?hg ?ho ?hn ?hr ?_; (case ho => rfl); (case hg => rfl); (case hn => rfl); (case hr => ((go_simp; done))); intro w27 hw; have hg : wc.grownBy w27 (some go24) := (by rw [hw]; exact HP26.2); have hp_ : Kd.R Kd.bool 4 w27 w.heap.size (fun _ => True) (.slice (some ⟨go24, 0, none⟩) x12_2.length co25) y152 := (by rw [hw, Ny152.out]; exact HP26.1); clear HP26; have n0_ := sqM (hp_); have n1_ := sqM ((by rw [hw]; exact q0m (HB.out) GB24.out : Below w.heap.size w w27)); clear HO_12; clear HB; have HO_12 := n0_; have HB := n1_; clear n0_ n1_; clear hg hw hp_))
                  go_roundg kj16
                  case measure => have := HJ4.out; have := HK2.out; have := HJ16.out; omega
                  case rel => exact ⟨(y152), (x13_2), (wrap64 (x40_2 + 1)), (by rfl), (by rfl), H', ⟨by have := HJ4.out; have := HK2.out; have := HJ16.out; omega⟩, ⟨by (with_reducible repeat (first | apply Kd.R_alloc | apply Kd.R_drewN | apply Kd.R_drew)); exact HO_12.out⟩, ⟨by repeat ((with_reducible (exact HB.out)))⟩⟩
                 ·
                  replace c23 := Bool.eq_false_iff.mpr c23
                  subst c23
                  have H1 : (parity_fits.l0 kj16 l0 l1 l2 (l0.length : Int) (l2.length : Int) (x12_2.set ((rd l3 x40_2) : Int).toNat true) (wrap64 (x13_2 + 1)) l3 (l3.length : Int) (wrap64 (x40_2 + 1))) = some (r1, r2) := by rw [if_neg (show ¬ (false = true) by decide)] at H; exact H
                  clear H
                  have H := H1
                  clear H1
                  obtain ⟨y153, hy153⟩ : ∃ y_ : List Bool, y_ = (x12_2.set ((rd l3 x40_2) : Int).toNat true) := ⟨_, rfl⟩
                  replace H : (parity_fits.l0 kj16 l0 l1 l2 (l0.length : Int) (l2.length : Int) y153 (wrap64 (x13_2 + 1)) l3 (l3.length : Int) (wrap64 (x40_2 + 1))) = some (r1, r2) := by (rw [hy153]; with_reducible exact H)
                  have Ny153 := sqM hy153
                  clear hy153
                  have H' := sqM H
                  clear H
                  obtain ⟨Ao29, co29, eo29⟩ := Kd.R_slice HO_12.out
                  subst eo29
                  have p151 : 0 ≤ ((rd l3 x40_2) : Int) := of_decide_eq_true (by (with_reducible assumption))
                  have q151 : (rd l3 x40_2) < (x12_2.length : Int) := of_decide_eq_true (by (with_reducible assumption))
                  obtain ⟨ad151, e151, hx151_0⟩ := Kd.at_bool (Kd.R_reads' HO_12.out).2.2 (rd l3 x40_2) p151 q151
                  (try rw [← Nbq22.out] at hx151_0)
                  cases e151
                  replace p151 := eq_true p151
                  replace q151 := eq_true q151
                  have p28 : 0 ≤ ((rd l3 x40_2) : Int) := of_decide_eq_true (by (with_reducible assumption))
                  have q28 : ((rd l3 x40_2) : Int) < ((x12_2.length : Int) : Int) := of_decide_eq_true (by (with_reducible assumption))
                  obtain ⟨go28, co28, eo28, gb28, gl28, cl28, HG28⟩ := Kd.R_form HO_12.out (by omega)
                  (cases eo28)
                  have GB28 := sqM gb28
                  have GG28 := sqM HG28
                  clear gb28 gl28 HG28
                  (simp only [add_plain] at hx151_0)
                  obtain ⟨hx28_0, hf28_0⟩ := Kd.R_celln false HO_12.out ((rd l3 x40_2) : Int) p28 q28
                  replace p28 := eq_true p28
                  replace q28 := eq_true q28
                  have HP30 := Kd.R_putg HO_12.out ((rd l3 x40_2) : Int) true
                  go_wp2_with (first | ((with_reducible refine q1j (t := 4) (p := 62) rfl ?_); refine q14 (t := 4) (p := 62) (v := ?vo_w31) (w1 := (wc.setCell ⟨go28, ((rd l3 x40_2) : Int).toNat, none⟩ (.bool true))) ?hg ?ho ?hn ?hr ?_; (case ho => rfl); (case hg => rfl); (case hn => rfl); (case hr => ((go_simp; done))); intro w31 hw; have hg : wc.grownBy w31 (some go28) := (by rw [hw]; exact HP30.2); have hp_ : Kd.R Kd.bool 4 w31 w.heap.size (fun _ => True) (.slice (some ⟨go28, 0, none⟩) x12_2.length co29) y153 := (by rw [hw, Ny153.out]; exact HP30.1); clear HP30; have n0_ := sqM (hp_); have n1_ := sqM ((by rw [hw]; exact q0m (HB.out) GB28.out : Below w.heap.size w w31)); clear HO_12; clear HB; have HO_12 := n0_; have HB := n1_; clear n0_ n1_; clear hg hw hp_))
                  go_roundg kj16
                  case measure => have := HJ4.out; have := HK2.out; have := HJ16.out; omega
                  case rel => exact ⟨(y153), (wrap64 (x13_2 + 1)), (wrap64 (x40_2 + 1)), (by rfl), (by rfl), H', ⟨by have := HJ4.out; have := HK2.out; have := HJ16.out; omega⟩, ⟨by (with_reducible repeat (first | apply Kd.R_alloc | apply Kd.R_drewN | apply Kd.R_drew)); exact HO_12.out⟩, ⟨by repeat ((with_reducible (exact HB.out)))⟩⟩
                · rw [if_neg c21] at H
                  exact absurd H (by simp)
               · rw [if_neg c20] at H
                 exact absurd H (by simp)
           · rw [if_neg c16] at H
             exact absurd H (by simp)
          · rw [if_neg c15] at H
            exact absurd H (by simp)
         ·
          rw [if_neg c14] at H
          have c14b0 : decide (x40_2 < (l3.length : Int)) = false := decide_eq_false c14
          clear c14
          have H' := sqM H
          clear H
          go_wp2
          go_loopg [66] k2 (fun kq v66 w' => ∃ (x66_3 : Int), v66 = .int .i64 x66_3 ∧ Aside0 (parity_fits.l1 kq l0 l1 l2 (l0.length : Int) (l2.length : Int) x12_2 x13_2 l1 (l1.length : Int) x66_3 = some (r1, r2)) ∧ Aside0 (kq ≤ k2) ∧ Aside0 (Kd.R Kd.bool 4 w' w.heap.size (fun _ => True) v148 x12_2) ∧ Aside0 (Below w.heap.size w w'))
          case atStart => exact ⟨(0), (by rfl), H', ⟨Nat.le_refl _⟩, ⟨by (with_reducible repeat (first | apply Kd.R_alloc | apply Kd.R_drewN | apply Kd.R_drew)); exact HO_12.out⟩, ⟨by repeat ((with_reducible (exact HB.out)))⟩⟩
          case round =>
           clear H'
           try clear c14b0
           obtain ⟨x66_3, rfl, HA, HK3, HO_12, HB⟩ := hrel
           cases gk with
           | zero => exact absurd HA.out (by simp [parity_fits.l1])
           | succ k3 =>
            have H := HA.out
            clear HA
            simp only [parity_fits.l1] at H
            by_cases c32 : x66_3 < (l1.length : Int)
            ·
             rw [if_pos c32] at H
             have c32b0 : decide (x66_3 < (l1.length : Int)) = true := decide_eq_true c32
             clear c32
             by_cases c33 : 0 ≤ x66_3
             ·
              rw [if_pos c33] at H
              have c33b0 : decide (0 ≤ x66_3) = true := decide_eq_true c33
              clear c33
              by_cases c34 : x66_3 < (l1.length : Int)
              ·
               rw [if_pos c34] at H
               have c34b0 : decide (x66_3 < (l1.length : Int)) = true := decide_eq_true c34
               clear c34
               by_cases c35 : (rd l1 x66_3) < 0
               · rw [if_pos c35] at H
                 have c35b0 : decide ((rd l1 x66_3) < 0) = true := decide_eq_true c35
                 clear c35
                 simp only [Option.some.injEq, Prod.mk.injEq] at H
                 obtain ⟨rfl, rfl⟩ := H
                 have p154 : 0 ≤ (x66_3 : Int) := of_decide_eq_true (by (with_reducible assumption))
                 have q154 : x66_3 < (l1.length : Int) := of_decide_eq_true (by (with_reducible assumption))
                 obtain ⟨ad154, e154, hx154_0⟩ := Kd.at_int HR1.out x66_3 p154 q154
                 cases e154
                 replace hx154_0 := (HB.out.cell (World.block_lt_of_cell? w _ hx154_0)).trans hx154_0
                 replace p154 := eq_true p154
                 replace q154 := eq_true q154
                 go_wp2
                 go_ret2
                 exact ⟨_, by rfl, by exact Kd.R_nil _ _ _ _ _, by repeat ((with_reducible (exact HB.out)))⟩
               ·
                rw [if_neg c35] at H
                have c35b0 : decide ((rd l1 x66_3) < 0) = false := decide_eq_false c35
                clear c35
                by_cases c36 : (rd l1 x66_3) > 16777216
                · rw [if_pos c36] at H
                  have c36b0 : decide (16777216 < (rd l1 x66_3)) = true := decide_eq_true c36
                  clear c36
                  simp only [Option.some.injEq, Prod.mk.injEq] at H
                  obtain ⟨rfl, rfl⟩ := H
                  have p154 : 0 ≤ (x66_3 : Int) := of_decide_eq_true (by (with_reducible assumption))
                  have q154 : x66_3 < (l1.length : Int) := of_decide_eq_true (by (with_reducible assumption))
                  obtain ⟨ad154, e154, hx154_0⟩ := Kd.at_int HR1.out x66_3 p154 q154
                  cases e154
                  replace hx154_0 := (HB.out.cell (World.block_lt_of_cell? w _ hx154_0)).trans hx154_0
                  replace p154 := eq_true p154
                  replace q154 := eq_true q154
                  go_wp2
                  go_ret2
                  exact ⟨_, by rfl, by exact Kd.R_nil _ _ _ _ _, by repeat ((with_reducible (exact HB.out)))⟩
                ·
                 rw [if_neg c36] at H
                 have c36b0 : decide (16777216 < (rd l1 x66_3)) = false := decide_eq_false c36
                 clear c36
                 by_cases c37 : x66_3 < (x12_2.length : Int)
                 ·
                  rw [if_pos c37] at H
                  have c37b0 : decide (x66_3 < (x12_2.length : Int)) = true := decide_eq_true c37
                  clear c37
                  obtain ⟨bq38, hbq38⟩ : ∃ b_ : Bool, b_ = (rdOf false x12_2 x66_3) := ⟨_, rfl⟩
                  replace H : (if bq38 = true then (parity_fits.l1 k3 l0 l1 l2 (l0.length : Int) (l2.length : Int) x12_2 x13_2 l1 (l1.length : Int) (wrap64 (x66_3 + 1))) else (if x66_3 < (l0.length : Int) then (if ((rd_L2 l0 x66_3).length : Int) = (rd l1 x66_3) then (parity_fits.l1 k3 l0 l1 l2 (l0.length : Int) (l2.length : Int) x12_2 x13_2 l1 (l1.length : Int) (wrap64 (x66_3 + 1))) else (some (([] : List Bool), 52))) else (none))) = some (r1, r2) := by rw [← hbq38] at H; exact H
                  have Nbq38 := sqM hbq38
                  clear hbq38
                  by_cases c39 : bq38 = true
                  ·
                   subst c39
                   have H1 : (parity_fits.l1 k3 l0 l1 l2 (l0.length : Int) (l2.length : Int) x12_2 x13_2 l1 (l1.length : Int) (wrap64 (x66_3 + 1))) = some (r1, r2) := by rw [if_pos rfl] at H; exact H
                   clear H
                   have H := H1
                   clear H1
                   have H' := sqM H
                   clear H
                   have p154 : 0 ≤ (x66_3 : Int) := of_decide_eq_true (by (with_reducible assumption))
                   have q154 : x66_3 < (l1.length : Int) := of_decide_eq_true (by (with_reducible assumption))
                   obtain ⟨ad154, e154, hx154_0⟩ := Kd.at_int HR1.out x66_3 p154 q154
                   cases e154
                   replace hx154_0 := (HB.out.cell (World.block_lt_of_cell? w _ hx154_0)).trans hx154_0
                   replace p154 := eq_true p154
                   replace q154 := eq_true q154
                   obtain ⟨Ao40, co40, eo40⟩ := Kd.R_slice HO_12.out
                   subst eo40
                   have p155 : 0 ≤ (x66_3 : Int) := of_decide_eq_true (by (with_reducible assumption))
                   have q155 : x66_3 < (x12_2.length : Int) := of_decide_eq_true (by (with_reducible assumption))
                   obtain ⟨ad155, e155, hx155_0⟩ := Kd.at_bool (Kd.R_reads' HO_12.out).2.2 x66_3 p155 q155
                   (try rw [← Nbq38.out] at hx155_0)
                   cases e155
                   replace p155 := eq_true p155
                   replace q155 := eq_true q155
                   go_wp2
                   go_roundg k3
                   case measure => have := HJ4.out; have := HK2.out; have := HK3.out; omega
                   case rel => exact ⟨(wrap64 (x66_3 + 1)), (by rfl), H', ⟨by have := HJ4.out; have := HK2.out; have := HK3.out; omega⟩, ⟨by (with_reducible repeat (first | apply Kd.R_alloc | apply Kd.R_drewN | apply Kd.R_drew)); exact HO_12.out⟩, ⟨by repeat ((with_reducible (exact HB.out)))⟩⟩
                  ·
                   replace c39 := Bool.eq_false_iff.mpr c39
                   subst c39
                   have H1 : (if x66_3 < (l0.length : Int) then (if ((rd_L2 l0 x66_3).length : Int) = (rd l1 x66_3) then (parity_fits.l1 k3 l0 l1 l2 (l0.length : Int) (l2.length : Int) x12_2 x13_2 l1 (l1.length : Int) (wrap64 (x66_3 + 1))) else (some (([] : List Bool), 52))) else (none)) = some (r1, r2) := by rw [if_neg (show ¬ (false = true) by decide)] at H; exact H
                   clear H
                   have H := H1
                   clear H1
                   by_cases c41 : x66_3 < (l0.length : Int)
                   ·
                    rw [if_pos c41] at H
                    have c41b0 : decide (x66_3 < (l0.length : Int)) = true := decide_eq_true c41
                    clear c41
                    by_cases c42 : ((rd_L2 l0 x66_3).length : Int) = (rd l1 x66_3)
                    ·
                     rw [if_pos c42] at H
                     have c42b0 : (((rd_L2 l0 x66_3).length : Int) == (rd l1 x66_3)) = true := beq_iff_eq.mpr c42
                     have c42b1 : (((rd_L2 l0 x66_3).length : Int) != (rd l1 x66_3)) = false := bne_eq_false_iff_eq.mpr c42
                     clear c42
                     have H' := sqM H
                     clear H
                     have p154 : 0 ≤ (x66_3 : Int) := of_decide_eq_true (by (with_reducible assumption))
                     have q154 : x66_3 < (l1.length : Int) := of_decide_eq_true (by (with_reducible assumption))
                     obtain ⟨ad154, e154, hx154_0⟩ := Kd.at_int HR1.out x66_3 p154 q154
                     cases e154
                     replace hx154_0 := (HB.out.cell (World.block_lt_of_cell? w _ hx154_0)).trans hx154_0
                     replace p154 := eq_true p154
                     replace q154 := eq_true q154
                     obtain ⟨Ao43, co43, eo43⟩ := Kd.R_slice HO_12.out
                     subst eo43
                     have p155 : 0 ≤ (x66_3 : Int) := of_decide_eq_true (by (with_reducible assumption))
                     have q155 : x66_3 < (x12_2.length : Int) := of_decide_eq_true (by (with_reducible assumption))
                     obtain ⟨ad155, e155, hx155_0⟩ := Kd.at_bool (Kd.R_reads' HO_12.out).2.2 x66_3 p155 q155
                     (try rw [← Nbq38.out] at hx155_0)
                     cases e155
                     replace p155 := eq_true p155
                     replace q155 := eq_true q155
                     have p156 : 0 ≤ (x66_3 : Int) := of_decide_eq_true (by (with_reducible assumption))
                     have q156 : x66_3 < (l0.length : Int) := of_decide_eq_true (by (with_reducible assumption))
                     obtain ⟨ad156, A156_0, c156_0, e156, hx156_0, hl156_0, hi156_0⟩ := at_L2 HR0.out x66_3 p156 q156
                     cases e156
                     replace hx156_0 := (HB.out.cell (World.block_lt_of_cell? w _ hx156_0)).trans hx156_0
                     have HR156_0 := sqM hi156_0
                     have HC156_0 := sqM hl156_0
                     clear hi156_0 hl156_0
                     replace p156 := eq_true p156
                     replace q156 := eq_true q156
                     go_wp2
                     go_roundg k3
                     case measure => have := HJ4.out; have := HK2.out; have := HK3.out; omega
                     case rel => exact ⟨(wrap64 (x66_3 + 1)), (by rfl), H', ⟨by have := HJ4.out; have := HK2.out; have := HK3.out; omega⟩, ⟨by (with_reducible repeat (first | apply Kd.R_alloc | apply Kd.R_drewN | apply Kd.R_drew)); exact HO_12.out⟩, ⟨by repeat ((with_reducible (exact HB.out)))⟩⟩
                    ·
                     rw [if_neg c42] at H
                     have c42b0 : (((rd_L2 l0 x66_3).length : Int) == (rd l1 x66_3)) = false := beq_eq_false_iff_ne.mpr c42
                     have c42b1 : (((rd_L2 l0 x66_3).length : Int) != (rd l1 x66_3)) = true := bne_iff_ne.mpr c42
                     simp only [Option.some.injEq, Prod.mk.injEq] at H
                     obtain ⟨rfl, rfl⟩ := H
                     have p154 : 0 ≤ (x66_3 : Int) := of_decide_eq_true (by (with_reducible assumption))
                     have q154 : x66_3 < (l1.length : Int) := of_decide_eq_true (by (with_reducible assumption))
                     obtain ⟨ad154, e154, hx154_0⟩ := Kd.at_int HR1.out x66_3 p154 q154
                     cases e154
                     replace hx154_0 := (HB.out.cell (World.block_lt_of_cell? w _ hx154_0)).trans hx154_0
                     replace p154 := eq_true p154
                     replace q154 := eq_true q154
                     obtain ⟨Ao44, co44, eo44⟩ := Kd.R_slice HO_12.out
                     subst eo44
                     have p155 : 0 ≤ (x66_3 : Int) := of_decide_eq_true (by (with_reducible assumption))
                     have q155 : x66_3 < (x12_2.length : Int) := of_decide_eq_true (by (with_reducible assumption))
                     obtain ⟨ad155, e155, hx155_0⟩ := Kd.at_bool (Kd.R_reads' HO_12.out).2.2 x66_3 p155 q155
                     (try rw [← Nbq38.out] at hx155_0)
                     cases e155
                     replace p155 := eq_true p155
                     replace q155 := eq_true q155
                     have p156 : 0 ≤ (x66_3 : Int) := of_decide_eq_true (by (with_reducible assumption))
                     have q156 : x66_3 < (l0.length : Int) := of_decide_eq_true (by (with_reducible assumption))
                     obtain ⟨ad156, A156_0, c156_0, e156, hx156_0, hl156_0, hi156_0⟩ := at_L2 HR0.out x66_3 p156 q156
                     cases e156
                     replace hx156_0 := (HB.out.cell (World.block_lt_of_cell? w _ hx156_0)).trans hx156_0
                     have HR156_0 := sqM hi156_0
                     have HC156_0 := sqM hl156_0
                     clear hi156_0 hl156_0
                     replace p156 := eq_true p156
                     replace q156 := eq_true q156
                     go_wp2
                     go_ret2
                     exact ⟨_, by rfl, by exact Kd.R_nil _ _ _ _ _, by repeat ((with_reducible (exact HB.out)))⟩
                   · rw [if_neg c41] at H
                     exact absurd H (by simp)
                 · rw [if_neg c37] at H
                   exact absurd H (by simp)
              · rw [if_neg c34] at H
                exact absurd H (by simp)
             · rw [if_neg c33] at H
               exact absurd H (by simp)
            ·
             rw [if_neg c32] at H
             have c32b0 : decide (x66_3 < (l1.length : Int)) = false := decide_eq_false c32
             clear c32
             have H' := sqM H
             clear H
             go_wp2
             go_loopg [96] k3 (fun kq v96 w' => ∃ (x96_4 : Int), v96 = .int .i64 x96_4 ∧ Aside0 (parity_fits.l2 kq l1 (l0.length : Int) (l2.length : Int) x12_2 x13_2 l2 (l2.length : Int) x96_4 = some (r1, r2)) ∧ Aside0 (kq ≤ k3) ∧ Aside0 (Kd.R Kd.bool 4 w' w.heap.size (fun _ => True) v148 x12_2) ∧ Aside0 (Below w.heap.size w w'))
             case atStart => exact ⟨(0), (by rfl), H', ⟨Nat.le_refl _⟩, ⟨by (with_reducible repeat (first | apply Kd.R_alloc | apply Kd.R_drewN | apply Kd.R_drew)); exact HO_12.out⟩, ⟨by repeat ((with_reducible (exact HB.out)))⟩⟩
             case round =>
              clear H'
              try clear c32b0
              obtain ⟨x96_4, rfl, HA, HK4, HO_12, HB⟩ := hrel
              cases gk with
              | zero => exact absurd HA.out (by simp [parity_fits.l2])
              | succ k4 =>
               have H := HA.out
               clear HA
               simp only [parity_fits.l2] at H
               by_cases c45 : x96_4 < (l2.length : Int)
               ·
                rw [if_pos c45] at H
                have c45b0 : decide (x96_4 < (l2.length : Int)) = true := decide_eq_true c45
                clear c45
                by_cases c46 : 0 ≤ x96_4
                ·
                 rw [if_pos c46] at H
                 have c46b0 : decide (0 ≤ x96_4) = true := decide_eq_true c46
                 clear c46
                 by_cases c47 : x96_4 < (l2.length : Int)
                 ·
                  rw [if_pos c47] at H
                  have c47b0 : decide (x96_4 < (l2.length : Int)) = true := decide_eq_true c47
                  clear c47
                  obtain ⟨ji48, hji48⟩ : ∃ j_ : Int, (wrap64 ((l0.length : Int) + x96_4)) = j_ := ⟨_, rfl⟩
                  replace H : (if 0 ≤ (ji48) then (if (ji48) < (x12_2.length : Int) then (if (rdOf false x12_2 (ji48) = true) then (parity_fits.l2 k4 l1 (l0.length : Int) (l2.length : Int) x12_2 x13_2 l2 (l2.length : Int) (wrap64 (x96_4 + 1))) else ((parity_wide.f k4 l1).bind fun t159 => (if ((rd_L2 l2 x96_4).length : Int) = t159 then (parity_fits.l2 k4 l1 (l0.length : Int) (l2.length : Int) x12_2 x13_2 l2 (l2.length : Int) (wrap64 (x96_4 + 1))) else (some (([] : List Bool), 52))))) else (none)) else (none)) = some (r1, r2) := by (rw [hji48] at H; exact H)
                  have hji48w : (IntKind.i64.wrap ((l0.length : Int) + x96_4)) = ji48 := (i64_w _).trans hji48
                  by_cases c49 : 0 ≤ (ji48)
                  ·
                   rw [if_pos c49] at H
                   have c49b0 : decide (0 ≤ (ji48)) = true := decide_eq_true c49
                   clear c49
                   by_cases c50 : (ji48) < (x12_2.length : Int)
                   ·
                    rw [if_pos c50] at H
                    have c50b0 : decide ((ji48) < (x12_2.length : Int)) = true := decide_eq_true c50
                    clear c50
                    obtain ⟨bq51, hbq51⟩ : ∃ b_ : Bool, b_ = (rdOf false x12_2 (ji48)) := ⟨_, rfl⟩
                    replace H : (if (bq51 = true) then (parity_fits.l2 k4 l1 (l0.length : Int) (l2.length : Int) x12_2 x13_2 l2 (l2.length : Int) (wrap64 (x96_4 + 1))) else ((parity_wide.f k4 l1).bind fun t159 => (if ((rd_L2 l2 x96_4).length : Int) = t159 then (parity_fits.l2 k4 l1 (l0.length : Int) (l2.length : Int) x12_2 x13_2 l2 (l2.length : Int) (wrap64 (x96_4 + 1))) else (some (([] : List Bool), 52))))) = some (r1, r2) := by rw [← hbq51] at H; exact H
                    have Nbq51 := sqM hbq51
                    clear hbq51
                    by_cases c52 : (bq51 = true)
                    ·
                     subst c52
                     have H1 : (parity_fits.l2 k4 l1 (l0.length : Int) (l2.length : Int) x12_2 x13_2 l2 (l2.length : Int) (wrap64 (x96_4 + 1))) = some (r1, r2) := by rw [if_pos rfl] at H; exact H
                     clear H
                     have H := H1
                     clear H1
                     have H' := sqM H
                     clear H
                     have p157 : 0 ≤ (x96_4 : Int) := of_decide_eq_true (by (with_reducible assumption))
                     have q157 : x96_4 < (l2.length : Int) := of_decide_eq_true (by (with_reducible assumption))
                     obtain ⟨ad157, A157_0, c157_0, e157, hx157_0, hl157_0, hi157_0⟩ := at_L2 HR2.out x96_4 p157 q157
                     cases e157
                     replace hx157_0 := (HB.out.cell (World.block_lt_of_cell? w _ hx157_0)).trans hx157_0
                     have HR157_0 := sqM hi157_0
                     have HC157_0 := sqM hl157_0
                     clear hi157_0 hl157_0
                     replace p157 := eq_true p157
                     replace q157 := eq_true q157
                     obtain ⟨Ao53, co53, eo53⟩ := Kd.R_slice HO_12.out
                     subst eo53
                     have p158 : 0 ≤ ((ji48) : Int) := of_decide_eq_true (by (with_reducible assumption))
                     have q158 : (ji48) < (x12_2.length : Int) := of_decide_eq_true (by (with_reducible assumption))
                     obtain ⟨ad158, e158, hx158_0⟩ := Kd.at_bool (Kd.R_reads' HO_12.out).2.2 (ji48) p158 q158
                     (try rw [← Nbq51.out] at hx158_0)
                     cases e158
                     replace p158 := eq_true p158
                     replace q158 := eq_true q158
                     go_wp2
                     go_roundg k4
                     case measure => have := HJ4.out; have := HK2.out; have := HK3.out; have := HK4.out; omega
                     case rel => exact ⟨(wrap64 (x96_4 + 1)), (by rfl), H', ⟨by have := HJ4.out; have := HK2.out; have := HK3.out; have := HK4.out; omega⟩, ⟨by (with_reducible repeat (first | apply Kd.R_alloc | apply Kd.R_drewN | apply Kd.R_drew)); exact HO_12.out⟩, ⟨by repeat ((with_reducible (exact HB.out)))⟩⟩
                    ·
                     replace c52 := Bool.eq_false_iff.mpr c52
                     subst c52
                     have H1 : ((parity_wide.f k4 l1).bind fun t159 => (if ((rd_L2 l2 x96_4).length : Int) = t159 then (parity_fits.l2 k4 l1 (l0.length : Int) (l2.length : Int) x12_2 x13_2 l2 (l2.length : Int) (wrap64 (x96_4 + 1))) else (some (([] : List Bool), 52)))) = some (r1, r2) := by rw [if_neg (show ¬ (false = true) by decide)] at H; exact H
                     clear H
                     have H := H1
                     clear H1
                     replace H := Option.bind_eq_some_iff.mp H
                     obtain ⟨t159, A540, H⟩ := H
                     replace H : (if ((rd_L2 l2 x96_4).length : Int) = t159 then (parity_fits.l2 k4 l1 (l0.length : Int) (l2.length : Int) x12_2 x13_2 l2 (l2.length : Int) (wrap64 (x96_4 + 1))) else (some (([] : List Bool), 52))) = some (r1, r2) := H
                     have A54 := sqM A540
                     clear A540
                     by_cases c55 : ((rd_L2 l2 x96_4).length : Int) = t159
                     ·
                      rw [if_pos c55] at H
                      have c55b0 : (((rd_L2 l2 x96_4).length : Int) == t159) = true := beq_iff_eq.mpr c55
                      have c55b1 : (((rd_L2 l2 x96_4).length : Int) != t159) = false := bne_eq_false_iff_eq.mpr c55
                      clear c55
                      have H' := sqM H
                      clear H
                      have p157 : 0 ≤ (x96_4 : Int) := of_decide_eq_true (by (with_reducible assumption))
                      have q157 : x96_4 < (l2.length : Int) := of_decide_eq_true (by (with_reducible assumption))
                      obtain ⟨ad157, A157_0, c157_0, e157, hx157_0, hl157_0, hi157_0⟩ := at_L2 HR2.out x96_4 p157 q157
                      cases e157
                      replace hx157_0 := (HB.out.cell (World.block_lt_of_cell? w _ hx157_0)).trans hx157_0
                      have HR157_0 := sqM hi157_0
                      have HC157_0 := sqM hl157_0
                      clear hi157_0 hl157_0
                      replace p157 := eq_true p157
                      replace q157 := eq_true q157
                      obtain ⟨Ao56, co56, eo56⟩ := Kd.R_slice HO_12.out
                      subst eo56
                      have p158 : 0 ≤ ((ji48) : Int) := of_decide_eq_true (by (with_reducible assumption))
                      have q158 : (ji48) < (x12_2.length : Int) := of_decide_eq_true (by (with_reducible assumption))
                      obtain ⟨ad158, e158, hx158_0⟩ := Kd.at_bool (Kd.R_reads' HO_12.out).2.2 (ji48) p158 q158
                      (try rw [← Nbq51.out] at hx158_0)
                      cases e158
                      replace p158 := eq_true p158
                      replace q158 := eq_true q158
                      go_wp2_with (first | (go_at_call 31; (with_reducible refine (parity_wide.calls k4 _ _ l1 t159 _ ?side1 ?side2 A54.out).mono ?_); (case side1 => repeat (exact (Kd.C_below HR1.out HB.out))); (case side2 => exact HC1.out); rintro e w57 ⟨rfl, hb⟩; have n0_ := sqM (Kd.R_below (by (with_reducible repeat (first | apply Kd.R_alloc | apply Kd.R_drewN | apply Kd.R_drew)); exact HO_12.out) hb); have n1_ := sqM (q04 (by repeat ((with_reducible (exact HB.out)))) hb); clear HO_12; clear HB; have HO_12 := n0_; have HB := n1_; clear n0_ n1_; (try clear hb); (skip)))
                      go_roundg k4
                      case measure => have := HJ4.out; have := HK2.out; have := HK3.out; have := HK4.out; omega
                      case rel => exact ⟨(wrap64 (x96_4 + 1)), (by rfl), H', ⟨by have := HJ4.out; have := HK2.out; have := HK3.out; have := HK4.out; omega⟩, ⟨by (with_reducible repeat (first | apply Kd.R_alloc | apply Kd.R_drewN | apply Kd.R_drew)); exact HO_12.out⟩, ⟨by repeat ((with_reducible (exact HB.out)))⟩⟩
                     ·
                      rw [if_neg c55] at H
                      have c55b0 : (((rd_L2 l2 x96_4).length : Int) == t159) = false := beq_eq_false_iff_ne.mpr c55
                      have c55b1 : (((rd_L2 l2 x96_4).length : Int) != t159) = true := bne_iff_ne.mpr c55
                      simp only [Option.some.injEq, Prod.mk.injEq] at H
                      obtain ⟨rfl, rfl⟩ := H
                      have p157 : 0 ≤ (x96_4 : Int) := of_decide_eq_true (by (with_reducible assumption))
                      have q157 : x96_4 < (l2.length : Int) := of_decide_eq_true (by (with_reducible assumption))
                      obtain ⟨ad157, A157_0, c157_0, e157, hx157_0, hl157_0, hi157_0⟩ := at_L2 HR2.out x96_4 p157 q157
                      cases e157
                      replace hx157_0 := (HB.out.cell (World.block_lt_of_cell? w _ hx157_0)).trans hx157_0
                      have HR157_0 := sqM hi157_0
                      have HC157_0 := sqM hl157_0
                      clear hi157_0 hl157_0
                      replace p157 := eq_true p157
                      replace q157 := eq_true q157
                      obtain ⟨Ao58, co58, eo58⟩ := Kd.R_slice HO_12.out
                      subst eo58
                      have p158 : 0 ≤ ((ji48) : Int) := of_decide_eq_true (by (with_reducible assumption))
                      have q158 : (ji48) < (x12_2.length : Int) := of_decide_eq_true (by (with_reducible assumption))
                      obtain ⟨ad158, e158, hx158_0⟩ := Kd.at_bool (Kd.R_reads' HO_12.out).2.2 (ji48) p158 q158
                      (try rw [← Nbq51.out] at hx158_0)
                      cases e158
                      replace p158 := eq_true p158
                      replace q158 := eq_true q158
                      go_wp2_with (first | (go_at_call 31; (with_reducible refine (parity_wide.calls k4 _ _ l1 t159 _ ?side1 ?side2 A54.out).mono ?_); (case side1 => repeat (exact (Kd.C_below HR1.out HB.out))); (case side2 => exact HC1.out); rintro e w59 ⟨rfl, hb⟩; have n0_ := sqM (Kd.R_below (by (with_reducible repeat (first | apply Kd.R_alloc | apply Kd.R_drewN | apply Kd.R_drew)); exact HO_12.out) hb); have n1_ := sqM (q04 (by repeat ((with_reducible (exact HB.out)))) hb); clear HO_12; clear HB; have HO_12 := n0_; have HB := n1_; clear n0_ n1_; (try clear hb); (skip)))
                      go_ret2
                      exact ⟨_, by rfl, by exact Kd.R_nil _ _ _ _ _, by repeat ((with_reducible (exact HB.out)))⟩
                   · rw [if_neg c50] at H
                     exact absurd H (by simp)
                  · rw [if_neg c49] at H
                    exact absurd H (by simp)
                 · rw [if_neg c47] at H
                   exact absurd H (by simp)
                · rw [if_neg c46] at H
                  exact absurd H (by simp)
               ·
                rw [if_neg c45] at H
                have c45b0 : decide (x96_4 < (l2.length : Int)) = false := decide_eq_false c45
                clear c45
                by_cases c60 : x13_2 > (l2.length : Int)
                · rw [if_pos c60] at H
                  have c60b0 : decide ((l2.length : Int) < x13_2) = true := decide_eq_true c60
                  clear c60
                  simp only [Option.some.injEq, Prod.mk.injEq] at H
                  obtain ⟨rfl, rfl⟩ := H
                  go_wp2
                  go_ret2
                  exact ⟨_, by rfl, by exact Kd.R_nil _ _ _ _ _, by repeat ((with_reducible (exact HB.out)))⟩
                · rw [if_neg c60] at H
                  have c60b0 : decide ((l2.length : Int) < x13_2) = false := decide_eq_false c60
                  clear c60
                  simp only [Option.some.injEq, Prod.mk.injEq] at H
                  obtain ⟨rfl, rfl⟩ := H
                  go_wp2
                  go_ret2
                  exact ⟨_, by rfl, by (with_reducible repeat (first | apply Kd.R_alloc | apply Kd.R_drewN | apply Kd.R_drew)); exact HO_12.out, by repeat ((with_reducible (exact HB.out)))⟩
      · rw [if_neg c11] at H
        exact absurd H (by simp)
     · rw [if_neg c10] at H
       exact absurd H (by simp)
    ·
     rw [if_neg c8] at H
     have c8b0 : ((l1.length : Int) == (l0.length : Int)) = false := beq_eq_false_iff_ne.mpr c8
     have c8b1 : ((l1.length : Int) != (l0.length : Int)) = true := bne_iff_ne.mpr c8
     have c8b2 : (l1.length == l0.length) = false := by (simp at c8 ⊢; omega)
     simp only [Option.some.injEq, Prod.mk.injEq] at H
     obtain ⟨rfl, rfl⟩ := H
     go_wp2
     go_ret2
     exact ⟨_, by rfl, by exact Kd.R_nil _ _ _ _ _, by repeat ((with_reducible (exact HB.out)))⟩
def field_all.l0 : Nat → Int → List (List Int) → Int → Int → Option (Bool)
 | 0, _, _, _, _ => none
 | k + 1, x1, x7, x8, x9 => if x9 < x8 then (if 0 ≤ x9 then (if x9 < (x7.length : Int) then (if ((rd_L2 x7 x9).length : Int) = x1 then (field_all.l0 k x1 x7 x8 (wrap64 (x9 + 1))) else (some false)) else (none)) else (none)) else (some true)
def field_all.f (k : Nat) (l0 : List (List Int)) (a1 : Int) : Option (Bool) := field_all.l0 k a1 l0 (l0.length : Int) 0
set_option maxHeartbeats 8000000 in
set_option maxRecDepth 100000 in
theorem field_all.calls (k : Nat) (A0 : Option Addr) (c0 : Nat) (l0 : List (List Int)) (a1 : Int) (r : Bool) (w : World) (hr0 : Kd.C (Kd.slice 5 (Kd.int .u8)) w A0 l0.length l0) (hc0 : l0.length ≤ c0) (h : field_all.f k l0 a1 = some r) :
    Calls Try.prog 48 #[.slice A0 l0.length c0, .int .i64 a1] w fun e w' => e = .returned (.bool r) ∧ Drawn0 w w' := by
 have HR0 := sqM hr0
 have HC0 := sqM hc0
 clear hr0 hc0
 have H : (field_all.l0 k a1 l0 (l0.length : Int) 0) = some r := h
 clear h
 have H' := sqM H
 clear H
 go_enter Try.func48, Try.ntmps48
 go_wp2
 go_loopg [9] k (fun kq v9 w' => ∃ (x9_1 : Int), v9 = .int .i64 x9_1 ∧ Aside0 (field_all.l0 kq a1 l0 (l0.length : Int) x9_1 = some r) ∧ Aside0 (kq ≤ k) ∧ Drawn0 w w')
 case atStart => exact ⟨(0), (by rfl), H', ⟨Nat.le_refl _⟩, by repeat (exact Drawn0.refl _)⟩
 case round =>
  clear H'
  obtain ⟨x9_1, rfl, HA, HK1, ⟨m1, rfl⟩⟩ := hrel
  cases gk with
  | zero => exact absurd HA.out (by simp [field_all.l0])
  | succ k1 =>
   have H := HA.out
   clear HA
   simp only [field_all.l0] at H
   by_cases c3 : x9_1 < (l0.length : Int)
   ·
    rw [if_pos c3] at H
    have c3b0 : decide (x9_1 < (l0.length : Int)) = true := decide_eq_true c3
    clear c3
    by_cases c4 : 0 ≤ x9_1
    ·
     rw [if_pos c4] at H
     have c4b0 : decide (0 ≤ x9_1) = true := decide_eq_true c4
     clear c4
     by_cases c5 : x9_1 < (l0.length : Int)
     ·
      rw [if_pos c5] at H
      have c5b0 : decide (x9_1 < (l0.length : Int)) = true := decide_eq_true c5
      clear c5
      by_cases c6 : ((rd_L2 l0 x9_1).length : Int) = a1
      ·
       rw [if_pos c6] at H
       have c6b0 : (((rd_L2 l0 x9_1).length : Int) == a1) = true := beq_iff_eq.mpr c6
       have c6b1 : (((rd_L2 l0 x9_1).length : Int) != a1) = false := bne_eq_false_iff_eq.mpr c6
       clear c6
       have H' := sqM H
       clear H
       have p160 : 0 ≤ (x9_1 : Int) := of_decide_eq_true (by (with_reducible assumption))
       have q160 : x9_1 < (l0.length : Int) := of_decide_eq_true (by (with_reducible assumption))
       obtain ⟨ad160, A160_0, c160_0, e160, hx160_0, hl160_0, hi160_0⟩ := at_L2 HR0.out x9_1 p160 q160
       cases e160
       have HR160_0 := sqM hi160_0
       have HC160_0 := sqM hl160_0
       clear hi160_0 hl160_0
       replace p160 := eq_true p160
       replace q160 := eq_true q160
       go_wp2
       go_roundg k1
       case measure => have := HK1.out; omega
       case rel => exact ⟨(wrap64 (x9_1 + 1)), (by rfl), H', ⟨by have := HK1.out; omega⟩, by repeat (first | exact Drawn0.refl _ | apply Drawn0.step)⟩
      ·
       rw [if_neg c6] at H
       have c6b0 : (((rd_L2 l0 x9_1).length : Int) == a1) = false := beq_eq_false_iff_ne.mpr c6
       have c6b1 : (((rd_L2 l0 x9_1).length : Int) != a1) = true := bne_iff_ne.mpr c6
       obtain rfl := Option.some.inj H
       have p160 : 0 ≤ (x9_1 : Int) := of_decide_eq_true (by (with_reducible assumption))
       have q160 : x9_1 < (l0.length : Int) := of_decide_eq_true (by (with_reducible assumption))
       obtain ⟨ad160, A160_0, c160_0, e160, hx160_0, hl160_0, hi160_0⟩ := at_L2 HR0.out x9_1 p160 q160
       cases e160
       have HR160_0 := sqM hi160_0
       have HC160_0 := sqM hl160_0
       clear hi160_0 hl160_0
       replace p160 := eq_true p160
       replace q160 := eq_true q160
       go_wp2
       go_ret
       exact ⟨by rfl, by repeat (first | exact Drawn0.refl _ | apply Drawn0.step)⟩
     · rw [if_neg c5] at H
       exact absurd H (by simp)
    · rw [if_neg c4] at H
      exact absurd H (by simp)
   · rw [if_neg c3] at H
     have c3b0 : decide (x9_1 < (l0.length : Int)) = false := decide_eq_false c3
     clear c3
     obtain rfl := Option.some.inj H
     go_wp2
     go_ret
     exact ⟨by rfl, by repeat (first | exact Drawn0.refl _ | apply Drawn0.step)⟩
def field_width.f (k : Nat) (l0 : List (List Int)) : Option (Int × Bool) := if (l0.length : Int) > 0 then (if 0 < (l0.length : Int) then ((field_all.f k l0 ((rd_L2 l0 0).length : Int)).bind fun t162 => (some (((rd_L2 l0 0).length : Int), t162))) else (none)) else ((field_all.f k l0 0).bind fun t163 => (some (0, t163)))
set_option maxHeartbeats 8000000 in
set_option maxRecDepth 100000 in
theorem field_width.calls (k : Nat) (A0 : Option Addr) (c0 : Nat) (l0 : List (List Int)) (r1 : Int) (r2 : Bool) (w : World) (hr0 : Kd.C (Kd.slice 5 (Kd.int .u8)) w A0 l0.length l0) (hc0 : l0.length ≤ c0) (h : field_width.f k l0 = some (r1, r2)) :
    Calls Try.prog 47 #[.slice A0 l0.length c0] w fun e w' => e = .returned (.tuple #[.int .i64 r1, .bool r2]) ∧ Drawn0 w w' := by
 have HR0 := sqM hr0
 have HC0 := sqM hc0
 clear hr0 hc0
 have H : (if (l0.length : Int) > 0 then (if 0 < (l0.length : Int) then ((field_all.f k l0 ((rd_L2 l0 0).length : Int)).bind fun t162 => (some (((rd_L2 l0 0).length : Int), t162))) else (none)) else ((field_all.f k l0 0).bind fun t163 => (some (0, t163)))) = some (r1, r2) := h
 clear h
 by_cases c2 : (l0.length : Int) > 0
 ·
  rw [if_pos c2] at H
  have c2b0 : decide (0 < (l0.length : Int)) = true := decide_eq_true c2
  have c2b1 : decide (0 < l0.length) = true := decide_eq_true (by omega)
  clear c2
  by_cases c3 : 0 < (l0.length : Int)
  ·
   rw [if_pos c3] at H
   have c3b0 : decide (0 < (l0.length : Int)) = true := decide_eq_true c3
   have c3b1 : decide (0 < l0.length) = true := decide_eq_true (by omega)
   clear c3
   replace H := Option.bind_eq_some_iff.mp H
   obtain ⟨t162, A40, H⟩ := H
   replace H : (some (((rd_L2 l0 0).length : Int), t162)) = some (r1, r2) := H
   have A4 := sqM A40
   clear A40
   simp only [Option.some.injEq, Prod.mk.injEq] at H
   obtain ⟨rfl, rfl⟩ := H
   have p161 : 0 ≤ (0 : Int) := (by omega)
   have q161 : 0 < (l0.length : Int) := of_decide_eq_true (by (with_reducible assumption))
   obtain ⟨ad161, A161_0, c161_0, e161, hx161_0, hl161_0, hi161_0⟩ := at_L2 HR0.out 0 p161 q161
   cases e161
   have qi161 : (0 < l0.length) = True := eq_true (by omega)
   (try rw [show ((0 : Int)).toNat = 0 from rfl] at hx161_0)
   (try rw [Addr.add_zero'] at hx161_0)
   have HR161_0 := sqM hi161_0
   have HC161_0 := sqM hl161_0
   clear hi161_0 hl161_0
   replace p161 := eq_true p161
   replace q161 := eq_true q161
   go_enter Try.func47, Try.ntmps47
   go_wp2_with (first | ((with_reducible refine q09 (f := 48) rfl ?_); refine q1p (some 15) rfl rfl Try.func48 (by kernel_rfl) rfl #[.slice (some ad161) l0.length c0, .int .i64 ((rd_L2 l0 0).length : Int)] rfl (by (try simp only [List.map_toArray, List.map_cons, List.map_nil]); (rfl)) ?_; (with_reducible refine (field_all.calls k _ _ l0 ((rd_L2 l0 0).length : Int) t162 _ ?side1 ?side2 A4.out).mono ?_); (case side1 => repeat (exact HR0.out)); (case side2 => exact HC0.out); rintro e w' ⟨rfl, ⟨nd, rfl⟩⟩; refine ⟨_, rfl, ?_⟩))
   go_ret2
   exact ⟨by rfl, by repeat (first | exact Drawn0.refl _ | apply Drawn0.step)⟩
  · rw [if_neg c3] at H
    exact absurd H (by simp)
 ·
  rw [if_neg c2] at H
  have c2b0 : decide (0 < (l0.length : Int)) = false := decide_eq_false c2
  have c2b1 : decide (0 < l0.length) = false := decide_eq_false (by omega)
  clear c2
  replace H := Option.bind_eq_some_iff.mp H
  obtain ⟨t163, A50, H⟩ := H
  replace H : (some (0, t163)) = some (r1, r2) := H
  have A5 := sqM A50
  clear A50
  simp only [Option.some.injEq, Prod.mk.injEq] at H
  obtain ⟨rfl, rfl⟩ := H
  go_enter Try.func47, Try.ntmps47
  go_wp2_with (first | ((with_reducible refine q09 (f := 48) rfl ?_); refine q1p (some 15) rfl rfl Try.func48 (by kernel_rfl) rfl #[.slice A0 l0.length c0, .int .i64 0] rfl (by (try simp only [List.map_toArray, List.map_cons, List.map_nil]); (rfl)) ?_; (with_reducible refine (field_all.calls k _ _ l0 0 t163 _ ?side1 ?side2 A5.out).mono ?_); (case side1 => repeat (exact HR0.out)); (case side2 => exact HC0.out); rintro e w' ⟨rfl, ⟨nd, rfl⟩⟩; refine ⟨_, rfl, ?_⟩))
  go_ret2
  exact ⟨by rfl, by repeat (first | exact Drawn0.refl _ | apply Drawn0.step)⟩
def field_add.l0 : Nat → List Int → Int → List Int → Int → Int → Option (List Int)
 | 0, _, _, _, _, _ => none
 | k + 1, x0, x2, x10, x11, x12 => if x12 < x11 then (if 0 ≤ x12 then (if x12 < (x10.length : Int) then (if x12 < (x0.length : Int) then ((field_Mul.f k x2 (rd x10 x12)).bind fun t170 => (field_add.l0 k (x0.set (x12 : Int).toNat (Go.bits .xor .u8 (rd x0 x12) t170)) x2 x10 x11 (wrap64 (x12 + 1)))) else (none)) else (none)) else (none)) else (some x0)
def field_add.f (k : Nat) (l0 : List Int) (l1 : List Int) (a2 : Int) : Option (List Int) := if a2 = 0 then (some l0) else (field_add.l0 k l0 a2 l1 (l1.length : Int) 0)
def field_add.T4 : Bool × List (List Nat × List Nat) := (true, [([], []), ([], []), ([0, 1], [0, 1]), ([2], [2]), ([], []), ([], []), ([4, 5], [4, 5]), ([3, 6], [3, 6]), ([0, 1, 0, 1, 2, 3, 4, 5, 6, 7], [0, 1]), ([8, 7, 6, 0, 1, 2, 3, 4, 5, 6, 7], [7, 8])])
def field_add.B4 : List Nat := [0, 0, 3, 7, 0, 0, 48, 127, 255, 511]
theorem field_add.tab4 : rtab .any (opsOf Try.f56 4) = field_add.T4 := by kernel_rfl
theorem field_add.bits4 : waitsOk field_add.T4.2 field_add.B4 = true := by kernel_rfl
set_option maxHeartbeats 8000000 in
set_option maxRecDepth 100000 in
theorem field_add.calls (k : Nat) (P0_ : Nat → Prop) (u9000_ : Value) (l0 : List Int) (A1 : Option Addr) (c1 : Nat) (l1 : List Int) (a2 : Int) (r : List Int) (w0 w : World) (hB : Below w0.heap.size w0 w) (ho0 : Kd.R (Kd.int .u8) 5 w w0.heap.size P0_ u9000_ l0) (hr1 : ∀ W_, Kept w W_ (fun k_ => P0_ k_) → Kd.C (Kd.int .u8) W_ A1 l1.length l1) (hc1 : l1.length ≤ c1) (h : field_add.f k l0 l1 a2 = some r) :
    Calls Try.prog 56 #[u9000_, .slice A1 l1.length c1, .int .u8 a2] w fun e w' => e = .returned (.tuple #[]) ∧ Kd.R (Kd.int .u8) 5 w' w0.heap.size (fun k_ => (P0_ k_ ∨ w.heap.size ≤ k_)) u9000_ r ∧ Below w0.heap.size w0 w' ∧ Kept w w' (fun k_ => P0_ k_) := by
 have HO0 := sqM (show Kd.R (Kd.int .u8) 5 w w0.heap.size (fun k_ => (P0_ k_ ∨ w.heap.size ≤ k_)) u9000_ l0 from Kd.R_mono ho0 (fun k_ hk => (.inl hk)))
 have HR1 := sqM hr1
 have HC1 := sqM hc1
 clear hr1 hc1
 have HK := sqM (Kept.refl w (fun k_ => P0_ k_))
 have HW0 := sqM hB.size
 have HB := sqM hB
 clear hB
 have H : (if a2 = 0 then (some l0) else (field_add.l0 k l0 a2 l1 (l1.length : Int) 0)) = some r := h
 clear h
 by_cases c4 : a2 = 0
 ·
  rw [if_pos c4] at H
  have c4b0 : (a2 == 0) = true := beq_iff_eq.mpr c4
  have c4b1 : (a2 != 0) = false := bne_eq_false_iff_eq.mpr c4
  clear c4
  obtain rfl := Option.some.inj H
  go_enter Try.func56, Try.ntmps56
  go_wp2
  ((refine bodyPost_ret (results_none rfl _ _ _) rfl ?_))
  exact ⟨by rfl, by (with_reducible repeat (first | apply Kd.R_alloc | apply Kd.R_drewN | apply Kd.R_drew)); exact HO0.out, by repeat ((with_reducible (exact HB.out))), by repeat ((with_reducible (exact HK.out)))⟩
 ·
  rw [if_neg c4] at H
  have c4b0 : (a2 == 0) = false := beq_eq_false_iff_ne.mpr c4
  have c4b1 : (a2 != 0) = true := bne_iff_ne.mpr c4
  have H' := sqM H
  clear H
  go_enter Try.func56, Try.ntmps56
  go_wp2
  go_loopg [12] k (fun kq v12 w' => ∃ (x0_1 : List Int) (x12_1 : Int), v12 = .int .i64 x12_1 ∧ Aside0 (field_add.l0 kq x0_1 a2 l1 (l1.length : Int) x12_1 = some r) ∧ Aside0 (kq ≤ k) ∧ Aside0 (Kd.R (Kd.int .u8) 5 w' w0.heap.size (fun k_ => (P0_ k_ ∨ w.heap.size ≤ k_)) u9000_ x0_1) ∧ Aside0 (Kept w w' (fun k_ => P0_ k_)) ∧ Aside0 (Below w0.heap.size w0 w'))
  case atStart => exact ⟨(l0), (0), (by rfl), H', ⟨Nat.le_refl _⟩, ⟨by (with_reducible repeat (first | apply Kd.R_alloc | apply Kd.R_drewN | apply Kd.R_drew)); exact HO0.out⟩, ⟨by repeat ((with_reducible (exact HK.out)))⟩, ⟨by repeat ((with_reducible (exact HB.out)))⟩⟩
  case round =>
   clear H'
   try clear c4
   try clear c4b0
   try clear c4b1
   obtain ⟨x0_1, x12_1, rfl, HA, HK1, HO_0, HK, HB⟩ := hrel
   cases gk with
   | zero => exact absurd HA.out (by simp [field_add.l0])
   | succ k1 =>
    have H := HA.out
    clear HA
    simp only [field_add.l0] at H
    by_cases c5 : x12_1 < (l1.length : Int)
    ·
     rw [if_pos c5] at H
     have c5b0 : decide (x12_1 < (l1.length : Int)) = true := decide_eq_true c5
     clear c5
     by_cases c6 : 0 ≤ x12_1
     ·
      rw [if_pos c6] at H
      have c6b0 : decide (0 ≤ x12_1) = true := decide_eq_true c6
      clear c6
      by_cases c7 : x12_1 < (l1.length : Int)
      ·
       rw [if_pos c7] at H
       have c7b0 : decide (x12_1 < (l1.length : Int)) = true := decide_eq_true c7
       clear c7
       by_cases c8 : x12_1 < (x0_1.length : Int)
       ·
        rw [if_pos c8] at H
        have c8b0 : decide (x12_1 < (x0_1.length : Int)) = true := decide_eq_true c8
        clear c8
        replace H := Option.bind_eq_some_iff.mp H
        obtain ⟨t170, A90, H⟩ := H
        replace H : (field_add.l0 k1 (x0_1.set (x12_1 : Int).toNat (Go.bits .xor .u8 (rd x0_1 x12_1) t170)) a2 l1 (l1.length : Int) (wrap64 (x12_1 + 1))) = some r := H
        have A9 := sqM A90
        clear A90
        obtain ⟨y171, hy171⟩ : ∃ y_ : List Int, y_ = (x0_1.set (x12_1 : Int).toNat (Go.bits .xor .u8 (rd x0_1 x12_1) t170)) := ⟨_, rfl⟩
        replace H : (field_add.l0 k1 y171 a2 l1 (l1.length : Int) (wrap64 (x12_1 + 1))) = some r := by (rw [hy171]; with_reducible exact H)
        have Ny171 := sqM hy171
        clear hy171
        have H' := sqM H
        clear H
        have p168 : 0 ≤ (x12_1 : Int) := of_decide_eq_true (by (with_reducible assumption))
        have q168 : x12_1 < (l1.length : Int) := of_decide_eq_true (by (with_reducible assumption))
        obtain ⟨ad168, e168, hx168_0⟩ := Kd.at_int (Kd.C_kept_now HR1.out HK.out) x12_1 p168 q168
        cases e168
        replace p168 := eq_true p168
        replace q168 := eq_true q168
        try go_wp2
        have n0_ := sqM (Kd.R_drew HO_0.out)
        have n1_ := sqM (Kept.drew HK.out)
        have n2_ := sqM (q06 HB.out)
        clear HO_0
        clear HK
        clear HB
        have HO_0 := n0_
        have HK := n1_
        have HB := n2_
        clear n0_ n1_ n2_
        obtain ⟨Ao12, co12, eo12⟩ := Kd.R_slice HO_0.out
        (subst eo12)
        have p169 : 0 ≤ (x12_1 : Int) := of_decide_eq_true (by (with_reducible assumption))
        have q169 : x12_1 < (x0_1.length : Int) := of_decide_eq_true (by (with_reducible assumption))
        obtain ⟨ad169, e169, hx169_0⟩ := Kd.at_int (Kd.R_reads' HO_0.out).2.2 x12_1 p169 q169
        cases e169
        replace p169 := eq_true p169
        replace q169 := eq_true q169
        refine q1x (n := 10) (S := fun w' => w'.cell? (ad169.add (x12_1).toNat) = some (.int .u8 (rd x0_1 x12_1))) (ds := [9]) #[fF,fF,fF,fF,fF,fF,fF,fF,fF,fF] (by kernel_rfl) rfl rfl (hx169_0) (fun hHeld => ?_); refine with_tabW field_add.tab4 field_add.bits4 (fun HT_ HW_ => ?_)
        generalize wr.drew = w11 at HO_0 HK HB hx169_0 hHeld ⊢
        refine pU 0 17 #[tT,fF,fF,fF,fF,fF,fF,fF,fF,fF] ?_ (hc := q0g HT_.out (by kernel_rfl))
        refine pU 1 18 #[tT,tT,fF,fF,fF,fF,fF,fF,fF,fF] ?_ (hc := q0g HT_.out (by kernel_rfl))
        refine pU 2 19 #[tT,tT,tT,fF,fF,fF,fF,fF,fF,fF] ?_ (hc := q0g HT_.out (by kernel_rfl))
        refine pU 4 21 #[tT,tT,tT,fF,tT,fF,fF,fF,fF,fF] ?_ (hc := q0g HT_.out (by kernel_rfl))
        refine pU 5 22 #[tT,tT,tT,fF,tT,tT,fF,fF,fF,fF] ?_ (hc := q0g HT_.out (by kernel_rfl))
        refine tK 3 20 #[tT,tT,tT,tT,tT,tT,fF,fF,fF,fF] hHeld ?_ (hc := take_ofW HT_.out HW_.out (by kernel_rfl))
        refine one_ (i := 6) (N := some 23) #[tT,tT,tT,tT,tT,tT,tT,fF,fF,fF] rfl rfl (one_of HT_.out (by kernel_rfl)) (by decide) (fun K hK => ?_)
        refine goes_ Try.func19 (by kernel_rfl) rfl #[.int .u8 a2, .int .u8 (rd l1 x12_1)] (by rfl) rfl rfl (by (try simp only [List.map_toArray, List.map_cons, List.map_nil]); (rfl)) ?_
        with_reducible refine (field_Mul.calls k1 a2 (rd l1 x12_1) t170 _ A9.out).mono ?_
        rintro e w' ⟨rfl, ⟨nd, rfl⟩⟩
        refine ⟨_, rfl, ?_⟩
        have p10 : 0 ≤ (x12_1 : Int) := of_decide_eq_true (by (with_reducible assumption))
        have q10 : (x12_1 : Int) < ((x0_1.length : Int) : Int) := of_decide_eq_true (by (with_reducible assumption))
        obtain ⟨go10, co10, eo10, gb10, gl10, cl10, HG10⟩ := Kd.R_form HO_0.out (by omega)
        (cases eo10)
        have GB10 := sqM gb10
        have GG10 := sqM HG10
        clear gb10 gl10 HG10
        have HMgo10 := sqM (show (P0_ go10 ∨ w.heap.size ≤ go10) from (HO_0.out.1 _ rfl))
        (simp only [add_plain] at hx169_0)
        obtain ⟨hx10_0, hf10_0⟩ := Kd.R_celln 0 HO_0.out (x12_1 : Int) p10 q10
        replace p10 := eq_true p10
        replace q10 := eq_true q10
        have HP13 := Kd.R_putn HO_0.out (x12_1 : Int) (Go.bits .xor .u8 (rd x0_1 x12_1) t170)
        rw [← Ny171.out] at HP13
        have HQ13 := sqM HP13
        clear HP13
        refine hK.out _ _ (hHeld) (fun hHeld => ?_)
        clear hK K
        refine norm_ (a' := ?_) ?_ ?_
        rotate_left
        · show Act.put _ (some 23) _ = _
          simp only [Act.put, sqA, sqB, sqC, i64_w, i32_w]
          rfl
        refine pU 7 24 #[tT,tT,tT,tT,tT,tT,tT,tT,fF,fF] ?_ (hc := q0g HT_.out (by kernel_rfl))
        refine pU 8 25 #[tT,tT,tT,tT,tT,tT,tT,tT,tT,fF] ?_ (hc := q0g HT_.out (by kernel_rfl))
        refine last_ (i := 9) (N := none) #[tT,tT,tT,tT,tT,tT,tT,tT,tT,tT] rfl rfl (one_of HT_.out (by kernel_rfl)) (by decide) (fun K hK => ?_)
        refine skip_ (w1 := ?_) (by rfl) rfl ?_ ?_
        rotate_left
        · go_simp
          rfl
        refine hK.out _ _ ?_
        clear hK K
        refine done_ (done_of HT_.out (by kernel_rfl)) ?_
        try go_wp2
        go_roundg k1
        case measure => have := HK1.out; omega
        case rel => exact ⟨(y171), (wrap64 (x12_1 + 1)), (by rfl), H', ⟨by have := HK1.out; omega⟩, ⟨by (with_reducible repeat (first | apply Kd.R_alloc | apply Kd.R_drewN | apply Kd.R_drew)); exact HQ13.out⟩, ⟨by repeat ((with_reducible first | exact HK.out | apply Kept.drewN | refine Kept.setCell ?_ HMgo10.out _))⟩, ⟨by repeat ((with_reducible first | exact HB.out | apply q00 | refine q0m ?_ GB10.out))⟩⟩
       · rw [if_neg c8] at H
         exact absurd H (by simp)
      · rw [if_neg c7] at H
        exact absurd H (by simp)
     · rw [if_neg c6] at H
       exact absurd H (by simp)
    · rw [if_neg c5] at H
      have c5b0 : decide (x12_1 < (l1.length : Int)) = false := decide_eq_false c5
      clear c5
      obtain rfl := Option.some.inj H
      go_wp2
      (go_end0)
      exact ⟨by rfl, by (with_reducible repeat (first | apply Kd.R_alloc | apply Kd.R_drewN | apply Kd.R_drew)); exact HO_0.out, by repeat ((with_reducible (exact HB.out))), by repeat ((with_reducible (exact HK.out)))⟩
end Go.Proofs.Ytdhajlkiiphlfaa.QB
namespace Go.Proofs.Ytdhajlkiiphlfaa.CopyR
open Go.RowKit Go.Proofs.YtdhajlkiiphlfaaW.PrintWords
def copied (xs ys : List Int) : List Int := ys.take xs.length ++ xs.drop (min ys.length xs.length)
theorem copied_length (xs ys : List Int) : (copied xs ys).length = xs.length := by
 unfold copied; rw [List.length_append, List.length_take, List.length_drop]; omega
theorem nums_of {k : IntKind} {w : World} {base : Nat} {ok : Nat → Prop} {xs : List Int} {inner : List Value} (h : Reps ((Kd.int k).M w base ok) 1 xs inner) : inner = xs.map (Value.int k) := by
 apply List.ext_getElem?
 intro i
 rw [List.getElem?_map]
 by_cases hi : i < xs.length
 · have h2 : ((inner.drop (i * 1)).take 1) = [Value.int k xs[i]] := h.2 i _ (List.getElem?_eq_getElem hi)
   rw [Nat.mul_one] at h2
   have h3 := congrArg (fun l : List Value => l[0]?) h2
   simp only [List.getElem?_take, List.getElem?_drop] at h3
   simpa [List.getElem?_eq_getElem hi] using h3
 · have hl : inner.length = xs.length := by simpa using h.1
   rw [List.getElem?_eq_none (by omega), List.getElem?_eq_none (by omega)]; rfl
theorem reps_nums {k : IntKind} {w : World} {base : Nat} {ok : Nat → Prop} (xs : List Int) : Reps ((Kd.int k).M w base ok) 1 xs (xs.map (Value.int k)) := by
 refine ⟨by simp, fun j p hj => ?_⟩
 show ((xs.map (Value.int k)).drop (j * 1)).take 1 = [.int k p]
 have hlt := (List.getElem?_eq_some_iff.1 hj).1
 rw [Nat.mul_one, List.drop_eq_getElem_cons (by simpa using hlt)]
 have hp := (List.getElem?_eq_some_iff.1 hj).2
 simp [hp]
theorem wpList_copy_R {P : Program} {w : World} {ops : Array Oper} {rest : List Oper} {o : Oper} {a : Act} {Q : Exit → Act → World → Prop} (hgd : o.guard = none) (d s : Operand) (dT sT : TypeId)
    (ho : o.op = .call { callee := .builtin .copy, args := #[d, s], argTypes := #[dT, sT] }) {elem : TypeId} (hu : P.underlying dT = some (.slice elem)) (hsz : (P.info? elem).map (·.size) = some 1)
    {k : IntKind} {base : Nat} {ok : Nat → Prop} {v : Value} {xs ys : List Int} {A : Option Addr} {c : Nat} (hd : a.eval d = v) (hR : Kd.R (Kd.int k) elem w base ok v xs) (hs : a.eval s = .slice A ys.length c) (hC : Kd.C (Kd.int k) w A ys.length ys)
    {B : Nat} {w0 : World} (hb : Below B w0 w) (hB : B ≤ base)
    (h : ∀ w', Aside0 (Kd.R (Kd.int k) elem w' base ok v (copied xs ys)) → Below B w0 w' → wpList P ops Q rest (a.put o.dst (goInt ((min ys.length xs.length : Nat) : Int))) w') : wpList P ops Q (o :: rest) a w := by
 obtain ⟨h0, inner, ⟨hlen, hcase⟩, hreps⟩ := hR
 have hin := nums_of (ok := fun k => ok k ∧ some k ≠ v.ownBlock) hreps
 rcases hcase with ⟨rfl, hx0⟩ | ⟨g, cap, cur, rfl, hg, hh, hnc, hcm, hcs, htake⟩
 ·
  obtain rfl : xs = [] := List.eq_nil_of_length_eq_zero hx0
  refine wpList_copy_nothing hgd d s dT sT ho elem hu hsz none A 0 0 ys.length c hd hs (by simp) ?_
  have e0 : copied [] ys = [] := by simp [copied]
  have := h w ⟨by rw [e0]; exact ⟨h0, inner, ⟨hlen, .inl ⟨rfl, hx0⟩⟩, hreps⟩⟩ hb
  rw [show min ys.length ([] : List Int).length = 0 from by simp] at this
  exact this
 ·
  have hsz1 : (Kd.int k).sz = 1 := rfl
  rw [hsz1] at hcs htake hlen
  simp only [Nat.mul_one] at hcs htake hlen
  have hxl : inner.length = xs.length := hlen
  have hml : ((ys.take xs.length).map (Value.int k)).length = min ys.length xs.length := by simp [Nat.min_comm]
  have hcl : cur.toList.length = cur.size := Array.length_toList
  refine wpList_copy_splice hgd d s dT sT ho elem hu hsz _ A xs.length cap ys.length c hd hs g 0 cur.toList elem (by simpa using hh) ((ys.take xs.length).map (Value.int k)) (by rw [hml]) (fun hpos => ⟨rfl, ?_⟩) (by rw [hml]; omega) (by
   intro u hu2
   obtain ⟨z, _, rfl⟩ := List.mem_map.1 hu2
   rfl) B w0 hb (by omega) ?_
  ·
   have hy0 : 0 < ys.length := by rw [hml] at hpos; omega
   obtain ⟨ad, rfl, hcell⟩ := hC.2.2 hy0
   refine ⟨ad, rfl, fun j u hj => ?_⟩
   rw [List.getElem?_map] at hj
   obtain ⟨z, hz, rfl⟩ := Option.map_eq_some_iff.1 hj
   have hz2 : ys[j]? = some z := by
    rw [List.getElem?_take] at hz
    split at hz
    · exact hz
    · cases hz
   obtain ⟨cc, _, hcc, hcl⟩ := hcell j z hz2
   have hcc' : cc = [Value.int k z] := hcc
   subst hcc'
   have := hcl 0 (.int k z) rfl
   rw [hsz1] at this
   simpa using this
  ·
   intro w' hw' hb'
   rw [hml]
   refine h w' ⟨⟨h0, (copied xs ys).map (Value.int k), ⟨by rw [List.length_map, hsz1, Nat.mul_one], .inr ⟨g, cap, (splice cur.toList 0 ((ys.take xs.length).map (Value.int k))).toArray, by rw [copied_length], hg, hw'.out, by rw [copied_length]; exact hnc, hcm, ?_, ?_⟩⟩, reps_nums _⟩⟩ hb'
   · rw [List.size_toArray, length_splice _ _ _ (by rw [hml]; omega), hcl, hsz1]; omega
   ·
    rw [copied_length, hsz1, Nat.mul_one, List.toList_toArray]
    unfold splice copied
    rw [List.take_zero, List.nil_append, Nat.zero_add, hml, List.map_append, List.take_append, List.length_map, List.length_take]
    have e1 : List.take xs.length (List.map (Value.int k) (List.take xs.length ys)) = List.map (Value.int k) (List.take xs.length ys) := List.take_of_length_le (by rw [List.length_map, List.length_take]; omega)
    rw [e1]
    congr 1
    rw [List.map_drop, ← hin, ← htake, List.take_drop, List.drop_take]
    rw [List.drop_take]
    congr 1
    omega
end Go.Proofs.Ytdhajlkiiphlfaa.CopyR
namespace Go.Proofs.Ytdhajlkiiphlfaa.Solve
open Go.RowKit Go.Proofs.YtdhajlkiiphlfaaW.PrintWords Go.Proofs.YtdhajlkiiphlfaaW.PrintLast Go.Proofs.YtdhajlkiiphlfaaW.PrintMore Go.Proofs.Ytdhajlkiiphlfaa.QB Go.Proofs.Ytdhajlkiiphlfaa.CopyR
theorem info5 : (Try.prog.info? 5).map (fun i => (i.zero, i.size, i.bytes)) = some (some (.int .u8 0), 1, 1) := by kernel_rfl
theorem info41 : (Try.prog.info? 41).map (fun i => (i.zero, i.size, i.bytes)) = some (some (.slice none 0 0), 1, 24) := by kernel_rfl
theorem size5 : (Try.prog.info? 5).map (·.size) = some 1 := by kernel_rfl
theorem copied_all (row : List Int) : copied (List.replicate (row.length : Int).toNat 0) row = row := by
 unfold copied
 rw [List.length_replicate, Int.toNat_natCast, List.take_length, List.drop_replicate]
 simp
theorem meas {n i : Nat} {x : Int} (h : x = ((i + 1 : Nat) : Int)) (hl : i < n) : n - (intOf (.int .i64 x)).toNat < n - (intOf (.int .i64 (i : Int))).toNat := by subst h; simp only [intOf, Int.toNat_natCast]; omega
set_option maxHeartbeats 400000 in
set_option maxRecDepth 100000 in
theorem copied_calls (A0 : Option Addr) (c0 : Nat) (l0 : List (List Int)) (w : World) (hr0 : Kd.C (Kd.slice 5 (Kd.int .u8)) w A0 l0.length l0) (hc0 : l0.length ≤ c0) (hn : l0.length ≤ 256) (hrow : ∀ r ∈ l0, r.length ≤ 281474976710656) :
    Calls Try.prog 49 #[.slice A0 l0.length c0] w fun e w' => ∃ v0_, e = .returned v0_ ∧ Kd.S (Kd.slice 5 (Kd.int .u8)) 41 w' w.heap.size (fun _ => True) v0_ l0 ∧ Below w.heap.size w w' := by
 have HR0 := sqM hr0
 have HC0 := sqM hc0
 have HN := sqM hn
 have HL := sqM hrow
 clear hr0 hc0 hn hrow
 go_enter Try.func49, Try.ntmps49
 go_wp2
 go_loopw [3, 9] (fun v3 v9 wr => ∃ i : Nat, i ≤ l0.length ∧ v9 = .int .i64 (i : Int) ∧ Aside0 (Kd.S (Kd.slice 5 (Kd.int .u8)) 41 wr w.heap.size (fun _ => True) v3 (l0.take i)) ∧ Aside0 (Below w.heap.size w wr)) (fun _ v9 _ => l0.length - (intOf v9).toNat)
 case atStart => exact ⟨0, Nat.zero_le _, rfl, ⟨Kd.S_nil _ _ _ _ _⟩, ⟨by repeat (first | (with_reducible (exact Below.refl _ _)))⟩⟩
 case round =>
  obtain ⟨i, hi, rfl, HS, HB⟩ := hrel
  by_cases hlt : i < l0.length
  ·
   obtain ⟨ad, A1, c1, e1, hx1, hl1, hi1⟩ := at_L2 HR0.out (i : Int) (by omega) (by omega)
   cases e1
   rw [Int.toNat_natCast] at hx1
   replace hx1 := (HB.out.cell (World.block_lt_of_cell? w _ hx1)).trans hx1
   obtain ⟨row, hrw⟩ : ∃ row, row = rd_L2 l0 (i : Int) := ⟨_, rfl⟩
   rw [← hrw] at hx1 hl1 hi1
   have HR1 := sqM hi1
   have HC1 := sqM hl1
   clear hi1 hl1
   have hgt : l0[i]? = some row := by
    rw [hrw]; unfold rd_L2
    rw [Int.toNat_natCast, List.getD_eq_getElem?_getD, List.getElem?_eq_getElem hlt]; rfl
   have hrl : row.length ≤ 281474976710656 := HL.out row (List.mem_of_getElem? hgt)
   have hap : l0.take (i + 1) = l0.take i ++ [row] := by rw [List.take_add_one, hgt]; rfl
   have HAP := sqM hap
   have HRL := sqM hrl
   have HLT := sqM hlt
   clear hap hrl hgt hrw
   go_wp2_with (first
    | (refine Kd.R_make (Kd.int .u8) _ 5 rfl (N := 15) rfl 41 _ _ rfl (row.length : Int) rfl rfl Try.underlying41 (.int .u8 0) 1 info5 rfl (by decide) (by omega) 0 (ok := fun _ => True) (okp := fun _ => True) rfl (fun _ hk => hk) trivial (by omega) (by have := HRL.out; omega) (Below.refl _ _) (Nat.le_refl _) ?_; intro v5 w5 ho5 hb hg_ hnew_; clear hg_ hnew_; obtain ⟨A5, c5, e5⟩ := Kd.R_slice ho5; rw [List.length_replicate, Int.toNat_natCast] at e5; subst e5; have HO5 := sqM ho5; have HB5 := sqM hb; clear ho5 hb)
    | (refine wpList_copy_R rfl (.tmp 16) (.tmp 17) 41 41 rfl Try.underlying41 size5 (v := .slice A5 row.length c5) rfl HO5.out rfl (Kd.C_below HR1.out (q04 HB.out HB5.out)) HB5.out (Nat.le_refl _) ?_; intro w6 ho6 hb6; have HS6 := sqM (Kd.S_elder' HS.out (Kd.R_base ho6.out) hb6); have HO6 := sqM (Kd.R_lower ho6.out (q01 HB.out)); have HB6 := sqM (q04 HB.out hb6); rw [copied_all] at HO6; clear hb6 ho6 HO5 HB5 HS HB)
    | (refine Kd.S_append (Kd.slice 5 (Kd.int .u8)) (w0 := w) w.heap.size rfl (.tmp 19) (.tmp 21) 35 41 (.slice none 0 0) 24 rfl Try.underlying35 info41 rfl (by decide) (by omega) u3 (l0.take i) row [.slice A5 row.length c5] (fun _ => True) (fun k_ => some k_ = (.slice A5 row.length c5 : Value).ownBlock) rfl rfl ?aP (fun k_ hk_ => ((Kd.R_mono (ok' := fun k_ => ((fun _ => True)) k_ ∧ some k_ ≠ (u3 : Value).ownBlock) (Kd.R_apart' (HO6.out) (Kd.S_typed HS6.out) (by decide)) (fun k_ hk => ⟨trivial, hk.2⟩))).1 k_ hk_.symm) ?aF ?aO ?aB ?aS ?aL ?_; (case aP => exact Kd.M_row (Kd.R_mono (Kd.R_tight rfl (Kd.R_mono (ok' := fun k_ => ((fun _ => True)) k_ ∧ some k_ ≠ (u3 : Value).ownBlock) (Kd.R_apart' (HO6.out) (Kd.S_typed HS6.out) (by decide)) (fun k_ hk => ⟨trivial, hk.2⟩))) (fun _ h_ => h_))); (case aB => exact HB6.out); (case aF => exact (fun _ _ => trivial)); (case aO => exact Kd.S_mono HS6.out (fun k_ hk => ⟨trivial, fun e_ => hk.2 e_⟩)); (case aS => exact (q01 HB6.out)); (case aL => have := HLT.out; have := HN.out; rw [List.length_take]; omega); intro v7 w7 ho hb hg hat; rw [← HAP.out] at ho; have HB7 := sqM hb; have HS7 := sqM ho; clear HB6 HO6 HS6; clear ho hb hg hat))
   have hw1 : wrap64 ((i : Int) + 1) = ((i + 1 : Nat) : Int) := by have := HN.out; have := HLT.out; unfold wrap64; omega
   go_roundw
   case rel => exact ⟨i + 1, HLT.out, by rw [hw1], HS7, HB7⟩
   case measure => have := HLT.out; exact meas hw1 this
  · obtain rfl : i = l0.length := by omega
    rw [List.take_length] at HS
    go_wp2
    go_ret
    exact ⟨_, rfl, by (with_reducible repeat (first | apply Kd.S_alloc | apply Kd.S_drewN | apply Kd.S_drew)); exact HS.out, by repeat ((with_reducible (exact HB.out)))⟩
end Go.Proofs.Ytdhajlkiiphlfaa.Solve
namespace Go.Proofs.Ytdhajlkiiphlfaa.Solve
open Go.RowKit Go.Proofs.YtdhajlkiiphlfaaW.PrintWords
structure Mx (w : World) (base : Nat) (ok : Nat → Prop) (g cap : Nat) (hs : List Value) (m : List (List Int)) : Prop where
 base_le : base ≤ g
 okg : ok g
 len : hs.length = m.length
 outer : ∃ cur, w.heap[g]? = some (.cells cur 41 (0, 0)) ∧ cur.size = cap ∧ hs.length ≤ cap ∧ cap ≤ maxLen ∧ ∀ i, i < hs.length → cur[i]? = hs[i]?
 row : ∀ (i : Nat) h r, hs[i]? = some h → m[i]? = some r → Kd.R (Kd.int .u8) 5 w base (fun k => ok k ∧ k ≠ g) h r
 apart : ∀ (i j : Nat) h1 h2 k, hs[i]? = some h1 → hs[j]? = some h2 → h1.ownBlock = some k → h2.ownBlock = some k → i = j
namespace Mx
variable {w w' : World} {base g cap : Nat} {ok S : Nat → Prop} {hs : List Value} {m : List (List Int)}
theorem of_S {n : Nat} (h : Kd.S (Kd.slice 5 (Kd.int .u8)) 41 w base ok (.slice (some ⟨g, 0, none⟩) n cap) m) : n = m.length ∧ ∃ hs, Mx w base ok g cap hs m := by
 obtain ⟨f, h0, inner, ho, hr⟩ := h
 have hlen := hr.1
 rw [List.length_zipIdx] at hlen ho
 have hl1 : inner.length = m.length := by rw [hlen]; exact Nat.mul_one _
 obtain ⟨_, hc⟩ := ho
 rcases hc with ⟨hv, _⟩ | ⟨g', cap', cur, hv, hb, hh, hnc, hcm, hcs, ht⟩
 · cases hv
 ·
  injection hv with ha hn hc
  injection ha with ha
  injection ha with hg
  subst hg; subst hc
  have hs1 : cur.size = cap := by rw [hcs]; exact Nat.mul_one _
  have ht1 : cur.toList.take m.length = inner := by rw [← ht]; congr 1; exact (Nat.mul_one _).symm
  have hM : ∀ (i : Nat) hd r, inner[i]? = some hd → m[i]? = some r → Kd.R (Kd.int .u8) 5 w base (fun k => (ok k ∧ some k ≠ (Value.slice (some ⟨g, 0, none⟩) n cap).ownBlock) ∧ f k = i) hd r := by
   intro i hd r hi hm
   have h1 := hr.2 i (r, i) (Kd.zip_at hm)
   obtain ⟨v, hv, hR⟩ := h1
   have hlt : i < inner.length := (List.getElem?_eq_some_iff.1 hi).1
   have e1 : ((inner.drop (i * 1)).take 1) = [v] := hv
   rw [Nat.mul_one, List.drop_eq_getElem_cons hlt] at e1
   have e2 : inner[i] = v := by
    have := congrArg List.head? e1
    rw [List.take_succ_cons] at this
    exact Option.some.inj this
   rw [List.getElem?_eq_getElem hlt, e2] at hi
   obtain rfl := Option.some.inj hi
   exact hR
  refine ⟨hn, inner, hb, h0 g rfl, hl1, ⟨cur, hh, hs1, by omega, hcm, fun i hi => ?_⟩, fun i hd r hi hm => ?_, fun i j h1 h2 k hi hj hk1 hk2 => ?_⟩
  · rw [← ht1, List.getElem?_take, if_pos (by omega), Array.getElem?_toList]
  · exact Kd.R_mono (hM i hd r hi hm) (fun k hk => ⟨hk.1.1, fun e => hk.1.2 (by rw [e]; rfl)⟩)
  · have l1 : i < m.length := by rw [← hl1]; exact (List.getElem?_eq_some_iff.1 hi).1
    have l2 : j < m.length := by rw [← hl1]; exact (List.getElem?_eq_some_iff.1 hj).1
    have f1 := ((hM i h1 _ hi (List.getElem?_eq_getElem l1)).1 k hk1).2
    have f2 := ((hM j h2 _ hj (List.getElem?_eq_getElem l2)).1 k hk2).2
    rw [← f1, ← f2]
open Classical in
theorem to_S (h : Mx w base ok g cap hs m) : Kd.S (Kd.slice 5 (Kd.int .u8)) 41 w base ok (.slice (some ⟨g, 0, none⟩) m.length cap) m := by
 obtain ⟨cur, hh, hcs, hlc, hcm, hcur⟩ := h.outer
 have hl := h.len
 refine ⟨fun k => if hk : ∃ i, ∃ hd : Value, hs[i]? = some hd ∧ hd.ownBlock = some k then hk.choose else 0, fun k hk => ?_, hs, ?_, ?_⟩
 · injection hk with hk; subst hk; exact h.okg
 ·
  rw [List.length_zipIdx]
  refine ⟨by rw [hl]; exact (Nat.mul_one _).symm, .inr ⟨g, cap, cur, rfl, h.base_le, hh, by omega, hcm, by rw [hcs]; exact (Nat.mul_one _).symm, ?_⟩⟩
  show cur.toList.take (m.length * 1) = hs
  rw [Nat.mul_one]
  apply List.ext_getElem?
  intro i
  rw [List.getElem?_take]
  split
  · rw [Array.getElem?_toList, hcur i (by omega)]
  · rw [List.getElem?_eq_none (by omega)]
 ·
  refine ⟨by rw [List.length_zipIdx, hl]; exact (Nat.mul_one _).symm, fun i p hp => ?_⟩
  rw [List.getElem?_zipIdx, Nat.zero_add] at hp
  obtain ⟨r, hr, rfl⟩ := Option.map_eq_some_iff.1 hp
  have hlt : i < m.length := (List.getElem?_eq_some_iff.1 hr).1
  have hlt2 : i < hs.length := by omega
  have hg := List.getElem?_eq_getElem hlt2
  refine ⟨hs[i], ?_, ?_⟩
  · show (hs.drop (i * 1)).take 1 = [hs[i]]
    rw [Nat.mul_one, List.drop_eq_getElem_cons hlt2]; rfl
  ·
   have hR := h.row i _ r hg hr
   refine Kd.R_mono (Kd.R_tight rfl hR) (fun k hk => ⟨⟨(hR.1 k hk.symm).1, fun e => (hR.1 k hk.symm).2 (by injection e)⟩, ?_⟩)
   have hex : ∃ i, ∃ hd : Value, hs[i]? = some hd ∧ hd.ownBlock = some k := ⟨i, _, hg, hk.symm⟩
   show (if hk : ∃ i, ∃ hd : Value, hs[i]? = some hd ∧ hd.ownBlock = some k then hk.choose else 0) = i
   rw [dif_pos hex]
   obtain ⟨hd, h1, h2⟩ := hex.choose_spec
   exact h.apart _ i hd _ k h1 hg h2 hk.symm
theorem get (h : Mx w base ok g cap hs m) (i : Nat) (hi : i < m.length) : ∃ hd, hs[i]? = some hd ∧ w.cell? ⟨g, i, none⟩ = some hd ∧ w.frozen? ⟨g, i, none⟩ = false ∧ Kd.R (Kd.int .u8) 5 w base (fun k => ok k ∧ k ≠ g) hd m[i] := by
 obtain ⟨cur, hh, hcs, hlc, hcm, hcur⟩ := h.outer
 have hl := h.len
 have hg := List.getElem?_eq_getElem (show i < hs.length by omega)
 exact ⟨_, hg, by rw [q0h hh, hcur i (by omega), hg], q1q hh i, h.row i _ _ hg (List.getElem?_eq_getElem hi)⟩
theorem kept (h : Mx w base ok g cap hs m) (hk : Kept w w' S) (hn : ∀ k, ok k → ¬ S k) : Mx w' base ok g cap hs m := by
 obtain ⟨cur, hh, hx⟩ := h.outer
 exact ⟨h.base_le, h.okg, h.len, ⟨cur, blk_kept hh hk (hn g h.okg), hx⟩, fun i hd r h1 h2 => Kd.R_kept (h.row i hd r h1 h2) hk (fun k hk2 => hn k hk2.1), h.apart⟩
theorem below (h : Mx w base ok g cap hs m) (hb : Below w.heap.size w w') : Mx w' base ok g cap hs m := h.kept (Kept.of_below hb (fun _ => False)) (fun _ _ h => h)
theorem set (h : Mx w base ok g cap hs m) {i : Nat} {hd : Value} {r' : List Int} (hi : hs[i]? = some hd) (hk : Kept w w' (fun k => some k = hd.ownBlock)) (hR : Kd.R (Kd.int .u8) 5 w' base (fun _ => True) hd r') : Mx w' base ok g cap hs (m.set i r') := by
 obtain ⟨cur, hh, hx⟩ := h.outer
 have hl := h.len
 have hlt : i < m.length := by rw [← hl]; exact (List.getElem?_eq_some_iff.1 hi).1
 have hRi := h.row i hd _ hi (List.getElem?_eq_getElem hlt)
 have hng : ¬ (some g = hd.ownBlock) := fun e => (hRi.1 g e.symm).2 rfl
 refine ⟨h.base_le, h.okg, by rw [List.length_set]; exact hl, ⟨cur, blk_kept hh hk hng, hx⟩, fun j h2 r hj hr => ?_, h.apart⟩
 by_cases hij : i = j
 · subst hij
   rw [hi] at hj; obtain rfl := Option.some.inj hj
   rw [List.getElem?_set_self hlt] at hr; obtain rfl := Option.some.inj hr
   exact Kd.R_mono (Kd.R_tight rfl hR) (fun k hk => hRi.1 k hk.symm)
 · rw [List.getElem?_set_ne hij] at hr
   have hRj := Kd.R_tight rfl (h.row j h2 r hj hr)
   refine Kd.R_mono (Kd.R_kept hRj hk (fun k h3 h4 => hij (h.apart i j _ _ k hi hj h4.symm h3.symm))) (fun k hk => (h.row j h2 r hj hr).1 k hk.symm)
theorem swap (h : Mx w base ok g cap hs m) {i j : Nat} {h1 h2 : Value} {r1 r2 : List Int} (hi : hs[i]? = some h1) (hj : hs[j]? = some h2) (mi : m[i]? = some r1) (mj : m[j]? = some r2) :
    Mx ((w.setCell ⟨g, i, none⟩ h2).setCell ⟨g, j, none⟩ h1) base ok g cap ((hs.set i h2).set j h1) ((m.set i r2).set j r1) := by
 obtain ⟨cur, hh, hcs, hlc, hcm, hcur⟩ := h.outer
 have hl := h.len
 have li : i < hs.length := (List.getElem?_eq_some_iff.1 hi).1
 have lj : j < hs.length := (List.getElem?_eq_some_iff.1 hj).1
 have hhs : ∀ t, ((hs.set i h2).set j h1)[t]? = if t = j then some h1 else if t = i then some h2 else hs[t]? := by
  intro t
  by_cases e1 : t = j
  · subst e1; rw [if_pos rfl, List.getElem?_set_self (by rw [List.length_set]; omega)]
  · rw [if_neg e1, List.getElem?_set_ne (Ne.symm e1)]
    by_cases e2 : t = i
    · subst e2; rw [if_pos rfl, List.getElem?_set_self li]
    · rw [if_neg e2, List.getElem?_set_ne (Ne.symm e2)]
 have hms : ∀ t, ((m.set i r2).set j r1)[t]? = if t = j then some r1 else if t = i then some r2 else m[t]? := by
  intro t
  by_cases e1 : t = j
  · subst e1; rw [if_pos rfl, List.getElem?_set_self (by rw [List.length_set]; omega)]
  · rw [if_neg e1, List.getElem?_set_ne (Ne.symm e1)]
    by_cases e2 : t = i
    · subst e2; rw [if_pos rfl, List.getElem?_set_self (by omega)]
    · rw [if_neg e2, List.getElem?_set_ne (Ne.symm e2)]
 have src : ∀ t hd r, ((hs.set i h2).set j h1)[t]? = some hd → ((m.set i r2).set j r1)[t]? = some r → ∃ s, hs[s]? = some hd ∧ m[s]? = some r ∧ s = (if t = j then i else if t = i then j else t) := by
  intro t hd r a b
  rw [hhs] at a; rw [hms] at b
  by_cases e1 : t = j
  · rw [if_pos e1] at a b ⊢
    obtain rfl := Option.some.inj a; obtain rfl := Option.some.inj b
    exact ⟨i, hi, mi, rfl⟩
  ·
   rw [if_neg e1] at a b ⊢
   by_cases e2 : t = i
   · rw [if_pos e2] at a b ⊢
     obtain rfl := Option.some.inj a; obtain rfl := Option.some.inj b
     exact ⟨j, hj, mj, rfl⟩
   · rw [if_neg e2] at a b ⊢
     exact ⟨t, a, b, rfl⟩
 refine ⟨h.base_le, h.okg, by simp [hl], ⟨(cur.setIfInBounds i h2).setIfInBounds j h1, q23 (q23 hh i h2) j h1, by simp [hcs], by simp; omega, hcm, fun t ht => ?_⟩, fun t hd r a b => ?_, fun s t d1 d2 k a b ka kb => ?_⟩
 ·
  rw [hhs]
  have ht' : t < hs.length := by simpa using ht
  rw [Array.getElem?_setIfInBounds, Array.getElem?_setIfInBounds]
  by_cases e1 : t = j
  · subst e1; simp; omega
  · rw [if_neg (Ne.symm e1), if_neg e1]
    by_cases e2 : t = i
    · subst e2; simp; omega
    · rw [if_neg (Ne.symm e2), if_neg e2, hcur t ht']
 · obtain ⟨s, hs1, ms1, _⟩ := src t hd r a b
   exact Kd.R_far (p := ⟨g, j, none⟩) (Kd.R_far (p := ⟨g, i, none⟩) (h.row s hd r hs1 ms1) (fun k hk => hk.2) h2) (fun k hk => hk.2) h1
 ·
  have ls : s < hs.length := by have := (List.getElem?_eq_some_iff.1 a).1; simpa using this
  have lt : t < hs.length := by have := (List.getElem?_eq_some_iff.1 b).1; simpa using this
  obtain ⟨s', e1, _, e2⟩ := src s d1 _ a (List.getElem?_eq_getElem (by simp; omega))
  obtain ⟨t', e3, _, e4⟩ := src t d2 _ b (List.getElem?_eq_getElem (by simp; omega))
  have := h.apart s' t' d1 d2 k e1 e3 ka kb
  rw [e2, e4] at this
  split at this <;> split at this <;> (try split at this) <;> (try split at this) <;> omega
theorem base_down {base' : Nat} (h : Mx w base ok g cap hs m) (hb : base' ≤ base) : Mx w base' ok g cap hs m := ⟨Nat.le_trans hb h.base_le, h.okg, h.len, h.outer, fun i hd r a b => Kd.R_lower (h.row i hd r a b) hb, h.apart⟩
theorem mono {ok' : Nat → Prop} (h : Mx w base ok g cap hs m) (hk : ∀ k, ok k → ok' k) : Mx w base ok' g cap hs m := ⟨h.base_le, hk g h.okg, h.len, h.outer, fun i hd r a b => Kd.R_mono (h.row i hd r a b) (fun k h2 => ⟨hk k h2.1, h2.2⟩), h.apart⟩
end Mx
end Go.Proofs.Ytdhajlkiiphlfaa.Solve
namespace Go.Proofs.Ytdhajlkiiphlfaa.Math
namespace Gf
section
variable (d P : Nat)
def xt (v : Nat) : Nat := if v.testBit (d - 1) then (2 * v) ^^^ P else 2 * v
def mulN : Nat → Nat → Nat → Nat
 | 0, _, _ => 0
 | n + 1, a, b => (if b % 2 = 1 then a else 0) ^^^ mulN n (xt d P a) (b / 2)
def mul (a b : Nat) : Nat := mulN d P d a b
theorem two_mul_xor (a b : Nat) : 2 * (a ^^^ b) = (2 * a) ^^^ (2 * b) := by
 apply Nat.eq_of_testBit_eq; intro i
 rw [Nat.testBit_xor]
 cases i with
 | zero => simp [Nat.testBit_zero]
 | succ i => simp [Nat.testBit_succ, Nat.testBit_xor]
theorem xxc (a b c : Nat) : (a ^^^ b) ^^^ (a ^^^ c) = b ^^^ c := by
 rw [show (a ^^^ b) ^^^ (a ^^^ c) = (a ^^^ a) ^^^ (b ^^^ c) from by ac_rfl, Nat.xor_self, Nat.zero_xor]
theorem xt_xor (a b : Nat) : xt d P (a ^^^ b) = xt d P a ^^^ xt d P b := by
 unfold xt
 rw [Nat.testBit_xor, two_mul_xor]
 cases a.testBit (d - 1) <;> cases b.testBit (d - 1) <;>
  simp only [Bool.xor_false, Bool.xor_true, Bool.not_false, Bool.not_true, if_true, if_false, Bool.false_eq_true] <;>
  first | rfl | ac_rfl | (rw [Nat.xor_comm (2 * a) P, Nat.xor_comm (2 * b) P, xxc])
theorem xt_zero : xt d P 0 = 0 := by simp [xt]
theorem mulN_zero_left (n b : Nat) : mulN d P n 0 b = 0 := by
 induction n generalizing b with
 | zero => rfl
 | succ n ih => simp [mulN, xt_zero, ih]
theorem mulN_zero_right (n a : Nat) : mulN d P n a 0 = 0 := by
 induction n generalizing a with
 | zero => rfl
 | succ n ih => simp [mulN, ih]
theorem mulN_xor_left (n a b c : Nat) : mulN d P n (a ^^^ b) c = mulN d P n a c ^^^ mulN d P n b c := by
 induction n generalizing a b c with
 | zero => simp [mulN]
 | succ n ih =>
  simp only [mulN, xt_xor, ih]
  split
  · ac_rfl
  · simp only [Nat.zero_xor]
theorem xor_mod2 (a b : Nat) : (a ^^^ b) % 2 = (a % 2 + b % 2) % 2 := by
 have h := Nat.testBit_xor a b 0
 rw [Nat.testBit_zero, Nat.testBit_zero, Nat.testBit_zero] at h
 rcases Nat.mod_two_eq_zero_or_one a with ha | ha <;> rcases Nat.mod_two_eq_zero_or_one b with hb | hb <;>
  rcases Nat.mod_two_eq_zero_or_one (a ^^^ b) with hc | hc <;> simp [ha, hb, hc] at h ⊢
theorem xor_div2 (a b : Nat) : (a ^^^ b) / 2 = (a / 2) ^^^ (b / 2) := by
 apply Nat.eq_of_testBit_eq; intro i
 rw [Nat.testBit_xor, ← Nat.testBit_succ, ← Nat.testBit_succ, ← Nat.testBit_succ, Nat.testBit_xor]
theorem sel_xor (b c x : Nat) : (if (b % 2 + c % 2) % 2 = 1 then x else 0) = (if b % 2 = 1 then x else 0) ^^^ (if c % 2 = 1 then x else 0) := by
 rcases Nat.mod_two_eq_zero_or_one b with hb | hb <;> rcases Nat.mod_two_eq_zero_or_one c with hc | hc <;> simp [hb, hc]
theorem mulN_xor_right (n a b c : Nat) : mulN d P n a (b ^^^ c) = mulN d P n a b ^^^ mulN d P n a c := by
 induction n generalizing a b c with
 | zero => simp [mulN]
 | succ n ih =>
  simp only [mulN, xor_div2, ih, xor_mod2, sel_xor]
  ac_rfl
theorem mulN_xt (n a b : Nat) : mulN d P n (xt d P a) b = xt d P (mulN d P n a b) := by
 induction n generalizing a b with
 | zero => simp [mulN, xt_zero]
 | succ n ih =>
  simp only [mulN, xt_xor, ih]
  split <;> simp [xt_zero]
theorem mulN_swap (n m a b c : Nat) : mulN d P n (mulN d P m c a) b = mulN d P m (mulN d P n c b) a := by
 induction m generalizing c a with
 | zero => simp [mulN, mulN_zero_left]
 | succ m ih =>
  simp only [mulN, mulN_xor_left, ih, mulN_xt]
  split <;> simp [mulN_zero_left]
theorem mulN_pow (n j b : Nat) (hb : b < 2 ^ n) (hj : j + n ≤ d) : mulN d P n (2 ^ j) b = 2 ^ j * b := by
 induction n generalizing j b with
 | zero => simp at hb; subst hb; simp [mulN]
 | succ n ih =>
  have hb2 : b / 2 < 2 ^ n := by rw [Nat.pow_succ] at hb; omega
  have key : mulN d P n (xt d P (2 ^ j)) (b / 2) = 2 ^ (j + 1) * (b / 2) := by
   cases n with
   | zero => have : b / 2 = 0 := by simpa using hb2
             rw [this]; simp [mulN]
   | succ n =>
    have : xt d P (2 ^ j) = 2 ^ (j + 1) := by
     unfold xt
     rw [if_neg]
     · rw [Nat.pow_succ]; omega
     · rw [Nat.testBit_two_pow]; simp; omega
    rw [this]; exact ih (j + 1) _ hb2 (by omega)
  simp only [mulN, key]
  apply Nat.eq_of_testBit_eq; intro i
  rw [Nat.testBit_xor]
  have h2 := Nat.testBit_two_pow_mul (i := j + 1) (a := b / 2) (j := i)
  have h3 := Nat.testBit_two_pow_mul (i := j) (a := b) (j := i)
  rw [h2, h3]
  rcases Nat.lt_trichotomy i j with h | h | h
  · have e1 : ¬ (j ≤ i) := by omega
    have e2 : ¬ (j + 1 ≤ i) := by omega
    simp only [ge_iff_le, e1, e2, decide_false, Bool.false_and]
    split
    · rw [Nat.testBit_two_pow]; simp; omega
    · simp
  · subst h
    have e2 : ¬ (i + 1 ≤ i) := by omega
    simp only [ge_iff_le, e2, decide_false, Bool.false_and, Nat.le_refl, decide_true, Bool.true_and, Nat.sub_self, Nat.testBit_zero]
    split <;> simp_all
  ·
   have e1 : j ≤ i := by omega
   have e2 : j + 1 ≤ i := by omega
   simp only [ge_iff_le, e1, e2, decide_true, Bool.true_and]
   have e3 : i - j = (i - (j + 1)) + 1 := by omega
   rw [e3, Nat.testBit_succ]
   split
   · rw [Nat.testBit_two_pow, decide_eq_false (by omega), Bool.false_xor]
   · simp
theorem mul_one_left (a : Nat) (h : a < 2 ^ d) : mul d P 1 a = a := by
 have := mulN_pow d P d 0 a h (by omega)
 simpa [mul] using this
theorem mul_comm (a b : Nat) (ha : a < 2 ^ d) (hb : b < 2 ^ d) : mul d P a b = mul d P b a := by
 have h := mulN_swap d P d d a b 1
 have h1 := mul_one_left d P a ha
 have h2 := mul_one_left d P b hb
 unfold mul at *
 rw [h1, h2] at h; exact h
theorem mul_one (a : Nat) (hd : 0 < d) (h : a < 2 ^ d) : mul d P a 1 = a := by
 rw [mul_comm d P a 1 h (Nat.one_lt_two_pow (by omega)), mul_one_left d P a h]
theorem mul_right_comm (a b c : Nat) : mul d P (mul d P a b) c = mul d P (mul d P a c) b := mulN_swap d P d d b c a
theorem mul_xor_left (a b c : Nat) : mul d P (a ^^^ b) c = mul d P a c ^^^ mul d P b c := mulN_xor_left d P d a b c
theorem mul_xor_right (a b c : Nat) : mul d P a (b ^^^ c) = mul d P a b ^^^ mul d P a c := mulN_xor_right d P d a b c
theorem mul_zero_left (b : Nat) : mul d P 0 b = 0 := mulN_zero_left d P d b
theorem mul_zero_right (b : Nat) : mul d P b 0 = 0 := mulN_zero_right d P d b
variable (hd : 0 < d) (hP1 : 2 ^ d ≤ P) (hP2 : P < 2 ^ (d + 1))
include hd hP1 hP2
theorem xt_lt (v : Nat) (h : v < 2 ^ d) : xt d P v < 2 ^ d := by
 unfold xt
 have e : 2 ^ d = 2 * 2 ^ (d - 1) := by rw [← Nat.pow_succ']; congr 1; omega
 have e2 : 2 ^ (d + 1) = 2 * 2 ^ d := by rw [Nat.pow_succ']
 split
 ·
  rename_i ht
  have hv : 2 ^ (d - 1) ≤ v := Nat.ge_two_pow_of_testBit ht
  apply Nat.lt_pow_two_of_testBit
  intro i hi
  rw [Nat.testBit_xor]
  rcases Nat.lt_or_eq_of_le hi with h1 | h1
  · have a1 : (2 * v).testBit i = false := Nat.testBit_lt_two_pow (Nat.lt_of_lt_of_le (by omega : 2 * v < 2 ^ (d + 1)) (Nat.pow_le_pow_right (by decide) h1))
    have a2 : P.testBit i = false := Nat.testBit_lt_two_pow (Nat.lt_of_lt_of_le hP2 (Nat.pow_le_pow_right (by decide) h1))
    simp [a1, a2]
  ·
   subst h1
   have a1 : (2 * v).testBit d = true := by
    rw [show d = (d - 1) + 1 from by omega, Nat.testBit_succ, Nat.mul_div_cancel_left _ (by decide), ]
    exact ht
   have a2 : P.testBit d = true := by
    rw [Nat.testBit_eq_decide_div_mod_eq]
    have : P / 2 ^ d = 1 := by
     apply Nat.div_eq_of_lt_le <;> omega
    simp [this]
   simp [a1, a2]
 ·
  rename_i ht
  have : v < 2 ^ (d - 1) := by
   apply Nat.lt_pow_two_of_testBit
   intro i hi
   rcases Nat.lt_or_eq_of_le hi with h1 | h1
   · exact Nat.testBit_lt_two_pow (Nat.lt_of_lt_of_le h (Nat.pow_le_pow_right (by decide) (by omega)))
   · subst h1; simpa using ht
  omega
theorem mulN_lt (n a b : Nat) (h : a < 2 ^ d) : mulN d P n a b < 2 ^ d := by
 induction n generalizing a b with
 | zero => exact Nat.two_pow_pos d
 | succ n ih =>
  simp only [mulN]
  refine Nat.xor_lt_two_pow ?_ (ih _ _ (xt_lt d P hd hP1 hP2 _ h))
  split
  · exact h
  · exact Nat.two_pow_pos d
theorem mul_lt (a b : Nat) (h : a < 2 ^ d) : mul d P a b < 2 ^ d := mulN_lt d P hd hP1 hP2 d a b h
theorem mul_assoc (a b c : Nat) (ha : a < 2 ^ d) (hb : b < 2 ^ d) : mul d P (mul d P a b) c = mul d P a (mul d P b c) := by
 rw [mul_comm d P a b ha hb, mul_right_comm, mul_comm d P _ a (mul_lt d P hd hP1 hP2 b c hb) ha]
end
theorem bit_xor (a b k : Nat) : (a ^^^ b) / 2 ^ k % 2 = (a / 2 ^ k % 2) ^^^ (b / 2 ^ k % 2) := by
 have h := Nat.testBit_xor a b k
 rw [Nat.testBit_eq_decide_div_mod_eq, Nat.testBit_eq_decide_div_mod_eq, Nat.testBit_eq_decide_div_mod_eq] at h
 rcases Nat.mod_two_eq_zero_or_one (a / 2 ^ k) with ha | ha <;> rcases Nat.mod_two_eq_zero_or_one (b / 2 ^ k) with hb | hb <;>
  rcases Nat.mod_two_eq_zero_or_one ((a ^^^ b) / 2 ^ k) with hc | hc <;> simp [ha, hb, hc] at h ⊢
end Gf
namespace Gf
section
variable (d P : Nat)
end
end Gf
namespace Fq
open Gf
def mul (a b : Nat) : Nat := Gf.mul 8 357 a b
def sq (a : Nat) : Nat := mul a a
def inv (a : Nat) : Nat :=
 let a2 := sq a; let a4 := sq a2; let a8 := sq a4; let a16 := sq a8; let a32 := sq a16; let a64 := sq a32; let a128 := sq a64
 mul a128 (mul a64 (mul a32 (mul a16 (mul a8 (mul a4 a2)))))
theorem mul_lt (a b : Nat) (h : a < 256) : mul a b < 256 := Gf.mul_lt 8 357 (by decide) (by decide) (by decide) a b h
theorem mul_comm (a b : Nat) (ha : a < 256) (hb : b < 256) : mul a b = mul b a := Gf.mul_comm 8 357 a b ha hb
theorem mul_assoc (a b c : Nat) (ha : a < 256) (hb : b < 256) : mul (mul a b) c = mul a (mul b c) := Gf.mul_assoc 8 357 (by decide) (by decide) (by decide) a b c ha hb
theorem one_mul (a : Nat) (h : a < 256) : mul 1 a = a := Gf.mul_one_left 8 357 a h
theorem mul_one (a : Nat) (h : a < 256) : mul a 1 = a := Gf.mul_one 8 357 a (by decide) h
theorem zero_mul (a : Nat) : mul 0 a = 0 := Gf.mul_zero_left 8 357 a
theorem mul_zero (a : Nat) : mul a 0 = 0 := Gf.mul_zero_right 8 357 a
theorem xor_mul (a b c : Nat) : mul (a ^^^ b) c = mul a c ^^^ mul b c := Gf.mul_xor_left 8 357 a b c
theorem mul_xor (a b c : Nat) : mul a (b ^^^ c) = mul a b ^^^ mul a c := Gf.mul_xor_right 8 357 a b c
theorem inv_lt (a : Nat) (h : a < 256) : inv a < 256 := by
 unfold inv sq
 exact mul_lt _ _ (by repeat (first | exact h | apply mul_lt))
theorem inv_all : ∀ a < 256, a = 0 ∨ mul a (inv a) = 1 := by decide +kernel
theorem mul_inv (a : Nat) (h : a < 256) (h0 : a ≠ 0) : mul a (inv a) = 1 := (inv_all a h).resolve_left h0
theorem inv_mul (a : Nat) (h : a < 256) (h0 : a ≠ 0) : mul (inv a) a = 1 := by rw [mul_comm _ _ (inv_lt a h) h]; exact mul_inv a h h0
theorem inv_zero : inv 0 = 0 := by decide +kernel
theorem inv_uniq (a b : Nat) (ha : a < 256) (hb : b < 256) (h : mul a b = 1) : b = inv a := by
 have h0 : a ≠ 0 := by rintro rfl; rw [zero_mul] at h; cases h
 have := congrArg (mul (inv a)) h
 rwa [← mul_assoc _ _ _ (inv_lt a ha) ha, inv_mul a ha h0, one_mul b hb, mul_one _ (inv_lt a ha)] at this
end Fq
namespace Fq
def pw (a : Nat) : Nat → Nat
 | 0 => 1
 | m + 1 => mul (pw a m) a
theorem pw_lt (a m : Nat) (_ : a < 256) : pw a m < 256 := by
 induction m with
 | zero => exact (by decide : 1 < 256)
 | succ m ih => exact mul_lt _ _ ih
theorem pw_add (a m n : Nat) (h : a < 256) : pw a (m + n) = mul (pw a m) (pw a n) := by
 induction n with
 | zero => exact (mul_one _ (pw_lt a m h)).symm
 | succ n ih =>
  rw [← Nat.add_assoc]
  simp only [pw]
  rw [ih, mul_assoc _ _ _ (pw_lt a m h) (pw_lt a n h)]
theorem pw_sq (a m : Nat) (h : a < 256) : pw (mul a a) m = pw a (2 * m) := by
 induction m with
 | zero => rfl
 | succ m ih =>
  rw [show 2 * (m + 1) = 2 * m + 1 + 1 from by omega]
  simp only [pw]
  rw [ih, mul_assoc _ _ _ (pw_lt a _ h) h]
def powLoop : Nat → Nat → Nat → Nat → Nat
 | 0, _, _, p => p
 | k + 1, a, m, p => if m = 0 then p else powLoop k (mul a a) (m / 2) (if m % 2 = 1 then mul p a else p)
theorem powLoop_is (k a m p : Nat) (ha : a < 256) (hp : p < 256) (hm : m < 2 ^ k) : powLoop k a m p = mul p (pw a m) := by
 induction k generalizing a m p with
 | zero => have : m = 0 := by simpa using hm
           subst this; exact (mul_one _ hp).symm
 | succ k ih =>
  simp only [powLoop]
  by_cases h : m = 0
  · subst h; rw [if_pos rfl]; exact (mul_one _ hp).symm
  ·
   rw [if_neg h]
   have h2 : m / 2 < 2 ^ k := by rw [Nat.pow_succ] at hm; omega
   by_cases h1 : m % 2 = 1
   · rw [if_pos h1, ih _ _ _ (mul_lt _ _ ha) (mul_lt _ _ hp) h2, pw_sq _ _ ha, mul_assoc _ _ _ hp ha]
     congr 1
     have e : m = 1 + 2 * (m / 2) := by omega
     conv => rhs; rw [e]
     rw [pw_add _ _ _ ha]; simp only [pw]; rw [one_mul _ ha]
   · rw [if_neg h1, ih _ _ _ (mul_lt _ _ ha) hp h2, pw_sq _ _ ha]
     congr 2; omega
theorem pw_254 (a : Nat) (ha : a < 256) : pw a 254 = inv a := by
 unfold inv sq
 have s : ∀ m n, mul (pw a m) (pw a n) = pw a (m + n) := fun m n => (pw_add a m n ha).symm
 have h1 : a = pw a 1 := by simp only [pw]; exact (one_mul a ha).symm
 have h2 : mul a a = pw a 2 := by conv => lhs; rw [h1, s]
 rw [h2]
 simp only [s]
end Fq
structure El where
 v : Nat
 lt : v < 256
namespace El
theorem ext {a b : El} (h : a.v = b.v) : a = b := by cases a; cases b; cases h; rfl
instance : Add El := ⟨fun a b => ⟨a.v ^^^ b.v, Nat.xor_lt_two_pow (n := 8) a.lt b.lt⟩⟩
instance : Mul El := ⟨fun a b => ⟨Fq.mul a.v b.v, Fq.mul_lt _ _ a.lt⟩⟩
instance : OfNat El 0 := ⟨⟨0, by decide⟩⟩
instance : OfNat El 1 := ⟨⟨1, by decide⟩⟩
def inv (a : El) : El := ⟨Fq.inv a.v, Fq.inv_lt _ a.lt⟩
theorem add_v (a b : El) : (a + b).v = a.v ^^^ b.v := rfl
theorem mul_v (a b : El) : (a * b).v = Fq.mul a.v b.v := rfl
theorem zero_v : (0 : El).v = 0 := rfl
theorem one_v : (1 : El).v = 1 := rfl
theorem inv_v (a : El) : a.inv.v = Fq.inv a.v := rfl
theorem add_comm (a b : El) : a + b = b + a := ext (Nat.xor_comm _ _)
theorem add_assoc (a b c : El) : a + b + c = a + (b + c) := ext (Nat.xor_assoc _ _ _)
theorem mul_comm (a b : El) : a * b = b * a := ext (Fq.mul_comm _ _ a.lt b.lt)
theorem mul_assoc (a b c : El) : a * b * c = a * (b * c) := ext (Fq.mul_assoc _ _ _ a.lt b.lt)
theorem add_self (a : El) : a + a = 0 := ext (Nat.xor_self _)
theorem zero_add (a : El) : 0 + a = a := ext (Nat.zero_xor _)
theorem add_zero (a : El) : a + 0 = a := ext (Nat.xor_zero _)
theorem one_mul (a : El) : 1 * a = a := ext (Fq.one_mul _ a.lt)
theorem mul_one (a : El) : a * 1 = a := ext (Fq.mul_one _ a.lt)
theorem zero_mul (a : El) : 0 * a = 0 := ext (Fq.zero_mul _)
theorem mul_zero (a : El) : a * 0 = 0 := ext (Fq.mul_zero _)
theorem mul_add (a b c : El) : a * (b + c) = a * b + a * c := ext (Fq.mul_xor _ _ _)
theorem add_mul (a b c : El) : (a + b) * c = a * c + b * c := ext (Fq.xor_mul _ _ _)
theorem ne_zero_v {a : El} (h : a ≠ 0) : a.v ≠ 0 := fun e => h (ext e)
theorem mul_inv {a : El} (h : a ≠ 0) : a * a.inv = 1 := ext (Fq.mul_inv _ a.lt (ne_zero_v h))
theorem inv_mul {a : El} (h : a ≠ 0) : a.inv * a = 1 := ext (Fq.inv_mul _ a.lt (ne_zero_v h))
theorem eq_of_add_eq_zero {a b : El} (h : a + b = 0) : a = b := by
 have := congrArg (· + b) h
 simp only [add_assoc, add_self, add_zero, zero_add] at this; exact this
theorem add_ne_zero {a b : El} (h : a ≠ b) : a + b ≠ 0 := fun e => h (eq_of_add_eq_zero e)
theorem eq_zero_of_mul {a b : El} (ha : a ≠ 0) (h : a * b = 0) : b = 0 := by
 have := congrArg (a.inv * ·) h
 simp only [← mul_assoc, inv_mul ha, one_mul, mul_zero] at this; exact this
theorem inv_ne_zero {a : El} (h : a ≠ 0) : a.inv ≠ 0 := by
 intro e; have := mul_inv h; rw [e, mul_zero] at this; cases this
instance : Std.Associative (α := El) (· + ·) := ⟨add_assoc⟩
instance : Std.Commutative (α := El) (· + ·) := ⟨add_comm⟩
instance : Std.Associative (α := El) (· * ·) := ⟨mul_assoc⟩
instance : Std.Commutative (α := El) (· * ·) := ⟨mul_comm⟩
theorem mul_left_comm (a b c : El) : a * (b * c) = b * (a * c) := by ac_rfl
theorem add_add_self (a b : El) : a + (a + b) = b := by rw [← add_assoc, add_self, zero_add]
instance : Inhabited El := ⟨0⟩
instance : DecidableEq El := fun a b => if h : a.v = b.v then .isTrue (ext h) else .isFalse (fun e => h (e ▸ rfl))
def sum (n : Nat) (f : Nat → El) : El := match n with
 | 0 => 0
 | n + 1 => sum n f + f n
theorem sum_congr {n : Nat} {f g : Nat → El} (h : ∀ i, i < n → f i = g i) : sum n f = sum n g := by
 induction n with
 | zero => rfl
 | succ n ih => simp only [sum]; rw [ih (fun i hi => h i (by omega)), h n (by omega)]
theorem sum_add (n : Nat) (f g : Nat → El) : sum n (fun i => f i + g i) = sum n f + sum n g := by
 induction n with
 | zero => exact (zero_add 0).symm
 | succ n ih => simp only [sum, ih]; ac_rfl
theorem mul_sum (n : Nat) (a : El) (f : Nat → El) : a * sum n f = sum n (fun i => a * f i) := by
 induction n with
 | zero => exact mul_zero a
 | succ n ih => simp only [sum, mul_add, ih]
theorem sum_zero (n : Nat) : sum n (fun _ => 0) = 0 := by
 induction n with
 | zero => rfl
 | succ n ih => simp only [sum, ih, add_zero]
theorem sum_zero' {n : Nat} {f : Nat → El} (h : ∀ i, i < n → f i = 0) : sum n f = 0 := by rw [sum_congr h, sum_zero]
theorem sum_single {n k : Nat} (hk : k < n) (f : Nat → El) (h : ∀ i, i < n → i ≠ k → f i = 0) : sum n f = f k := by
 induction n with
 | zero => omega
 | succ n ih =>
  simp only [sum]
  by_cases e : n = k
  · subst e; rw [sum_zero' (fun i hi => h i (by omega) (by omega)), zero_add]
  · rw [ih (by omega) (fun i hi => h i (by omega)), h n (by omega) e, add_zero]
theorem frac {u v w : El} (hu : u ≠ 0) (e : v = u + w) : v * u.inv = 1 + w * u.inv := by rw [e, add_mul, mul_inv hu]
theorem inv_add {u v : El} (hu : u ≠ 0) (hv : v ≠ 0) : u.inv + v.inv = (u + v) * (u.inv * v.inv) := by
 have h1 : u * (u.inv * v.inv) = v.inv := by rw [← mul_assoc, mul_inv hu, one_mul]
 have h2 : v * (u.inv * v.inv) = u.inv := by rw [mul_comm u.inv, ← mul_assoc, mul_inv hv, one_mul]
 rw [add_mul, h1, h2, add_comm]
theorem cauchy_kernel (k : Nat) (a b x : Nat → El) (ha : ∀ i j, i < k → j < k → i ≠ j → a i ≠ a j) (hb : ∀ i j, i < k → j < k → i ≠ j → b i ≠ b j)
    (hab : ∀ i j, i < k → j < k → a i ≠ b j) (h : ∀ i, i < k → sum k (fun j => x j * (a i + b j).inv) = 0) : ∀ j, j < k → x j = 0 := by
 induction k generalizing x with
 | zero => intro j hj; omega
 | succ k ih =>
  have nz : ∀ i j, i < k + 1 → j < k + 1 → a i + b j ≠ 0 := fun i j hi hj => add_ne_zero (hab i j hi hj)
  have row : ∀ i, i < k + 1 → sum k (fun j => x j * (1 + (b j + b k) * (a i + b j).inv)) + x k = 0 := by
   intro i hi
   have h1 := congrArg ((a i + b k) * ·) (h i hi)
   simp only [sum, mul_add, mul_zero, mul_sum] at h1
   have e2 : (a i + b k) * (x k * (a i + b k).inv) = x k := by
    rw [mul_left_comm, mul_inv (nz i k hi (by omega)), mul_one]
   have e1 : sum k (fun j => (a i + b k) * (x j * (a i + b j).inv)) = sum k (fun j => x j * (1 + (b j + b k) * (a i + b j).inv)) := by
    apply sum_congr; intro j hj
    rw [mul_left_comm, frac (nz i j hi (by omega)) (by rw [add_assoc, add_add_self] : a i + b k = (a i + b j) + (b j + b k))]
   rw [← e1]
   have e3 : (a i + b k) * (x k * (a i + b k).inv) = a i * (x k * (a i + b k).inv) + b k * (x k * (a i + b k).inv) := add_mul _ _ _
   rw [e2] at e3
   rw [e3]
   simpa only [add_mul] using h1
  have small := ih (fun j => x j * ((b j + b k) * (a k + b j).inv)) (fun i j hi hj => ha i j (by omega) (by omega)) (fun i j hi hj => hb i j (by omega) (by omega))
   (fun i j hi hj => hab i j (by omega) (by omega)) (by
    intro i hi
    have r1 := row i (by omega)
    have r2 := row k (by omega)
    have r3 : sum k (fun j => x j * (1 + (b j + b k) * (a i + b j).inv)) + sum k (fun j => x j * (1 + (b j + b k) * (a k + b j).inv)) = 0 := by
     rw [eq_of_add_eq_zero r1, eq_of_add_eq_zero r2, add_self]
    rw [← sum_add] at r3
    apply eq_zero_of_mul (add_ne_zero (ha i k (by omega) (by omega) (by omega)))
    rw [mul_sum, ← r3]
    apply sum_congr; intro j hj
    have e := inv_add (nz i j (by omega) (by omega)) (nz k j (by omega) (by omega))
    have e4 : (a i + b j) + (a k + b j) = a i + a k := by
     rw [show a i + b j + (a k + b j) = (a i + a k) + (b j + b j) from by ac_rfl, add_self, add_zero]
    rw [e4] at e
    rw [show x j * (1 + (b j + b k) * (a i + b j).inv) + x j * (1 + (b j + b k) * (a k + b j).inv) = x j * (b j + b k) * ((a i + b j).inv + (a k + b j).inv) from by
     simp only [mul_add, mul_one, add_mul]
     rw [show ∀ p q r s t : El, p + (q + r) + (p + (s + t)) = (p + p) + (q + s + (r + t)) from fun p q r s t => by ac_rfl, add_self, zero_add]
     simp only [mul_assoc]; ac_rfl, e]
    ac_rfl)
  have xs : ∀ j, j < k → x j = 0 := by
   intro j hj
   have := small j hj
   rw [mul_comm] at this
   refine eq_zero_of_mul ?_ this
   intro e
   exact inv_ne_zero (nz k j (by omega) (by omega)) (eq_zero_of_mul (add_ne_zero (hb j k (by omega) (by omega) (by omega))) e)
  intro j hj
  by_cases e : j = k
  · subst e
    have := row j (by omega)
    rw [sum_zero' (fun i hi => by rw [xs i hi, zero_mul]), zero_add] at this
    exact this
  · exact xs j (by omega)
end El
namespace Fq
def mulLoop : Nat → Nat → Nat → Nat → Nat
 | 0, p, _, _ => p
 | k + 1, p, x, y => if y = 0 then p else mulLoop k (if y % 2 = 1 then p ^^^ x else p) (Gf.xt 8 357 x) (y / 2)
theorem mulLoop_is (k p x y : Nat) (h : y < 2 ^ k) : mulLoop k p x y = p ^^^ Gf.mulN 8 357 k x y := by
 induction k generalizing p x y with
 | zero => simp [mulLoop, Gf.mulN]
 | succ k ih =>
  simp only [mulLoop, Gf.mulN]
  by_cases hy : y = 0
  · subst hy; simp [Gf.mulN_zero_right]
  · rw [if_neg hy, ih _ _ _ (by rw [Nat.pow_succ] at h; omega)]
    by_cases h1 : y % 2 = 1
    · rw [if_pos h1, if_pos h1, Nat.xor_assoc]
    · rw [if_neg h1, if_neg h1, Nat.zero_xor]
def polyMul (a b : Nat) : Nat → Nat → Nat
 | 0, p => p
 | n + 1, p => polyMul a b n (if b / 2 ^ (7 - n) % 2 = 1 then p ^^^ (a * 2 ^ (7 - n)) else p)
def red : Nat → Nat → Nat
 | 0, p => p
 | n + 1, p => red n (if p / 2 ^ (8 + n) % 2 = 1 then p ^^^ (357 * 2 ^ n) else p)
theorem sel_put (b c x p q : Nat) : (if (b ^^^ c) % 2 = 1 then (p ^^^ q) ^^^ x else p ^^^ q) = (if b % 2 = 1 then p ^^^ x else p) ^^^ (if c % 2 = 1 then q ^^^ x else q) := by
 have h := Gf.sel_xor b c x
 rw [← Gf.xor_mod2] at h
 have e : ∀ (b p : Nat), (if b % 2 = 1 then p ^^^ x else p) = p ^^^ (if b % 2 = 1 then x else 0) := fun b p => by split <;> simp
 rw [e, e, e, h]; ac_rfl
theorem mod_mod2 (a b : Nat) : ((a % 2) ^^^ (b % 2)) = (a ^^^ b) % 2 := by
 rw [Gf.xor_mod2]
 rcases Nat.mod_two_eq_zero_or_one a with hb | hb <;> rcases Nat.mod_two_eq_zero_or_one b with hc | hc <;> rw [hb, hc] <;> rfl
theorem red_xor (n p q : Nat) : red n (p ^^^ q) = red n p ^^^ red n q := by
 induction n generalizing p q with
 | zero => rfl
 | succ n ih =>
  simp only [red]
  rw [Gf.bit_xor, ← ih, mod_mod2, sel_put]
theorem red_zero (n : Nat) : red n 0 = 0 := by
 induction n with
 | zero => rfl
 | succ n ih => simp [red, ih]
def terms (a b : Nat) : Nat → Nat
 | 0 => 0
 | n + 1 => (if b / 2 ^ (7 - n) % 2 = 1 then a * 2 ^ (7 - n) else 0) ^^^ terms a b n
theorem polyMul_is (a b n p : Nat) : polyMul a b n p = p ^^^ terms a b n := by
 induction n generalizing p with
 | zero => simp [polyMul, terms]
 | succ n ih =>
  simp only [polyMul, terms]
  rw [ih _]
  split <;> simp [Nat.xor_assoc]
theorem red_base : ∀ a < 256, ∀ i < 8, red 7 (a * 2 ^ i) = mul a (2 ^ i) := by decide +kernel
theorem byte_bits : ∀ b < 256, b = (if b / 2 ^ 0 % 2 = 1 then 2 ^ 0 else 0) ^^^ ((if b / 2 ^ 1 % 2 = 1 then 2 ^ 1 else 0) ^^^ ((if b / 2 ^ 2 % 2 = 1 then 2 ^ 2 else 0) ^^^ ((if b / 2 ^ 3 % 2 = 1 then 2 ^ 3 else 0) ^^^ ((if b / 2 ^ 4 % 2 = 1 then 2 ^ 4 else 0) ^^^ ((if b / 2 ^ 5 % 2 = 1 then 2 ^ 5 else 0) ^^^ ((if b / 2 ^ 6 % 2 = 1 then 2 ^ 6 else 0) ^^^ (if b / 2 ^ 7 % 2 = 1 then 2 ^ 7 else 0))))))) := by decide +kernel
theorem red_mul (a b : Nat) (ha : a < 256) (hb : b < 256) : red 7 (polyMul a b 8 0) = mul a b := by
 rw [polyMul_is]
 have e := byte_bits b hb
 have t : ∀ i < 8, red 7 (if b / 2 ^ i % 2 = 1 then a * 2 ^ i else 0) = mul a (if b / 2 ^ i % 2 = 1 then 2 ^ i else 0) := by
  intro i hi
  split
  · exact red_base a ha i hi
  · rw [red_zero, mul_zero]
 conv => rhs; rw [e]
 simp only [terms, Nat.zero_xor, red_xor, mul_xor, Nat.xor_zero, Nat.sub_self, Nat.sub_zero, Nat.reduceSub]
 rw [t 0 (by omega), t 1 (by omega), t 2 (by omega), t 3 (by omega), t 4 (by omega), t 5 (by omega), t 6 (by omega), t 7 (by omega)]
end Fq
end Go.Proofs.Ytdhajlkiiphlfaa.Math
namespace Go.Proofs.Ytdhajlkiiphlfaa.Bits
open Go
theorem bits_xor_nat (k : IntKind) (j : Nat) (hj : j ≤ k.bits) (hk : ∀ n : Int, 0 ≤ n → n < 2 ^ j → k.wrap n = n) (a b : Nat) (ha : a < 2 ^ j) (hb : b < 2 ^ j) :
    bits .xor k a b = ((a ^^^ b : Nat) : Int) := by
 have hp : 2 ^ j ≤ 2 ^ k.bits := Nat.pow_le_pow_right (by decide) hj
 have ha' : a % 2 ^ k.bits = a := Nat.mod_eq_of_lt (Nat.lt_of_lt_of_le ha hp)
 have hb' : b % 2 ^ k.bits = b := Nat.mod_eq_of_lt (Nat.lt_of_lt_of_le hb hp)
 have cast : ∀ n : Nat, n < 2 ^ j → ((n : Nat) : Int) < 2 ^ j := fun n h => by exact_mod_cast h
 simp only [bits, BitVec.ofInt_natCast, BitVec.toNat_xor, BitVec.toNat_ofNat, ha', hb']
 exact hk _ (Int.natCast_nonneg _) (cast _ (Nat.xor_lt_two_pow ha hb))
theorem xor_u8 (a b : Nat) (ha : a < 256) (hb : b < 256) : bits .xor .u8 a b = ((a ^^^ b : Nat) : Int) :=
 bits_xor_nat .u8 8 (by decide) wraps_u8 a b ha hb
theorem xor_i64 (a b : Nat) (ha : a < 9223372036854775808) (hb : b < 9223372036854775808) : bits .xor .i64 a b = ((a ^^^ b : Nat) : Int) :=
 bits_xor_nat .i64 63 (by decide) (fun n h0 h1 => by rw [IntKind.wrap_i64]; omega) a b ha hb
theorem and1_u8 (a : Nat) (ha : a < 256) : bits .and .u8 a 1 = ((a % 2 : Nat) : Int) := by
 have := (bits_nat .u8 8 (by decide) wraps_u8 a 1 ha (by decide)).1
 rw [Nat.and_one_is_mod] at this; exact this
theorem and1_i64 (a : Nat) (ha : a < 9223372036854775808) : bits .and .i64 a 1 = ((a % 2 : Nat) : Int) := by
 have := (bits_nat .i64 63 (by decide) (fun n h0 h1 => by rw [IntKind.wrap_i64]; omega) a 1 ha (by decide)).1
 rw [Nat.and_one_is_mod] at this; exact this
end Go.Proofs.Ytdhajlkiiphlfaa.Bits
namespace Go.Proofs.Ytdhajlkiiphlfaa.Solve
open Go.RowKit Go.Proofs.Ytdhajlkiiphlfaa.QB Go.Proofs.YtdhajlkiiphlfaaW.PrintWords Go.Proofs.YtdhajlkiiphlfaaW.PrintLast
open Go.Proofs.Ytdhajlkiiphlfaa.Math Go.Proofs.Ytdhajlkiiphlfaa.Bits
theorem w64 {n : Int} (h0 : -9223372036854775808 ≤ n) (h1 : n ≤ 9223372036854775807) : wrap64 n = n := by unfold wrap64; omega
theorem xt_hi {x : Nat} (h : x < 256) (h1 : 128 ≤ x) : Gf.xt 8 357 x = (2 * x) ^^^ 357 := by
 unfold Gf.xt; rw [if_pos]; rw [show 8 - 1 = 7 from rfl, Nat.testBit_eq_decide_div_mod_eq]; simp; omega
theorem xt_lo {x : Nat} (h1 : x < 128) : Gf.xt 8 357 x = 2 * x := by
 unfold Gf.xt; rw [if_neg]; rw [show 8 - 1 = 7 from rfl, Nat.testBit_eq_decide_div_mod_eq]; simp; omega
theorem xt_lt8 {x : Nat} (h : x < 256) : Gf.xt 8 357 x < 256 := Gf.xt_lt 8 357 (by decide) (by decide) (by decide) x h
theorem Mul_l0 (n : Nat) : ∀ (k p x y : Nat), p < 256 → x < 256 → y < 2 ^ n → y < 256 → n < k → field_Mul.l0 k p x y = some ((Fq.mulLoop n p x y : Nat) : Int) := by
 induction n with
 | zero =>
  intro k p x y hp hx hy hy2 hk
  obtain ⟨k, rfl⟩ : ∃ m, k = m + 1 := ⟨k - 1, by omega⟩
  have : y = 0 := by simpa using hy
  subst this
  simp only [field_Mul.l0, Fq.mulLoop]
  rw [if_pos (by rfl)]
  congr 1; omega
 | succ n ih =>
  intro k p x y hp hx hy hy2 hk
  obtain ⟨k, rfl⟩ : ∃ m, k = m + 1 := ⟨k - 1, by omega⟩
  simp only [field_Mul.l0, Fq.mulLoop]
  by_cases h0 : y = 0
  · subst h0
    rw [if_pos (by rfl), if_pos rfl]
    congr 1; omega
  ·
   rw [if_neg (by omega), if_neg h0, and1_u8 y hy2, w64 (by omega) (by omega)]
   have e2 : ((x : Int) * 2) = ((2 * x : Nat) : Int) := by omega
   have ey : (y : Int) / 2 = ((y / 2 : Nat) : Int) := by omega
   have hy' : y / 2 < 2 ^ n := by rw [Nat.pow_succ] at hy; omega
   have hpx : p ^^^ x < 256 := Nat.xor_lt_two_pow (n := 8) hp hx
   have hxt := xt_lt8 hx
   rw [e2, ey]
   by_cases h1 : y % 2 = 1
   · rw [if_pos (by omega), if_pos h1, xor_i64 p x (by omega) (by omega)]
     by_cases h2 : 128 ≤ x
     · rw [if_pos (by omega), show (357 : Int) = ((357 : Nat) : Int) from rfl, xor_i64 _ _ (by omega) (by omega), ← xt_hi hx h2]
       exact ih k _ _ _ hpx hxt hy' (by omega) (by omega)
     · rw [if_neg (by omega), ← xt_lo (by omega)]
       exact ih k _ _ _ hpx hxt hy' (by omega) (by omega)
   · rw [if_neg (by omega), if_neg h1]
     by_cases h2 : 128 ≤ x
     · rw [if_pos (by omega), show (357 : Int) = ((357 : Nat) : Int) from rfl, xor_i64 _ _ (by omega) (by omega), ← xt_hi hx h2]
       exact ih k _ _ _ hp hxt hy' (by omega) (by omega)
     · rw [if_neg (by omega), ← xt_lo (by omega)]
       exact ih k _ _ _ hp hxt hy' (by omega) (by omega)
theorem Mul_f (k a b : Nat) (ha : a < 256) (hb : b < 256) (hk : 8 < k) : field_Mul.f k a b = some ((Fq.mul a b : Nat) : Int) := by
 unfold field_Mul.f
 rw [w64 (by omega) (by omega)]
 have := Mul_l0 8 k 0 a b (by decide) ha hb hb hk
 rw [Fq.mulLoop_is _ _ _ _ hb, Nat.zero_xor] at this
 exact this
theorem power_l0 (n : Nat) : ∀ (k a m p : Nat), a < 256 → p < 256 → m < 2 ^ n → m < 9223372036854775808 → n + 9 ≤ k → field_power.l0 k a m p = some ((Fq.powLoop n a m p : Nat) : Int) := by
 induction n with
 | zero =>
  intro k a m p ha hp hm hm2 hk
  obtain ⟨k, rfl⟩ : ∃ m, k = m + 1 := ⟨k - 1, by omega⟩
  have : m = 0 := by simpa using hm
  subst this
  simp only [field_power.l0, Fq.powLoop]
  rw [if_neg (by omega)]
 | succ n ih =>
  intro k a m p ha hp hm hm2 hk
  obtain ⟨k, rfl⟩ : ∃ m, k = m + 1 := ⟨k - 1, by omega⟩
  simp only [field_power.l0, Fq.powLoop]
  by_cases h0 : m = 0
  · subst h0
    rw [if_neg (by omega), if_pos rfl]
  ·
   rw [if_pos (by omega), if_neg h0, and1_i64 m hm2, Mul_f k a a ha ha (by omega), Mul_f k p a hp ha (by omega)]
   have ey : (m : Int) / 2 = ((m / 2 : Nat) : Int) := by omega
   have hy' : m / 2 < 2 ^ n := by rw [Nat.pow_succ] at hm; omega
   simp only [Option.bind_some]
   rw [ey]
   by_cases h1 : m % 2 = 1
   · rw [if_pos (by omega), if_pos h1]
     exact ih k _ _ _ (Fq.mul_lt _ _ ha) (Fq.mul_lt _ _ hp) hy' (by omega) (by omega)
   · rw [if_neg (by omega), if_neg h1]
     exact ih k _ _ _ (Fq.mul_lt _ _ ha) hp hy' (by omega) (by omega)
theorem power_f (k a m : Nat) (ha : a < 256) (hm : m < 256) (hk : 17 ≤ k) : field_power.f k a m = some ((Fq.pw a m : Nat) : Int) := by
 unfold field_power.f
 have := power_l0 8 k a m 1 ha (by decide) hm (by omega) hk
 rw [Fq.powLoop_is _ _ _ _ ha (by decide) hm, Fq.one_mul _ (Fq.pw_lt _ _ ha)] at this
 exact this
theorem Inv_f (k a : Nat) (ha : a < 256) (hk : 17 ≤ k) : field_Inv.f k a = some (((Fq.inv a : Nat) : Int), if a = 0 then 41 else 0) := by
 unfold field_Inv.f
 by_cases h : a = 0
 · subst h; rw [if_pos (by rfl), if_pos rfl, Fq.inv_zero]; rfl
 · rw [if_neg (by omega), if_neg h, show (254 : Int) = ((254 : Nat) : Int) from rfl, power_f k a 254 ha (by decide) hk, Fq.pw_254 a ha]; rfl
def mulZ (a b : Int) : Int := ((Fq.mul a.toNat b.toNat : Nat) : Int)
def invZ (a : Int) : Int := ((Fq.inv a.toNat : Nat) : Int)
def xorZ (a b : Int) : Int := ((a.toNat ^^^ b.toNat : Nat) : Int)
def In8 (a : Int) : Prop := 0 ≤ a ∧ a < 256
theorem In8.nat {a : Int} (h : In8 a) : ∃ n : Nat, a = n ∧ n < 256 := ⟨a.toNat, by have := h.1; omega, by have := h.1; have := h.2; omega⟩
theorem In8.of {n : Nat} (h : n < 256) : In8 (n : Int) := ⟨by omega, by omega⟩
theorem mulZ_in {a b : Int} (ha : In8 a) : In8 (mulZ a b) := In8.of (Fq.mul_lt _ _ (by have := ha.1; have := ha.2; omega))
theorem invZ_in {a : Int} (ha : In8 a) : In8 (invZ a) := In8.of (Fq.inv_lt _ (by have := ha.1; have := ha.2; omega))
theorem xorZ_in {a b : Int} (ha : In8 a) (hb : In8 b) : In8 (xorZ a b) := In8.of (Nat.xor_lt_two_pow (n := 8) (by have := ha.1; have := ha.2; omega) (by have := hb.1; have := hb.2; omega))
theorem Mul_z {k : Nat} {a b : Int} (ha : In8 a) (hb : In8 b) (hk : 8 < k) : field_Mul.f k a b = some (mulZ a b) := by
 obtain ⟨m, rfl, hm⟩ := ha.nat
 obtain ⟨n, rfl, hn⟩ := hb.nat
 exact Mul_f k m n hm hn hk
theorem Inv_z {k : Nat} {a : Int} (ha : In8 a) (hk : 17 ≤ k) : field_Inv.f k a = some (invZ a, if a.toNat = 0 then 41 else 0) := by
 obtain ⟨m, rfl, hm⟩ := ha.nat
 exact Inv_f k m hm hk
def addR (tr row : List Int) (by_ : Int) : List Int := List.zipWith (fun t y => xorZ t (mulZ by_ y)) tr row
def addTo (tr row : List Int) (by_ : Int) (i : Nat) : List Int := (addR tr row by_).take i ++ tr.drop i
theorem add_l0 (row : List Int) (by_ : Int) (hb : In8 by_) (hr : ∀ y ∈ row, In8 y) (hl : row.length ≤ 140737488355328) (tr : List Int) (ht : ∀ y ∈ tr, In8 y) (hlen : tr.length = row.length) : ∀ (d i k : Nat), i + d = row.length → d + 10 ≤ k → field_add.l0 k (addTo tr row by_ i) by_ row (row.length : Int) (i : Int) = some (addR tr row by_) := by
 have hal : (addR tr row by_).length = row.length := by unfold addR; rw [List.length_zipWith]; omega
 intro d
 induction d with
 | zero =>
  intro i k hi hk
  obtain ⟨k, rfl⟩ : ∃ k', k = k' + 1 := ⟨k - 1, by omega⟩
  obtain rfl : i = row.length := by omega
  unfold field_add.l0
  rw [if_neg (by omega)]
  unfold addTo
  rw [List.take_of_length_le (by omega), List.drop_of_length_le (by omega), List.append_nil]
 | succ d ih =>
  intro i k hi hk
  obtain ⟨k, rfl⟩ : ∃ k', k = k' + 1 := ⟨k - 1, by omega⟩
  have hit : i < tr.length := by omega
  have hir : i < row.length := by omega
  have hla : (addTo tr row by_ i).length = row.length := by unfold addTo; rw [List.length_append, List.length_take, List.length_drop, hal]; omega
  have e1 : rd row (i : Int) = row[i] := by unfold rd; rw [Int.toNat_natCast, List.getD_eq_getElem?_getD, List.getElem?_eq_getElem hir]; rfl
  have e2 : rd (addTo tr row by_ i) (i : Int) = tr[i] := by
   unfold rd addTo
   rw [Int.toNat_natCast, List.getD_eq_getElem?_getD, List.getElem?_append_right (by rw [List.length_take]; omega), List.length_take, hal, List.getElem?_drop, show i + (i - min i row.length) = i by omega, List.getElem?_eq_getElem hit]; rfl
  have hy := hr row[i] (List.getElem_mem hir)
  have hz := ht tr[i] (List.getElem_mem hit)
  unfold field_add.l0
  rw [if_pos (by omega), if_pos (by omega), if_pos (by omega), if_pos (by rw [hla]; omega), e1, Mul_z hb hy (by omega)]
  show field_add.l0 k ((addTo tr row by_ i).set (i : Int).toNat (Go.bits .xor .u8 (rd (addTo tr row by_ i) (i : Int)) (mulZ by_ row[i]))) by_ row (row.length : Int) (wrap64 ((i : Int) + 1)) = _
  rw [e2, Int.toNat_natCast, w64 (by omega) (by omega)]
  have ex : Go.bits .xor .u8 tr[i] (mulZ by_ row[i]) = xorZ tr[i] (mulZ by_ row[i]) := by
   obtain ⟨m, hm, hm8⟩ := hz.nat
   obtain ⟨n, hn, hn8⟩ := (mulZ_in (b := row[i]) hb).nat
   rw [hm, hn]
   unfold xorZ
   exact xor_u8 m n hm8 hn8
  rw [ex]
  have es : (addTo tr row by_ i).set i (xorZ tr[i] (mulZ by_ row[i])) = addTo tr row by_ (i + 1) := by
   have h1 : (addR tr row by_)[i]? = some (xorZ tr[i] (mulZ by_ row[i])) := by
    unfold addR; rw [List.getElem?_zipWith, List.getElem?_eq_getElem hit, List.getElem?_eq_getElem hir]
   unfold addTo
   rw [List.set_append_right _ _ (by rw [List.length_take]; omega), List.length_take, hal, show i - min i row.length = 0 by omega, List.drop_eq_getElem_cons hit, List.set_cons_zero, List.take_add_one, h1, List.append_assoc]
   rfl
  rw [es, show (i : Int) + 1 = ((i + 1 : Nat) : Int) by omega]
  exact ih (i + 1) k (by omega) (by omega)
theorem add_f (k : Nat) (tr row : List Int) (by_ : Int) (hb : In8 by_) (h0 : by_ ≠ 0) (ht : ∀ y ∈ tr, In8 y) (hr : ∀ y ∈ row, In8 y) (hl : row.length ≤ 140737488355328) (hlen : tr.length = row.length) (hk : row.length + 10 ≤ k) : field_add.f k tr row by_ = some (addR tr row by_) := by
 unfold field_add.f
 rw [if_neg h0]
 have := add_l0 row by_ hb hr hl tr ht hlen row.length 0 k (by omega) hk
 unfold addTo at this
 rw [List.take_zero, List.nil_append, List.drop_zero] at this
 exact this
theorem addR_length (tr row : List Int) (by_ : Int) (h : tr.length = row.length) : (addR tr row by_).length = tr.length := by unfold addR; rw [List.length_zipWith]; omega
theorem addR_in (tr row : List Int) (by_ : Int) (hb : In8 by_) (ht : ∀ y ∈ tr, In8 y) : ∀ y ∈ addR tr row by_, In8 y := by
 intro y hy
 unfold addR at hy
 obtain ⟨i, hi, rfl⟩ := List.getElem_of_mem hy
 rw [List.length_zipWith] at hi
 rw [List.getElem_zipWith]
 exact xorZ_in (ht _ (List.getElem_mem _)) (mulZ_in hb)
def q16 (row : List Int) (by_ : Int) : List Int := row.map (fun y => mulZ y by_)
def q0n (row : List Int) (by_ : Int) (i : Nat) : List Int := (q16 row by_).take i ++ row.drop i
theorem scaleTo_zero (row : List Int) (by_ : Int) : q0n row by_ 0 = row := by unfold q0n; rw [List.take_zero, List.nil_append, List.drop_zero]
theorem scaleTo_all (row : List Int) (by_ : Int) : q0n row by_ row.length = q16 row by_ := by unfold q0n; rw [List.take_of_length_le (by unfold q16; rw [List.length_map]; omega), List.drop_length, List.append_nil]
theorem q26 (row : List Int) (by_ : Int) (i : Nat) (hi : i ≤ row.length) : (q0n row by_ i).length = row.length := by unfold q0n q16; rw [List.length_append, List.length_take, List.length_drop, List.length_map]; omega
theorem scaleTo_get (row : List Int) (by_ : Int) (i : Nat) (hi : i < row.length) : (q0n row by_ i)[i]? = some row[i] := by
 unfold q0n q16
 rw [List.getElem?_append_right (by rw [List.length_take, List.length_map]; omega), List.length_take, List.length_map, List.getElem?_drop, show i + (i - min i row.length) = i by omega, List.getElem?_eq_getElem hi]
theorem scaleTo_set (row : List Int) (by_ : Int) (i : Nat) (hi : i < row.length) : (q0n row by_ i).set i (mulZ row[i] by_) = q0n row by_ (i + 1) := by
 have h1 : (q16 row by_)[i]? = some (mulZ row[i] by_) := by unfold q16; rw [List.getElem?_map, List.getElem?_eq_getElem hi]; rfl
 have hal : (q16 row by_).length = row.length := by unfold q16; rw [List.length_map]
 unfold q0n
 rw [List.set_append_right _ _ (by rw [List.length_take]; omega), List.length_take, hal, show i - min i row.length = 0 by omega, List.drop_eq_getElem_cons hi, List.set_cons_zero, List.take_add_one, h1, List.append_assoc]
 rfl
structure Sh (n m : Nat) (l : List (List Int)) : Prop where
 len : l.length = n
 row : ∀ r ∈ l, r.length = m
 el : ∀ r ∈ l, ∀ y ∈ r, In8 y
theorem Sh.set {n m : Nat} {l : List (List Int)} (h : Sh n m l) (i : Nat) {r : List Int} (h1 : r.length = m) (h2 : ∀ y ∈ r, In8 y) : Sh n m (l.set i r) :=
 ⟨by rw [List.length_set]; exact h.len, fun q hq => (List.mem_or_eq_of_mem_set hq).elim (h.row q) (fun e => e ▸ h1), fun q hq => (List.mem_or_eq_of_mem_set hq).elim (h.el q) (fun e => e ▸ h2)⟩
theorem scaleR_in (row : List Int) (by_ : Int) (h : ∀ y ∈ row, In8 y) : ∀ y ∈ q16 row by_, In8 y := by
 intro y hy
 obtain ⟨z, hz, rfl⟩ := List.mem_map.1 hy
 exact mulZ_in (h z hz)
theorem q1g (row : List Int) (by_ : Int) : (q16 row by_).length = row.length := List.length_map _
end Go.Proofs.Ytdhajlkiiphlfaa.Solve
namespace Go.Proofs.Ytdhajlkiiphlfaa.Solve
open Go.RowKit Go.Proofs.YtdhajlkiiphlfaaW.PrintWords
structure Two (w0 w : World) (okA okX : Nat → Prop) (ga ca : Nat) (ha : List Value) (a : List (List Int)) (gx cx : Nat) (hx : List Value) (x : List (List Int)) : Prop where
 A : Mx w w0.heap.size okA ga ca ha a
 X : Mx w w0.heap.size okX gx cx hx x
 B : Below w0.heap.size w0 w
 D : ∀ k, okA k → ¬ okX k
namespace Two
variable {w0 w w' : World} {okA okX : Nat → Prop} {ga ca : Nat} {ha : List Value} {a : List (List Int)} {gx cx : Nat} {hx : List Value} {x : List (List Int)}
theorem symm (h : Two w0 w okA okX ga ca ha a gx cx hx x) : Two w0 w okX okA gx cx hx x ga ca ha a := ⟨h.X, h.A, h.B, fun k h1 h2 => h.D k h2 h1⟩
theorem below (h : Two w0 w okA okX ga ca ha a gx cx hx x) (hb : Below w.heap.size w w') : Two w0 w' okA okX ga ca ha a gx cx hx x := ⟨h.A.below hb, h.X.below hb, q04 h.B hb, h.D⟩
theorem drew (h : Two w0 w okA okX ga ca ha a gx cx hx x) : Two w0 w.drew okA okX ga ca ha a gx cx hx x := h.below (q06 (Below.refl _ _))
theorem drewN (h : Two w0 w okA okX ga ca ha a gx cx hx x) (n : Nat) : Two w0 (w.drewN n) okA okX ga ca ha a gx cx hx x := h.below (q00 (Below.refl _ _) n)
theorem setA (h : Two w0 w okA okX ga ca ha a gx cx hx x) {i : Nat} {hd : Value} {r' : List Int} (hi : ha[i]? = some hd) (hk : Kept w w' (fun k => some k = hd.ownBlock)) (hb : Below w0.heap.size w0 w') (hR : Kd.R (Kd.int .u8) 5 w' w0.heap.size (fun _ => True) hd r') : Two w0 w' okA okX ga ca ha (a.set i r') gx cx hx x := by
 refine ⟨h.A.set hi hk hR, h.X.kept hk (fun k hx2 he => ?_), hb, h.D⟩
 have hlt : i < a.length := by rw [← h.A.len]; exact (List.getElem?_eq_some_iff.1 hi).1
 exact h.D k ((h.A.row i hd _ hi (List.getElem?_eq_getElem hlt)).1 k he.symm).1 hx2
theorem headA (h : Two w0 w okA okX ga ca ha a gx cx hx x) (i : Nat) (hi : i < a.length) : ∃ A c, ha[i]? = some (.slice A a[i].length c) ∧ a[i].length ≤ c ∧ w.cell? ⟨ga, i, none⟩ = some (.slice A a[i].length c) ∧ w.frozen? ⟨ga, i, none⟩ = false ∧ Kd.R (Kd.int .u8) 5 w w0.heap.size (fun k => okA k ∧ k ≠ ga) (.slice A a[i].length c) a[i] := by
 obtain ⟨hd, h1, h2, h3, h4⟩ := h.A.get i hi
 obtain ⟨A, c, rfl⟩ := Kd.R_slice h4
 exact ⟨A, c, h1, (Kd.R_reads' h4).2.1, h2, h3, h4⟩
theorem cellA (h : Two w0 w okA okX ga ca ha a gx cx hx x) (i : Nat) (hi : i < a.length) (j : Nat) (hj : j < a[i].length) : ∃ g c, ha[i]? = some (.slice (some ⟨g, 0, none⟩) a[i].length c) ∧ a[i].length ≤ c ∧ w.cell? ⟨ga, i, none⟩ = some (.slice (some ⟨g, 0, none⟩) a[i].length c) ∧
    w.cell? ⟨g, j, none⟩ = some (.int .u8 a[i][j]) ∧ w.frozen? ⟨g, j, none⟩ = false ∧ ∀ v, Two w0 (w.setCell ⟨g, j, none⟩ (.int .u8 v)) okA okX ga ca ha (a.set i (a[i].set j v)) gx cx hx x := by
 obtain ⟨A, c, h1, h2, h3, h4, h5⟩ := h.headA i hi
 obtain ⟨g, cap, e, gb, gl, _⟩ := Kd.R_form h5 (by omega)
 injection e with e1 _ e2
 subst e1; subst e2
 obtain ⟨hc, hf⟩ := Kd.R_celln 0 h5 (j : Int) (by omega) (by omega)
 rw [Int.toNat_natCast] at hc hf
 have ev : rdOf (0 : Int) a[i] (j : Int) = a[i][j] := by unfold rdOf; rw [Int.toNat_natCast, List.getD_eq_getElem?_getD, List.getElem?_eq_getElem hj]; rfl
 rw [ev] at hc
 refine ⟨g, c, h1, h2, h3, hc, hf, fun v => ?_⟩
 have hp := Kd.R_putn h5 (j : Int) v
 rw [Int.toNat_natCast] at hp
 exact h.setA h1 (Kept.setCell (p := ⟨g, j, none⟩) (Kept.refl w (fun k => some k = (Value.slice (some ⟨g, 0, none⟩) a[i].length c).ownBlock)) (.inl rfl) _) (h.B.setCell gb _) (Kd.R_mono hp (fun _ _ => trivial))
theorem headA' (h : Two w0 w okA okX ga ca ha a gx cx hx x) {i : Nat} {r : List Int} (hr : a[i]? = some r) : ∃ A c, ha[i]? = some (.slice A r.length c) ∧ r.length ≤ c ∧ w.cell? ⟨ga, i, none⟩ = some (.slice A r.length c) ∧ w.frozen? ⟨ga, i, none⟩ = false ∧ Kd.R (Kd.int .u8) 5 w w0.heap.size (fun k => okA k ∧ k ≠ ga) (.slice A r.length c) r := by
 obtain ⟨hi, rfl⟩ := List.getElem?_eq_some_iff.1 hr
 exact h.headA i hi
theorem cellA' (h : Two w0 w okA okX ga ca ha a gx cx hx x) {i j : Nat} {r : List Int} {y : Int} (hr : a[i]? = some r) (hy : r[j]? = some y) : ∃ g c, ha[i]? = some (.slice (some ⟨g, 0, none⟩) r.length c) ∧ r.length ≤ c ∧ w.cell? ⟨ga, i, none⟩ = some (.slice (some ⟨g, 0, none⟩) r.length c) ∧
    w.cell? ⟨g, j, none⟩ = some (.int .u8 y) ∧ w.frozen? ⟨g, j, none⟩ = false ∧ ∀ v, Two w0 (w.setCell ⟨g, j, none⟩ (.int .u8 v)) okA okX ga ca ha (a.set i (r.set j v)) gx cx hx x := by
 obtain ⟨hi, rfl⟩ := List.getElem?_eq_some_iff.1 hr
 obtain ⟨hj, rfl⟩ := List.getElem?_eq_some_iff.1 hy
 exact h.cellA i hi j hj
end Two
end Go.Proofs.Ytdhajlkiiphlfaa.Solve
namespace Go.Proofs.Ytdhajlkiiphlfaa.Solve
open Go.RowKit Go.Proofs.Ytdhajlkiiphlfaa.QB Go.Proofs.YtdhajlkiiphlfaaW.PrintWords Go.Proofs.YtdhajlkiiphlfaaW.PrintLast Go.Proofs.YtdhajlkiiphlfaaW.PrintMore
theorem wr1 {i n : Nat} (h : i < n) (hn : n ≤ 140737488355328) : wrap64 ((i : Int) + 1) = ((i + 1 : Nat) : Int) := by unfold wrap64; omega
theorem set_same {α : Type} {l : List α} {i : Nat} {r : α} (h : l[i]? = some r) : l.set i r = l := by obtain ⟨hi, rfl⟩ := List.getElem?_eq_some_iff.1 h; exact List.set_getElem_self hi
theorem Two.addA {w0 w : World} {okA okX : Nat → Prop} {ga ca : Nat} {ha : List Value} {a : List (List Int)} {gx cx : Nat} {hx : List Value} {x : List (List Int)} (h : Two w0 w okA okX ga ca ha a gx cx hx x) {k c : Nat} (hkc : k ≠ c) {r1 rc r' : List Int} (h1 : a[k]? = some r1) (h2 : a[c]? = some rc) {A1 A2 : Option Addr} {c1 c2 : Nat}
    (e1 : ha[k]? = some (.slice A1 r1.length c1)) (e2 : ha[c]? = some (.slice A2 rc.length c2)) (hc2 : rc.length ≤ c2) {K : Nat} {by_ : Int} (hf : field_add.f K r1 rc by_ = some r') :
    Calls Try.prog 56 #[.slice A1 r1.length c1, .slice A2 rc.length c2, .int .u8 by_] w fun e w' => e = .returned (.tuple #[]) ∧ Two w0 w' okA okX ga ca ha (a.set k r') gx cx hx x := by
 have hR1 := Kd.R_tight rfl (h.A.row k _ _ e1 h1)
 have hR2 := Kd.R_tight rfl (h.A.row c _ _ e2 h2)
 refine (field_add.calls K (fun j => some j = (Value.slice A1 r1.length c1).ownBlock) _ r1 A2 c2 rc by_ r' w0 w h.B hR1 (Kd.C_kept_own hR2 (fun j hj hj2 => hkc (h.A.apart k c _ _ j e1 e2 hj2.symm hj.symm))) hc2 hf).mono ?_
 rintro e w' ⟨rfl, hr, hb, hk⟩
 exact ⟨rfl, h.setA e1 hk hb (Kd.R_mono hr (fun _ _ => trivial))⟩
def q21 (c k : Nat) (q : List (List Int) × List (List Int)) : List (List Int) × List (List Int) :=
 if k ≠ c ∧ rd (rd_L2 q.1 k) c ≠ 0 then (q.1.set k (addR (rd_L2 q.1 k) (rd_L2 q.1 c) (rd (rd_L2 q.1 k) c)), q.2.set k (addR (rd_L2 q.2 k) (rd_L2 q.2 c) (rd (rd_L2 q.1 k) c))) else q
def elim (c : Nat) : Nat → List (List Int) × List (List Int) → List (List Int) × List (List Int)
 | 0, q => q
 | k + 1, q => q21 c k (elim c k q)
theorem rowZ {l : List (List Int)} {j : Nat} {r : List Int} (h : l[j]? = some r) : rd_L2 l (j : Int) = r := by unfold rd_L2; rw [Int.toNat_natCast, List.getD_eq_getElem?_getD, h]; rfl
theorem elZ {l : List Int} {j : Nat} {y : Int} (h : l[j]? = some y) : rd l (j : Int) = y := by unfold rd; rw [Int.toNat_natCast, List.getD_eq_getElem?_getD, h]; rfl
theorem Sh.at_ {n m : Nat} {l : List (List Int)} (h : Sh n m l) {i : Nat} (hi : i < n) : ∃ r, l[i]? = some r ∧ r.length = m ∧ ∀ y ∈ r, In8 y :=
 have hg : l[i]? = some (l[i]'(by rw [h.len]; exact hi)) := List.getElem?_eq_getElem _
 ⟨_, hg, h.row _ (List.mem_of_getElem? hg), h.el _ (List.mem_of_getElem? hg)⟩
theorem elimStep_sh {n nx c k : Nat} {q : List (List Int) × List (List Int)} (ha : Sh n n q.1) (hx : Sh n nx q.2) (hc : c < n) (hk : k < n) : Sh n n (q21 c k q).1 ∧ Sh n nx (q21 c k q).2 := by
 obtain ⟨r1, h1, l1, i1⟩ := ha.at_ hk
 obtain ⟨r2, h2, l2, i2⟩ := ha.at_ hc
 obtain ⟨s1, g1, m1, j1⟩ := hx.at_ hk
 obtain ⟨s2, g2, m2, j2⟩ := hx.at_ hc
 unfold q21
 rw [rowZ h1, rowZ h2, rowZ g1, rowZ g2]
 obtain ⟨y, hy⟩ : ∃ y, r1[c]? = some y := ⟨_, List.getElem?_eq_getElem (by omega)⟩
 rw [elZ hy]
 have hy8 := i1 y (List.mem_of_getElem? hy)
 split
 · exact ⟨ha.set k (by rw [addR_length _ _ _ (by omega), l1]) (addR_in _ _ _ hy8 i1), hx.set k (by rw [addR_length _ _ _ (by omega), m1]) (addR_in _ _ _ hy8 j1)⟩
 · exact ⟨ha, hx⟩
theorem elim_sh {n nx c : Nat} {q : List (List Int) × List (List Int)} (ha : Sh n n q.1) (hx : Sh n nx q.2) (hc : c < n) : ∀ k, k ≤ n → Sh n n (elim c k q).1 ∧ Sh n nx (elim c k q).2
 | 0, _ => ⟨ha, hx⟩
 | k + 1, hk => by
  have ih := elim_sh ha hx hc k (by omega)
  exact elimStep_sh ih.1 ih.2 hc (by omega)
def q0p (n c : Nat) (a x : List (List Int)) : List (List Int) × List (List Int) :=
 let b := invZ (rd (rd_L2 a c) c)
 elim c n (a.set c (q16 (rd_L2 a c) b), x.set c (q16 (rd_L2 x c) b))
set_option maxHeartbeats 800000 in
set_option maxRecDepth 100000 in
theorem clears_calls (w0 w : World) (okA okX : Nat → Prop) (ga ca : Nat) (ha : List Value) (a : List (List Int)) (gx cx : Nat) (hx : List Value) (x : List (List Int)) (n nx c : Nat) (hT : Two w0 w okA okX ga ca ha a gx cx hx x) (hc : c < n) (hn : n ≤ 256) (hnx : nx ≤ 140737488355328) (sa : Sh n n a) (sx : Sh n nx x) :
    Calls Try.prog 50 #[.slice (some ⟨ga, 0, none⟩) n ca, .slice (some ⟨gx, 0, none⟩) n cx, .int .i64 (c : Int)] w fun e w' => e = .returned (.tuple #[]) ∧ Two w0 w' okA okX ga ca ha (q0p n c a x).1 gx cx hx (q0p n c a x).2 := by
 obtain ⟨ra, hra⟩ : ∃ r, a[c]? = some r := ⟨_, List.getElem?_eq_getElem (by rw [sa.len]; exact hc)⟩
 obtain ⟨rx, hrx⟩ : ∃ r, x[c]? = some r := ⟨_, List.getElem?_eq_getElem (by rw [sx.len]; exact hc)⟩
 have hral : ra.length = n := sa.row ra (List.mem_of_getElem? hra)
 have hrxl : rx.length = nx := sx.row rx (List.mem_of_getElem? hrx)
 obtain ⟨p, hp⟩ : ∃ p, ra[c]? = some p := ⟨_, List.getElem?_eq_getElem (by rw [hral]; exact hc)⟩
 have HEA := sqM (sa.el ra (List.mem_of_getElem? hra))
 have HEX := sqM (sx.el rx (List.mem_of_getElem? hrx))
 have hpin : In8 p := HEA.out p (List.mem_of_getElem? hp)
 obtain ⟨by_, hby⟩ : ∃ b, b = invZ p := ⟨_, rfl⟩
 have HBY := sqM (show In8 by_ from hby ▸ invZ_in hpin)
 obtain ⟨er, her⟩ : ∃ er : Int, er = if p.toNat = 0 then 41 else 0 := ⟨_, rfl⟩
 have HI := sqM (show field_Inv.f 1000 p = some (by_, er) from by rw [hby, her]; exact Inv_z hpin (by omega))
 clear her
 have HCL := sqM (show c < a.length ∧ c < x.length from ⟨by rw [sa.len]; exact hc, by rw [sx.len]; exact hc⟩)
 have HSA := sqM sa
 have HSX := sqM sx
 have HN := sqM (show n ≤ 256 ∧ nx ≤ 140737488355328 from ⟨hn, hnx⟩)
 have HT := sqM hT
 obtain ⟨g0, c0, _, hl0, hh0, he0, _, _⟩ := hT.cellA' hra hp
 have HRL := sqM hral
 have HXL := sqM hrxl
 have hcn0 : (0 : Int) ≤ (c : Int) := by omega
 have hcn1 : (c : Int) < (n : Int) := by omega
 have hcn2 : (c : Int) < (ra.length : Int) := by omega
 have HBE := sqM hby
 have HRA := sqM hra
 have HRX := sqM hrx
 clear hT sa sx hn hnx hpin hl0 hc hby hral hrxl hra hrx
 go_enter Try.func50, Try.ntmps50
 go_wp2_with (fail)
 refine (field_Inv.calls 1000 p by_ er _ HI.out).mono ?_
 rintro e w' ⟨rfl, ⟨nd, rfl⟩⟩
 replace HT := sqM (HT.out.drewN nd)
 have hh1 : (w.drewN nd).cell? ⟨ga, c, none⟩ = _ := hh0
 generalize w.drewN nd = w1 at HT hh1 ⊢
 go_wp2
 go_loopw [28] (fun vi wr => ∃ i : Nat, i ≤ ra.length ∧ vi = .int .i64 (i : Int) ∧ Aside0 (Two w0 wr okA okX ga ca ha (a.set c (q0n ra by_ i)) gx cx hx x)) (fun vi _ => ra.length - (intOf vi).toNat)
 case atStart => exact ⟨0, Nat.zero_le _, rfl, ⟨by rw [scaleTo_zero, set_same HRA.out]; exact HT.out⟩⟩
 case round =>
  obtain ⟨i, hi, rfl, HT⟩ := hrel
  by_cases hlt : i < ra.length
  ·
   have hrow : (a.set c (q0n ra by_ i))[c]? = some (q0n ra by_ i) := List.getElem?_set_self (by have := HCL.out; omega)
   have hyy : (q0n ra by_ i)[i]? = some ra[i] := scaleTo_get ra by_ i hlt
   have hset := scaleTo_set ra by_ i hlt
   have hin : In8 ra[i] := HEA.out _ (List.getElem_mem hlt)
   obtain ⟨y, hy⟩ : ∃ y, y = ra[i] := ⟨_, rfl⟩
   rw [← hy] at hyy hset hin
   have HM := sqM (Mul_z (k := 1000) hin HBY.out (by omega))
   have HSET := sqM hset
   have HLT := sqM hlt
   clear hset hin hy hi
   try go_wp2
   obtain ⟨g, cp, h1, h2, hcellh, hcelle, hfr, hput⟩ := (HT.out.drew).cellA' hrow hyy
   rw [q26 ra by_ i (by have := HLT.out; omega)] at hcellh h1 h2
   have hput2 := hput (mulZ y by_)
   rw [HSET.out, List.set_set] at hput2
   clear hput
   have HP := sqM hput2
   clear hput2
   have hq : (i : Int) < ((ra.length : Int)) := by have := HLT.out; omega
   have hq0 : (0 : Int) ≤ (i : Int) := by omega
   refine q1x (n := 16) (S := fun w' => w'.cell? ⟨ga, c, none⟩ = some (.slice (some ⟨g, 0, none⟩) ra.length cp) ∧ w'.cell? ⟨g, i, none⟩ = some (.int .u8 y)) (ds := [15]) #[fF,fF,fF,fF,fF,fF,fF,fF,fF,fF,fF,fF,fF,fF,fF,fF] (by kernel_rfl) rfl rfl ⟨hcellh, hcelle⟩ (fun hHeld => ?_)
   generalize wr.drew = w11 at hcellh hcelle hfr HP hHeld ⊢
   refine pU 0 31 #[tT,fF,fF,fF,fF,fF,fF,fF,fF,fF,fF,fF,fF,fF,fF,fF] ?_
   refine pU 1 32 #[tT,tT,fF,fF,fF,fF,fF,fF,fF,fF,fF,fF,fF,fF,fF,fF] ?_
   refine pU 2 33 #[tT,tT,tT,fF,fF,fF,fF,fF,fF,fF,fF,fF,fF,fF,fF,fF] ?_
   refine pU 4 35 #[tT,tT,tT,fF,tT,fF,fF,fF,fF,fF,fF,fF,fF,fF,fF,fF] ?_
   refine pU 5 36 #[tT,tT,tT,fF,tT,tT,fF,fF,fF,fF,fF,fF,fF,fF,fF,fF] ?_
   refine pU 6 37 #[tT,tT,tT,fF,tT,tT,tT,fF,fF,fF,fF,fF,fF,fF,fF,fF] ?_
   refine pU 7 38 #[tT,tT,tT,fF,tT,tT,tT,tT,fF,fF,fF,fF,fF,fF,fF,fF] ?_
   refine pU 9 40 #[tT,tT,tT,fF,tT,tT,tT,tT,fF,tT,fF,fF,fF,fF,fF,fF] ?_
   refine pU 12 43 #[tT,tT,tT,fF,tT,tT,tT,tT,fF,tT,fF,fF,tT,fF,fF,fF] ?_
   refine tK 3 34 #[tT,tT,tT,tT,tT,tT,tT,tT,fF,tT,fF,fF,tT,fF,fF,fF] hHeld ?_ (hy := by
    intro w' s0
    obtain ⟨s1, s2⟩ := s0
    go_simp
    with_reducible rfl)
   refine tK 8 39 #[tT,tT,tT,tT,tT,tT,tT,tT,tT,tT,fF,fF,tT,fF,fF,fF] hHeld ?_ (hy := by
    intro w' s0
    obtain ⟨s1, s2⟩ := s0
    go_simp
    with_reducible rfl)
   refine pU 10 41 #[tT,tT,tT,tT,tT,tT,tT,tT,tT,tT,tT,fF,tT,fF,fF,fF] ?_
   refine tK 11 42 #[tT,tT,tT,tT,tT,tT,tT,tT,tT,tT,tT,tT,tT,fF,fF,fF] hHeld ?_ (hy := by
    intro w' s0
    obtain ⟨s1, s2⟩ := s0
    go_simp
    with_reducible rfl)
   refine one_ (i := 13) (N := some 44) #[tT,tT,tT,tT,tT,tT,tT,tT,tT,tT,tT,tT,tT,tT,fF,fF] rfl rfl (by kernel_rfl) (by decide) (fun K hK => ?_)
   refine goes_ Try.func19 (by kernel_rfl) rfl #[.int .u8 y, .int .u8 by_] (by rfl) rfl rfl (by (try simp only [List.map_toArray, List.map_cons, List.map_nil]); (rfl)) ?_
   with_reducible refine (field_Mul.calls 1000 y by_ _ _ HM.out).mono ?_
   rintro e w' ⟨rfl, ⟨nd, rfl⟩⟩
   refine ⟨_, rfl, ?_⟩
   refine hK.out _ _ hHeld (fun hHeld => ?_)
   clear hK K
   refine norm_ (a' := ?_) ?_ ?_
   rotate_left
   · show Act.put _ (some 44) _ = _
     simp only [Act.put, sqA, sqB, sqC, i64_w, i32_w]
     rfl
   refine pU 14 45 #[tT,tT,tT,tT,tT,tT,tT,tT,tT,tT,tT,tT,tT,tT,tT,fF] ?_
   refine last_ (i := 15) (N := none) #[tT,tT,tT,tT,tT,tT,tT,tT,tT,tT,tT,tT,tT,tT,tT,tT] rfl rfl (by kernel_rfl) (by decide) (fun K hK => ?_)
   refine skip_ (w1 := ?_) (by rfl) rfl ?_ ?_
   rotate_left
   · go_simp
     rfl
   refine hK.out _ _ ?_
   clear hK K
   refine done_ (by kernel_rfl) ?_
   try go_wp2
   have hw1 := wr1 HLT.out (by have := HRL.out; have := HN.out; omega)
   go_roundw
   case rel => exact ⟨i + 1, HLT.out, by rw [hw1], ⟨HP.out.drewN nd⟩⟩
   case measure => exact meas hw1 HLT.out
  ·
   obtain rfl : i = ra.length := by omega
   rw [scaleTo_all] at HT
   obtain ⟨A9, c9, _, hl9, hh9, _, _⟩ := HT.out.symm.headA' HRX.out
   go_wp2
   go_loopw [52] (fun vi wr => ∃ i : Nat, i ≤ rx.length ∧ vi = .int .i64 (i : Int) ∧ Aside0 (Two w0 wr okA okX ga ca ha (a.set c (q16 ra by_)) gx cx hx (x.set c (q0n rx by_ i)))) (fun vi _ => rx.length - (intOf vi).toNat)
   case atStart => exact ⟨0, Nat.zero_le _, rfl, ⟨by rw [scaleTo_zero, set_same HRX.out]; exact HT.out⟩⟩
   case round =>
    obtain ⟨i, hi, rfl, HT⟩ := hrel
    by_cases hlt : i < rx.length
    ·
     have hrow : (x.set c (q0n rx by_ i))[c]? = some (q0n rx by_ i) := List.getElem?_set_self (by have := HCL.out; omega)
     have hyy : (q0n rx by_ i)[i]? = some rx[i] := scaleTo_get rx by_ i hlt
     have hset := scaleTo_set rx by_ i hlt
     have hin : In8 rx[i] := HEX.out _ (List.getElem_mem hlt)
     obtain ⟨y, hy⟩ : ∃ y, y = rx[i] := ⟨_, rfl⟩
     rw [← hy] at hyy hset hin
     have HM := sqM (Mul_z (k := 1000) hin HBY.out (by omega))
     have HSET := sqM hset
     have HLT := sqM hlt
     clear hset hin hy hi
     try go_wp2
     obtain ⟨g, cp, h1, h2, hcellh, hcelle, hfr, hput⟩ := (HT.out.drew.symm).cellA' hrow hyy
     rw [q26 rx by_ i (by have := HLT.out; omega)] at hcellh h1 h2
     have hput2 := hput (mulZ y by_)
     rw [HSET.out, List.set_set] at hput2
     clear hput
     have HP := sqM hput2.symm
     clear hput2
     have hq : (i : Int) < ((rx.length : Int)) := by have := HLT.out; omega
     have hq0 : (0 : Int) ≤ (i : Int) := by omega
     refine q1x (n := 16) (S := fun w' => w'.cell? ⟨gx, c, none⟩ = some (.slice (some ⟨g, 0, none⟩) rx.length cp) ∧ w'.cell? ⟨g, i, none⟩ = some (.int .u8 y)) (ds := [15]) #[fF,fF,fF,fF,fF,fF,fF,fF,fF,fF,fF,fF,fF,fF,fF,fF] (by kernel_rfl) rfl rfl ⟨hcellh, hcelle⟩ (fun hHeld => ?_)
     generalize wr.drew = w11 at hcellh hcelle hfr HP hHeld ⊢
     refine pU 0 55 #[tT,fF,fF,fF,fF,fF,fF,fF,fF,fF,fF,fF,fF,fF,fF,fF] ?_
     refine pU 1 56 #[tT,tT,fF,fF,fF,fF,fF,fF,fF,fF,fF,fF,fF,fF,fF,fF] ?_
     refine pU 2 57 #[tT,tT,tT,fF,fF,fF,fF,fF,fF,fF,fF,fF,fF,fF,fF,fF] ?_
     refine pU 4 59 #[tT,tT,tT,fF,tT,fF,fF,fF,fF,fF,fF,fF,fF,fF,fF,fF] ?_
     refine pU 5 60 #[tT,tT,tT,fF,tT,tT,fF,fF,fF,fF,fF,fF,fF,fF,fF,fF] ?_
     refine pU 6 61 #[tT,tT,tT,fF,tT,tT,tT,fF,fF,fF,fF,fF,fF,fF,fF,fF] ?_
     refine pU 7 62 #[tT,tT,tT,fF,tT,tT,tT,tT,fF,fF,fF,fF,fF,fF,fF,fF] ?_
     refine pU 9 64 #[tT,tT,tT,fF,tT,tT,tT,tT,fF,tT,fF,fF,fF,fF,fF,fF] ?_
     refine pU 12 67 #[tT,tT,tT,fF,tT,tT,tT,tT,fF,tT,fF,fF,tT,fF,fF,fF] ?_
     refine tK 3 58 #[tT,tT,tT,tT,tT,tT,tT,tT,fF,tT,fF,fF,tT,fF,fF,fF] hHeld ?_ (hy := by
      intro w' s0
      obtain ⟨s1, s2⟩ := s0
      go_simp
      with_reducible rfl)
     refine tK 8 63 #[tT,tT,tT,tT,tT,tT,tT,tT,tT,tT,fF,fF,tT,fF,fF,fF] hHeld ?_ (hy := by
      intro w' s0
      obtain ⟨s1, s2⟩ := s0
      go_simp
      with_reducible rfl)
     refine pU 10 65 #[tT,tT,tT,tT,tT,tT,tT,tT,tT,tT,tT,fF,tT,fF,fF,fF] ?_
     refine tK 11 66 #[tT,tT,tT,tT,tT,tT,tT,tT,tT,tT,tT,tT,tT,fF,fF,fF] hHeld ?_ (hy := by
      intro w' s0
      obtain ⟨s1, s2⟩ := s0
      go_simp
      with_reducible rfl)
     refine one_ (i := 13) (N := some 68) #[tT,tT,tT,tT,tT,tT,tT,tT,tT,tT,tT,tT,tT,tT,fF,fF] rfl rfl (by kernel_rfl) (by decide) (fun K hK => ?_)
     refine goes_ Try.func19 (by kernel_rfl) rfl #[.int .u8 y, .int .u8 by_] (by rfl) rfl rfl (by (try simp only [List.map_toArray, List.map_cons, List.map_nil]); (rfl)) ?_
     with_reducible refine (field_Mul.calls 1000 y by_ _ _ HM.out).mono ?_
     rintro e w' ⟨rfl, ⟨nd, rfl⟩⟩
     refine ⟨_, rfl, ?_⟩
     refine hK.out _ _ hHeld (fun hHeld => ?_)
     clear hK K
     refine norm_ (a' := ?_) ?_ ?_
     rotate_left
     · show Act.put _ (some 68) _ = _
       simp only [Act.put, sqA, sqB, sqC, i64_w, i32_w]
       rfl
     refine pU 14 69 #[tT,tT,tT,tT,tT,tT,tT,tT,tT,tT,tT,tT,tT,tT,tT,fF] ?_
     refine last_ (i := 15) (N := none) #[tT,tT,tT,tT,tT,tT,tT,tT,tT,tT,tT,tT,tT,tT,tT,tT] rfl rfl (by kernel_rfl) (by decide) (fun K hK => ?_)
     refine skip_ (w1 := ?_) (by rfl) rfl ?_ ?_
     rotate_left
     · go_simp
       rfl
     refine hK.out _ _ ?_
     clear hK K
     refine done_ (by kernel_rfl) ?_
     try go_wp2
     have hw1 := wr1 HLT.out (by have := HXL.out; have := HN.out; omega)
     go_roundw
     case rel => exact ⟨i + 1, HLT.out, by rw [hw1], ⟨HP.out.drewN nd⟩⟩
     case measure => exact meas hw1 HLT.out
    ·
     obtain rfl : i = rx.length := by omega
     rw [scaleTo_all] at HT
     go_wp2
     have HCN := sqM (show c < n by have := HCL.out; have := HSA.out.len; omega)
     obtain ⟨q0, hq0⟩ : ∃ q0, q0 = (a.set c (q16 ra by_), x.set c (q16 rx by_)) := ⟨_, rfl⟩
     have SQ := sqM (show Sh n n q0.1 ∧ Sh n nx q0.2 by
      rw [hq0]
      exact ⟨HSA.out.set c (by rw [q1g]; exact HRL.out) (scaleR_in _ _ HEA.out), HSX.out.set c (by rw [q1g]; exact HXL.out) (scaleR_in _ _ HEX.out)⟩)
     have HT2 := sqM (show Two w0 wr okA okX ga ca ha q0.1 gx cx hx q0.2 by rw [hq0]; exact HT.out)
     have HQ0 := sqM hq0
     clear hq0
     go_loopw [73] (fun vi wr => ∃ k : Nat, k ≤ n ∧ vi = .int .i64 (k : Int) ∧ Aside0 (Two w0 wr okA okX ga ca ha (elim c k q0).1 gx cx hx (elim c k q0).2)) (fun vi _ => n - (intOf vi).toNat)
     case atStart => exact ⟨0, Nat.zero_le _, rfl, HT2⟩
     case round =>
      obtain ⟨k, hk, rfl, HT3⟩ := hrel
      by_cases hlt : k < n
      ·
       obtain ⟨hsa, hsx⟩ := elim_sh SQ.out.1 SQ.out.2 HCN.out k hk
       obtain ⟨r1, f1, l1, i1⟩ := hsa.at_ hlt
       obtain ⟨r2, f2, l2, i2⟩ := hsa.at_ HCN.out
       obtain ⟨s1, g1, m1, j1⟩ := hsx.at_ hlt
       obtain ⟨s2, g2, m2, j2⟩ := hsx.at_ HCN.out
       obtain ⟨y, hy⟩ : ∃ y, r1[c]? = some y := ⟨_, List.getElem?_eq_getElem (by have := HCN.out; omega)⟩
       have hy8 := i1 y (List.mem_of_getElem? hy)
       have hstep : elim c (k + 1) q0 = if k ≠ c ∧ y ≠ 0 then ((elim c k q0).1.set k (addR r1 r2 y), (elim c k q0).2.set k (addR s1 s2 y)) else elim c k q0 := by
        show q21 c k (elim c k q0) = _
        unfold q21
        rw [rowZ f1, rowZ f2, rowZ g1, rowZ g2, elZ hy]
       generalize elim c k q0 = q at HT3 f1 f2 g1 g2 hstep hsa hsx
       clear hsa hsx
       have hadd1 : y ≠ 0 → field_add.f 1000000000000000 r1 r2 y = some (addR r1 r2 y) := fun h0 => add_f _ r1 r2 y hy8 h0 i1 i2 (by have := HN.out; omega) (by omega) (by have := HN.out; omega)
       have hadd2 : y ≠ 0 → field_add.f 1000000000000000 s1 s2 y = some (addR s1 s2 y) := fun h0 => add_f _ s1 s2 y hy8 h0 j1 j2 (by have := HN.out; omega) (by omega) (by have := HN.out; omega)
       have HA1 := sqM hadd1
       have HA2 := sqM hadd2
       have HST := sqM hstep
       have HF1 := sqM f1
       have HF2 := sqM f2
       have HG1 := sqM g1
       have HG2 := sqM g2
       have HLT := sqM hlt
       have hq2 : (k : Int) < (n : Int) := by omega
       have hq1 : (0 : Int) ≤ (k : Int) := by omega
       have hq3 : (c : Int) < (r1.length : Int) := by have := HCN.out; omega
       obtain ⟨b1, d1, e1, _, ch1, ce1, _, _⟩ := HT3.out.cellA' f1 hy
       have hw1 := sqM (wr1 hlt (by have := HN.out; omega))
       clear hadd1 hadd2 hstep f1 f2 g1 g2 l1 l2 m1 m2 i1 i2 j1 j2 hy8 hy hlt hk
       by_cases hkc : k = c
       · subst hkc
         rw [if_neg (by simp)] at HST
         go_wp2
         go_roundw
         case rel => exact ⟨k + 1, HLT.out, by rw [hw1.out], ⟨by rw [HST.out]; exact HT3.out⟩⟩
         case measure => exact meas hw1.out HLT.out
       ·
        by_cases hy0 : y = 0
        · subst hy0
          rw [if_neg (by simp)] at HST
          have hb1 : ((k : Int) != (c : Int)) = true := bne_iff_ne.mpr (by omega)
          go_wp2
          go_roundw
          case rel => exact ⟨k + 1, HLT.out, by rw [hw1.out], ⟨by rw [HST.out]; exact HT3.out⟩⟩
          case measure => exact meas hw1.out HLT.out
        ·
         rw [if_pos ⟨hkc, hy0⟩] at HST
         have hb1 : ((k : Int) != (c : Int)) = true := bne_iff_ne.mpr (by omega)
         have hb2 : (y != 0) = true := bne_iff_ne.mpr hy0
         have HKC := sqM hkc
         have HY0 := sqM hy0
         clear hkc hy0
         obtain ⟨A1, c1, e1, _, hh1', _, _⟩ := HT3.out.headA' HF1.out
         obtain ⟨A2, c2, e2, hl2, hh2', _, _⟩ := HT3.out.headA' HF2.out
         have hq4 : (c : Int) < (n : Int) := by have := HCN.out; omega
         go_wp2_with (fail)
         refine q1x (n := 10) (S := fun w' => w'.cell? ⟨ga, k, none⟩ = some (.slice A1 r1.length c1) ∧ w'.cell? ⟨ga, c, none⟩ = some (.slice A2 r2.length c2)) (ds := [9]) #[fF,fF,fF,fF,fF,fF,fF,fF,fF,fF] (by kernel_rfl) rfl rfl ⟨hh1', hh2'⟩ (fun hHeld => ?_)
         refine pU 0 90 #[tT,fF,fF,fF,fF,fF,fF,fF,fF,fF] ?_
         refine pU 1 91 #[tT,tT,fF,fF,fF,fF,fF,fF,fF,fF] ?_
         refine pU 2 92 #[tT,tT,tT,fF,fF,fF,fF,fF,fF,fF] ?_
         refine pU 4 94 #[tT,tT,tT,fF,tT,fF,fF,fF,fF,fF] ?_
         refine pU 5 95 #[tT,tT,tT,fF,tT,tT,fF,fF,fF,fF] ?_
         refine pU 6 96 #[tT,tT,tT,fF,tT,tT,tT,fF,fF,fF] ?_
         refine pU 8 98 #[tT,tT,tT,fF,tT,tT,tT,fF,tT,fF] ?_
         refine tK 3 93 #[tT,tT,tT,tT,tT,tT,tT,fF,tT,fF] hHeld ?_ (hy := by
          intro w' s0
          obtain ⟨s1, s2⟩ := s0
          go_simp
          with_reducible rfl)
         refine tK 7 97 #[tT,tT,tT,tT,tT,tT,tT,tT,tT,fF] hHeld ?_ (hy := by
          intro w' s0
          obtain ⟨s1, s2⟩ := s0
          go_simp
          with_reducible rfl)
         refine last_ (i := 9) (N := some 99) #[tT,tT,tT,tT,tT,tT,tT,tT,tT,tT] rfl rfl (by kernel_rfl) (by decide) (fun K hK => ?_)
         refine goes_ Try.func56 (by kernel_rfl) rfl #[.slice A1 r1.length c1, .slice A2 r2.length c2, .int .u8 y] (by rfl) rfl rfl (by (try simp only [List.map_toArray, List.map_cons, List.map_nil]); (rfl)) ?_
         refine ((HT3.out.drew).addA HKC.out HF1.out HF2.out e1 e2 hl2 (HA1.out HY0.out)).mono ?_
         rintro e w2 ⟨rfl, hT2⟩
         refine ⟨_, rfl, ?_⟩
         refine hK.out _ _ ?_
         clear hK K hHeld
         have HT4 := sqM (hT2)
         clear hT2
         refine done_ (by kernel_rfl) ?_
         obtain ⟨A3, c3, e3, _, hh3, _, _⟩ := HT4.out.symm.headA' HG1.out
         obtain ⟨A4, c4, e4, hl4, hh4, _, _⟩ := HT4.out.symm.headA' HG2.out
         clear hh1' hh2' ch1 ce1
         go_wp2_with (fail)
         refine q1x (n := 10) (S := fun w' => w'.cell? ⟨gx, k, none⟩ = some (.slice A3 s1.length c3) ∧ w'.cell? ⟨gx, c, none⟩ = some (.slice A4 s2.length c4)) (ds := [9]) #[fF,fF,fF,fF,fF,fF,fF,fF,fF,fF] (by kernel_rfl) rfl rfl ⟨hh3, hh4⟩ (fun hHeld => ?_)
         refine pU 0 100 #[tT,fF,fF,fF,fF,fF,fF,fF,fF,fF] ?_
         refine pU 1 101 #[tT,tT,fF,fF,fF,fF,fF,fF,fF,fF] ?_
         refine pU 2 102 #[tT,tT,tT,fF,fF,fF,fF,fF,fF,fF] ?_
         refine pU 4 104 #[tT,tT,tT,fF,tT,fF,fF,fF,fF,fF] ?_
         refine pU 5 105 #[tT,tT,tT,fF,tT,tT,fF,fF,fF,fF] ?_
         refine pU 6 106 #[tT,tT,tT,fF,tT,tT,tT,fF,fF,fF] ?_
         refine pU 8 108 #[tT,tT,tT,fF,tT,tT,tT,fF,tT,fF] ?_
         refine tK 3 103 #[tT,tT,tT,tT,tT,tT,tT,fF,tT,fF] hHeld ?_ (hy := by
          intro w' s0
          obtain ⟨s1, s2⟩ := s0
          go_simp
          with_reducible rfl)
         refine tK 7 107 #[tT,tT,tT,tT,tT,tT,tT,tT,tT,fF] hHeld ?_ (hy := by
          intro w' s0
          obtain ⟨s1, s2⟩ := s0
          go_simp
          with_reducible rfl)
         refine last_ (i := 9) (N := some 109) #[tT,tT,tT,tT,tT,tT,tT,tT,tT,tT] rfl rfl (by kernel_rfl) (by decide) (fun K hK => ?_)
         refine goes_ Try.func56 (by kernel_rfl) rfl #[.slice A3 s1.length c3, .slice A4 s2.length c4, .int .u8 y] (by rfl) rfl rfl (by (try simp only [List.map_toArray, List.map_cons, List.map_nil]); (rfl)) ?_
         refine ((HT4.out.symm.drew).addA HKC.out HG1.out HG2.out e3 e4 hl4 (HA2.out HY0.out)).mono ?_
         rintro e w2 ⟨rfl, hT2⟩
         refine ⟨_, rfl, ?_⟩
         refine hK.out _ _ ?_
         clear hK K hHeld
         have HT5 := sqM (hT2.symm)
         clear hT2
         refine done_ (by kernel_rfl) ?_
         go_wp2
         go_roundw
         case rel => exact ⟨k + 1, HLT.out, by rw [hw1.out], ⟨by rw [HST.out]; exact HT5.out⟩⟩
         case measure => exact meas hw1.out HLT.out
      · obtain rfl : k = n := by omega
        have hfin : elim c k q0 = q0p k c a x := by
         unfold q0p
         rw [rowZ HRA.out, rowZ HRX.out, elZ hp, ← HBE.out, HQ0.out]
        have HT4 := sqM (show Two w0 wr okA okX ga ca ha (q0p k c a x).1 gx cx hx (q0p k c a x).2 by rw [← hfin]; exact HT3.out)
        clear hfin
        go_wp2
        (go_end0)
        exact ⟨rfl, HT4.out⟩
end Go.Proofs.Ytdhajlkiiphlfaa.Solve
namespace Go.Proofs.Ytdhajlkiiphlfaa.Solve
open Go.RowKit Go.Proofs.Ytdhajlkiiphlfaa.QB Go.Proofs.YtdhajlkiiphlfaaW.PrintWords
def findP (a : List (List Int)) (c : Nat) : Nat → Nat → Option Nat
 | 0, _ => none
 | d + 1, r => if rd (rd_L2 a r) c = 0 then findP a c d (r + 1) else some r
def swapL (l : List (List Int)) (c r : Nat) : List (List Int) := (l.set c (rd_L2 l r)).set r (rd_L2 l c)
def cols (n : Nat) : Nat → Nat → List (List Int) × List (List Int) → Option (List (List Int))
 | 0, _, q => some q.2
 | d + 1, c, q => match findP q.1 c (n - c) c with
  | none => none
  | some r => cols n d (c + 1) (q0p n c (swapL q.1 c r) (swapL q.2 c r))
theorem Sh.swap {n m : Nat} {l : List (List Int)} (h : Sh n m l) {c r : Nat} (hc : c < n) (hr : r < n) : Sh n m (swapL l c r) := by
 obtain ⟨r1, f1, l1, i1⟩ := h.at_ hc
 obtain ⟨r2, f2, l2, i2⟩ := h.at_ hr
 unfold swapL
 rw [rowZ f1, rowZ f2]
 exact (h.set c l2 i2).set r l1 i1
theorem clearsF_sh {n nx c : Nat} {a x : List (List Int)} (ha : Sh n n a) (hx : Sh n nx x) (hc : c < n) : Sh n n (q0p n c a x).1 ∧ Sh n nx (q0p n c a x).2 := by
 obtain ⟨r1, f1, l1, i1⟩ := ha.at_ hc
 obtain ⟨r2, f2, l2, i2⟩ := hx.at_ hc
 unfold q0p
 rw [rowZ f1, rowZ f2]
 exact elim_sh (q := (a.set c _, x.set c _)) (ha.set c (by rw [q1g, l1]) (scaleR_in _ _ i1)) (hx.set c (by rw [q1g, l2]) (scaleR_in _ _ i2)) hc n (Nat.le_refl _)
theorem Two.swapA {w0 w : World} {okA okX : Nat → Prop} {ga ca : Nat} {ha : List Value} {a : List (List Int)} {gx cx : Nat} {hx : List Value} {x : List (List Int)} (h : Two w0 w okA okX ga ca ha a gx cx hx x) {c r : Nat} {h1 h2 : Value} {r1 r2 : List Int} (hi : ha[c]? = some h1) (hj : ha[r]? = some h2) (mi : a[c]? = some r1) (mj : a[r]? = some r2) :
    Two w0 ((w.setCell ⟨ga, c, none⟩ h2).setCell ⟨ga, r, none⟩ h1) okA okX ga ca ((ha.set c h2).set r h1) (swapL a c r) gx cx hx x := by
 have e : swapL a c r = (a.set c r2).set r r1 := by unfold swapL; rw [rowZ mi, rowZ mj]
 rw [e]
 refine ⟨h.A.swap hi hj mi mj, ?_, (h.B.setCell h.A.base_le _).setCell h.A.base_le _, h.D⟩
 have hk : Kept w ((w.setCell ⟨ga, c, none⟩ h2).setCell ⟨ga, r, none⟩ h1) (fun k => k = ga) := Kept.setCell (S := fun k => k = ga) (p := ⟨ga, r, none⟩) (Kept.setCell (S := fun k => k = ga) (p := ⟨ga, c, none⟩) (Kept.refl w (fun k => k = ga)) (.inl rfl) _) (.inl rfl) _
 exact h.X.kept hk (fun k hk2 e => h.D k (by rw [e]; exact h.A.okg) hk2)
theorem all_l0 (l : List (List Int)) (a : Int) (hl : l.length ≤ 140737488355328) : ∀ (d i k : Nat), i + d = l.length → d < k → field_all.l0 k a l (l.length : Int) (i : Int) = some ((l.drop i).all (fun r => (r.length : Int) == a))
 | 0, i, k, hi, hk => by
  obtain ⟨k, rfl⟩ : ∃ k', k = k' + 1 := ⟨k - 1, by omega⟩
  unfold field_all.l0
  rw [if_neg (by omega), List.drop_of_length_le (by omega)]; rfl
 | d + 1, i, k, hi, hk => by
  obtain ⟨k, rfl⟩ : ∃ k', k = k' + 1 := ⟨k - 1, by omega⟩
  have hlt : i < l.length := by omega
  unfold field_all.l0
  rw [if_pos (by omega), if_pos (by omega), if_pos (by omega), rowZ (List.getElem?_eq_getElem hlt), List.drop_eq_getElem_cons hlt, List.all_cons]
  by_cases h : ((l[i].length : Nat) : Int) = a
  · rw [if_pos h, w64 (by omega) (by omega), show (i : Int) + 1 = ((i + 1 : Nat) : Int) by omega, all_l0 l a hl d (i + 1) k (by omega) (by omega), beq_iff_eq.mpr h, Bool.true_and]
  · rw [if_neg h, beq_eq_false_iff_ne.mpr h, Bool.false_and]
theorem all_f (k : Nat) (l : List (List Int)) (a : Int) (hl : l.length ≤ 140737488355328) (hk : l.length < k) : field_all.f k l a = some (l.all (fun r => (r.length : Int) == a)) := by
 have := all_l0 l a hl l.length 0 k (by omega) hk
 rw [List.drop_zero] at this
 exact this
theorem all_true (k n m : Nat) (l : List (List Int)) (h : ∀ r ∈ l, r.length = m) (hl : l.length = n) (hn : n ≤ 256) (hk : 256 < k) : field_all.f k l (m : Int) = some true := by
 rw [all_f k l m (by omega) (by omega)]
 congr 1
 rw [List.all_eq_true]
 intro r hr
 rw [h r hr]
 exact beq_self_eq_true _
theorem width_true (k n m : Nat) (l : List (List Int)) (h : ∀ r ∈ l, r.length = m) (hl : l.length = n) (hn : n ≤ 256) (hk : 256 < k) : ∃ m' : Int, field_width.f k l = some (m', true) := by
 unfold field_width.f
 by_cases h0 : (l.length : Int) > 0
 · rw [if_pos h0, if_pos h0]
   have e : rd_L2 l 0 = l[0]'(by omega) := rowZ (j := 0) (List.getElem?_eq_getElem (by omega))
   rw [e, h _ (List.getElem_mem _), all_true k n m l h hl hn hk]
   exact ⟨_, rfl⟩
 · rw [if_neg h0]
   have e : l = [] := List.eq_nil_of_length_eq_zero (by omega)
   subst e
   rw [all_f k [] 0 (by simp) (by simp; omega)]
   exact ⟨_, rfl⟩
end Go.Proofs.Ytdhajlkiiphlfaa.Solve
namespace Go.Proofs.Ytdhajlkiiphlfaa.Solve
open Go.RowKit Go.Proofs.Ytdhajlkiiphlfaa.QB Go.Proofs.YtdhajlkiiphlfaaW.PrintWords Go.Proofs.YtdhajlkiiphlfaaW.PrintLast Go.Proofs.YtdhajlkiiphlfaaW.PrintMore
theorem Two.swapCell {w0 w : World} {okA okX : Nat → Prop} {ga ca : Nat} {ha : List Value} {a : List (List Int)} {gx cx : Nat} {hx : List Value} {x : List (List Int)} (h : Two w0 w okA okX ga ca ha a gx cx hx x) (c : Nat) (u : Value) {r : Nat} {r2 : List Int} (hr : a[r]? = some r2) : ∃ z, (w.setCell ⟨ga, c, none⟩ u).cell? ⟨ga, r, none⟩ = some z := by
 obtain ⟨cur, hh, hcs, hlc, hcm, hcur⟩ := h.A.outer
 have hl := h.A.len
 have hlt : r < a.length := (List.getElem?_eq_some_iff.1 hr).1
 rw [q0h (q23 hh c u) r]
 exact ⟨_, Array.getElem?_eq_getElem (by rw [Array.size_setIfInBounds]; omega)⟩
theorem cols_some {n d c r : Nat} {q : List (List Int) × List (List Int)} (h : findP q.1 c (n - c) c = some r) : cols n (d + 1) c q = cols n d (c + 1) (q0p n c (swapL q.1 c r) (swapL q.2 c r)) := by
 show (match findP q.1 c (n - c) c with
  | none => none
  | some r => cols n d (c + 1) (q0p n c (swapL q.1 c r) (swapL q.2 c r))) = _
 rw [h]
theorem cols_none {n d c : Nat} {q : List (List Int) × List (List Int)} (h : findP q.1 c (n - c) c = none) : cols n (d + 1) c q = none := by
 show (match findP q.1 c (n - c) c with
  | none => none
  | some r => cols n d (c + 1) (q0p n c (swapL q.1 c r) (swapL q.2 c r))) = _
 rw [h]
set_option maxHeartbeats 1600000 in
set_option maxRecDepth 100000 in
theorem solve_pos (n nx : Nat) (m v : List (List Int)) (A0 A1 : Option Addr) (c0 c1 : Nat) (w : World) (hr0 : Kd.C (Kd.slice 5 (Kd.int .u8)) w A0 m.length m) (hc0 : m.length ≤ c0) (hr1 : Kd.C (Kd.slice 5 (Kd.int .u8)) w A1 v.length v) (hc1 : v.length ≤ c1) (hn0 : 0 < n) (hn : n ≤ 256) (hnx : nx ≤ 140737488355328) (sm : Sh n n m) (sv : Sh n nx v) (R : Option (List (List Int))) (hR : cols n n 0 (m, v) = R) :
    Calls Try.prog 35 #[.slice A0 m.length c0, .slice A1 v.length c1] w fun e w' => (match (generalizing := false) R with
     | none => e = .returned (.tuple #[.slice none 0 0, .int .i64 43])
     | some l => ∃ v0_, e = .returned (.tuple #[v0_, .int .i64 0]) ∧ Kd.S (Kd.slice 5 (Kd.int .u8)) 41 w' w.heap.size (fun _ => True) v0_ l) ∧ Below w.heap.size w w' := by
 obtain ⟨m', hwid⟩ := width_true 1000 n nx v sv.row sv.len hn (by omega)
 have hall := all_true 1000 n n m sm.row sm.len hn (by omega)
 rw [← sm.len] at hall
 have HW := sqM hwid
 have HALL := sqM hall
 have HR0 := sqM hr0
 have HC0 := sqM hc0
 have HR1 := sqM hr1
 have HC1 := sqM hc1
 have HSM := sqM sm
 have HSV := sqM sv
 have HNN := sqM hn0
 have HN := sqM (show n ≤ 256 ∧ nx ≤ 140737488355328 from ⟨hn, hnx⟩)
 have HCO := sqM hR
 have hm1 : decide (256 < (m.length : Int)) = false := decide_eq_false (by rw [sm.len]; omega)
 have hm1' : decide (256 < m.length) = false := decide_eq_false (by rw [sm.len]; omega)
 have hm2 : ((v.length : Int) != (m.length : Int)) = false := bne_eq_false_iff_eq.mpr (by rw [sm.len, sv.len])
 clear hr0 hc0 hr1 hc1 sm sv hn hnx hwid hall hn0 hR
 go_enter Try.func35, Try.ntmps35
 go_wp2_with (fail)
 apply wp_scope_straight
 go_upto_region 2 with (first | ((with_reducible refine q09 (f := 47) rfl ?_); refine q1p (some 14) rfl rfl Try.func47 (by kernel_rfl) rfl #[.slice A1 v.length c1] rfl (by (try simp only [List.map_toArray, List.map_cons, List.map_nil]); (rfl)) ?_; (with_reducible refine (field_width.calls 1000 _ _ v m' true _ ?side1 ?side2 HW.out).mono ?_); (case side1 => exact HR1.out); (case side2 => exact HC1.out); rintro e w' ⟨rfl, ⟨nd, rfl⟩⟩; refine ⟨_, rfl, ?_⟩))
 (skip)
 go_wp2_with (first
  | (go_at_call 48; (with_reducible refine (field_all.calls 1000 _ _ m (m.length : Int) true _ ?side1 HC0.out HALL.out).mono ?_); (case side1 => repeat (exact HR0.out)); rintro e w' ⟨rfl, ⟨nd2, rfl⟩⟩))
 refine (copied_calls A0 c0 m _ (by repeat (exact HR0.out)) HC0.out (by rw [HSM.out.len]; exact HN.out.1) (fun r hr => by rw [HSM.out.row r hr]; have := HN.out; omega)).mono ?_
 rintro e w1 ⟨v0, rfl, hs0, hb0⟩
 have hS0 : Kd.S (Kd.slice 5 (Kd.int .u8)) 41 w1 w.heap.size (fun _ => True) v0 m := hs0
 have hB0 : Below w.heap.size w w1 := q04 (q00 (Below.refl _ _) _) hb0
 obtain ⟨g0, k0, hv0, _, _, _⟩ := Kd.R_form (Kd.S_R hS0) (by rw [HSM.out.len]; exact HNN.out)
 subst hv0
 have HS0 := sqM hS0
 have HB0 := sqM hB0
 clear hs0 hb0 hS0 hB0
 go_wp2_with (fail)
 refine (copied_calls A1 c1 v _ (Kd.C_below HR1.out HB0.out) HC1.out (by rw [HSV.out.len]; exact HN.out.1) (fun r hr => by rw [HSV.out.row r hr]; have := HN.out; omega)).mono ?_
 rintro e w2 ⟨v1, rfl, hs1, hb1⟩
 obtain ⟨g1, k1, hv1, _, _, _⟩ := Kd.R_form (Kd.S_R hs1) (by rw [HSV.out.len]; exact HNN.out)
 subst hv1
 have HT : ∃ ha hx, Aside0 (Two w w2 (fun k => k < w1.heap.size) (fun k => w1.heap.size ≤ k) g0 k0 ha m g1 k1 hx v) := by
  obtain ⟨_, ha, hA⟩ := Mx.of_S (Kd.S_mono (ok' := fun k => k < w1.heap.size) (Kd.S_bound HS0.out) (fun k hk => hk.2.2.1))
  obtain ⟨_, hx, hX⟩ := Mx.of_S (Kd.S_mono (ok' := fun k => w1.heap.size ≤ k) (Kd.S_bound hs1) (fun k hk => hk.2.1))
  exact ⟨ha, hx, ⟨⟨hA.below hb1, hX.base_down HB0.out.size, q04 HB0.out hb1, fun k h1 h2 => by omega⟩⟩⟩
 obtain ⟨ha, hx, HT⟩ := HT
 have hmn : m.length = n := HSM.out.len
 have hvn : v.length = n := HSV.out.len
 rw [hmn, hvn]
 generalize w1.heap.size = N1 at HT
 clear hs1 hb1 HS0 HB0 hm1 hm1' hm2 hmn hvn
 go_wp2_with (first | (go_step3))
 go_loopw [44] (fun vi wr => ∃ c : Nat, c ≤ n ∧ vi = .int .i64 (c : Int) ∧ ∃ ha hx q, Aside0 (Two w wr (fun k => k < N1) (fun k => N1 ≤ k) g0 k0 ha q.1 g1 k1 hx q.2) ∧ Aside0 (Sh n n q.1 ∧ Sh n nx q.2) ∧ Aside0 (cols n (n - c) c q = R)) (fun vi _ => n - (intOf vi).toNat)
 case atStart => exact ⟨0, Nat.zero_le _, rfl, ha, hx, (m, v), HT, ⟨HSM.out, HSV.out⟩, HCO⟩
 case round =>
  clear HT HCO ha hx
  obtain ⟨c, hc, rfl, ha, hx, q, HT, HS, HCO⟩ := hrel
  by_cases hcn : c < n
  ·
   have HCN := sqM hcn
   have hc2 : (c : Int) < (n : Int) := by omega
   have hc3 : (0 : Int) ≤ (c : Int) := by omega
   have hwc := sqM (wr1 hcn (by have := HN.out; omega))
   clear hc hcn
   go_wp2
   go_loopw [11] (fun vr w' => ∃ r : Nat, c ≤ r ∧ r ≤ n ∧ vr = .int .i64 (r : Int) ∧ Aside0 (Two w w' (fun k => k < N1) (fun k => N1 ≤ k) g0 k0 ha q.1 g1 k1 hx q.2) ∧ Aside0 (findP q.1 c (n - r) r = findP q.1 c (n - c) c)) (fun vr _ => n - (intOf vr).toNat)
   case atStart => exact ⟨c, Nat.le_refl _, by have := HCN.out; omega, rfl, HT, ⟨rfl⟩⟩
   case round =>
    clear HT
    obtain ⟨r, hcr, hr, rfl, HT, HF⟩ := hrel
    by_cases hrn : r < n
    ·
     obtain ⟨r1, f1, l1, i1⟩ := HS.out.1.at_ hrn
     obtain ⟨y, hy⟩ : ∃ y, r1[c]? = some y := ⟨_, List.getElem?_eq_getElem (by have := HCN.out; omega)⟩
     have hr2 : (r : Int) < (n : Int) := by omega
     have hr3 : (0 : Int) ≤ (r : Int) := by omega
     have hr4 : (c : Int) < (r1.length : Int) := by have := HCN.out; omega
     have hwr := sqM (wr1 hrn (by have := HN.out; omega))
     have hstep : findP q.1 c (n - r) r = if y = 0 then findP q.1 c (n - (r + 1)) (r + 1) else some r := by
      rw [show n - r = (n - (r + 1)) + 1 by omega]
      show (if rd (rd_L2 q.1 (r : Int)) (c : Int) = 0 then _ else _) = _
      rw [rowZ f1, elZ hy]
     rw [hstep] at HF
     obtain ⟨b1, d1, e1, _, ch1, ce1, _, _⟩ := HT.out.cellA' f1 hy
     have HF1 := sqM f1
     have HY := sqM hy
     have HRN := sqM hrn
     have HCR := sqM hcr
     clear hstep f1 hy l1 i1 hrn hcr hr
     by_cases hy0 : y = 0
     · subst hy0
       rw [if_pos rfl] at HF
       go_wp2
       go_roundw
       case rel => exact ⟨r + 1, by have := HCR.out; omega, HRN.out, by rw [hwr.out], ⟨by exact HT.out⟩, HF⟩
       case measure => exact meas hwr.out HRN.out
     ·
      rw [if_neg hy0] at HF
      have hy1 : (y == 0) = false := beq_eq_false_iff_ne.mpr hy0
      clear hy0
      obtain ⟨rc, f2, l2, i2⟩ := HS.out.1.at_ HCN.out
      obtain ⟨s1, f3, l3, i3⟩ := HS.out.2.at_ HRN.out
      obtain ⟨s2, f4, l4, i4⟩ := HS.out.2.at_ HCN.out
      have HF2 := sqM f2
      have HF3 := sqM f3
      have HF4 := sqM f4
      clear f2 f3 f4 l2 l3 l4 i2 i3 i4
      go_wp2_with (fail)
      clear ch1 ce1
      obtain ⟨A2, c2, e2, _, hh2, hf2, _⟩ := HT.out.drew.headA' HF1.out
      obtain ⟨A3, c3, e3, _, hh3, hf3, _⟩ := HT.out.drew.headA' HF2.out
      have hsw := HT.out.drew.swapA e3 e2 HF2.out HF1.out
      obtain ⟨z2, hz2⟩ := HT.out.drew.swapCell c (.slice A2 r1.length c2) HF1.out
      have HSW := sqM hsw
      clear hsw
      refine q1x (n := 16) (S := fun w' => w'.cell? ⟨g0, r, none⟩ = some (.slice A2 r1.length c2) ∧ w'.cell? ⟨g0, c, none⟩ = some (.slice A3 rc.length c3)) (ds := [13, 15]) #[fF,fF,fF,fF,fF,fF,fF,fF,fF,fF,fF,fF,fF,fF,fF,fF] (by kernel_rfl) rfl rfl ⟨hh2, hh3⟩ (fun hHeld => ?_)
      generalize wr.drew = w3 at hh2 hh3 hf2 hf3 hz2 HSW hHeld ⊢
      refine pU 0 62 #[tT,fF,fF,fF,fF,fF,fF,fF,fF,fF,fF,fF,fF,fF,fF,fF] ?_
      refine pU 1 63 #[tT,tT,fF,fF,fF,fF,fF,fF,fF,fF,fF,fF,fF,fF,fF,fF] ?_
      refine pU 2 64 #[tT,tT,tT,fF,fF,fF,fF,fF,fF,fF,fF,fF,fF,fF,fF,fF] ?_
      refine pU 3 65 #[tT,tT,tT,tT,fF,fF,fF,fF,fF,fF,fF,fF,fF,fF,fF,fF] ?_
      refine pU 4 66 #[tT,tT,tT,tT,tT,fF,fF,fF,fF,fF,fF,fF,fF,fF,fF,fF] ?_
      refine pU 5 67 #[tT,tT,tT,tT,tT,tT,fF,fF,fF,fF,fF,fF,fF,fF,fF,fF] ?_
      refine pU 6 68 #[tT,tT,tT,tT,tT,tT,tT,fF,fF,fF,fF,fF,fF,fF,fF,fF] ?_
      refine tK 7 69 #[tT,tT,tT,tT,tT,tT,tT,tT,fF,fF,fF,fF,fF,fF,fF,fF] hHeld ?_ (hy := by
       intro w' s0
       obtain ⟨s1, s2⟩ := s0
       go_simp
       with_reducible rfl)
      refine pU 8 70 #[tT,tT,tT,tT,tT,tT,tT,tT,tT,fF,fF,fF,fF,fF,fF,fF] ?_
      refine pU 9 71 #[tT,tT,tT,tT,tT,tT,tT,tT,tT,tT,fF,fF,fF,fF,fF,fF] ?_
      refine pU 10 72 #[tT,tT,tT,tT,tT,tT,tT,tT,tT,tT,tT,fF,fF,fF,fF,fF] ?_
      refine tK 11 73 #[tT,tT,tT,tT,tT,tT,tT,tT,tT,tT,tT,tT,fF,fF,fF,fF] hHeld ?_ (hy := by
       intro w' s0
       obtain ⟨s1, s2⟩ := s0
       go_simp
       with_reducible rfl)
      refine pU 12 74 #[tT,tT,tT,tT,tT,tT,tT,tT,tT,tT,tT,tT,tT,fF,fF,fF] ?_
      refine last_ (i := 13) (N := none) #[tT,tT,tT,tT,tT,tT,tT,tT,tT,tT,tT,tT,tT,tT,fF,fF] rfl rfl (by kernel_rfl) (by decide) (fun K hK => ?_)
      refine skip_ (w1 := ?_) (by rfl) rfl ?_ ?_
      rotate_left
      · go_simp
        rfl
      refine hK.out _ _ ?_
      clear hK K
      refine pU 14 75 #[tT,tT,tT,tT,tT,tT,tT,tT,tT,tT,tT,tT,tT,tT,tT,fF] ?_
      refine last_ (i := 15) (N := none) #[tT,tT,tT,tT,tT,tT,tT,tT,tT,tT,tT,tT,tT,tT,tT,tT] rfl rfl (by kernel_rfl) (by decide) (fun K hK => ?_)
      refine skip_ (w1 := ?_) (by rfl) rfl ?_ ?_
      rotate_left
      · go_simp
        rfl
      refine hK.out _ _ ?_
      clear hK K
      refine done_ (by kernel_rfl) ?_
      clear hh2 hh3 hf2 hf3 hz2 HT
      have HT := HSW
      clear HSW
      try go_wp2_with (fail)
      obtain ⟨A4, c4, e4, _, hh4, hf4, _⟩ := HT.out.symm.drew.headA' HF3.out
      obtain ⟨A5, c5, e5, _, hh5, hf5, _⟩ := HT.out.symm.drew.headA' HF4.out
      have hsw := (HT.out.symm.drew.swapA e5 e4 HF4.out HF3.out).symm
      obtain ⟨z4, hz4⟩ := HT.out.symm.drew.swapCell c (.slice A4 s1.length c4) HF3.out
      have HSW := sqM hsw
      clear hsw HT
      generalize (w3.setCell ⟨g0, c, none⟩ (.slice A2 r1.length c2)).setCell ⟨g0, r, none⟩ (.slice A3 rc.length c3) = w4 at hh4 hh5 hf4 hf5 hz4 HSW ⊢
      refine q1x (n := 16) (S := fun w' => w'.cell? ⟨g1, r, none⟩ = some (.slice A4 s1.length c4) ∧ w'.cell? ⟨g1, c, none⟩ = some (.slice A5 s2.length c5)) (ds := [13, 15]) #[fF,fF,fF,fF,fF,fF,fF,fF,fF,fF,fF,fF,fF,fF,fF,fF] (by kernel_rfl) rfl rfl ⟨hh4, hh5⟩ (fun hHeld => ?_)
      generalize w4.drew = w5 at hh4 hh5 hf4 hf5 hz4 HSW hHeld ⊢
      refine pU 0 76 #[tT,fF,fF,fF,fF,fF,fF,fF,fF,fF,fF,fF,fF,fF,fF,fF] ?_
      refine pU 1 77 #[tT,tT,fF,fF,fF,fF,fF,fF,fF,fF,fF,fF,fF,fF,fF,fF] ?_
      refine pU 2 78 #[tT,tT,tT,fF,fF,fF,fF,fF,fF,fF,fF,fF,fF,fF,fF,fF] ?_
      refine pU 3 79 #[tT,tT,tT,tT,fF,fF,fF,fF,fF,fF,fF,fF,fF,fF,fF,fF] ?_
      refine pU 4 80 #[tT,tT,tT,tT,tT,fF,fF,fF,fF,fF,fF,fF,fF,fF,fF,fF] ?_
      refine pU 5 81 #[tT,tT,tT,tT,tT,tT,fF,fF,fF,fF,fF,fF,fF,fF,fF,fF] ?_
      refine pU 6 82 #[tT,tT,tT,tT,tT,tT,tT,fF,fF,fF,fF,fF,fF,fF,fF,fF] ?_
      refine tK 7 83 #[tT,tT,tT,tT,tT,tT,tT,tT,fF,fF,fF,fF,fF,fF,fF,fF] hHeld ?_ (hy := by
       intro w' s0
       obtain ⟨s1, s2⟩ := s0
       go_simp
       with_reducible rfl)
      refine pU 8 84 #[tT,tT,tT,tT,tT,tT,tT,tT,tT,fF,fF,fF,fF,fF,fF,fF] ?_
      refine pU 9 85 #[tT,tT,tT,tT,tT,tT,tT,tT,tT,tT,fF,fF,fF,fF,fF,fF] ?_
      refine pU 10 86 #[tT,tT,tT,tT,tT,tT,tT,tT,tT,tT,tT,fF,fF,fF,fF,fF] ?_
      refine tK 11 87 #[tT,tT,tT,tT,tT,tT,tT,tT,tT,tT,tT,tT,fF,fF,fF,fF] hHeld ?_ (hy := by
       intro w' s0
       obtain ⟨s1, s2⟩ := s0
       go_simp
       with_reducible rfl)
      refine pU 12 88 #[tT,tT,tT,tT,tT,tT,tT,tT,tT,tT,tT,tT,tT,fF,fF,fF] ?_
      refine last_ (i := 13) (N := none) #[tT,tT,tT,tT,tT,tT,tT,tT,tT,tT,tT,tT,tT,tT,fF,fF] rfl rfl (by kernel_rfl) (by decide) (fun K hK => ?_)
      refine skip_ (w1 := ?_) (by rfl) rfl ?_ ?_
      rotate_left
      · go_simp
        rfl
      refine hK.out _ _ ?_
      clear hK K
      refine pU 14 89 #[tT,tT,tT,tT,tT,tT,tT,tT,tT,tT,tT,tT,tT,tT,tT,fF] ?_
      refine last_ (i := 15) (N := none) #[tT,tT,tT,tT,tT,tT,tT,tT,tT,tT,tT,tT,tT,tT,tT,tT] rfl rfl (by kernel_rfl) (by decide) (fun K hK => ?_)
      refine skip_ (w1 := ?_) (by rfl) rfl ?_ ?_
      rotate_left
      · go_simp
        rfl
      refine hK.out _ _ ?_
      clear hK K
      refine done_ (by kernel_rfl) ?_
      clear hh4 hh5 hf4 hf5
      have HT := HSW
      clear HSW
      go_wp2_with (fail)
      refine (clears_calls w _ _ _ g0 k0 _ (swapL q.1 c r) g1 k1 _ (swapL q.2 c r) n nx c HT.out HCN.out HN.out.1 HN.out.2 (HS.out.1.swap HCN.out HRN.out) (HS.out.2.swap HCN.out HRN.out)).mono ?_
      rintro e w6 ⟨rfl, hT6⟩
      have HT6 := sqM hT6
      have HS6 := sqM (clearsF_sh (HS.out.1.swap HCN.out HRN.out) (HS.out.2.swap (r := r) HCN.out HRN.out) HCN.out)
      have HC6 := sqM (show cols n (n - (c + 1)) (c + 1) (q0p n c (swapL q.1 c r) (swapL q.2 c r)) = R by
       rw [← HCO.out, show n - c = (n - (c + 1)) + 1 by have := HCN.out; omega]
       exact (cols_some (by rw [show n - c = n - c from rfl]; exact HF.out.symm)).symm)
      clear hT6 HT HS HCO
      go_wp2
      go_roundw
      case rel => exact ⟨c + 1, HCN.out, by rw [hwc.out], _, _, q0p n c (swapL q.1 c r) (swapL q.2 c r), HT6, HS6, HC6⟩
      case measure => exact meas hwc.out HCN.out
    ·
     obtain rfl : r = n := by omega
     have hnone : R = none := by
      have h1 := HF.out
      rw [Nat.sub_self] at h1
      rw [← HCO.out, show r - c = (r - c - 1) + 1 by have := HCN.out; omega]
      exact cols_none h1.symm
     subst hnone
     go_wp2
     (try simp only [Exit.noGoto_ret, Exit.noGoto, Exit.inBlock, Exit.then])
     go_ret2
     exact ⟨rfl, HT.out.B⟩
  ·
   obtain rfl : c = n := by omega
   have hsome : R = some q.2 := by
    rw [← HCO.out, Nat.sub_self]; rfl
   subst hsome
   have HX := sqM (Mx.to_S (Mx.mono (ok' := fun _ => True) HT.out.X (fun _ _ => trivial)))
   rw [HS.out.2.len] at HX
   have HB := sqM HT.out.B
   go_wp2
   (try simp only [Exit.noGoto_ret, Exit.noGoto, Exit.inBlock, Exit.then])
   go_ret2
   exact ⟨⟨_, rfl, HX.out⟩, HB.out⟩
end Go.Proofs.Ytdhajlkiiphlfaa.Solve
namespace Go.Proofs.Ytdhajlkiiphlfaa.Solve
open Go.RowKit Go.Proofs.Ytdhajlkiiphlfaa.QB Go.Proofs.YtdhajlkiiphlfaaW.PrintWords
def Fit (l0 l1 : List (List Int)) : Prop := ∃ n nx, 0 < n ∧ n ≤ 256 ∧ nx ≤ 140737488355328 ∧ Sh n n l0 ∧ Sh n nx l1
def in8B (r : List Int) : Bool := r.all fun y => decide (0 ≤ y ∧ y < 256)
def fitB (l0 l1 : List (List Int)) : Bool := decide (0 < l0.length ∧ l0.length ≤ 256 ∧ l1.length = l0.length ∧ (l1.headD []).length ≤ 140737488355328) && (l0.all fun r => decide (r.length = l0.length) && in8B r) && (l1.all fun r => decide (r.length = (l1.headD []).length) && in8B r)
theorem in8B_iff {r : List Int} : in8B r = true ↔ ∀ y ∈ r, In8 y := by
 unfold in8B In8
 rw [List.all_eq_true]
 exact ⟨fun h y hy => of_decide_eq_true (h y hy), fun h y hy => decide_eq_true (h y hy)⟩
theorem sh_iff {l : List (List Int)} {m : Nat} : (l.all fun r => decide (r.length = m) && in8B r) = true ↔ Sh l.length m l := by
 rw [List.all_eq_true]
 constructor
 · intro h
   refine ⟨rfl, fun r hr => ?_, fun r hr => ?_⟩
   · have := h r hr; rw [Bool.and_eq_true] at this; exact of_decide_eq_true this.1
   · have := h r hr; rw [Bool.and_eq_true] at this; exact in8B_iff.1 this.2
 · intro h r hr
   rw [Bool.and_eq_true]
   exact ⟨decide_eq_true (h.row r hr), in8B_iff.2 (h.el r hr)⟩
theorem fitB_iff {l0 l1 : List (List Int)} : fitB l0 l1 = true ↔ Fit l0 l1 := by
 unfold fitB
 rw [Bool.and_eq_true, Bool.and_eq_true, decide_eq_true_eq, sh_iff, sh_iff]
 constructor
 · rintro ⟨⟨⟨h1, h2, h3, h4⟩, s0⟩, s1⟩
   exact ⟨_, _, h1, h2, h4, s0, h3 ▸ s1⟩
 ·
  rintro ⟨n, nx, h1, h2, h3, s0, s1⟩
  have e0 := s0.len
  have e1 := s1.len
  have e2 : (l1.headD []).length = nx := by
   cases l1 with
   | nil => simp at e1; omega
   | cons r _ => exact s1.row r (by simp)
  rw [e0, e1, e2]
  exact ⟨⟨⟨h1, h2, rfl, h3⟩, s0⟩, s1⟩
def solveF (l0 l1 : List (List Int)) : Option (List (List Int) × Int) :=
 if fitB l0 l1 = true then (match cols l0.length l0.length 0 (l0, l1) with
  | none => some ([], 43)
  | some l => some (l, 0)) else none
theorem solveF_fit {l0 l1 : List (List Int)} (h : Fit l0 l1) : solveF l0 l1 = (match cols l0.length l0.length 0 (l0, l1) with
    | none => some ([], 43)
    | some l => some (l, 0)) := by unfold solveF; rw [if_pos (fitB_iff.2 h)]
end Go.Proofs.Ytdhajlkiiphlfaa.Solve
namespace Go.Proofs.Ytdhajlkiiphlfaa.Solve
open Go.RowKit Go.Proofs.Ytdhajlkiiphlfaa.QB Go.Proofs.YtdhajlkiiphlfaaW.PrintWords Go.Proofs.Ytdhajlkiiphlfaa.Math
def elO (z : Int) : El := ⟨z.toNat % 256, Nat.mod_lt _ (by decide)⟩
theorem elO_v {z : Int} (h : In8 z) : (elO z).v = z.toNat := Nat.mod_eq_of_lt (by have := h.1; have := h.2; omega)
theorem elO_mul {a b : Int} (ha : In8 a) (hb : In8 b) : elO (mulZ a b) = elO a * elO b := by
 apply El.ext
 rw [elO_v (mulZ_in ha), El.mul_v, elO_v ha, elO_v hb]
 rfl
theorem elO_xor {a b : Int} (ha : In8 a) (hb : In8 b) : elO (xorZ a b) = elO a + elO b := by
 apply El.ext
 rw [elO_v (xorZ_in ha hb), El.add_v, elO_v ha, elO_v hb]
 rfl
theorem elO_inv {a : Int} (ha : In8 a) : elO (invZ a) = (elO a).inv := by
 apply El.ext
 rw [elO_v (invZ_in ha), El.inv_v, elO_v ha]
 rfl
theorem elO_inj {a b : Int} (ha : In8 a) (hb : In8 b) (h : elO a = elO b) : a = b := by
 have := congrArg El.v h
 rw [elO_v ha, elO_v hb] at this
 have := ha.1; have := hb.1; omega
theorem elO_zero : elO 0 = 0 := rfl
def fn (l : List (List Int)) (i j : Nat) : El := elO (rd (rd_L2 l (i : Int)) (j : Int))
theorem fn_at {l : List (List Int)} {i j : Nat} {r : List Int} {y : Int} (h : l[i]? = some r) (hy : r[j]? = some y) : fn l i j = elO y := by unfold fn; rw [rowZ h, elZ hy]
theorem fn_set {l : List (List Int)} {k : Nat} (hk : k < l.length) (r : List Int) (i j : Nat) : fn (l.set k r) i j = if i = k then elO (rd r (j : Int)) else fn l i j := by
 by_cases e : i = k
 · subst e
   rw [if_pos rfl]
   unfold fn
   rw [rowZ (List.getElem?_set_self hk)]
 · rw [if_neg e]
   unfold fn rd_L2
   rw [Int.toNat_natCast, List.getD_eq_getElem?_getD, List.getD_eq_getElem?_getD, List.getElem?_set_ne (Ne.symm e)]
theorem fn_scale {r : List Int} {b : Int} (hb : In8 b) (hr : ∀ y ∈ r, In8 y) {j : Nat} (hj : j < r.length) : elO (rd (q16 r b) (j : Int)) = elO (rd r (j : Int)) * elO b := by
 have h1 := List.getElem?_eq_getElem hj
 have h2 : (q16 r b)[j]? = some (mulZ r[j] b) := by unfold q16; rw [List.getElem?_map, h1]; rfl
 rw [elZ h1, elZ h2, elO_mul (hr _ (List.getElem_mem hj)) hb]
theorem fn_add {t r : List Int} {b : Int} (hb : In8 b) (ht : ∀ y ∈ t, In8 y) (hr : ∀ y ∈ r, In8 y) {j : Nat} (hj : j < t.length) (hj2 : j < r.length) : elO (rd (addR t r b) (j : Int)) = elO (rd t (j : Int)) + elO b * elO (rd r (j : Int)) := by
 have h1 := List.getElem?_eq_getElem hj
 have h2 := List.getElem?_eq_getElem hj2
 have h3 : (addR t r b)[j]? = some (xorZ t[j] (mulZ b r[j])) := by unfold addR; rw [List.getElem?_zipWith, h1, h2]
 rw [elZ h1, elZ h2, elZ h3, elO_xor (ht _ (List.getElem_mem hj)) (mulZ_in hb), elO_mul hb (hr _ (List.getElem_mem hj2))]
theorem fn_row {n m : Nat} {l : List (List Int)} (h : Sh n m l) {i : Nat} (hi : i < n) (j : Nat) : ∃ r, l[i]? = some r ∧ rd_L2 l (i : Int) = r ∧ r.length = m ∧ (∀ y ∈ r, In8 y) ∧ fn l i j = elO (rd r (j : Int)) := by
 obtain ⟨r, h1, h2, h3⟩ := h.at_ hi
 exact ⟨r, h1, rowZ h1, h2, h3, by unfold fn; rw [rowZ h1]⟩
theorem fn_elim {n nx c : Nat} {q : List (List Int) × List (List Int)} (ha : Sh n n q.1) (hx : Sh n nx q.2) (hc : c < n) : ∀ k, k ≤ n → ∀ i, i < n →
    (∀ j, j < n → fn (elim c k q).1 i j = if i < k ∧ i ≠ c then fn q.1 i j + fn q.1 i c * fn q.1 c j else fn q.1 i j) ∧
    (∀ j, j < nx → fn (elim c k q).2 i j = if i < k ∧ i ≠ c then fn q.2 i j + fn q.1 i c * fn q.2 c j else fn q.2 i j)
 | 0, _, i, _ => ⟨fun j _ => by rw [if_neg (by omega)]; rfl, fun j _ => by rw [if_neg (by omega)]; rfl⟩
 | k + 1, hk, i, hi => by
  have ih := fun i hi => fn_elim ha hx hc k (by omega) i hi
  obtain ⟨sa, sx⟩ := elim_sh ha hx hc k (by omega)
  have hkn : k < n := by omega
  obtain ⟨r1, g1, e1, l1, i1, f1⟩ := fn_row sa hkn c
  obtain ⟨r2, g2, e2, l2, i2, _⟩ := fn_row sa hc 0
  obtain ⟨s1, g3, e3, l3, i3, _⟩ := fn_row sx hkn 0
  obtain ⟨s2, g4, e4, l4, i4, _⟩ := fn_row sx hc 0
  have hy : rd r1 (c : Int) = r1[c]'(by omega) := elZ (List.getElem?_eq_getElem (by omega))
  have hy8 : In8 (rd r1 (c : Int)) := by rw [hy]; exact i1 _ (List.getElem_mem _)
  have hb : elO (rd r1 (c : Int)) = fn q.1 k c := by rw [← f1, (ih k hkn).1 c hc, if_neg (by omega)]
  show (∀ j, j < n → fn (q21 c k (elim c k q)).1 i j = _) ∧ (∀ j, j < nx → fn (q21 c k (elim c k q)).2 i j = _)
  unfold q21
  rw [e1, e2, e3, e4]
  by_cases hkc : k ≠ c ∧ rd r1 (c : Int) ≠ 0
  ·
   rw [if_pos hkc]
   refine ⟨fun j hj => ?_, fun j hj => ?_⟩
   ·
    show fn ((elim c k q).1.set k (addR r1 r2 (rd r1 (c : Int)))) i j = _
    rw [fn_set (by rw [sa.len]; exact hkn)]
    by_cases e : i = k
    · subst e
      rw [if_pos rfl, if_pos ⟨by omega, hkc.1⟩, fn_add hy8 i1 i2 (by omega) (by omega), hb, ← e1, ← e2]
      show fn (elim c i q).1 i j + _ * fn (elim c i q).1 c j = _
      rw [(ih i hi).1 j hj, (ih c hc).1 j hj, if_neg (by omega), if_neg (by omega)]
    · rw [if_neg e, (ih i hi).1 j hj]
      by_cases h5 : i < k ∧ i ≠ c
      · rw [if_pos h5, if_pos ⟨by omega, h5.2⟩]
      · rw [if_neg h5, if_neg (by omega)]
   ·
    show fn ((elim c k q).2.set k (addR s1 s2 (rd r1 (c : Int)))) i j = _
    rw [fn_set (by rw [sx.len]; exact hkn)]
    by_cases e : i = k
    · subst e
      rw [if_pos rfl, if_pos ⟨by omega, hkc.1⟩, fn_add hy8 i3 i4 (by omega) (by omega), hb, ← e3, ← e4]
      show fn (elim c i q).2 i j + _ * fn (elim c i q).2 c j = _
      rw [(ih i hi).2 j hj, (ih c hc).2 j hj, if_neg (by omega), if_neg (by omega)]
    · rw [if_neg e, (ih i hi).2 j hj]
      by_cases h5 : i < k ∧ i ≠ c
      · rw [if_pos h5, if_pos ⟨by omega, h5.2⟩]
      · rw [if_neg h5, if_neg (by omega)]
  ·
   rw [if_neg hkc]
   have hz : i = k → i ≠ c → fn q.1 i c = 0 := by
    intro e hne
    subst e
    rw [← hb]
    have : rd r1 (c : Int) = 0 := Classical.byContradiction fun h => hkc ⟨hne, h⟩
    rw [this]; exact elO_zero
   refine ⟨fun j hj => ?_, fun j hj => ?_⟩
   · rw [(ih i hi).1 j hj]
     by_cases h5 : i < k ∧ i ≠ c
     · rw [if_pos h5, if_pos ⟨by omega, h5.2⟩]
     · rw [if_neg h5]
       by_cases h6 : i < k + 1 ∧ i ≠ c
       · rw [if_pos h6, hz (by omega) h6.2, El.zero_mul, El.add_zero]
       · rw [if_neg h6]
   · rw [(ih i hi).2 j hj]
     by_cases h5 : i < k ∧ i ≠ c
     · rw [if_pos h5, if_pos ⟨by omega, h5.2⟩]
     · rw [if_neg h5]
       by_cases h6 : i < k + 1 ∧ i ≠ c
       · rw [if_pos h6, hz (by omega) h6.2, El.zero_mul, El.add_zero]
       · rw [if_neg h6]
end Go.Proofs.Ytdhajlkiiphlfaa.Solve
namespace Go.Proofs.Ytdhajlkiiphlfaa.Math
namespace El
def sw (c r i : Nat) : Nat := if i = c then r else if i = r then c else i
def stepA (c r : Nat) (A : Nat → Nat → El) (F : Nat → Nat → El) : Nat → Nat → El := fun i j =>
 if i = c then F (sw c r c) j * (A (sw c r c) c).inv else F (sw c r i) j + A (sw c r i) c * (F (sw c r c) j * (A (sw c r c) c).inv)
def dot (n : Nat) (A : Nat → Nat → El) (Y : Nat → El) (i : Nat) : El := sum n fun j => A i j * Y j
theorem sw_sw (c r i : Nat) : sw c r (sw c r i) = i := by unfold sw; split <;> split <;> (try split) <;> (try split) <;> omega
theorem sw_lt {n c r i : Nat} (hc : c < n) (hr : r < n) (hi : i < n) : sw c r i < n := by unfold sw; split <;> (try split) <;> omega
theorem dot_step (n c r : Nat) (A : Nat → Nat → El) (Y : Nat → El) (i : Nat) : dot n (stepA c r A A) Y i = if i = c then dot n A Y (sw c r c) * (A (sw c r c) c).inv else dot n A Y (sw c r i) + A (sw c r i) c * (dot n A Y (sw c r c) * (A (sw c r c) c).inv) := by
 have h1 : sum n (fun j => A (sw c r c) j * (A (sw c r c) c).inv * Y j) = dot n A Y (sw c r c) * (A (sw c r c) c).inv := by
  rw [mul_comm (dot n A Y (sw c r c))]
  unfold dot
  rw [mul_sum]
  exact sum_congr fun j _ => by rw [mul_comm (A (sw c r c) j), mul_assoc]
 by_cases hi : i = c
 · subst hi
   rw [if_pos rfl, ← h1]
   exact sum_congr fun j _ => by unfold stepA; rw [if_pos rfl]
 · rw [if_neg hi, ← h1, mul_sum]
   unfold dot
   rw [← sum_add]
   exact sum_congr fun j _ => by unfold stepA; rw [if_neg hi, add_mul, mul_assoc]
theorem step_sat (n c r : Nat) (hc : c < n) (hr : r < n) (A : Nat → Nat → El) (V : Nat → Nat → El) (k : Nat) (Y : Nat → El) (hp : A (sw c r c) c ≠ 0) :
    (∀ i, i < n → dot n (stepA c r A A) Y i = stepA c r A V i k) ↔ (∀ i, i < n → dot n A Y i = V i k) := by
 constructor
 ·
  intro h
  have hc1 := h c hc
  rw [dot_step, if_pos rfl] at hc1
  unfold stepA at hc1
  rw [if_pos rfl] at hc1
  have hpc : dot n A Y (sw c r c) = V (sw c r c) k := by
   have := congrArg (fun x => x * A (sw c r c) c) hc1
   simp only [mul_assoc, inv_mul hp, mul_one] at this
   exact this
  intro i hi
  by_cases e : sw c r i = c
  · have : i = sw c r c := by have h3 := congrArg (sw c r) e; rw [sw_sw] at h3; exact h3
    rw [this]; exact hpc
  ·
   have h2 := h (sw c r i) (sw_lt hc hr hi)
   rw [dot_step, if_neg e] at h2
   unfold stepA at h2
   rw [if_neg e, sw_sw, hpc] at h2
   have := congrArg (fun x => A i c * (V (sw c r c) k * (A (sw c r c) c).inv) + x) h2
   simp only [add_comm (dot n A Y i), add_comm (V i k), add_add_self] at this
   exact this
 ·
  intro h i hi
  rw [dot_step]
  unfold stepA
  rw [h _ (sw_lt hc hr hc)]
  by_cases e : i = c
  · rw [if_pos e, if_pos e]
  · rw [if_neg e, if_neg e, h _ (sw_lt hc hr hi)]
def U (n c : Nat) (A : Nat → Nat → El) : Prop := ∀ i j, i < n → j < c → A i j = if i = j then 1 else 0
theorem U_step {n c r : Nat} {A : Nat → Nat → El} (h : U n c A) (hcr : c ≤ r) (hr : r < n) (hp : A (sw c r c) c ≠ 0) : U n (c + 1) (stepA c r A A) := by
 have hs : sw c r c = r := by unfold sw; rw [if_pos rfl]
 intro i j hi hj
 unfold stepA
 rw [hs] at hp ⊢
 by_cases e : j = c
 · subst e
   by_cases e2 : i = j
   · rw [if_pos e2, if_pos e2, mul_inv hp]
   · rw [if_neg e2, if_neg e2, mul_inv hp, mul_one, add_self]
 ·
  have hjc : j < c := by omega
  rw [h r j hr hjc, if_neg (show ¬ r = j by omega), zero_mul, mul_zero, add_zero]
  by_cases e2 : i = c
  · rw [if_pos e2, if_neg (by omega)]
  · rw [if_neg e2, h _ j (sw_lt (by omega) hr hi) hjc]
    have : (sw c r i = j) ↔ (i = j) := by unfold sw; rw [if_neg e2]; split <;> omega
    by_cases e3 : i = j
    · rw [if_pos e3, if_pos (this.2 e3)]
    · rw [if_neg e3, if_neg (fun x => e3 (this.1 x))]
theorem dot_unit {n : Nat} {A : Nat → Nat → El} (h : U n n A) (Y : Nat → El) (i : Nat) (hi : i < n) : dot n A Y i = Y i := by
 unfold dot
 rw [sum_single hi _ (fun j hj hne => by rw [h i j hi hj, if_neg (Ne.symm hne), zero_mul]), h i i hi hi, if_pos rfl, one_mul]
theorem kernel {n c : Nat} {A : Nat → Nat → El} (h : U n c A) (hc : c < n) (h0 : ∀ i, c ≤ i → i < n → A i c = 0) : ∃ Y : Nat → El, Y c ≠ 0 ∧ ∀ i, i < n → dot n A Y i = 0 := by
 refine ⟨fun j => if j < c then A j c else if j = c then 1 else 0, ?_, fun i hi => ?_⟩
 ·
  show (if c < c then A c c else if c = c then 1 else 0) ≠ 0
  rw [if_neg (Nat.lt_irrefl c), if_pos rfl]
  intro e
  have := congrArg El.v e
  rw [one_v, zero_v] at this
  omega
 ·
  have e : dot n A (fun j => if j < c then A j c else if j = c then 1 else 0) i = sum n (fun j => (if j = i then (if i < c then A i c else 0) else 0) + (if j = c then A i c else 0)) := by
   refine sum_congr fun j hj => ?_
   show A i j * (if j < c then A j c else if j = c then 1 else 0) = _
   by_cases h1 : j < c
   · rw [if_pos h1, h i j hi h1, if_neg (show ¬ j = c by omega), add_zero]
     by_cases h2 : i = j
     · rw [if_pos h2, if_pos h2.symm, one_mul, if_pos (by omega), h2]
     · rw [if_neg h2, if_neg (Ne.symm h2), zero_mul]
   ·
    rw [if_neg h1]
    by_cases h3 : j = c
    · rw [if_pos h3, if_pos h3, mul_one, h3]
      by_cases h4 : c = i
      · rw [if_pos h4, if_neg (by omega), zero_add]
      · rw [if_neg h4, zero_add]
    · rw [if_neg h3, if_neg h3, mul_zero, add_zero]
      by_cases h4 : j = i
      · rw [if_pos h4, if_neg (by omega)]
      · rw [if_neg h4]
  rw [e, sum_add, sum_single hi _ (fun j _ hne => by rw [if_neg hne]), sum_single hc _ (fun j _ hne => by rw [if_neg hne]), if_pos rfl, if_pos rfl]
  by_cases h5 : i < c
  · rw [if_pos h5, add_self]
  · rw [if_neg h5, h0 i (by omega) hi, add_zero]
end El
end Go.Proofs.Ytdhajlkiiphlfaa.Math
namespace Go.Proofs.Ytdhajlkiiphlfaa.Solve
open Go.RowKit Go.Proofs.Ytdhajlkiiphlfaa.QB Go.Proofs.YtdhajlkiiphlfaaW.PrintWords Go.Proofs.Ytdhajlkiiphlfaa.Math
theorem fn_in {n m : Nat} {l : List (List Int)} (h : Sh n m l) {i j : Nat} (hi : i < n) (hj : j < m) : ∃ r y, l[i]? = some r ∧ r[j]? = some y ∧ In8 y ∧ fn l i j = elO y ∧ rd (rd_L2 l (i : Int)) (j : Int) = y := by
 obtain ⟨r, h1, h2, h3⟩ := h.at_ hi
 have hy := List.getElem?_eq_getElem (show j < r.length by omega)
 exact ⟨r, _, h1, hy, h3 _ (List.getElem_mem _), fn_at h1 hy, by rw [rowZ h1, elZ hy]⟩
theorem fn_swap {n m : Nat} {l : List (List Int)} (h : Sh n m l) {c r : Nat} (hc : c < n) (hr : r < n) (i j : Nat) : fn (swapL l c r) i j = fn l (El.sw c r i) j := by
 have hlc : c < l.length := by rw [h.len]; exact hc
 have hlr : r < (l.set c (rd_L2 l r)).length := by rw [List.length_set, h.len]; exact hr
 unfold swapL El.sw
 rw [fn_set hlr, fn_set hlc]
 by_cases e1 : i = r
 · rw [if_pos e1]
   by_cases e2 : i = c
   · rw [if_pos e2, ← e1, e2]; rfl
   · rw [if_neg e2, if_pos e1]; rfl
 · rw [if_neg e1]
   by_cases e2 : i = c
   · rw [if_pos e2, if_pos e2]; rfl
   · rw [if_neg e2, if_neg e2, if_neg e1]
theorem fn_clears {n nx c r : Nat} {a x : List (List Int)} (ha : Sh n n a) (hx : Sh n nx x) (hc : c < n) (hr : r < n) :
    (∀ i j, i < n → j < n → fn (q0p n c (swapL a c r) (swapL x c r)).1 i j = El.stepA c r (fn a) (fn a) i j) ∧
    (∀ i j, i < n → j < nx → fn (q0p n c (swapL a c r) (swapL x c r)).2 i j = El.stepA c r (fn a) (fn x) i j) := by
 have sa := ha.swap hc hr
 have sx := hx.swap hc hr
 obtain ⟨ra, ga, la, ia⟩ := sa.at_ hc
 obtain ⟨rx, gx, lx, ix⟩ := sx.at_ hc
 obtain ⟨_, y, _, hy, hy8, hfy, hry⟩ := fn_in sa hc hc
 have sa' : Sh n n ((swapL a c r).set c (q16 (rd_L2 (swapL a c r) (c : Int)) (invZ y))) := sa.set c (by rw [q1g, rowZ ga, la]) (by rw [rowZ ga]; exact scaleR_in _ _ ia)
 have sx' : Sh n nx ((swapL x c r).set c (q16 (rd_L2 (swapL x c r) (c : Int)) (invZ y))) := sx.set c (by rw [q1g, rowZ gx, lx]) (by rw [rowZ gx]; exact scaleR_in _ _ ix)
 have e0 : q0p n c (swapL a c r) (swapL x c r) = elim c n ((swapL a c r).set c (q16 (rd_L2 (swapL a c r) (c : Int)) (invZ y)), (swapL x c r).set c (q16 (rd_L2 (swapL x c r) (c : Int)) (invZ y))) := by
  unfold q0p
  rw [hry]
 have hp : elO (invZ y) = (fn a (El.sw c r c) c).inv := by rw [elO_inv hy8, ← hfy, fn_swap ha hc hr]
 have hA : ∀ i j, j < n → fn ((swapL a c r).set c (q16 (rd_L2 (swapL a c r) (c : Int)) (invZ y))) i j = if i = c then fn a (El.sw c r c) j * (fn a (El.sw c r c) c).inv else fn a (El.sw c r i) j := by
  intro i j hj
  rw [fn_set (by rw [sa.len]; exact hc)]
  by_cases e : i = c
  · rw [if_pos e, if_pos e, rowZ ga, fn_scale (invZ_in hy8) ia (by omega), hp, ← rowZ ga]
    show fn (swapL a c r) c j * _ = _
    rw [fn_swap ha hc hr]
  · rw [if_neg e, if_neg e, fn_swap ha hc hr]
 have hX : ∀ i j, j < nx → fn ((swapL x c r).set c (q16 (rd_L2 (swapL x c r) (c : Int)) (invZ y))) i j = if i = c then fn x (El.sw c r c) j * (fn a (El.sw c r c) c).inv else fn x (El.sw c r i) j := by
  intro i j hj
  rw [fn_set (by rw [sx.len]; exact hc)]
  by_cases e : i = c
  · rw [if_pos e, if_pos e, rowZ gx, fn_scale (invZ_in hy8) ix (by omega), hp, ← rowZ gx]
    show fn (swapL x c r) c j * _ = _
    rw [fn_swap hx hc hr]
  · rw [if_neg e, if_neg e, fn_swap hx hc hr]
 rw [e0]
 refine ⟨fun i j hi hj => ?_, fun i j hi hj => ?_⟩
 ·
  rw [(fn_elim sa' sx' hc n (Nat.le_refl _) i hi).1 j hj]
  show (if i < n ∧ i ≠ c then fn ((swapL a c r).set c _) i j + fn ((swapL a c r).set c _) i c * fn ((swapL a c r).set c _) c j else fn ((swapL a c r).set c _) i j) = _
  rw [hA i j hj, hA i c hc, hA c j hj, if_pos rfl]
  unfold El.stepA
  by_cases e : i = c
  · rw [if_neg (by omega), if_pos e, if_pos e]
  · rw [if_pos ⟨hi, e⟩, if_neg e, if_neg e, if_neg e]
 ·
  rw [(fn_elim sa' sx' hc n (Nat.le_refl _) i hi).2 j hj]
  show (if i < n ∧ i ≠ c then fn ((swapL x c r).set c _) i j + fn ((swapL a c r).set c _) i c * fn ((swapL x c r).set c _) c j else fn ((swapL x c r).set c _) i j) = _
  rw [hX i j hj, hA i c hc, hX c j hj, if_pos rfl]
  unfold El.stepA
  by_cases e : i = c
  · rw [if_neg (by omega), if_pos e, if_pos e]
  · rw [if_pos ⟨hi, e⟩, if_neg e, if_neg e, if_neg e]
theorem elO_zero_iff {y : Int} (h : In8 y) : elO y = 0 ↔ y = 0 := ⟨fun e => elO_inj h ⟨by omega, by omega⟩ (e.trans elO_zero.symm), fun e => by rw [e]; exact elO_zero⟩
theorem findP_some {n : Nat} {a : List (List Int)} {c : Nat} (ha : Sh n n a) (hc : c < n) : ∀ {d s r : Nat}, s + d = n → findP a c d s = some r → s ≤ r ∧ r < n ∧ fn a r c ≠ 0
 | 0, s, r, _, h => by simp [findP] at h
 | d + 1, s, r, hs, h => by
  obtain ⟨_, y, _, _, hy8, hf, hr⟩ := fn_in ha (show s < n by omega) hc
  unfold findP at h
  rw [hr] at h
  split at h
  · have := findP_some ha hc (by omega) h; exact ⟨by omega, this.2⟩
  · rename_i hne
    injection h with h
    subst h
    exact ⟨Nat.le_refl _, by omega, fun e => hne ((elO_zero_iff hy8).1 (hf.symm.trans e))⟩
theorem findP_none {n : Nat} {a : List (List Int)} {c : Nat} (ha : Sh n n a) (hc : c < n) : ∀ {d s : Nat}, s + d = n → findP a c d s = none → ∀ i, s ≤ i → i < n → fn a i c = 0
 | 0, s, _, _, i, h1, h2 => by omega
 | d + 1, s, hs, h, i, h1, h2 => by
  obtain ⟨_, y, _, _, hy8, hf, hr⟩ := fn_in ha (show s < n by omega) hc
  unfold findP at h
  rw [hr] at h
  split at h
  · rename_i hz
    by_cases e : i = s
    · rw [e, hf, hz]; exact elO_zero
    · exact findP_none ha hc (by omega) h i (by omega) h2
  · cases h
theorem sw_c (c r : Nat) : El.sw c r c = r := by unfold El.sw; rw [if_pos rfl]
theorem dot_congr {n : Nat} {A B : Nat → Nat → El} (h : ∀ i j, i < n → j < n → A i j = B i j) (Y : Nat → El) (i : Nat) (hi : i < n) : El.dot n A Y i = El.dot n B Y i := El.sum_congr fun j hj => by rw [h i j hi hj]
theorem U_congr {n c : Nat} {A B : Nat → Nat → El} (hc : c ≤ n) (h : ∀ i j, i < n → j < n → A i j = B i j) (hu : El.U n c A) : El.U n c B := fun i j hi hj => by rw [← h i j hi (by omega)]; exact hu i j hi hj
theorem cols_spec {n nx : Nat} : ∀ (d c : Nat) (q : List (List Int) × List (List Int)), c + d = n → Sh n n q.1 → Sh n nx q.2 → El.U n c (fn q.1) →
    (match cols n d c q with
     | none => ∃ Y : Nat → El, (∃ i, i < n ∧ Y i ≠ 0) ∧ ∀ i, i < n → El.dot n (fn q.1) Y i = 0
     | some l => Sh n nx l ∧ ∀ (Y : Nat → El) (k : Nat), k < nx → ((∀ i, i < n → El.dot n (fn q.1) Y i = fn q.2 i k) ↔ ∀ i, i < n → Y i = fn l i k))
 | 0, c, q, hd, ha, hx, hu => by
  obtain rfl : c = n := by omega
  show Sh c nx q.2 ∧ _
  refine ⟨hx, fun Y k hk => ?_⟩
  constructor
  · intro h i hi; rw [← h i hi, El.dot_unit hu Y i hi]
  · intro h i hi; rw [El.dot_unit hu Y i hi, h i hi]
 | d + 1, c, q, hd, ha, hx, hu => by
  have hc : c < n := by omega
  cases hf : findP q.1 c (n - c) c with
  | none =>
   rw [cols_none hf]
   have h0 := findP_none ha hc (by omega) hf
   obtain ⟨Y, hY, hk⟩ := El.kernel hu hc h0
   exact ⟨Y, ⟨c, hc, hY⟩, hk⟩
  | some r =>
   rw [cols_some hf]
   obtain ⟨hcr, hr, hne⟩ := findP_some ha hc (by omega) hf
   obtain ⟨sa, sx⟩ := clearsF_sh (ha.swap hc hr) (hx.swap hc hr) hc
   obtain ⟨fa, fx⟩ := fn_clears ha hx hc hr
   have hp : fn q.1 (El.sw c r c) c ≠ 0 := by rw [sw_c]; exact hne
   have hu2 : El.U n (c + 1) (fn (q0p n c (swapL q.1 c r) (swapL q.2 c r)).1) := U_congr (by omega) (fun i j hi hj => (fa i j hi hj).symm) (El.U_step hu hcr hr hp)
   have ih := cols_spec (nx := nx) d (c + 1) (q0p n c (swapL q.1 c r) (swapL q.2 c r)) (by omega) sa sx hu2
   generalize cols n d (c + 1) (q0p n c (swapL q.1 c r) (swapL q.2 c r)) = R at ih
   cases R with
   | none =>
    obtain ⟨Y, hY, hk⟩ := ih
    refine ⟨Y, hY, ?_⟩
    have h1 := (El.step_sat n c r hc hr (fn q.1) (fun _ _ => 0) 0 Y hp).1 (fun i hi => by
     rw [← dot_congr fa Y i hi, hk i hi]
     unfold El.stepA
     split
     · exact (El.zero_mul _).symm
     · rw [El.zero_mul, El.mul_zero, El.add_zero])
    exact h1
   | some l =>
    obtain ⟨hs, hk⟩ := ih
    refine ⟨hs, fun Y k hkn => ?_⟩
    rw [← hk Y k hkn, ← El.step_sat n c r hc hr (fn q.1) (fn q.2) k Y hp]
    constructor
    · intro h i hi; rw [dot_congr fa Y i hi, h i hi, fx i k hi hkn]
    · intro h i hi; rw [← dot_congr fa Y i hi, h i hi, fx i k hi hkn]
theorem solve_spec {n nx : Nat} {m v : List (List Int)} (hm : Sh n n m) (hv : Sh n nx v) :
    (match cols n n 0 (m, v) with
     | none => ∃ Y : Nat → El, (∃ i, i < n ∧ Y i ≠ 0) ∧ ∀ i, i < n → El.dot n (fn m) Y i = 0
     | some l => Sh n nx l ∧ ∀ (Y : Nat → El) (k : Nat), k < nx → ((∀ i, i < n → El.dot n (fn m) Y i = fn v i k) ↔ ∀ i, i < n → Y i = fn l i k)) := cols_spec n 0 (m, v) (by omega) hm hv (fun i j _ hj => by omega)
theorem eq_of_fn {n m : Nat} {a b : List (List Int)} (ha : Sh n m a) (hb : Sh n m b) (h : ∀ i j, i < n → j < m → fn a i j = fn b i j) : a = b := by
 apply List.ext_getElem?
 intro i
 by_cases hi : i < n
 ·
  obtain ⟨r, h1, h2, h3⟩ := ha.at_ hi
  obtain ⟨s, g1, g2, g3⟩ := hb.at_ hi
  rw [h1, g1]
  congr 1
  apply List.ext_getElem?
  intro j
  by_cases hj : j < m
  ·
   have e1 := List.getElem?_eq_getElem (show j < r.length by omega)
   have e2 := List.getElem?_eq_getElem (show j < s.length by omega)
   rw [e1, e2]
   congr 1
   have := h i j hi hj
   rw [fn_at h1 e1, fn_at g1 e2] at this
   exact elO_inj (h3 _ (List.getElem_mem _)) (g3 _ (List.getElem_mem _)) this
  · rw [List.getElem?_eq_none (by omega), List.getElem?_eq_none (by omega)]
 · rw [List.getElem?_eq_none (by rw [ha.len]; omega), List.getElem?_eq_none (by rw [hb.len]; omega)]
end Go.Proofs.Ytdhajlkiiphlfaa.Solve
namespace Go.Proofs.Ytdhajlkiiphlfaa.Cau
open Go.RowKit Go.Proofs.Ytdhajlkiiphlfaa.QB Go.Proofs.YtdhajlkiiphlfaaW.PrintWords Go.Proofs.YtdhajlkiiphlfaaW.PrintLast
open Go.Proofs.Ytdhajlkiiphlfaa.Math Go.Proofs.Ytdhajlkiiphlfaa.Solve Go.Proofs.Ytdhajlkiiphlfaa.Bits
theorem rowQ {l : List (List Int)} {j : Nat} {r : List Int} (h : l[j]? = some r) : rd_L2 l (j : Int) = r := by unfold rd_L2; rw [Int.toNat_natCast, List.getD_eq_getElem?_getD, h]; rfl
theorem Sh.snoc {n m : Nat} {l : List (List Int)} (h : Sh n m l) {r : List Int} (h1 : r.length = m) (h2 : ∀ y ∈ r, In8 y) : Sh (n + 1) m (l ++ [r]) := by
 refine ⟨by rw [List.length_append, h.len]; rfl, fun q hq => ?_, fun q hq => ?_⟩
 · rcases List.mem_append.1 hq with hq | hq
   · exact h.row q hq
   · rw [List.mem_singleton] at hq; subst hq; exact h1
 · rcases List.mem_append.1 hq with hq | hq
   · exact h.el q hq
   · rw [List.mem_singleton] at hq; subst hq; exact h2
theorem Sh.nil {m : Nat} : Sh 0 m [] := ⟨rfl, (fun _ h => nomatch h), (fun _ h => nomatch h)⟩
theorem rep_in (w : Nat) : ∀ y ∈ List.replicate w (0 : Int), In8 y := fun y hy => by rw [List.eq_of_mem_replicate hy]; exact ⟨by omega, by omega⟩
theorem set_in {l : List Int} (h : ∀ y ∈ l, In8 y) (i : Nat) {x : Int} (hx : In8 x) : ∀ y ∈ l.set i x, In8 y := fun y hy => (List.mem_or_eq_of_mem_set hy).elim (h y) (fun e => e ▸ hx)
theorem w1 (j : Nat) (h : j ≤ 100000000) : wrap64 ((j : Int) + 1) = ((j + 1 : Nat) : Int) := by rw [w64 (by omega) (by omega)]; omega
theorem w255 (i : Nat) (h : i < 256) : wrap64 (255 - (i : Int)) % 256 = ((255 - i : Nat) : Int) := by rw [w64 (by omega) (by omega)]; omega
theorem mod256 (i : Nat) (h : i < 256) : (i : Int) % 256 = (i : Int) := by omega
theorem rd_set (l : List Int) (j c : Nat) (x : Int) (hj : j < l.length) : rd (l.set j x) (c : Int) = if c = j then x else rd l (c : Int) := by
 unfold rd
 rw [Int.toNat_natCast, List.getD_eq_getElem?_getD, List.getD_eq_getElem?_getD]
 by_cases e : c = j
 · subst e; rw [if_pos rfl, List.getElem?_set_self hj]; rfl
 · rw [if_neg e, List.getElem?_set_ne (Ne.symm e)]
theorem cauchy_l1 (C : Nat) (hC : C ≤ 256) (out : List (List Int)) (ho : out.length < 5864062014805) (i : Nat) (hi : i < 256) (R L : Int) : ∀ (d j k : Nat) (row : List Int), j + d = C → row.length = C → (∀ y ∈ row, In8 y) → (∀ c, c < j → rd row (c : Int) = invZ (xorZ ((255 - i : Nat) : Int) (c : Int))) → d + 20 < k →
    ∃ row', row'.length = C ∧ (∀ y ∈ row', In8 y) ∧ (∀ c, c < C → rd row' (c : Int) = invZ (xorZ ((255 - i : Nat) : Int) (c : Int))) ∧ field_Cauchy.l1 k L out (i : Int) row R (i : Int) (C : Int) (j : Int) = field_Cauchy.l0 (k - d - 1) L (out ++ [row']) R (wrap64 ((i : Int) + 1)) := by
 intro d
 induction d with
 | zero =>
  intro j k row hj hr h8 hs hk
  obtain ⟨k, rfl⟩ : ∃ m, k = m + 1 := ⟨k - 1, by omega⟩
  obtain rfl : j = C := by omega
  refine ⟨row, hr, h8, hs, ?_⟩
  rw [field_Cauchy.l1, if_neg (by omega), if_pos ho]
  rfl
 | succ d ih =>
  intro j k row hj hr h8 hs hk
  obtain ⟨k, rfl⟩ : ∃ m, k = m + 1 := ⟨k - 1, by omega⟩
  have hjC : j < C := by omega
  have c1 : (j : Int) < (C : Int) := by omega
  have e : k + 1 - (d + 1) - 1 = k - d - 1 := by omega
  have g2 : (0 : Int) ≤ (j : Int) := by omega
  have g3 : j + 1 + d = C := by omega
  have g4 : d + 20 < k := by omega
  have gk : 17 ≤ k := by omega
  have h255 : 255 - i < 256 := by omega
  have hj8 : j < 256 := by omega
  have hx : Go.bits .xor .u8 ((255 - i : Nat) : Int) (j : Int) = xorZ ((255 - i : Nat) : Int) (j : Int) := by
   unfold xorZ
   exact xor_u8 _ _ h255 hj8
  have hx8 : In8 (xorZ ((255 - i : Nat) : Int) (j : Int)) := xorZ_in (In8.of h255) (In8.of hj8)
  obtain ⟨row', p1, p2, p3, p4⟩ := ih (j + 1) k (row.set j (invZ (xorZ ((255 - i : Nat) : Int) (j : Int)))) g3 (by rw [List.length_set]; exact hr) (set_in h8 _ (invZ_in hx8)) (fun c hc => by
   rw [rd_set _ _ _ _ (by omega)]
   by_cases ec : c = j
   · rw [if_pos ec, ec]
   · rw [if_neg ec]; exact hs c (by omega)) g4
  refine ⟨row', p1, p2, p3, ?_⟩
  have c2 := w1 j (by omega)
  have c3 := w255 i hi
  have c4 := mod256 j hj8
  rw [field_Cauchy.l1, if_pos c1, c3, c4, hx, Inv_z hx8 gk, Option.bind_some, if_pos g2, if_pos (by rw [hr]; exact c1), c2, Int.toNat_natCast, p4, e]
theorem cauchy_l0 (R C : Nat) (hR : R + C ≤ 256) : ∀ (d i k : Nat) (out : List (List Int)), i + d = R → Sh i C out → (∀ a c, a < i → c < C → rd (rd_L2 out (a : Int)) (c : Int) = invZ (xorZ ((255 - a : Nat) : Int) (c : Int))) → 300 * d + 300 ≤ k →
    ∃ m, field_Cauchy.l0 k (C : Int) out (R : Int) (i : Int) = some (m, 0) ∧ Sh R C m ∧ (∀ a c, a < R → c < C → rd (rd_L2 m (a : Int)) (c : Int) = invZ (xorZ ((255 - a : Nat) : Int) (c : Int))) := by
 intro d
 induction d with
 | zero =>
  intro i k out hi ho hs hk
  obtain ⟨k, rfl⟩ : ∃ m, k = m + 1 := ⟨k - 1, by omega⟩
  obtain rfl : i = R := by omega
  refine ⟨out, ?_, ho, hs⟩
  rw [field_Cauchy.l0, if_neg (by omega)]
 | succ d ih =>
  intro i k out hi ho hs hk
  obtain ⟨k, rfl⟩ : ∃ m, k = m + 1 := ⟨k - 1, by omega⟩
  have c0 : 300 * d + 300 ≤ k - C - 1 := by omega
  have c1 : (i : Int) < (R : Int) := by omega
  have c4 : (0 : Int) ≤ (C : Int) := by omega
  have g1 : i + 1 + d = R := by omega
  have c3 : (C : Int).toNat ≤ 281474976710656 := by rw [Int.toNat_natCast]; omega
  obtain ⟨row, r1, r2, r3, r4⟩ := cauchy_l1 C (by omega) out (by rw [ho.len]; omega) i (by omega) (R : Int) (C : Int) C 0 k (List.replicate C 0) (Nat.zero_add C) List.length_replicate (rep_in C) (fun c hc => by omega) (by omega)
  have ho2 := Sh.snoc ho r1 r2
  obtain ⟨m, m1, m2, m3⟩ := ih (i + 1) (k - C - 1) (out ++ [row]) g1 ho2 (fun a c ha hc => by
   by_cases e : a = i
   · have hg : (out ++ [row])[a]? = some row := by rw [e, List.getElem?_append_right (by rw [ho.len]; exact Nat.le_refl _), ho.len, Nat.sub_self]; rfl
     rw [rowQ hg, r3 c hc, e]
   · obtain ⟨ra, h1, _, _⟩ := ho.at_ (show a < i by omega)
     have hg : (out ++ [row])[a]? = some ra := by rw [List.getElem?_append_left (by rw [ho.len]; omega)]; exact h1
     have := hs a c (by omega) hc
     rw [rowQ h1] at this
     rw [rowQ hg, this]) c0
  refine ⟨m, ?_, m2, m3⟩
  have c2 := w1 i (by clear r4 r3; omega)
  rw [field_Cauchy.l0, if_pos c1, if_pos c4, if_pos c3, Int.toNat_natCast, Option.bind_some, List.length_replicate]
  have r5 := r4
  rw [show ((0 : Nat) : Int) = 0 from rfl] at r5
  rw [r5, c2, m1]
theorem cauchy_f (R C : Nat) (h1 : 1 ≤ R) (h2 : 1 ≤ C) (hR : R + C ≤ 256) (k : Nat) (hk : 80000 ≤ k) :
    ∃ m, field_Cauchy.f k (R : Int) (C : Int) = some (m, 0) ∧ Sh R C m ∧ (∀ a c, a < R → c < C → rd (rd_L2 m (a : Int)) (c : Int) = invZ (xorZ ((255 - a : Nat) : Int) (c : Int))) := by
 obtain ⟨m, m1, m2, m3⟩ := cauchy_l0 R C hR R 0 (k - 1) [] (by omega) Sh.nil (fun a c ha => by omega) (by omega)
 refine ⟨m, ?_, m2, m3⟩
 have hw : wrap64 ((R : Int) + (C : Int)) = ((R + C : Nat) : Int) := by rw [w64 (by omega) (by omega)]; omega
 unfold field_Cauchy.f
 rw [hw, if_neg (by clear hw; omega), if_neg (by clear hw; omega), if_neg (by clear hw; omega), if_neg (by clear hw; omega), decide_eq_false (by clear hw; omega)]
 obtain ⟨k, rfl⟩ : ∃ m, k = m + 1 := ⟨k - 1, by clear hw; omega⟩
 rw [field_Cauchy.j0, if_neg (by decide)]
 exact m1
theorem solved (K : Nat) (a b : Nat → El) (ha : ∀ i j, i < K → j < K → i ≠ j → a i ≠ a j) (hb : ∀ i j, i < K → j < K → i ≠ j → b i ≠ b j) (hab : ∀ i j, i < K → j < K → a i ≠ b j)
    (P W : List (List Int)) (hP : Sh K K P) {nx : Nat} (hW : Sh K nx W) (hv : ∀ i j, i < K → j < K → fn P i j = (a i + b j).inv) : ∃ y, cols K K 0 (P, W) = some y ∧ Sh K nx y ∧ ∀ i c, i < K → c < nx → El.sum K (fun t => fn P i t * fn y t c) = fn W i c := by
 have sp := solve_spec hP hW
 cases hc : cols K K 0 (P, W) with
 | none =>
  rw [hc] at sp
  obtain ⟨Y, ⟨i, hi, hY⟩, hk⟩ := sp
  exact absurd (El.cauchy_kernel K a b Y ha hb hab (fun i hi => by
   have := hk i hi
   unfold El.dot at this
   rw [← this]
   exact El.sum_congr fun j hj => by rw [hv i j hi hj, El.mul_comm]) i hi) hY
 | some y =>
  rw [hc] at sp
  exact ⟨y, rfl, sp.1, fun i c hi hcc => (sp.2 (fun t => fn y t c) c hcc).2 (fun _ _ => rfl) i hi⟩
end Go.Proofs.Ytdhajlkiiphlfaa.Cau
namespace Go.Proofs.Ytdhajlkiiphlfaa.Par
open Go.RowKit Go.Proofs.Ytdhajlkiiphlfaa.QB Go.Proofs.YtdhajlkiiphlfaaW.PrintWords Go.Proofs.YtdhajlkiiphlfaaW.PrintLast Go.Proofs.YtdhajlkiiphlfaaW.PrintMore
def up (ls : List Nat) : List Int := ls.map (fun (k : Nat) => (k : Int))
theorem q27 (ls : List Nat) : (up ls).length = ls.length := by unfold up; simp
theorem up_rd (ls : List Nat) {i : Nat} (hi : i < ls.length) : rd (up ls) (i : Int) = ((ls[i] : Nat) : Int) := by
 unfold rd up; simp [List.getD_eq_getElem?_getD, hi]
theorem take_sum (ls : List Nat) {i : Nat} (hi : i < ls.length) : (ls.take (i + 1)).sum = (ls.take i).sum + ls[i] := by
 rw [List.take_succ_eq_append_getElem hi, List.sum_append_nat]; rfl
theorem drop_sum (ls : List Nat) {i : Nat} (hi : i < ls.length) : (ls.drop i).sum = ls[i] + (ls.drop (i + 1)).sum := by
 rw [List.drop_eq_getElem_cons hi, List.sum_cons]
theorem take_drop_sum (ls : List Nat) (i : Nat) : (ls.take i).sum + (ls.drop i).sum = ls.sum := by
 rw [← List.sum_append_nat, List.take_append_drop]
structure Cu (w : World) (base g b : Nat) (m : List (List Int)) : Prop where
 hg : base ≤ g
 hb : base ≤ b
 ne : g ≠ b
 few : m.length ≤ 1000
 many : m.flatten.length ≤ 281474976710656
 data : w.heap[b]? = some (.cells (m.flatten.map (Value.int .u8)).toArray 5 (0, 0))
 heads : ∃ hs : List Value, w.heap[g]? = some (.cells hs.toArray 41 (0, 0)) ∧ hs.length = m.length ∧ ∀ (i : Nat) (r : List Int), m[i]? = some r → ∃ o : Nat, hs[i]? = some (Value.slice (some ⟨b, o, none⟩) r.length r.length) ∧ o ≤ m.flatten.length ∧ (0 < r.length → o = ((m.take i).flatten).length)
structure Cing (w0 w : World) (g b : Nat) (ls : List Nat) (i : Nat) : Prop where
 below : Below w0.heap.size w0 w
 hg : w0.heap.size ≤ g
 hb : w0.heap.size ≤ b
 ne : g ≠ b
 data : w.heap[b]? = some (.cells (List.replicate ls.sum (Value.int .u8 0)).toArray 5 (0, 0))
 heads : ∃ hs : List Value, w.heap[g]? = some (.cells hs.toArray 41 (0, 0)) ∧ hs.length = ls.length ∧ ∀ (j k : Nat), j < i → ls[j]? = some k → ∃ o : Nat, hs[j]? = some (Value.slice (some ⟨b, o, none⟩) k k) ∧ o ≤ ls.sum ∧ (0 < k → o = (ls.take j).sum)
theorem Cing.put {w0 w : World} {g b : Nat} {ls : List Nat} {i : Nat} (h : Cing w0 w g b ls i) (hi : i < ls.length) {o : Nat} (ho : o ≤ ls.sum) (hA : 0 < ls[i] → o = (ls.take i).sum) :
    (∃ u, w.cell? ⟨g, i, none⟩ = some u) ∧ w.frozen? ⟨g, i, none⟩ = false ∧ Cing w0 (w.setCell ⟨g, i, none⟩ (.slice (some ⟨b, o, none⟩) ls[i] ls[i])) g b ls (i + 1) := by
 obtain ⟨hs, hh, hl, hx⟩ := h.heads
 refine ⟨⟨hs[i], by rw [q0h hh]; simp [hl, hi]⟩, q1q hh i, ⟨q0m h.below h.hg, h.hg, h.hb, h.ne, blk_far h.data (by exact (Ne.symm h.ne)) _, hs.set i (.slice (some ⟨b, o, none⟩) ls[i] ls[i]), by rw [q23 hh]; simp, by simp [hl], fun j k hj hk => ?_⟩⟩
 by_cases e : j = i
 · subst e
   rw [List.getElem?_eq_getElem hi] at hk
   obtain rfl := Option.some.inj hk
   exact ⟨o, by rw [List.getElem?_set_self (by omega)], ho, hA⟩
 · obtain ⟨o', h1, h2⟩ := hx j k (by omega) hk
   exact ⟨o', by rw [List.getElem?_set_ne (Ne.symm e)]; exact h1, h2⟩
theorem Cing.done {w0 w : World} {g b : Nat} {ls : List Nat} (h : Cing w0 w g b ls ls.length) (hn : ls.length ≤ 1000) (hs0 : ls.sum ≤ 281474976710656) : Cu w w0.heap.size g b (ls.map fun k => List.replicate k (0 : Int)) := by
 have hfl : ∀ l : List Nat, (l.map fun k => List.replicate k (0 : Int)).flatten = List.replicate l.sum 0 := by
  intro l
  induction l with
  | nil => rfl
  | cons a l ih => simp [ih, List.replicate_append_replicate]
 obtain ⟨hs, hh, hl, hx⟩ := h.heads
 refine ⟨h.hg, h.hb, h.ne, by rw [List.length_map]; exact hn, by rw [hfl, List.length_replicate]; exact hs0, by rw [hfl]; simpa using h.data, hs, hh, by simp [hl], fun i r hr => ?_⟩
 rw [List.getElem?_map] at hr
 obtain ⟨k, hk, rfl⟩ := Option.map_eq_some_iff.1 hr
 have hi : i < ls.length := (List.getElem?_eq_some_iff.1 hk).1
 obtain ⟨o, h1, h3, h2⟩ := hx i k hi hk
 refine ⟨o, by simpa using h1, by rw [hfl, List.length_replicate]; exact h3, fun hp => ?_⟩
 rw [h2 (by simpa using hp), ← List.map_take, hfl]
 simp
theorem info41' : (Try.prog.info? 41).map (fun i => (i.zero, i.size, i.bytes)) = some (some (.slice none 0 0), 1, 24) := by kernel_rfl
theorem info5' : (Try.prog.info? 5).map (fun i => (i.zero, i.size, i.bytes)) = some (some (.int .u8 0), 1, 1) := by kernel_rfl
theorem elem41 : Try.prog.underlying 41 = some (.slice (Try.prog.elem 41)) := by kernel_rfl
theorem cut_lm (a : Option Addr) (n m c : Nat) (h1 : n ≤ c) (W : World) : (Instr.sliceAt 41 (.slice a m c) none (some (.int .i64 (n : Int))) (some (.int .i64 (n : Int)))).run Try.prog W = .ok (.slice a n n) W := by
 rw [run_sliceAt_slice W 41 _ _ _ _ elem41, run_slice_hm W 41 a m c elem41 .i64 .i64 n n (by omega) (by omega) (by omega)]
 have hs : ((sizeOf (Try.prog.elem 41)).run Try.prog W) = .ok 1 W := by kernel_rfl
 simp only [hs, Result.andThen, sliced, Int.toNat_natCast, Nat.sub_zero]
 refine congrArg (fun z => Result.ok (Value.slice z n n) W) ?_
 split
 · rfl
 · cases a <;> rfl
theorem cut_h (a : Option Addr) (n m c : Nat) (h1 : n ≤ c) (W : World) : (Instr.sliceAt 41 (.slice a m c) none (some (.int .i64 (n : Int))) none).run Try.prog W = .ok (.slice a n c) W := by
 rw [run_sliceAt_slice W 41 _ _ _ _ elem41, run_slice_h W 41 a m c elem41 .i64 n (by omega) (by omega)]
 have hs : ((sizeOf (Try.prog.elem 41)).run Try.prog W) = .ok 1 W := by kernel_rfl
 simp only [hs, Result.andThen, sliced, Int.toNat_natCast, Nat.sub_zero]
 refine congrArg (fun z => Result.ok (Value.slice z n c) W) ?_
 split
 · rfl
 · cases a <;> rfl
theorem cut_l (a : Option Addr) (n c : Nat) (h1 : n ≤ c) (W : World) : (Instr.sliceAt 41 (.slice a c c) (some (.int .i64 (n : Int))) none none).run Try.prog W = .ok (.slice (if n = c then a else a.map (·.add n)) (c - n) (c - n)) W := by
 rw [run_sliceAt_slice W 41 _ _ _ _ elem41, run_slice_l W 41 a c c elem41 .i64 n (by omega) (by omega)]
 have hs : ((sizeOf (Try.prog.elem 41)).run Try.prog W) = .ok 1 W := by kernel_rfl
 simp only [hs, Result.andThen, sliced, Int.toNat_natCast, Nat.mul_one, eq_comm]
theorem made_rep (v : Value) (n : Nat) : madeCells #[v] n = (List.replicate n v).toArray := by
 apply Array.ext
 · simp [madeCells]
 · intro i h1 h2; simp [madeCells, Nat.mod_one]
theorem size_alloc' (w : World) (o : Obj) : (w.alloc o).heap.size = w.heap.size + 1 := by simp
theorem meas {n i : Nat} {x : Int} (h : x = ((i + 1 : Nat) : Int)) (hl : i < n) : n - (intOf (.int .i64 x)).toNat < n - (intOf (.int .i64 (i : Int))).toNat := by subst h; simp only [intOf, Int.toNat_natCast]; omega
theorem wr1 {i n : Nat} (h : i < n) (hn : n ≤ 140737488355328) : wrap64 ((i : Int) + 1) = ((i + 1 : Nat) : Int) := by unfold wrap64; omega
theorem wrs {a b : Nat} (h : a + b ≤ 4611686018427387904) : wrap64 ((a : Int) + (b : Int)) = ((a + b : Nat) : Int) := by unfold wrap64; omega
set_option maxHeartbeats 400000 in
set_option maxRecDepth 100000 in
theorem cut_calls (A0 : Option Addr) (c0 : Nat) (ls : List Nat) (w : World) (hr0 : Kd.C (Kd.int .i64) w A0 ls.length (up ls)) (hn : ls.length ≤ 1000) (hs : ls.sum ≤ 281474976710656) :
    Calls Try.prog 32 #[.slice A0 ls.length c0] w fun e w' => ∃ g b, e = .returned (.slice (some ⟨g, 0, none⟩) ls.length ls.length) ∧ Cu w' w.heap.size g b (ls.map fun k => List.replicate k (0 : Int)) ∧ Below w.heap.size w w' := by
 have HR0 := sqM hr0
 have HN := sqM hn
 have HS := sqM hs
 clear hr0 hn hs
 go_enter Try.func32, Try.ntmps32
 go_wp2
 go_loopw [3, 12] (fun v3 v12 wr => ∃ i : Nat, i ≤ ls.length ∧ v12 = .int .i64 (i : Int) ∧ v3 = .int .i64 (((ls.take i).sum : Nat) : Int) ∧ Aside0 (Below w.heap.size w wr)) (fun _ v12 _ => ls.length - (intOf v12).toNat)
 case atStart => exact ⟨0, Nat.zero_le _, rfl, rfl, ⟨by repeat (first | (with_reducible (exact Below.refl _ _)))⟩⟩
 case round =>
  obtain ⟨i, hi, rfl, rfl, HB⟩ := hrel
  by_cases hlt : i < ls.length
  ·
   obtain ⟨ad, rfl, hx⟩ := Kd.at_int HR0.out (i : Int) (by omega) (by omega)
   rw [up_rd ls hlt, Int.toNat_natCast] at hx
   replace hx := (HB.out.cell (World.block_lt_of_cell? w _ hx)).trans hx
   have hw1 := wr1 hlt (by have := HN.out; omega)
   have hts := take_sum ls hlt
   have htd := take_drop_sum ls (i + 1)
   have hw2 : wrap64 (((((ls.take i).sum : Nat) : Int)) + ((ls[i] : Nat) : Int)) = (((ls.take (i + 1)).sum : Nat) : Int) := by
    rw [hts]; exact wrs (by have := HS.out; omega)
   have HW1 := sqM hw1
   have HW2 := sqM hw2
   have HLT := sqM hlt
   clear hts htd hw1 hw2
   go_wp2
   go_roundw
   case rel => exact ⟨i + 1, HLT.out, by rw [HW1.out], by rw [HW2.out], HB⟩
   case measure => exact meas HW1.out HLT.out
  ·
   obtain rfl : i = ls.length := by omega
   rw [List.take_length]
   have hmk := print_make_of (P := Try.prog) 41 5 (.int .u8 0) 1 Try.underlying41 info5' rfl (by decide) ls.sum (by have := HS.out; omega)
   have hmk2 := print_make_of (P := Try.prog) 35 41 (.slice none 0 0) 24 Try.underlying35 info41' rfl (by decide) ls.length (by have := HN.out; omega)
   go_wp2
   clear hmk hmk2
   have HCI : Aside0 (Cing w ((wr.alloc (Obj.cells (madeCells #[Value.int IntKind.u8 0] ls.sum) 5)).alloc (Obj.cells (madeCells #[Value.slice none 0 0] ls.length) 41)) (wr.heap.size + 1) wr.heap.size ls 0) := by
    refine ⟨⟨q02 (q02 HB.out _) _, by have := q01 HB.out; omega, q01 HB.out, by omega, ?_, (madeCells #[Value.slice none 0 0] ls.length).toList, ?_, ?_, fun j k hj => absurd hj (by omega)⟩⟩
    · refine (q1v (q0z _ _) _).trans ?_
      rw [made_rep]
    · have h2 := q0z (wr.alloc (Obj.cells (madeCells #[Value.int IntKind.u8 0] ls.sum) 5)) (Obj.cells (madeCells #[Value.slice none 0 0] ls.length) 41)
      rw [size_alloc'] at h2
      rw [h2, Array.toArray_toList]
    · rw [made_rep]; simp
   generalize ((wr.alloc (Obj.cells (madeCells #[Value.int IntKind.u8 0] ls.sum) 5)).alloc (Obj.cells (madeCells #[Value.slice none 0 0] ls.length) 41)) = W2 at HCI ⊢
   generalize wr.heap.size + 1 = g at HCI ⊢
   generalize wr.heap.size = b at HCI ⊢
   clear HB
   go_loopw [6, 27] (fun v6 v27 wr => ∃ (i o : Nat), i ≤ ls.length ∧ v27 = .int .i64 (i : Int) ∧ v6 = .slice (some ⟨b, o, none⟩) (ls.drop i).sum (ls.drop i).sum ∧ Aside0 (o ≤ ls.sum) ∧ Aside0 (0 < (ls.drop i).sum → o = (ls.take i).sum) ∧ Aside0 (Cing w wr g b ls i)) (fun _ v27 _ => ls.length - (intOf v27).toNat)
   case atStart => exact ⟨0, 0, Nat.zero_le _, rfl, rfl, ⟨Nat.zero_le _⟩, ⟨fun _ => rfl⟩, HCI⟩
   case round =>
    clear HCI
    obtain ⟨i, o, hi, rfl, rfl, HLE, HO, HCI⟩ := hrel
    by_cases hlt : i < ls.length
    ·
     obtain ⟨ad', ead, hx⟩ := Kd.at_int HR0.out (i : Int) (by omega) (by omega)
     cases ead
     rw [up_rd ls hlt, Int.toNat_natCast] at hx
     replace hx := (HCI.out.below.cell (World.block_lt_of_cell? w _ hx)).trans hx
     have hds := drop_sum ls hlt
     have hA : 0 < ls[i] → o = (ls.take i).sum := fun hp => HO.out (by omega)
     obtain ⟨⟨u, hu⟩, hf, hput⟩ := HCI.out.put hlt HLE.out hA
     have HPUT := sqM hput
     have HW1 := sqM (wr1 hlt (by have := HN.out; omega))
     have HLT := sqM hlt
     have hc1 := cut_lm (some ⟨b, o, none⟩) ls[i] (ls.drop i).sum (ls.drop i).sum (by omega)
     have hc2 := cut_l (some ⟨b, o, none⟩) ls[i] (ls.drop i).sum (by omega)
     have htd := take_drop_sum ls i
     obtain ⟨o', ho', ho3, ho2⟩ : ∃ o', (if ls[i] = (ls.drop i).sum then some (⟨b, o, none⟩ : Addr) else (some (⟨b, o, none⟩ : Addr)).map (·.add ls[i])) = some ⟨b, o', none⟩ ∧ o' ≤ ls.sum ∧ (0 < (ls.drop (i + 1)).sum → o' = (ls.take (i + 1)).sum) := by
      by_cases he : ls[i] = (ls.drop i).sum
      · exact ⟨o, if_pos he, HLE.out, fun hp => by omega⟩
      · refine ⟨o + ls[i], by rw [if_neg he]; simp [Addr.add], by have := HO.out (by omega); omega, fun hp => ?_⟩
        rw [take_sum ls hlt, HO.out (by omega)]
     rw [ho', show (ls.drop i).sum - ls[i] = (ls.drop (i + 1)).sum by omega] at hc2
     have HO2 := sqM ho2
     have HO3 := sqM ho3
     clear hA hput ho' ho2 ho3 hds htd
     go_wp2
     go_roundw
     case rel => exact ⟨i + 1, o', HLT.out, by rw [HW1.out], rfl, HO3, HO2, ⟨by exact HPUT.out⟩⟩
     case measure => exact meas HW1.out HLT.out
    · obtain rfl : i = ls.length := by omega
      have HCU := sqM (HCI.out.done HN.out HS.out)
      have HB := sqM HCI.out.below
      clear HCI HO
      go_wp2
      go_ret
      exact ⟨_, _, rfl, HCU.out, HB.out⟩
theorem cut_calls' (A0 : Option Addr) (c0 n : Nat) (ls : List Nat) (hnl : ls.length = n) (w : World) (hr0 : Kd.C (Kd.int .i64) w A0 n (up ls)) (hn : n ≤ 1000) (hs : ls.sum ≤ 281474976710656) :
    Calls Try.prog 32 #[.slice A0 n c0] w fun e w' => ∃ g b, e = .returned (.slice (some ⟨g, 0, none⟩) n n) ∧ Cu w' w.heap.size g b (ls.map fun k => List.replicate k (0 : Int)) ∧ Below w.heap.size w w' := by
 subst hnl; exact cut_calls A0 c0 ls w hr0 hn hs
end Go.Proofs.Ytdhajlkiiphlfaa.Par
namespace Go.Proofs.Ytdhajlkiiphlfaa.Par
open Go.RowKit Go.Proofs.Ytdhajlkiiphlfaa.QB Go.Proofs.YtdhajlkiiphlfaaW.PrintWords Go.Proofs.YtdhajlkiiphlfaaW.PrintLast Go.Proofs.YtdhajlkiiphlfaaW.PrintMore Go.Proofs.Ytdhajlkiiphlfaa.Solve
def z256 : List Int := List.replicate 256 0
def q18 (l : List Int) : Array Value := (l.map (Value.int .u8)).toArray
theorem bytesV_set (l : List Int) (i : Nat) (v : Int) : (q18 l).setIfInBounds i (.int .u8 v) = q18 (l.set i v) := by
 unfold q18; rw [List.setIfInBounds_toArray, List.map_set]
theorem bytesV_get (l : List Int) (i : Nat) : (q18 l)[i]? = l[i]?.map (Value.int .u8) := by simp [q18]
def tabL (b : Int) (k : Nat) : List Int := (List.range 256).map fun i => if i < k then mulZ b (i : Int) else 0
theorem tabL_0 (b : Int) : tabL b 0 = z256 := by
 unfold tabL z256
 simp [List.map_const']
theorem tabL_get (b : Int) (k i : Nat) (hi : i < 256) (hk : i < k) : (tabL b k)[i]? = some (mulZ b (i : Int)) := by
 unfold tabL; rw [List.getElem?_map, List.getElem?_range hi]; simp [hk]
theorem tabL_length (b : Int) (k : Nat) : (tabL b k).length = 256 := by simp [tabL]
theorem tabL_set (b : Int) (k : Nat) : (tabL b k).set k (mulZ b (k : Int)) = tabL b (k + 1) := by
 unfold tabL
 apply List.ext_getElem
 · simp
 ·
  intro i h1 h2
  simp only [List.getElem_set, List.getElem_map, List.getElem_range]
  by_cases e : k = i
  · subst e; rw [if_pos rfl, if_pos (by omega)]
  · rw [if_neg e]
    by_cases h : i < k
    · rw [if_pos h, if_pos (by omega)]
    · rw [if_neg h, if_neg (by omega)]
theorem wpList_alloc88 {ops : Array Oper} {rest : List Oper} {o : Oper} {a : Act} {w : World} {Q : Exit → Act → World → Prop} (hg : o.guard = none) (ho : o.op = .alloc 88) (d : Nat) (hd : o.dst = some d)
    (h : wpList Try.prog ops Q rest (a.put (some d) (.pointer (some ⟨w.heap.size, 0, none⟩))) (w.alloc (.cells (q18 z256) 88))) : wpList Try.prog ops Q (o :: rest) a w := by
 refine Great.wpList_runTo hg (some d) hd _ _ ?_ h
 unfold execOp
 rw [ho]
 kernel_rfl
def addAt (b : Int) : List Int → Nat → List Int → List Int
 | [], _, D => D
 | v :: l, o, D => addAt b l (o + 1) (D.set o (xorZ (D.getD o 0) (mulZ b v)))
theorem q1l (b : Int) : ∀ (l : List Int) (o : Nat) (D : List Int), (addAt b l o D).length = D.length
 | [], _, _ => rfl
 | v :: l, o, D => by rw [addAt, q1l b l]; simp
theorem addAt_in (b : Int) (hb : In8 b) : ∀ (l : List Int) (o : Nat) (D : List Int), (∀ y ∈ D, In8 y) → ∀ y ∈ addAt b l o D, In8 y
 | [], _, _, h => h
 | v :: l, o, D, h => by
  rw [addAt]
  refine addAt_in b hb l _ _ (fun y hy => ?_)
  rcases List.mem_or_eq_of_mem_set hy with h1 | rfl
  · exact h y h1
  · refine xorZ_in ?_ (mulZ_in hb)
    rw [List.getD_eq_getElem?_getD]
    by_cases hlt : o < D.length
    · rw [List.getElem?_eq_getElem hlt]; exact h _ (List.getElem_mem hlt)
    · rw [List.getElem?_eq_none (by omega)]; exact ⟨by decide, by decide⟩
theorem xor_u8 {x y : Int} (hx : In8 x) (hy : In8 y) : Go.bits .xor .u8 x y = xorZ x y := by
 obtain ⟨m, rfl, hm⟩ := hx.nat
 obtain ⟨n, rfl, hn⟩ := hy.nat
 exact Bits.xor_u8 m n hm hn
theorem take_one {α : Type} (l : List α) {i : Nat} (hi : i < l.length) : l.take (i + 1) = l.take i ++ [l[i]] := List.take_succ_eq_append_getElem hi
def addV (b : Int) : List Int → List Int → Nat → Array Value → Array Value
 | v :: l, y :: xs, o, D => addV b l xs (o + 1) (D.setIfInBounds o (.int .u8 (xorZ y (mulZ b v))))
 | _, _, _, D => D
theorem addV_snoc (b v y : Int) : ∀ (l xs : List Int) (o : Nat) (D : Array Value), l.length = xs.length → addV b (l ++ [v]) (xs ++ [y]) o D = (addV b l xs o D).setIfInBounds (o + l.length) (.int .u8 (xorZ y (mulZ b v)))
 | [], [], o, D, _ => by simp [addV]
 | x :: l, z :: xs, o, D, h => by
  rw [List.cons_append, List.cons_append, addV, addV, addV_snoc b v y l xs _ _ (by simpa using h)]
  simp only [List.length_cons]
  rw [show o + 1 + l.length = o + (l.length + 1) by omega]
theorem addV_get (b : Int) : ∀ (l xs : List Int) (o : Nat) (D : Array Value) (k : Nat), k < o ∨ o + l.length ≤ k → (addV b l xs o D)[k]? = D[k]?
 | [], _, _, _, _, _ => by simp [addV]
 | _ :: _, [], _, _, _, _ => by simp [addV]
 | v :: l, y :: xs, o, D, k, h => by
  rw [List.length_cons] at h
  rw [addV, addV_get b l xs (o + 1) _ k (by omega), Array.getElem?_setIfInBounds, if_neg (by omega)]
theorem addV_bytes (b : Int) : ∀ (l : List Int) (o : Nat) (D : List Int), o + l.length ≤ D.length → addV b l ((D.drop o).take l.length) o (q18 D) = q18 (addAt b l o D)
 | [], _, _, _ => by simp [addV, addAt]
 | v :: l, o, D, h => by
  rw [List.length_cons] at h
  rw [List.drop_eq_getElem_cons (by omega), List.length_cons, List.take_succ_cons, addV, addAt, bytesV_set, ← addV_bytes b l (o + 1) _ (by rw [List.length_set]; omega)]
  rw [List.drop_set_of_lt (by omega), List.getD_eq_getElem?_getD, List.getElem?_eq_getElem (by omega)]
  rfl
structure Adding (w0 w1 w : World) (g t : Nat) (D : Array Value) (b : Int) (k : Nat) : Prop where
 below : Below w0.heap.size w0 w
 kept : Kept w1 w (fun j => j = g)
 hg : w0.heap.size ≤ g
 glt : g < w1.heap.size
 ht : w1.heap.size ≤ t
 le : w0.heap.size ≤ w1.heap.size
 data : w.heap[g]? = some (.cells D 5 (0, 0))
 tab : w.heap[t]? = some (.cells (q18 (tabL b k)) 88 (0, 0))
namespace Adding
variable {w0 w1 w : World} {g t : Nat} {D : Array Value} {b : Int} {k : Nat}
theorem drewN (h : Adding w0 w1 w g t D b k) (n : Nat) : Adding w0 w1 (w.drewN n) g t D b k := ⟨q00 h.below n, h.kept.drewN n, h.hg, h.glt, h.ht, h.le, h.data, h.tab⟩
theorem drew (h : Adding w0 w1 w g t D b k) : Adding w0 w1 w.drew g t D b k := ⟨q06 h.below, h.kept.drew, h.hg, h.glt, h.ht, h.le, h.data, h.tab⟩
theorem tabCell (h : Adding w0 w1 w g t D b k) (i : Nat) : w.cell? ⟨t, i, none⟩ = (tabL b k)[i]?.map (Value.int .u8) := by rw [q0h h.tab, bytesV_get]
theorem tabCell' (h : Adding w0 w1 w g t D b k) (i : Nat) (hi : i < 256) : ∃ u, w.cell? ⟨t, i, none⟩ = some u := by
 rw [h.tabCell, List.getElem?_eq_getElem (by rw [tabL_length]; exact hi)]; exact ⟨_, rfl⟩
theorem tabSet (h : Adding w0 w1 w g t D b k) : Adding w0 w1 (w.setCell ⟨t, k, none⟩ (.int .u8 (mulZ b (k : Int)))) g t D b (k + 1) := by
 have := h.glt; have := h.ht; have := h.le
 refine ⟨q0m h.below (by omega), h.kept.setCell (.inr h.ht) _, h.hg, h.glt, h.ht, h.le, blk_far h.data (by show g ≠ t; omega) _, ?_⟩
 rw [q23 h.tab, bytesV_set, tabL_set]
theorem set (h : Adding w0 w1 w g t D b k) (i : Nat) (v : Value) : Adding w0 w1 (w.setCell ⟨g, i, none⟩ v) g t (D.setIfInBounds i v) b k := by
 have := h.glt; have := h.ht; have := h.hg
 exact ⟨q0m h.below h.hg, h.kept.setCell (.inl rfl) _, h.hg, h.glt, h.ht, h.le, q23 h.data i v, blk_far h.tab (by show t ≠ g; omega) _⟩
end Adding
set_option maxHeartbeats 800000 in
set_option maxRecDepth 100000 in
theorem add_gen (w0 w : World) (g o n c : Nat) (D : Array Value) (xs : List Int) (A1 : Option Addr) (c1 : Nat) (l : List Int) (b : Int) (hB : Below w0.heap.size w0 w) (hg : w0.heap.size ≤ g) (hD : w.heap[g]? = some (.cells D 5 (0, 0))) (hxl : xs.length = l.length) (hxs : ∀ x y, xs[x]? = some y → D[o + x]? = some (.int .u8 y)) (hDi : ∀ y ∈ xs, In8 y)
    (hl : l.length ≤ n) (hnn : n ≤ 140737488355328) (hr1 : ∀ W, Kept w W (fun j => j = g) → Kd.C (Kd.int .u8) W A1 l.length l) (hli : ∀ y ∈ l, In8 y) (hb : In8 b) :
    Calls Try.prog 34 #[.slice (some ⟨g, o, none⟩) n c, .slice A1 l.length c1, .int .u8 b] w fun e w' => e = .returned (.tuple #[]) ∧ Below w0.heap.size w0 w' ∧ Kept w w' (fun j => j = g) ∧ w'.heap[g]? = some (.cells (addV b l xs o D) 5 (0, 0)) := by
 have HR := sqM hr1
 have HDI := sqM hDi
 have HLI := sqM hli
 have HBI := sqM hb
 have HL := sqM hl
 have HXL := sqM hxl
 have HXS := sqM hxs
 have HNN := sqM hnn
 have HA : Aside0 (Adding w0 w (w.alloc (.cells (q18 z256) 88)) g w.heap.size D b 0) := ⟨q02 hB _, (Kept.refl _ _).alloc _, hg, q0l hD, Nat.le_refl _, hB.size, q1v hD _, by rw [tabL_0]; exact q0z _ _⟩
 clear hr1 hDi hli hb hl hB hg hD hnn hxl hxs
 go_enter Try.func34, Try.ntmps34
 go_wp2_with (first | (refine wpList_alloc88 rfl rfl _ rfl ?_))
 generalize (w.alloc (.cells (q18 z256) 88)) = w2 at HA ⊢
 generalize w.heap.size = t at HA ⊢
 go_loopw [10] (fun v10 wr => ∃ k : Nat, k ≤ 256 ∧ v10 = .int .i64 (k : Int) ∧ Aside0 (Adding w0 w wr g t D b k)) (fun v10 _ => 256 - (intOf v10).toNat)
 case atStart => exact ⟨0, Nat.zero_le _, rfl, HA⟩
 case round =>
  clear HA
  obtain ⟨k, hk, rfl, HA⟩ := hrel
  by_cases hlt : k < 256
  ·
   have hm : (k : Int) % 256 = (k : Int) := by omega
   obtain ⟨u, hu⟩ := HA.out.tabCell' k hlt
   have hf := q1q HA.out.tab k
   have HW1 := sqM (wr1 (i := k) hlt (by omega))
   have HLT := sqM hlt
   have HM : Aside0 (field_Mul.f 9 b (k : Int) = some (mulZ b (k : Int))) := ⟨Mul_z HBI.out ⟨by omega, by omega⟩ (by omega)⟩
   go_wp2_with (first | (go_at_call 19; (with_reducible refine (field_Mul.calls 9 b (k : Int) (mulZ b (k : Int)) _ HM.out).mono ?_); rintro e w' ⟨rfl, ⟨nd, rfl⟩⟩))
   go_roundw
   case rel => exact ⟨k + 1, HLT.out, by go_num, ⟨by exact (HA.out.drewN nd).tabSet⟩⟩
   case measure => exact meas (by omega) HLT.out
  ·
   obtain rfl : k = 256 := by omega
   rw [show ((256 : Nat) : Int) = 256 from rfl]
   go_wp2
   go_loopw [22] (fun v22 wr => ∃ i : Nat, i ≤ l.length ∧ v22 = .int .i64 (i : Int) ∧ Aside0 (Adding w0 w wr g t (addV b (l.take i) (xs.take i) o D) b 256)) (fun v22 _ => l.length - (intOf v22).toNat)
   case atStart => exact ⟨0, Nat.zero_le _, rfl, ⟨by exact HA.out⟩⟩
   case round =>
    clear HA
    obtain ⟨i, hi, rfl, HA⟩ := hrel
    by_cases hlt : i < l.length
    ·
     have hC := HR.out _ HA.out.kept
     obtain ⟨ad, rfl, hx⟩ := Kd.at_int hC (i : Int) (by omega) (by omega)
     have hrd : rd l (i : Int) = l[i] := by unfold rd; simp [List.getD_eq_getElem?_getD, hlt]
     rw [hrd, Int.toNat_natCast] at hx
     have hv8 : In8 l[i] := HLI.out _ (List.getElem_mem hlt)
     obtain ⟨v, hv⟩ : ∃ v, v = l[i] := ⟨_, rfl⟩
     rw [← hv] at hx hv8
     have hxi : i < xs.length := by rw [HXL.out]; exact hlt
     obtain ⟨y, hy⟩ : ∃ y, y = xs[i] := ⟨_, rfl⟩
     have hts : addV b (l.take (i + 1)) (xs.take (i + 1)) o D = (addV b (l.take i) (xs.take i) o D).setIfInBounds (o + i) (.int .u8 (xorZ y (mulZ b v))) := by
      rw [take_one l hlt, take_one xs hxi, addV_snoc _ _ _ _ _ _ _ (by rw [List.length_take, List.length_take, HXL.out]), List.length_take, Nat.min_eq_left hi, hv, hy]
     have hcell : wr.cell? ⟨g, o + i, none⟩ = some (.int .u8 y) := by
      rw [q0h HA.out.data, addV_get _ _ _ _ _ _ (.inr (by rw [List.length_take]; omega))]
      exact HXS.out i y (by rw [hy]; exact List.getElem?_eq_getElem hxi)
     have hdin : In8 y := by rw [hy]; exact HDI.out _ (List.getElem_mem hxi)
     obtain ⟨vn, rfl, hvn⟩ := hv8.nat
     have htc : wr.cell? ⟨t, vn, none⟩ = some (.int .u8 (mulZ b (vn : Int))) := by rw [HA.out.tabCell, tabL_get b 256 vn hvn hvn]; rfl
     have hxx := xor_u8 hdin (mulZ_in (b := (vn : Int)) HBI.out)
     have HTS := sqM hts
     have HXX := sqM hxx
     have hfz := q1q HA.out.data (o + i)
     have hin : (i : Int) < (n : Int) := by have := HL.out; omega
     have HW1 := sqM (wr1 (i := i) hlt (by have := HL.out; have := HNN.out; omega))
     have HLT := sqM hlt
     clear hts hxx hv hy hrd hC hxi
     have hvi : (vn : Int) < 256 := by omega
     go_wp2_with (fail)
     go_still_tail 9, (by kernel_rfl)
     change wpList _ _ _ _ _ wr.drew
     rw [HXX.out]
     have hHA : Adding w0 w (wr.drew.setCell ⟨g, o + i, none⟩ (.int .u8 (xorZ y (mulZ b (vn : Int))))) g t (addV b (l.take (i + 1)) (xs.take (i + 1)) o D) b 256 := by rw [HTS.out]; exact HA.out.drew.set _ _
     have HA2 := sqM hHA
     clear hHA
     go_wp2
     go_roundw
     case rel => exact ⟨i + 1, HLT.out, by rw [HW1.out], ⟨by exact HA2.out⟩⟩
     case measure => exact meas HW1.out HLT.out
    · obtain rfl : i = l.length := by omega
      rw [List.take_length, ← HXL.out, List.take_length] at HA
      go_wp2
      (go_end0)
      exact ⟨rfl, by exact HA.out.below, by exact HA.out.kept, by exact HA.out.data⟩
set_option maxHeartbeats 800000 in
set_option maxRecDepth 100000 in
theorem add_nil (w : World) (T A1 : Option Addr) (n c c1 : Nat) (b : Int) (hb : In8 b) :
    Calls Try.prog 34 #[.slice T n c, .slice A1 0 c1, .int .u8 b] w fun e w' => e = .returned (.tuple #[]) ∧ Below w.heap.size w w' := by
 have HBI := sqM hb
 have HA : Aside0 (Below w.heap.size w (w.alloc (.cells (q18 z256) 88)) ∧ (w.alloc (.cells (q18 z256) 88)).heap[w.heap.size]? = some (.cells (q18 (tabL b 0)) 88 (0, 0))) := ⟨q02 (Below.refl _ _) _, by rw [tabL_0]; exact q0z _ _⟩
 clear hb
 go_enter Try.func34, Try.ntmps34
 go_wp2_with (first | (refine wpList_alloc88 rfl rfl _ rfl ?_))
 generalize (w.alloc (.cells (q18 z256) 88)) = w2 at HA ⊢
 go_loopw [10] (fun v10 wr => ∃ k : Nat, k ≤ 256 ∧ v10 = .int .i64 (k : Int) ∧ Aside0 (Below w.heap.size w wr ∧ wr.heap[w.heap.size]? = some (.cells (q18 (tabL b k)) 88 (0, 0)))) (fun v10 _ => 256 - (intOf v10).toNat)
 case atStart => exact ⟨0, Nat.zero_le _, rfl, HA⟩
 case round =>
  clear HA
  obtain ⟨k, hk, rfl, HA⟩ := hrel
  by_cases hlt : k < 256
  ·
   have hm : (k : Int) % 256 = (k : Int) := by omega
   obtain ⟨u, hu⟩ : ∃ u, wr.cell? ⟨w.heap.size, k, none⟩ = some u := by
    rw [q0h HA.out.2, bytesV_get, List.getElem?_eq_getElem (by rw [tabL_length]; exact hlt)]; exact ⟨_, rfl⟩
   have hf := q1q HA.out.2 k
   have HLT := sqM hlt
   have HM : Aside0 (field_Mul.f 9 b (k : Int) = some (mulZ b (k : Int))) := ⟨Mul_z HBI.out ⟨by omega, by omega⟩ (by omega)⟩
   go_wp2_with (first | (go_at_call 19; (with_reducible refine (field_Mul.calls 9 b (k : Int) (mulZ b (k : Int)) _ HM.out).mono ?_); rintro e w' ⟨rfl, ⟨nd, rfl⟩⟩))
   go_roundw
   case rel => exact ⟨k + 1, HLT.out, by go_num, ⟨q0m (q00 HA.out.1 nd) (Nat.le_refl _), by
    have h2 : (wr.drewN nd).heap[w.heap.size]? = some (.cells (q18 (tabL b k)) 88 (0, 0)) := HA.out.2
    rw [q23 h2, bytesV_set, tabL_set]⟩⟩
   case measure => exact meas (by omega) HLT.out
  ·
   obtain rfl : k = 256 := by omega
   rw [show ((256 : Nat) : Int) = 256 from rfl]
   go_wp2
   go_loopw [22] (fun v22 wr => v22 = .int .i64 0 ∧ Aside0 (Below w.heap.size w wr)) (fun v22 _ => 0)
   case atStart => exact ⟨rfl, ⟨HA.out.1⟩⟩
   case round =>
    clear HA
    obtain ⟨rfl, HA⟩ := hrel
    go_wp2
    (go_end0)
    exact ⟨rfl, HA.out⟩
theorem add_calls (w0 w : World) (g o n c : Nat) (D : List Int) (A1 : Option Addr) (c1 : Nat) (l : List Int) (b : Int) (hB : Below w0.heap.size w0 w) (hg : w0.heap.size ≤ g) (hD : w.heap[g]? = some (.cells (q18 D) 5 (0, 0))) (hDi : ∀ y ∈ D, In8 y)
    (hl : l.length ≤ n) (ho : o + l.length ≤ D.length) (hn : D.length ≤ 140737488355328) (hnn : n ≤ 140737488355328) (hr1 : ∀ W, Kept w W (fun j => j = g) → Kd.C (Kd.int .u8) W A1 l.length l) (hli : ∀ y ∈ l, In8 y) (hb : In8 b) :
    Calls Try.prog 34 #[.slice (some ⟨g, o, none⟩) n c, .slice A1 l.length c1, .int .u8 b] w fun e w' => e = .returned (.tuple #[]) ∧ Below w0.heap.size w0 w' ∧ Kept w w' (fun j => j = g) ∧ w'.heap[g]? = some (.cells (q18 (addAt b l o D)) 5 (0, 0)) := by
 rw [← addV_bytes b l o D ho]
 refine add_gen w0 w g o n c (q18 D) ((D.drop o).take l.length) A1 c1 l b hB hg hD (by rw [List.length_take, List.length_drop]; omega) (fun x y hx => ?_) (fun y hy => hDi y (List.mem_of_mem_drop (List.mem_of_mem_take hy))) hl hnn hr1 hli hb
 have hlt : x < l.length := by
  have := (List.getElem?_eq_some_iff.1 hx).1
  rw [List.length_take] at this; omega
 rw [List.getElem?_take, if_pos hlt, List.getElem?_drop] at hx
 rw [bytesV_get, hx]; rfl
end Go.Proofs.Ytdhajlkiiphlfaa.Par
namespace Go.Proofs.Ytdhajlkiiphlfaa.Par
open Go.RowKit Go.Proofs.Ytdhajlkiiphlfaa.QB Go.Proofs.YtdhajlkiiphlfaaW.PrintWords Go.Proofs.YtdhajlkiiphlfaaW.PrintLast Go.Proofs.YtdhajlkiiphlfaaW.PrintMore Go.Proofs.Ytdhajlkiiphlfaa.Solve
def wideN (ls : List Nat) : Nat := ls.foldl max 0
theorem foldl_max (ls : List Nat) (a : Nat) : ls.foldl max a = max a (wideN ls) := by
 unfold wideN
 induction ls generalizing a with
 | nil => simp
 | cons x l ih => rw [List.foldl_cons, List.foldl_cons, ih, ih (max 0 x)]; omega
theorem wideN_cons (x : Nat) (l : List Nat) : wideN (x :: l) = max x (wideN l) := by
 show l.foldl max (max 0 x) = _
 rw [foldl_max]; omega
theorem wideN_le {ls : List Nat} {B : Nat} (h : ∀ x ∈ ls, x ≤ B) : wideN ls ≤ B := by
 induction ls with
 | nil => exact Nat.zero_le _
 | cons x l ih =>
  rw [wideN_cons]
  have := h x List.mem_cons_self
  have := ih (fun y hy => h y (List.mem_cons_of_mem _ hy))
  omega
theorem le_wideN {ls : List Nat} {x : Nat} (h : x ∈ ls) : x ≤ wideN ls := by
 induction ls with
 | nil => cases h
 | cons y l ih =>
  rw [wideN_cons]
  rcases List.mem_cons.1 h with rfl | h
  · omega
  · have := ih h; omega
theorem wideN_take (ls : List Nat) {i : Nat} (hi : i < ls.length) : wideN (ls.take (i + 1)) = max (wideN (ls.take i)) ls[i] := by
 show (ls.take (i + 1)).foldl max 0 = max ((ls.take i).foldl max 0) ls[i]
 rw [List.take_succ_eq_append_getElem hi, List.foldl_append]; rfl
theorem wide_l0 (ls : List Nat) (hl : ls.length ≤ 1000) : ∀ (d i k : Nat), i + d = ls.length → d < k → parity_wide.l0 k ((wideN (ls.take i) : Nat) : Int) (up ls) ((up ls).length : Int) (i : Int) = some ((wideN ls : Nat) : Int) := by
 intro d
 induction d with
 | zero =>
  intro i k hi hk
  obtain ⟨k, rfl⟩ : ∃ m, k = m + 1 := ⟨k - 1, by omega⟩
  obtain rfl : i = ls.length := by omega
  rw [parity_wide.l0, q27, if_neg (by omega), List.take_length]
 | succ d ih =>
  intro i k hi hk
  obtain ⟨k, rfl⟩ : ∃ m, k = m + 1 := ⟨k - 1, by omega⟩
  have hlt : i < ls.length := by omega
  have h1 : mx ((wideN (ls.take i) : Nat) : Int) (rd (up ls) (i : Int)) = ((wideN (ls.take (i + 1)) : Nat) : Int) := by
   rw [up_rd ls hlt, wideN_take ls hlt]; unfold mx; split <;> omega
  have h2 := ih (i + 1) k (by omega) (by omega)
  rw [parity_wide.l0, q27, if_pos (by omega), if_pos (by omega), if_pos (by omega), h1, wr1 hlt (by omega), ← q27 ls]
  exact h2
theorem wide_f (ls : List Nat) (hl : ls.length ≤ 1000) {k : Nat} (hk : 1000 < k) : parity_wide.f k (up ls) = some ((wideN ls : Nat) : Int) := by
 have := wide_l0 ls hl ls.length 0 k (by omega) (by omega)
 exact this
theorem same_l0 (n : Int) (t : Nat) (ht : t ≤ 1000) : ∀ (d i k : Nat), i + d = t → d < k → parity_same.l0 k n (List.replicate i n ++ List.replicate d 0) (t : Int) (i : Int) = some (List.replicate t n) := by
 intro d
 induction d with
 | zero =>
  intro i k hi hk
  obtain ⟨k, rfl⟩ : ∃ m, k = m + 1 := ⟨k - 1, by omega⟩
  obtain rfl : i = t := by omega
  rw [parity_same.l0, if_neg (by omega), List.replicate_zero, List.append_nil]
 | succ d ih =>
  intro i k hi hk
  obtain ⟨k, rfl⟩ : ∃ m, k = m + 1 := ⟨k - 1, by omega⟩
  have hlt : i < t := by omega
  have e : (List.replicate i n ++ List.replicate (d + 1) (0 : Int)).set i n = List.replicate (i + 1) n ++ List.replicate d 0 := by
   rw [List.set_append_right _ _ (by simp)]
   rw [List.length_replicate, Nat.sub_self, List.replicate_succ, List.set_cons_zero, List.replicate_succ', List.append_assoc]; rfl
  have h2 := ih (i + 1) k (by omega) (by omega)
  have hlen : ((List.replicate i n ++ List.replicate (d + 1) (0 : Int)).length : Int) = (t : Int) := by simp; omega
  rw [parity_same.l0, if_pos (by omega), if_pos (by omega), hlen, if_pos (by omega), Int.toNat_natCast, e, wr1 hlt (by omega)]
  exact h2
theorem same_f (n : Int) (t : Nat) (ht : t ≤ 1000) {k : Nat} (hk : 1000 < k) : parity_same.f k n (t : Int) = some (List.replicate t n) := by
 have := same_l0 n t ht t 0 k (by omega) (by omega)
 rw [List.replicate_zero, List.nil_append] at this
 unfold parity_same.f
 rw [if_pos (by omega), if_pos (by omega), Option.bind_some, Int.toNat_natCast, List.length_replicate]
 exact this
theorem lengths_l0 (rows : List (List Int)) (hl : rows.length ≤ 1000) : ∀ (d i k : Nat), i + d = rows.length → d < k → parity_lengths.l0 k (up ((rows.take i).map List.length) ++ List.replicate d 0) rows (rows.length : Int) (i : Int) = some (up (rows.map List.length)) := by
 intro d
 induction d with
 | zero =>
  intro i k hi hk
  obtain ⟨k, rfl⟩ : ∃ m, k = m + 1 := ⟨k - 1, by omega⟩
  obtain rfl : i = rows.length := by omega
  rw [parity_lengths.l0, if_neg (by omega), List.replicate_zero, List.append_nil, List.take_length]
 | succ d ih =>
  intro i k hi hk
  obtain ⟨k, rfl⟩ : ∃ m, k = m + 1 := ⟨k - 1, by omega⟩
  have hlt : i < rows.length := by omega
  have hul : (up ((rows.take i).map List.length)).length = i := by rw [q27]; simp; omega
  have hr : rd_L2 rows (i : Int) = rows[i] := by unfold rd_L2; simp [List.getD_eq_getElem?_getD, hlt]
  have e : (up ((rows.take i).map List.length) ++ List.replicate (d + 1) (0 : Int)).set i ((rd_L2 rows (i : Int)).length : Int) = up ((rows.take (i + 1)).map List.length) ++ List.replicate d 0 := by
   rw [List.set_append_right _ _ (by omega), hul, Nat.sub_self, List.replicate_succ, List.set_cons_zero, take_one rows hlt, hr]
   unfold up
   rw [List.map_append, List.map_append, List.append_assoc]; rfl
  have h2 := ih (i + 1) k (by omega) (by omega)
  have hlen : ((up ((rows.take i).map List.length) ++ List.replicate (d + 1) (0 : Int)).length : Int) = (rows.length : Int) := by
   rw [List.length_append, hul, List.length_replicate]; omega
  rw [parity_lengths.l0, if_pos (by omega), if_pos (by omega), if_pos (by omega), hlen, if_pos (by omega), Int.toNat_natCast, e, wr1 hlt (by omega)]
  exact h2
theorem lengths_f (rows : List (List Int)) (hl : rows.length ≤ 1000) {k : Nat} (hk : 1000 < k) : parity_lengths.f k rows = some (up (rows.map List.length)) := by
 have := lengths_l0 rows hl rows.length 0 k (by omega) (by omega)
 unfold parity_lengths.f
 rw [if_pos (by omega), Int.toNat_natCast, if_pos (by omega)]
 exact this
def cE (i j : Nat) : Int := invZ (xorZ ((255 - i : Nat) : Int) (j : Int))
theorem cE_in {i j : Nat} (hj : j < 256) : In8 (cE i j) := invZ_in (xorZ_in (In8.of (by omega)) (In8.of hj))
def cau (p n : Nat) : List (List Int) := (List.range p).map fun i => (List.range n).map fun j => cE i j
theorem cau_sh (p n : Nat) (hn : n ≤ 256) : Sh p n (cau p n) := by
 refine ⟨by simp [cau], fun r hr => ?_, fun r hr y hy => ?_⟩
 · obtain ⟨i, _, rfl⟩ := List.mem_map.1 hr; simp
 · obtain ⟨i, _, rfl⟩ := List.mem_map.1 hr
   obtain ⟨j, hj, rfl⟩ := List.mem_map.1 hy
   exact cE_in (by have := List.mem_range.1 hj; omega)
theorem cau_row {p n i : Nat} (hi : i < p) : (cau p n)[i]? = some ((List.range n).map fun j => cE i j) := by
 unfold cau; rw [List.getElem?_map, List.getElem?_range hi]; rfl
theorem cau_of {p n : Nat} (hn : n ≤ 256) {m : List (List Int)} (h : Sh p n m) (hv : ∀ a c, a < p → c < n → rd (rd_L2 m (a : Int)) (c : Int) = cE a c) : m = cau p n := by
 have hc := cau_sh p n hn
 refine eq_of_fn h hc (fun i j hi hj => ?_)
 obtain ⟨r, h1, h2, _, _, h3⟩ := fn_row h hi j
 rw [h3]
 have := hv i j hi hj
 rw [h2] at this
 rw [this, fn_at (cau_row hi) (y := cE i j) (by rw [List.getElem?_map, List.getElem?_range hj]; rfl)]
theorem cauchy_ok {p n : Nat} (h1 : 1 ≤ p) (h2 : 1 ≤ n) (hR : p + n ≤ 256) {k : Nat} (hk : 80000 ≤ k) : field_Cauchy.f k (p : Int) (n : Int) = some (cau p n, 0) := by
 obtain ⟨m, e, hs, hv⟩ := Cau.cauchy_f p n h1 h2 hR k hk
 rw [e, cau_of (by omega) hs hv]
theorem cauchy_no {p n : Nat} (h : p = 0 ∨ n = 0) {k : Nat} (hk : 1 ≤ k) : field_Cauchy.f k (p : Int) (n : Int) = some ([], 42) := by
 obtain ⟨k, rfl⟩ : ∃ m, k = m + 1 := ⟨k - 1, by omega⟩
 unfold field_Cauchy.f
 by_cases hp : (p : Int) < 1
 · rw [if_pos hp, field_Cauchy.j0, if_pos rfl]
 · rw [if_neg hp, if_pos (by omega), field_Cauchy.j0, if_pos rfl]
def matL (p n : Nat) : List (List Int) := if p = 0 ∨ n = 0 then List.replicate p [] else cau p n
theorem matrix_f {p n : Nat} (hp : p ≤ 16) (hn : n ≤ 200) {k : Nat} (hk : 80000 ≤ k) : parity_matrix.f k (p : Int) (n : Int) = some (matL p n) := by
 unfold parity_matrix.f matL
 by_cases h : p = 0 ∨ n = 0
 · rw [cauchy_no h (by omega), Option.bind_some, if_pos h]
   show (if (42 : Int) = 0 then _ else _) = _
   rw [if_neg (by decide), if_pos (by omega), Int.toNat_natCast, if_pos (by omega)]
 · rw [cauchy_ok (by omega) (by omega) (by omega) hk, Option.bind_some, if_neg h]
   show (if (0 : Int) = 0 then _ else _) = _
   rw [if_pos rfl]
end Go.Proofs.Ytdhajlkiiphlfaa.Par
namespace Go.Proofs.Ytdhajlkiiphlfaa.Par
open Go.RowKit Go.Proofs.Ytdhajlkiiphlfaa.QB Go.Proofs.YtdhajlkiiphlfaaW.PrintWords Go.Proofs.YtdhajlkiiphlfaaW.PrintLast Go.Proofs.YtdhajlkiiphlfaaW.PrintMore Go.Proofs.Ytdhajlkiiphlfaa.Solve
theorem q22 {m : List (List Int)} {i : Nat} {r : List Int} (h : m[i]? = some r) : m.flatten = (m.take i).flatten ++ (r ++ (m.drop (i + 1)).flatten) := by
 obtain ⟨hi, rfl⟩ := List.getElem?_eq_some_iff.1 h
 conv => lhs; rw [← List.take_append_drop i m, List.drop_eq_getElem_cons hi]
 rw [List.flatten_append, List.flatten_cons]
theorem flat_set {m : List (List Int)} {i : Nat} {r r' : List Int} (h : m[i]? = some r) : (m.set i r').flatten = (m.take i).flatten ++ (r' ++ (m.drop (i + 1)).flatten) := by
 have hi := (List.getElem?_eq_some_iff.1 h).1
 rw [List.set_eq_take_append_cons_drop, if_pos hi, List.flatten_append, List.flatten_cons]
theorem addAt_mid (c : Int) (pre post : List Int) : ∀ (l : List Int) (o : Nat) (r : List Int), o + l.length ≤ r.length → addAt c l (pre.length + o) (pre ++ (r ++ post)) = pre ++ (addAt c l o r ++ post)
 | [], _, _, _ => rfl
 | v :: l, o, r, h => by
  rw [List.length_cons] at h
  have hg : (pre ++ (r ++ post)).getD (pre.length + o) 0 = r.getD o 0 := by
   rw [List.getD_eq_getElem?_getD, List.getD_eq_getElem?_getD, List.getElem?_append_right (by omega), Nat.add_sub_cancel_left, List.getElem?_append_left (by omega)]
  rw [addAt, addAt, hg, List.set_append_right _ _ (by omega), Nat.add_sub_cancel_left, List.set_append_left _ _ (by omega), Nat.add_assoc]
  exact addAt_mid c pre post l (o + 1) _ (by rw [List.length_set]; omega)
theorem addAt_flat {m : List (List Int)} {i : Nat} {r l : List Int} (h : m[i]? = some r) (hl : l.length ≤ r.length) (c : Int) : addAt c l ((m.take i).flatten.length) m.flatten = (m.set i (addAt c l 0 r)).flatten := by
 rw [q22 h, flat_set h, ← addAt_mid c _ _ l 0 r (by omega)]; rfl
theorem q1r (b o n : Nat) : (⟨b, o, none⟩ : Addr).add n = ⟨b, o + n, none⟩ := by
 unfold Addr.add
 split
 · rename_i h; subst h; rfl
 · rfl
namespace Cu
variable {w w' : World} {base g b : Nat} {m : List (List Int)}
theorem head (h : Cu w base g b m) {i : Nat} {r : List Int} (hi : m[i]? = some r) : ∃ o, w.cell? ⟨g, i, none⟩ = some (.slice (some ⟨b, o, none⟩) r.length r.length) ∧ o ≤ m.flatten.length ∧ (0 < r.length → o = ((m.take i).flatten).length) := by
 obtain ⟨hs, hh, _, hx⟩ := h.heads
 obtain ⟨o, h1, h2, h3⟩ := hx i r hi
 exact ⟨o, by rw [q0h hh]; simpa using h1, h2, h3⟩
theorem rowC (h : Cu w base g b m) {i : Nat} {r : List Int} (hi : m[i]? = some r) {o : Nat} (ho : 0 < r.length → o = ((m.take i).flatten).length) : Kd.C (Kd.int .u8) w (some ⟨b, o, none⟩) r.length r := by
 refine ⟨rfl, ?_, fun hp => ⟨_, rfl, fun j p hj => ⟨[.int .u8 p], rfl, rfl, fun t u ht => ?_⟩⟩⟩
 · have := h.many
   rw [q22 hi, List.length_append, List.length_append] at this
   omega
 ·
  have hjl := (List.getElem?_eq_some_iff.1 hj).1
  match t, ht with
  | 0, ht =>
   obtain rfl := Option.some.inj ht
   rw [show (⟨b, o, none⟩ : Addr).add (j * (Kd.int .u8).sz + 0) = ⟨b, o + (j * 1 + 0), none⟩ from q1r b o _]
   rw [q0h h.data, ho hp, q22 hi]
   simp only [List.getElem?_toArray, List.getElem?_map]
   rw [List.getElem?_append_right (by omega), show (List.take i m).flatten.length + (j * 1 + 0) - (List.take i m).flatten.length = j by omega, List.getElem?_append_left hjl, hj]
   rfl
  | t + 1, ht => simp at ht
theorem reads (h : Cu w base g b m) : Kd.C (Kd.slice 5 (Kd.int .u8)) w (some ⟨g, 0, none⟩) m.length m := by
 refine ⟨rfl, by have := h.few; omega, fun hp => ⟨_, rfl, fun j p hj => ?_⟩⟩
 obtain ⟨o, h1, h2, h3⟩ := h.head hj
 refine ⟨[.slice (some ⟨b, o, none⟩) p.length p.length], rfl, ⟨_, _, rfl, Nat.le_refl _, h.rowC hj h3⟩, fun t u ht => ?_⟩
 match t, ht with
 | 0, ht =>
  obtain rfl := Option.some.inj ht
  rw [show (⟨g, 0, none⟩ : Addr).add (j * (Kd.slice 5 (Kd.int .u8)).sz + 0) = ⟨g, j, none⟩ from (q1r g 0 _).trans (by rw [Nat.zero_add]; exact congrArg (fun z => (⟨g, z, none⟩ : Addr)) (Nat.mul_one j))]
  exact h1
 | t + 1, ht => simp at ht
theorem put (h : Cu w base g b m) (hk : Kept w w' (fun k => k = b)) {i : Nat} {r r' : List Int} (hi : m[i]? = some r) (hl : r'.length = r.length) (hd : w'.heap[b]? = some (.cells (q18 (m.set i r').flatten) 5 (0, 0))) : Cu w' base g b (m.set i r') := by
 obtain ⟨hs, hh, hle, hx⟩ := h.heads
 have hil := (List.getElem?_eq_some_iff.1 hi).1
 have hfl : (m.set i r').flatten.length = m.flatten.length := by rw [flat_set hi, q22 hi]; simp [hl]
 refine ⟨h.hg, h.hb, h.ne, by rw [List.length_set]; exact h.few, by rw [hfl]; exact h.many, hd, hs, blk_kept hh hk h.ne, by rw [List.length_set]; exact hle, fun j q hj => ?_⟩
 rw [hfl]
 have htk : ((m.set i r').take j).flatten.length = (m.take j).flatten.length := by
  by_cases hij : i < j
  · have e : (m.take j)[i]? = some r := by rw [List.getElem?_take, if_pos hij]; exact hi
    rw [List.take_set, flat_set e, q22 e]; simp [hl]
  · rw [List.take_set_of_le (by omega)]
 rw [htk]
 by_cases hij : i = j
 · subst hij
   rw [List.getElem?_set_self hil] at hj
   obtain rfl := Option.some.inj hj
   rw [hl]
   exact hx i r hi
 · rw [List.getElem?_set_ne hij] at hj
   exact hx j q hj
theorem kept (h : Cu w base g b m) {S : Nat → Prop} (hk : Kept w w' S) (h1 : ¬ S g) (h2 : ¬ S b) : Cu w' base g b m := by
 obtain ⟨hs, hh, hx⟩ := h.heads
 exact ⟨h.hg, h.hb, h.ne, h.few, h.many, blk_kept h.data hk h2, hs, blk_kept hh hk h1, hx⟩
theorem below (h : Cu w base g b m) (hb : Below w.heap.size w w') : Cu w' base g b m := h.kept (Kept.of_below hb (fun _ => False)) (fun h => h) (fun h => h)
theorem base_down {base' : Nat} (h : Cu w base g b m) (hb : base' ≤ base) : Cu w base' g b m := ⟨Nat.le_trans hb h.hg, Nat.le_trans hb h.hb, h.ne, h.few, h.many, h.data, h.heads⟩
theorem lt_b (h : Cu w base g b m) : b < w.heap.size := q0l h.data
theorem lt_g (h : Cu w base g b m) : g < w.heap.size := by obtain ⟨hs, hh, _⟩ := h.heads; exact q0l hh
end Cu
end Go.Proofs.Ytdhajlkiiphlfaa.Par
