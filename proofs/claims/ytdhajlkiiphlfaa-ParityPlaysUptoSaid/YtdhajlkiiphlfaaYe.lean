/- A part of the proof of ParityPlays: see the text's theorems. No conditions beyond their own. -/
import Derived.Test.YtdhajlkiiphlfaaYd
set_option linter.unusedVariables false
set_option linter.unusedSimpArgs false
namespace Go.Proofs.Ytdhajlkiiphlfaa.QP
open Go.RowKit Go.Proofs.YtdhajlkiiphlfaaW.PrintWords Go.Proofs.YtdhajlkiiphlfaaW.PrintLast Go.Proofs.YtdhajlkiiphlfaaW.PrintMore
attribute [local go_sem] q1c q1d q1y q1z q0v q0w q1e q1f
def r5_row.f (k : Nat) (l0 : List (List Int)) (a1 : Int) (a2 : Int) : Option (List Int) := QR.r5_row.f k l0 a1 a2
theorem r5_row.calls (k : Nat) (A0 : Option Addr) (c0 : Nat) (l0 : List (List Int)) (a1 : Int) (a2 : Int) (r : List Int) (w : World) (hr0 : Kd.C (Kd.slice 5 (Kd.int .u8)) w A0 l0.length l0) (hc0 : l0.length ≤ c0) (h : r5_row.f k l0 a1 a2 = some r) :
    Calls Try.prog 52 #[.slice A0 l0.length c0, .int .i64 a1, .int .i64 a2] w fun e w' => ∃ v0_ : Value, e = .returned (v0_) ∧ Kd.R (Kd.int .u8) 5 w' w.heap.size (fun _ => True) v0_ r ∧ Below w.heap.size w w' := QR.r5_row.calls k A0 c0 l0 a1 a2 r w hr0 hc0 h
def r5_fits.f (k : Nat) (l0 : List (List Int)) (l1 : List Int) (l2 : List (List Int)) (l3 : List Int) : Option (List Bool × Bool) := QR.r5_fits.f k l0 l1 l2 l3
theorem r5_fits.calls (k : Nat) (A0 : Option Addr) (c0 : Nat) (l0 : List (List Int)) (A1 : Option Addr) (c1 : Nat) (l1 : List Int) (A2 : Option Addr) (c2 : Nat) (l2 : List (List Int)) (A3 : Option Addr) (c3 : Nat) (l3 : List Int) (r1 : List Bool) (r2 : Bool) (w : World) (hr0 : Kd.C (Kd.slice 5 (Kd.int .u8)) w A0 l0.length l0) (hc0 : l0.length ≤ c0) (hr1 : Kd.C (Kd.int .i64) w A1 l1.length l1) (hc1 : l1.length ≤ c1) (hr2 : Kd.C (Kd.slice 5 (Kd.int .u8)) w A2 l2.length l2) (hc2 : l2.length ≤ c2) (hr3 : Kd.C (Kd.int .i64) w A3 l3.length l3) (hc3 : l3.length ≤ c3) (h : r5_fits.f k l0 l1 l2 l3 = some (r1, r2)) :
    Calls Try.prog 53 #[.slice A0 l0.length c0, .slice A1 l1.length c1, .slice A2 l2.length c2, .slice A3 l3.length c3] w fun e w' => ∃ v0_ : Value, e = .returned (.tuple #[v0_, .bool r2]) ∧ Kd.R Kd.bool 4 w' w.heap.size (fun _ => True) v0_ r1 ∧ Below w.heap.size w w' := QR.r5_fits.calls k A0 c0 l0 A1 c1 l1 A2 c2 l2 A3 c3 l3 r1 r2 w hr0 hc0 hr1 hc1 hr2 hc2 hr3 hc3 h
def r5_copied.f (l0 : List Int) : Option (List Int) := QR.r5_copied.f l0
theorem r5_copied.calls (A0 : Option Addr) (c0 : Nat) (l0 : List Int) (r : List Int) (w : World) (hr0 : Kd.C (Kd.int .u8) w A0 l0.length l0) (hc0 : l0.length ≤ c0) (h : r5_copied.f l0 = some r) :
    Calls Try.prog 54 #[.slice A0 l0.length c0] w fun e w' => ∃ v0_ : Value, e = .returned (v0_) ∧ Kd.R (Kd.int .u8) 5 w' w.heap.size (fun _ => True) v0_ r ∧ Below w.heap.size w w' := QR.r5_copied.calls A0 c0 l0 r w hr0 hc0 h
def r5_element.f (k : Nat) (a0 : Int) (a1 : Int) : Option (Int) := QR.r5_element.f k a0 a1
theorem r5_element.calls (k : Nat) (a0 : Int) (a1 : Int) (r : Int) (w : World) (h : r5_element.f k a0 a1 = some r) :
    Calls Try.prog 57 #[.int .i64 a0, .int .i64 a1] w fun e w' => e = .returned (.int .u8 r) ∧ Drawn0 w w' := QR.r5_element.calls k a0 a1 r w h
def r4_Solve.f (l0 : List (List Int)) (l1 : List (List Int)) : Option (List (List Int) × Int) := Rv.rsolveF l0 l1
theorem r4_Solve.calls (A0 : Option Addr) (c0 : Nat) (l0 : List (List Int)) (A1 : Option Addr) (c1 : Nat) (l1 : List (List Int)) (r1 : List (List Int)) (r2 : Int) (w : World) (hr0 : Kd.C (Kd.slice 5 (Kd.int .u8)) w A0 l0.length l0) (hc0 : l0.length ≤ c0) (hr1 : Kd.C (Kd.slice 5 (Kd.int .u8)) w A1 l1.length l1) (hc1 : l1.length ≤ c1) (h : r4_Solve.f l0 l1 = some (r1, r2)) :
    Calls Try.prog 59 #[.slice A0 l0.length c0, .slice A1 l1.length c1] w fun e w' => ∃ v0_ : Value, e = .returned (.tuple #[v0_, .int .i64 r2]) ∧ Kd.S (Kd.slice 5 (Kd.int .u8)) 41 w' w.heap.size (fun _ => True) v0_ r1 ∧ Below w.heap.size w w' := Rv.rsolveF_calls A0 c0 l0 A1 c1 l1 r1 r2 w hr0 hc0 hr1 hc1 h
mutual
def r5_solved.l0 : Nat → List (List Int) → List (List Int) → List Bool → List Int → Int → List (List Int) → List (List Int) → Int → Option ((List (List Int)))
 | 0, _, _, _, _, _, _, _, _ => none
 | k + 1, x0, x1, x2, x3, x4, x11, x12, x13 => if x13 < (x1.length : Int) then (r5_solved.j1 k x0 x1 x2 x3 x4 x11 x12 x13 (decide ((x11.length : Int) < (x3.length : Int)))) else (r5_solved.j1 k x0 x1 x2 x3 x4 x11 x12 x13 false)
def r5_solved.j1 : Nat → List (List Int) → List (List Int) → List Bool → List Int → Int → List (List Int) → List (List Int) → Int → Bool → Option ((List (List Int)))
 | 0, _, _, _, _, _, _, _, _, _ => none
 | k + 1, x0, x1, x2, x3, x4, x11, x12, x13, x30 => if x30 = true then (if 0 ≤ (wrap64 ((x0.length : Int) + x13)) then (if (wrap64 ((x0.length : Int) + x13)) < (x2.length : Int) then (if rdOf false x2 (wrap64 ((x0.length : Int) + x13)) = true then (r5_solved.l0 k x0 x1 x2 x3 x4 x11 x12 (wrap64 (x13 + 1))) else (r5_solved.l1 k x0 x1 x2 x3 x4 x11 x12 x13 ([] : List Int) 0)) else (none)) else (none)) else ((r4_Solve.f x11 x12).bind fun bt101 => (some bt101.1))
def r5_solved.l1 : Nat → List (List Int) → List (List Int) → List Bool → List Int → Int → List (List Int) → List (List Int) → Int → List Int → Int → Option ((List (List Int)))
 | 0, _, _, _, _, _, _, _, _, _, _ => none
 | k + 1, x0, x1, x2, x3, x4, x11, x12, x13, x14, x15 => if x15 < (x3.length : Int) then (if 0 ≤ x15 then ((r5_element.f k x13 (rd x3 x15)).bind fun t107 => (if x14.length < 140737488355328 then (r5_solved.l1 k x0 x1 x2 x3 x4 x11 x12 x13 (x14 ++ [t107]) (wrap64 (x15 + 1))) else (none))) else (none)) else ((r5_row.f k x0 x13 x4).bind fun t111 => (r5_solved.l2 k x0 x1 x2 x3 x4 x11 x12 x13 x14 t111 0))
def r5_solved.l2 : Nat → List (List Int) → List (List Int) → List Bool → List Int → Int → List (List Int) → List (List Int) → Int → List Int → List Int → Int → Option ((List (List Int)))
 | 0, _, _, _, _, _, _, _, _, _, _, _ => none
 | k + 1, x0, x1, x2, x3, x4, x11, x12, x13, x14, x16, x17 => if x17 < x4 then (if 0 ≤ x17 then (if x17 < (x16.length : Int) then (if 0 ≤ x13 then (if x13 < (x1.length : Int) then (if x17 < ((rd_L1 x1 x13).length : Int) then (r5_solved.l2 k x0 x1 x2 x3 x4 x11 x12 x13 x14 (x16.set (x17 : Int).toNat (Go.bits .xor .u8 (rd x16 x17) (rd (rd_L1 x1 x13) x17))) (wrap64 (x17 + 1))) else (none)) else (none)) else (none)) else (none)) else (none)) else (if x11.length < 5864062014805 then (if x12.length < 5864062014805 then (r5_solved.l0 k x0 x1 x2 x3 x4 (x11 ++ [x14]) (x12 ++ [x16]) (wrap64 (x13 + 1))) else (none)) else (none))
end
def r5_solved.f (k : Nat) (l0 : List (List Int)) (l1 : List (List Int)) (l2 : List Bool) (l3 : List Int) (a4 : Int) : Option ((List (List Int))) := r5_solved.l0 k l0 l1 l2 l3 a4 ([] : List (List Int)) ([] : List (List Int)) 0
def r5_solved.T16 : Bool × List (List Nat × List Nat) := (true, [([], []), ([], []), ([], []), ([], []), ([2, 3], [2, 3]), ([4], [4]), ([], []), ([], []), ([6, 7], [6, 7]), ([8], [8]), ([], []), ([9, 10], [9, 10]), ([11], [11]), ([5, 12], [5, 12]), ([0, 1, 0, 1, 2, 3, 4, 5, 6, 7, 8, 9, 10, 11, 12, 13], [0, 1]), ([14, 13, 0, 1, 2, 3, 4, 5, 6, 7, 8, 9, 10, 11, 12, 13], [13, 14])])
def r5_solved.B16 : List Nat := [0, 0, 0, 0, 12, 28, 0, 0, 192, 448, 0, 1984, 4032, 8188, 16383, 32767]
theorem r5_solved.tab16 : rtab .any (opsOf Try.f55 16) = r5_solved.T16 := by kernel_rfl
theorem r5_solved.bits16 : waitsOk r5_solved.T16.2 r5_solved.B16 = true := by kernel_rfl
set_option maxHeartbeats 8000000 in
set_option maxRecDepth 100000 in
theorem r5_solved.calls (k : Nat) (A0 : Option Addr) (c0 : Nat) (l0 : List (List Int)) (A1 : Option Addr) (c1 : Nat) (l1 : List (List Int)) (A2 : Option Addr) (c2 : Nat) (l2 : List Bool) (A3 : Option Addr) (c3 : Nat) (l3 : List Int) (a4 : Int) (r : List (List Int)) (w : World) (hr0 : Kd.C (Kd.slice 5 (Kd.int .u8)) w A0 l0.length l0) (hc0 : l0.length ≤ c0) (hr1 : Kd.C (Kd.slice 5 (Kd.int .u8)) w A1 l1.length l1) (hc1 : l1.length ≤ c1) (hr2 : Kd.C Kd.bool w A2 l2.length l2) (hc2 : l2.length ≤ c2) (hr3 : Kd.C (Kd.int .i64) w A3 l3.length l3) (hc3 : l3.length ≤ c3) (h : r5_solved.f k l0 l1 l2 l3 a4 = some r) :
    Calls Try.prog 55 #[.slice A0 l0.length c0, .slice A1 l1.length c1, .slice A2 l2.length c2, .slice A3 l3.length c3, .int .i64 a4] w fun e w' => ∃ v0_ : Value, e = .returned (v0_) ∧ Kd.S (Kd.slice 5 (Kd.int .u8)) 41 w' w.heap.size (fun _ => True) v0_ r ∧ Below w.heap.size w w' := by
 have HR0 := sqM hr0
 have HC0 := sqM hc0
 clear hr0 hc0
 have HR1 := sqM hr1
 have HC1 := sqM hc1
 clear hr1 hc1
 have HR2 := sqM hr2
 have HC2 := sqM hc2
 clear hr2 hc2
 have HR3 := sqM hr3
 have HC3 := sqM hc3
 clear hr3 hc3
 have HB := sqM (Below.refl w.heap.size w)
 have H : (r5_solved.l0 k l0 l1 l2 l3 a4 ([] : List (List Int)) ([] : List (List Int)) 0) = some r := h
 clear h
 have H' := sqM H
 clear H
 go_enter Try.func55, Try.ntmps55
 go_wp2
 go_loopg [11, 12, 13] k (fun kq v11 v12 v13 w' => ∃ (x11_1 : List (List Int)) (x12_1 : List (List Int)) (x13_1 : Int), v13 = .int .i64 x13_1 ∧ Aside0 (r5_solved.l0 kq l0 l1 l2 l3 a4 x11_1 x12_1 x13_1 = some r) ∧ Aside0 (kq ≤ k) ∧ Aside0 (Kd.S (Kd.slice 5 (Kd.int .u8)) 41 w' w.heap.size (fun k_ => some k_ ≠ (v12 : Value).ownBlock) v11 x11_1) ∧ Aside0 (Kd.S (Kd.slice 5 (Kd.int .u8)) 41 w' w.heap.size (fun k_ => some k_ ≠ (v11 : Value).ownBlock) v12 x12_1) ∧ Aside0 (Below w.heap.size w w'))
 case atStart => exact ⟨(([] : List (List Int))), (([] : List (List Int))), (0), (by rfl), H', ⟨Nat.le_refl _⟩, ⟨by exact Kd.S_nil _ _ _ _ _⟩, ⟨by exact Kd.S_nil _ _ _ _ _⟩, ⟨by repeat ((with_reducible (exact HB.out)))⟩⟩
 case round =>
  clear H'
  obtain ⟨x11_1, x12_1, x13_1, rfl, HA, HK1, HO_11, HO_12, HB⟩ := hrel
  cases gk with
  | zero => exact absurd HA.out (by simp [r5_solved.l0])
  | succ k1 =>
   have H := HA.out
   clear HA
   simp only [r5_solved.l0] at H
   have HC6 := sqM H
   clear H
   go_upto_region 4 with (fail)
   go_cut [30] (fun v30 wc => ∃ (kq : Nat) (x30_5 : Bool), v30 = .bool x30_5 ∧ Aside0 (r5_solved.j1 kq l0 l1 l2 l3 a4 x11_1 x12_1 x13_1 x30_5 = some r) ∧ Aside0 (kq ≤ k1) ∧ Aside0 (Kd.S (Kd.slice 5 (Kd.int .u8)) 41 wc w.heap.size (fun k_ => some k_ ≠ (u12 : Value).ownBlock) u11 x11_1) ∧ Aside0 (Kd.S (Kd.slice 5 (Kd.int .u8)) 41 wc w.heap.size (fun k_ => some k_ ≠ (u11 : Value).ownBlock) u12 x12_1) ∧ Aside0 (Below w.heap.size w wc))
   case first =>
    have H := HC6.out
    clear HC6
    by_cases c7 : x13_1 < (l1.length : Int)
    ·
     rw [if_pos c7] at H
     have c7b0 : decide (x13_1 < (l1.length : Int)) = true := decide_eq_true c7
     clear c7
     (skip)
     have H' := sqM H
     clear H
     obtain ⟨Ao8, co8, eo8⟩ := Kd.S_slice HO_11.out
     subst eo8
     go_wp2
     go_meet
     case rel => exact ⟨_, (decide ((x11_1.length : Int) < (l3.length : Int))), (by (simp; done)), H', ⟨by have := HK1.out; (omega)⟩, ⟨by (with_reducible repeat (first | apply Kd.S_alloc | apply Kd.S_drewN | apply Kd.S_drew)); exact HO_11.out⟩, ⟨by (with_reducible repeat (first | apply Kd.S_alloc | apply Kd.S_drewN | apply Kd.S_drew)); exact HO_12.out⟩, ⟨by repeat ((with_reducible (exact HB.out)))⟩⟩
    ·
     rw [if_neg c7] at H
     have c7b0 : decide (x13_1 < (l1.length : Int)) = false := decide_eq_false c7
     clear c7
     (skip)
     have H' := sqM H
     clear H
     go_wp2
     go_meet
     case rel => exact ⟨_, (false), (by rfl), H', ⟨by have := HK1.out; (omega)⟩, ⟨by (with_reducible repeat (first | apply Kd.S_alloc | apply Kd.S_drewN | apply Kd.S_drew)); exact HO_11.out⟩, ⟨by (with_reducible repeat (first | apply Kd.S_alloc | apply Kd.S_drewN | apply Kd.S_drew)); exact HO_12.out⟩, ⟨by repeat ((with_reducible (exact HB.out)))⟩⟩
   case rest =>
    clear HC6
    obtain ⟨kq, x30_5, rfl, HA, HJ5, HO_11, HO_12, HB⟩ := hcut
    cases kq with
    | zero => exact absurd HA.out (by simp [r5_solved.j1])
    | succ kj5 =>
     have H := HA.out
     clear HA
     simp only [r5_solved.j1] at H
     by_cases c9 : x30_5 = true
     ·
      subst c9
      have H1 : (if 0 ≤ (wrap64 ((l0.length : Int) + x13_1)) then (if (wrap64 ((l0.length : Int) + x13_1)) < (l2.length : Int) then (if rdOf false l2 (wrap64 ((l0.length : Int) + x13_1)) = true then (r5_solved.l0 kj5 l0 l1 l2 l3 a4 x11_1 x12_1 (wrap64 (x13_1 + 1))) else (r5_solved.l1 kj5 l0 l1 l2 l3 a4 x11_1 x12_1 x13_1 ([] : List Int) 0)) else (none)) else (none)) = some r := by rw [if_pos rfl] at H; exact H
      clear H
      have H := H1
      clear H1
      obtain ⟨ji10, hji10⟩ : ∃ j_ : Int, (wrap64 ((l0.length : Int) + x13_1)) = j_ := ⟨_, rfl⟩
      replace H : (if 0 ≤ (ji10) then (if (ji10) < (l2.length : Int) then (if rdOf false l2 (ji10) = true then (r5_solved.l0 kj5 l0 l1 l2 l3 a4 x11_1 x12_1 (wrap64 (x13_1 + 1))) else (r5_solved.l1 kj5 l0 l1 l2 l3 a4 x11_1 x12_1 x13_1 ([] : List Int) 0)) else (none)) else (none)) = some r := by (rw [hji10] at H; exact H)
      have hji10w : (IntKind.i64.wrap ((l0.length : Int) + x13_1)) = ji10 := (i64_w _).trans hji10
      by_cases c11 : 0 ≤ (ji10)
      ·
       rw [if_pos c11] at H
       have c11b0 : decide (0 ≤ (ji10)) = true := decide_eq_true c11
       clear c11
       by_cases c12 : (ji10) < (l2.length : Int)
       ·
        rw [if_pos c12] at H
        have c12b0 : decide ((ji10) < (l2.length : Int)) = true := decide_eq_true c12
        clear c12
        obtain ⟨bq13, hbq13⟩ : ∃ b_ : Bool, b_ = (rdOf false l2 (ji10)) := ⟨_, rfl⟩
        replace H : (if bq13 = true then (r5_solved.l0 kj5 l0 l1 l2 l3 a4 x11_1 x12_1 (wrap64 (x13_1 + 1))) else (r5_solved.l1 kj5 l0 l1 l2 l3 a4 x11_1 x12_1 x13_1 ([] : List Int) 0)) = some r := by rw [← hbq13] at H; exact H
        have Nbq13 := sqM hbq13
        clear hbq13
        by_cases c14 : bq13 = true
        ·
         subst c14
         have H1 : (r5_solved.l0 kj5 l0 l1 l2 l3 a4 x11_1 x12_1 (wrap64 (x13_1 + 1))) = some r := by rw [if_pos rfl] at H; exact H
         clear H
         have H := H1
         clear H1
         have H' := sqM H
         clear H
         have p105 : 0 ≤ ((ji10) : Int) := of_decide_eq_true (by (with_reducible assumption))
         have q105 : (ji10) < (l2.length : Int) := of_decide_eq_true (by (with_reducible assumption))
         obtain ⟨ad105, e105, hx105_0⟩ := Kd.at_bool HR2.out (ji10) p105 q105
         (try rw [← Nbq13.out] at hx105_0)
         cases e105
         replace hx105_0 := (HB.out.cell (World.block_lt_of_cell? w _ hx105_0)).trans hx105_0
         replace p105 := eq_true p105
         replace q105 := eq_true q105
         go_wp2
         go_roundg kj5
         case measure => have := HK1.out; have := HJ5.out; omega
         case rel => exact ⟨(x11_1), (x12_1), (wrap64 (x13_1 + 1)), (by rfl), H', ⟨by have := HK1.out; have := HJ5.out; omega⟩, ⟨by (with_reducible repeat (first | apply Kd.S_alloc | apply Kd.S_drewN | apply Kd.S_drew)); exact HO_11.out⟩, ⟨by (with_reducible repeat (first | apply Kd.S_alloc | apply Kd.S_drewN | apply Kd.S_drew)); exact HO_12.out⟩, ⟨by repeat ((with_reducible (exact HB.out)))⟩⟩
        ·
         replace c14 := Bool.eq_false_iff.mpr c14
         subst c14
         have H1 : (r5_solved.l1 kj5 l0 l1 l2 l3 a4 x11_1 x12_1 x13_1 ([] : List Int) 0) = some r := by rw [if_neg (show ¬ (false = true) by decide)] at H; exact H
         clear H
         have H := H1
         clear H1
         have H' := sqM H
         clear H
         have p105 : 0 ≤ ((ji10) : Int) := of_decide_eq_true (by (with_reducible assumption))
         have q105 : (ji10) < (l2.length : Int) := of_decide_eq_true (by (with_reducible assumption))
         obtain ⟨ad105, e105, hx105_0⟩ := Kd.at_bool HR2.out (ji10) p105 q105
         (try rw [← Nbq13.out] at hx105_0)
         cases e105
         replace hx105_0 := (HB.out.cell (World.block_lt_of_cell? w _ hx105_0)).trans hx105_0
         replace p105 := eq_true p105
         replace q105 := eq_true q105
         go_wp2
         go_loopg [14, 15] kj5 (fun kq v14 v15 w' => ∃ (x14_3 : List Int) (x15_3 : Int), v15 = .int .i64 x15_3 ∧ Aside0 (r5_solved.l1 kq l0 l1 l2 l3 a4 x11_1 x12_1 x13_1 x14_3 x15_3 = some r) ∧ Aside0 (kq ≤ kj5) ∧ Aside0 (Kd.S (Kd.slice 5 (Kd.int .u8)) 41 w' w.heap.size (fun k_ => some k_ ≠ (u12 : Value).ownBlock ∧ some k_ ≠ (v14 : Value).ownBlock) u11 x11_1) ∧ Aside0 (Kd.S (Kd.slice 5 (Kd.int .u8)) 41 w' w.heap.size (fun k_ => some k_ ≠ (u11 : Value).ownBlock ∧ some k_ ≠ (v14 : Value).ownBlock) u12 x12_1) ∧ Aside0 (Kd.R (Kd.int .u8) 5 w' w.heap.size (fun _ => True) v14 x14_3) ∧ Aside0 (Below w.heap.size w w'))
         case atStart => exact ⟨(([] : List Int)), (0), (by rfl), H', ⟨Nat.le_refl _⟩, ⟨by (with_reducible repeat (first | apply Kd.S_alloc | apply Kd.S_drewN | apply Kd.S_drew)); exact Kd.S_mono HO_11.out (fun _ hk => ⟨hk, (by simp [Value.ownBlock])⟩)⟩, ⟨by (with_reducible repeat (first | apply Kd.S_alloc | apply Kd.S_drewN | apply Kd.S_drew)); exact Kd.S_mono HO_12.out (fun _ hk => ⟨hk, (by simp [Value.ownBlock])⟩)⟩, ⟨by exact Kd.R_nil _ _ _ _ _⟩, ⟨by repeat ((with_reducible (exact HB.out)))⟩⟩
         case round =>
          clear H'
          try clear c11b0
          try clear c12b0
          try clear hx105_0
          try clear p105
          try clear q105
          obtain ⟨x14_3, x15_3, rfl, HA, HK3, HO_11, HO_12, HO_14, HB⟩ := hrel
          cases gk with
          | zero => exact absurd HA.out (by simp [r5_solved.l1])
          | succ k3 =>
           have H := HA.out
           clear HA
           simp only [r5_solved.l1] at H
           by_cases c15 : x15_3 < (l3.length : Int)
           ·
            rw [if_pos c15] at H
            have c15b0 : decide (x15_3 < (l3.length : Int)) = true := decide_eq_true c15
            clear c15
            by_cases c16 : 0 ≤ x15_3
            ·
             rw [if_pos c16] at H
             have c16b0 : decide (0 ≤ x15_3) = true := decide_eq_true c16
             clear c16
             replace H := Option.bind_eq_some_iff.mp H
             obtain ⟨t107, A170, H⟩ := H
             replace H : (if x14_3.length < 140737488355328 then (r5_solved.l1 k3 l0 l1 l2 l3 a4 x11_1 x12_1 x13_1 (x14_3 ++ [t107]) (wrap64 (x15_3 + 1))) else (none)) = some r := H
             have A17 := sqM A170
             clear A170
             by_cases c18 : x14_3.length < 140737488355328
             ·
              rw [if_pos c18] at H
              have LMc18 := sqM c18
              clear c18
              obtain ⟨y108, hy108⟩ : ∃ y_ : List Int, y_ = (x14_3 ++ [t107]) := ⟨_, rfl⟩
              replace H : (r5_solved.l1 k3 l0 l1 l2 l3 a4 x11_1 x12_1 x13_1 y108 (wrap64 (x15_3 + 1))) = some r := by (rw [hy108]; with_reducible exact H)
              have Ny108 := sqM hy108
              clear hy108
              have H' := sqM H
              clear H
              have p106 : 0 ≤ (x15_3 : Int) := of_decide_eq_true (by (with_reducible assumption))
              have q106 : x15_3 < (l3.length : Int) := of_decide_eq_true (by (with_reducible assumption))
              obtain ⟨ad106, e106, hx106_0⟩ := Kd.at_int HR3.out x15_3 p106 q106
              cases e106
              replace hx106_0 := (HB.out.cell (World.block_lt_of_cell? w _ hx106_0)).trans hx106_0
              replace p106 := eq_true p106
              replace q106 := eq_true q106
              go_wp2_with (first | ((with_reducible refine q09 (f := 57) rfl ?_); refine q1p (some 52) rfl rfl Try.func57 (by kernel_rfl) rfl #[.int .i64 x13_1, .int .i64 (rd l3 x15_3)] rfl (by (try simp only [List.map_toArray, List.map_cons, List.map_nil]); (rfl)) ?_; (with_reducible refine (r5_element.calls k3 x13_1 (rd l3 x15_3) t107 _ A17.out).mono ?_); rintro e w' ⟨rfl, ⟨nd, rfl⟩⟩; refine ⟨_, rfl, ?_⟩) | ((with_reducible refine q05 (b := .append) (xs := #[.tmp 46, .tmp 53]) rfl ?_); (try (refine q0r (by rfl) ?_; dsimp only)); at_builtin; refine Kd.R_append (Kd.int .u8) (w0 := w) w.heap.size rfl (.tmp 46) (.tmp 53) 41 5 (.int .u8 0) 1 rfl Try.underlying41 info5 rfl (by decide) (by omega) u14 x14_3 t107 [.int .u8 t107] (fun _ => True) (fun _ => False) rfl rfl ?aP (fun _ hk => hk.elim) ?aF ?aO ?aB ?aS ?aL ?_; (case aP => exact rfl); (case aB => exact (by repeat ((with_reducible first | exact HB.out | apply q00)))); (case aF => exact (fun _ _ => trivial)); (case aO => exact (by (with_reducible repeat (apply Kd.R_drewN)); exact HO_14.out)); (case aS => exact (q01 (by repeat ((with_reducible first | exact HB.out | apply q00))))); (case aL => have := LMc18.out; omega); intro v109 w19 ho hb hg hat; rw [← Ny108.out] at ho; have n0_ := sqM (Kd.S_after (ok := (fun k_ => some k_ ≠ (u12 : Value).ownBlock)) (by (with_reducible repeat (apply Kd.S_drewN)); exact HO_11.out) hg hat); have n1_ := sqM (Kd.S_after (ok := (fun k_ => some k_ ≠ (u11 : Value).ownBlock)) (by (with_reducible repeat (apply Kd.S_drewN)); exact HO_12.out) hg hat); have n2_ := sqM (hb); have n3_ := sqM (ho); clear HO_11; clear HO_12; clear HB; clear HO_14; have HO_11 := n0_; have HO_12 := n1_; have HB := n2_; have HO110 := n3_; clear n0_ n1_ n2_ n3_; clear ho hb hg hat))
              go_roundg k3
              case measure => have := HK1.out; have := HJ5.out; have := HK3.out; omega
              case rel => exact ⟨(y108), (wrap64 (x15_3 + 1)), (by rfl), H', ⟨by have := HK1.out; have := HJ5.out; have := HK3.out; omega⟩, ⟨by (with_reducible repeat (first | apply Kd.S_alloc | apply Kd.S_drewN | apply Kd.S_drew)); exact HO_11.out⟩, ⟨by (with_reducible repeat (first | apply Kd.S_alloc | apply Kd.S_drewN | apply Kd.S_drew)); exact HO_12.out⟩, ⟨by (with_reducible repeat (first | apply Kd.R_alloc | apply Kd.R_drewN | apply Kd.R_drew)); exact HO110.out⟩, ⟨by repeat ((with_reducible (exact HB.out)))⟩⟩
             · rw [if_neg c18] at H
               exact absurd H (by simp)
            · rw [if_neg c16] at H
              exact absurd H (by simp)
           ·
            rw [if_neg c15] at H
            have c15b0 : decide (x15_3 < (l3.length : Int)) = false := decide_eq_false c15
            clear c15
            replace H := Option.bind_eq_some_iff.mp H
            obtain ⟨t111, A200, H⟩ := H
            replace H : (r5_solved.l2 k3 l0 l1 l2 l3 a4 x11_1 x12_1 x13_1 x14_3 t111 0) = some r := H
            have A20 := sqM A200
            clear A200
            have H' := sqM H
            clear H
            go_wp2_with (first | ((with_reducible refine q09 (f := 52) rfl ?_); refine q1p (some 58) rfl rfl Try.func52 (by kernel_rfl) rfl #[.slice A0 l0.length c0, .int .i64 x13_1, .int .i64 a4] rfl (by (try simp only [List.map_toArray, List.map_cons, List.map_nil]); (rfl)) ?_; (with_reducible refine (r5_row.calls k3 _ _ l0 x13_1 a4 t111 _ ?side1 ?side2 A20.out).mono ?_); (case side1 => repeat (exact (Kd.C_below HR0.out HB.out))); (case side2 => exact HC0.out); rintro e w21 ⟨v112, rfl, ho0, hb⟩; refine ⟨_, rfl, ?_⟩; have n0_ := sqM (Kd.S_elder' (by (with_reducible repeat (first | apply Kd.S_alloc | apply Kd.S_drewN | apply Kd.S_drew)); exact HO_11.out) (Kd.R_base ho0) hb); have n1_ := sqM (Kd.S_elder' (by (with_reducible repeat (first | apply Kd.S_alloc | apply Kd.S_drewN | apply Kd.S_drew)); exact HO_12.out) (Kd.R_base ho0) hb); have n2_ := sqM (Kd.R_elder' (by (with_reducible repeat (first | apply Kd.R_alloc | apply Kd.R_drewN | apply Kd.R_drew)); exact HO_14.out) (Kd.R_base ho0) hb); have n3_ := sqM (Kd.R_lower (Kd.R_new' ho0 (Kd.R_lt (by (with_reducible repeat (first | apply Kd.R_alloc | apply Kd.R_drewN | apply Kd.R_drew)); exact HO_14.out))) (q01 (by repeat ((with_reducible (exact HB.out)))))); have n4_ := sqM (q04 (by repeat ((with_reducible (exact HB.out)))) hb); clear HO_11; clear HO_12; clear HO_14; clear HB; have HO_11 := n0_; have HO_12 := n1_; have HO_14 := n2_; have HO113 := n3_; have HB := n4_; clear n0_ n1_ n2_ n3_ n4_; (try clear hb); (try clear ho0)))
            go_loopg [17] k3 (fun kq v17 w' => ∃ (x16_4 : List Int) (x17_4 : Int), v17 = .int .i64 x17_4 ∧ Aside0 (r5_solved.l2 kq l0 l1 l2 l3 a4 x11_1 x12_1 x13_1 x14_3 x16_4 x17_4 = some r) ∧ Aside0 (kq ≤ k3) ∧ Aside0 (Kd.S (Kd.slice 5 (Kd.int .u8)) 41 w' w.heap.size (fun k_ => some k_ ≠ (u12 : Value).ownBlock ∧ some k_ ≠ (u14 : Value).ownBlock ∧ some k_ ≠ (v112 : Value).ownBlock) u11 x11_1) ∧ Aside0 (Kd.S (Kd.slice 5 (Kd.int .u8)) 41 w' w.heap.size (fun k_ => some k_ ≠ (u11 : Value).ownBlock ∧ some k_ ≠ (u14 : Value).ownBlock ∧ some k_ ≠ (v112 : Value).ownBlock) u12 x12_1) ∧ Aside0 (Kd.R (Kd.int .u8) 5 w' w.heap.size (fun k_ => some k_ ≠ (v112 : Value).ownBlock) u14 x14_3) ∧ Aside0 (Kd.R (Kd.int .u8) 5 w' w.heap.size (fun k_ => some k_ ≠ (u14 : Value).ownBlock) v112 x16_4) ∧ Aside0 (Below w.heap.size w w'))
            case atStart => exact ⟨(t111), (0), (by rfl), H', ⟨Nat.le_refl _⟩, ⟨by (with_reducible repeat (first | apply Kd.S_alloc | apply Kd.S_drewN | apply Kd.S_drew)); exact Kd.S_mono HO_11.out (fun _ hk => ⟨hk.1.1, ⟨hk.1.2, hk.2⟩⟩)⟩, ⟨by (with_reducible repeat (first | apply Kd.S_alloc | apply Kd.S_drewN | apply Kd.S_drew)); exact Kd.S_mono HO_12.out (fun _ hk => ⟨hk.1.1, ⟨hk.1.2, hk.2⟩⟩)⟩, ⟨by (with_reducible repeat (first | apply Kd.R_alloc | apply Kd.R_drewN | apply Kd.R_drew)); exact Kd.R_mono HO_14.out (fun _ hk => hk.2)⟩, ⟨by (with_reducible repeat (first | apply Kd.R_alloc | apply Kd.R_drewN | apply Kd.R_drew)); exact Kd.R_mono HO113.out (fun _ hk => hk.2)⟩, ⟨by repeat ((with_reducible (exact HB.out)))⟩⟩
            case round =>
             clear H'
             try clear c15b0
             obtain ⟨x16_4, x17_4, rfl, HA, HK4, HO_11, HO_12, HO_14, HO_16, HB⟩ := hrel
             cases gk with
             | zero => exact absurd HA.out (by simp [r5_solved.l2])
             | succ k4 =>
              have H := HA.out
              clear HA
              simp only [r5_solved.l2] at H
              by_cases c22 : x17_4 < a4
              ·
               rw [if_pos c22] at H
               have c22b0 : decide (x17_4 < a4) = true := decide_eq_true c22
               clear c22
               by_cases c23 : 0 ≤ x17_4
               ·
                rw [if_pos c23] at H
                have c23b0 : decide (0 ≤ x17_4) = true := decide_eq_true c23
                clear c23
                by_cases c24 : x17_4 < (x16_4.length : Int)
                ·
                 rw [if_pos c24] at H
                 have c24b0 : decide (x17_4 < (x16_4.length : Int)) = true := decide_eq_true c24
                 clear c24
                 by_cases c25 : 0 ≤ x13_1
                 ·
                  rw [if_pos c25] at H
                  have c25b0 : decide (0 ≤ x13_1) = true := decide_eq_true c25
                  clear c25
                  by_cases c26 : x13_1 < (l1.length : Int)
                  ·
                   rw [if_pos c26] at H
                   have c26b0 : decide (x13_1 < (l1.length : Int)) = true := decide_eq_true c26
                   clear c26
                   by_cases c27 : x17_4 < ((rd_L1 l1 x13_1).length : Int)
                   ·
                    rw [if_pos c27] at H
                    have c27b0 : decide (x17_4 < ((rd_L1 l1 x13_1).length : Int)) = true := decide_eq_true c27
                    clear c27
                    obtain ⟨y117, hy117⟩ : ∃ y_ : List Int, y_ = (x16_4.set (x17_4 : Int).toNat (Go.bits .xor .u8 (rd x16_4 x17_4) (rd (rd_L1 l1 x13_1) x17_4))) := ⟨_, rfl⟩
                    replace H : (r5_solved.l2 k4 l0 l1 l2 l3 a4 x11_1 x12_1 x13_1 x14_3 y117 (wrap64 (x17_4 + 1))) = some r := by (rw [hy117]; with_reducible exact H)
                    have Ny117 := sqM hy117
                    clear hy117
                    have H' := sqM H
                    clear H
                    try go_wp2
                    have n0_ := sqM (Kd.S_drew HO_11.out)
                    have n1_ := sqM (Kd.S_drew HO_12.out)
                    have n2_ := sqM (Kd.R_drew HO_14.out)
                    have n3_ := sqM (Kd.R_drew HO_16.out)
                    have n4_ := sqM (q06 HB.out)
                    clear HO_11
                    clear HO_12
                    clear HO_14
                    clear HO_16
                    clear HB
                    have HO_11 := n0_
                    have HO_12 := n1_
                    have HO_14 := n2_
                    have HO_16 := n3_
                    have HB := n4_
                    clear n0_ n1_ n2_ n3_ n4_
                    obtain ⟨Ao30, co30, eo30⟩ := Kd.R_slice HO_16.out
                    (subst eo30)
                    have p114 : 0 ≤ (x17_4 : Int) := of_decide_eq_true (by (with_reducible assumption))
                    have q114 : x17_4 < (x16_4.length : Int) := of_decide_eq_true (by (with_reducible assumption))
                    obtain ⟨ad114, e114, hx114_0⟩ := Kd.at_int (Kd.R_reads' HO_16.out).2.2 x17_4 p114 q114
                    cases e114
                    replace p114 := eq_true p114
                    replace q114 := eq_true q114
                    have p115 : 0 ≤ (x13_1 : Int) := of_decide_eq_true (by (with_reducible assumption))
                    have q115 : x13_1 < (l1.length : Int) := of_decide_eq_true (by (with_reducible assumption))
                    obtain ⟨ad115, A115_0, c115_0, e115, hx115_0, hl115_0, hi115_0⟩ := at_L1 HR1.out x13_1 p115 q115
                    have hw115_0 := hx115_0
                    cases e115
                    replace hx115_0 := (HB.out.cell (World.block_lt_of_cell? w _ hx115_0)).trans hx115_0
                    have HR115_0 := sqM hi115_0
                    have HC115_0 := sqM hl115_0
                    clear hi115_0 hl115_0
                    replace p115 := eq_true p115
                    replace q115 := eq_true q115
                    have p116 : 0 ≤ (x17_4 : Int) := of_decide_eq_true (by (with_reducible assumption))
                    have q116 : x17_4 < ((rd_L1 l1 x13_1).length : Int) := of_decide_eq_true (by (with_reducible assumption))
                    obtain ⟨ad116, e116, hx116_0⟩ := Kd.at_int HR115_0.out x17_4 p116 q116
                    have hw116_0 := hx116_0
                    cases e116
                    replace hx116_0 := (HB.out.cell (World.block_lt_of_cell? w _ hx116_0)).trans hx116_0
                    replace p116 := eq_true p116
                    replace q116 := eq_true q116
                    have p28 : 0 ≤ (x17_4 : Int) := of_decide_eq_true (by (with_reducible assumption))
                    have q28 : (x17_4 : Int) < ((x16_4.length : Int) : Int) := of_decide_eq_true (by (with_reducible assumption))
                    obtain ⟨go28, co28, eo28, gb28, gl28, cl28, HG28⟩ := Kd.R_form HO_16.out (by omega)
                    (cases eo28)
                    have GB28 := sqM gb28
                    have GG28 := sqM HG28
                    clear gb28 gl28 HG28
                    (simp only [add_plain] at hx114_0)
                    obtain ⟨hx28_0, hf28_0⟩ := Kd.R_celln 0 HO_16.out (x17_4 : Int) p28 q28
                    replace p28 := eq_true p28
                    replace q28 := eq_true q28
                    have HP31 := Kd.R_putn HO_16.out (x17_4 : Int) (Go.bits .xor .u8 (rd x16_4 x17_4) (rd (rd_L1 l1 x13_1) x17_4))
                    rw [← Ny117.out] at HP31
                    have HQ31 := sqM HP31
                    clear HP31
                    refine q1x (n := 16) (S := fun w' => w'.cell? ⟨go28, (x17_4).toNat, none⟩ = some (.int .u8 (rd x16_4 x17_4)) ∧ w'.cell? (ad115.add (x13_1).toNat) = some (.slice (some ad116) (rd_L1 l1 x13_1).length c115_0) ∧ w'.cell? (ad116.add (x17_4).toNat) = some (.int .u8 (rd (rd_L1 l1 x13_1) x17_4))) (ds := [15]) #[fF,fF,fF,fF,fF,fF,fF,fF,fF,fF,fF,fF,fF,fF,fF,fF] (by kernel_rfl) rfl rfl ⟨hx114_0, ((HB.out.cell (World.block_lt_of_cell? w _ hw115_0)).trans hw115_0), ((HB.out.cell (World.block_lt_of_cell? w _ hw116_0)).trans hw116_0)⟩ (fun hHeld => ?_); refine with_tabW r5_solved.tab16 r5_solved.bits16 (fun HT_ HW_ => ?_)
                    generalize wr.drew = w29 at HO_11 HO_12 HO_14 HO_16 HB GG28 HQ31 HR115_0 hf28_0 hx114_0 hx115_0 hx116_0 hx28_0 hHeld ⊢
                    refine pU 0 64 #[tT,fF,fF,fF,fF,fF,fF,fF,fF,fF,fF,fF,fF,fF,fF,fF] ?_ (hc := q0g HT_.out (by kernel_rfl))
                    refine pU 1 65 #[tT,tT,fF,fF,fF,fF,fF,fF,fF,fF,fF,fF,fF,fF,fF,fF] ?_ (hc := q0g HT_.out (by kernel_rfl))
                    refine pU 2 66 #[tT,tT,tT,fF,fF,fF,fF,fF,fF,fF,fF,fF,fF,fF,fF,fF] ?_ (hc := q0g HT_.out (by kernel_rfl))
                    refine pU 3 67 #[tT,tT,tT,tT,fF,fF,fF,fF,fF,fF,fF,fF,fF,fF,fF,fF] ?_ (hc := q0g HT_.out (by kernel_rfl))
                    refine pU 4 68 #[tT,tT,tT,tT,tT,fF,fF,fF,fF,fF,fF,fF,fF,fF,fF,fF] ?_ (hc := q0g HT_.out (by kernel_rfl))
                    refine pU 6 70 #[tT,tT,tT,tT,tT,fF,tT,fF,fF,fF,fF,fF,fF,fF,fF,fF] ?_ (hc := q0g HT_.out (by kernel_rfl))
                    refine pU 7 71 #[tT,tT,tT,tT,tT,fF,tT,tT,fF,fF,fF,fF,fF,fF,fF,fF] ?_ (hc := q0g HT_.out (by kernel_rfl))
                    refine pU 8 72 #[tT,tT,tT,tT,tT,fF,tT,tT,tT,fF,fF,fF,fF,fF,fF,fF] ?_ (hc := q0g HT_.out (by kernel_rfl))
                    refine pU 10 74 #[tT,tT,tT,tT,tT,fF,tT,tT,tT,fF,tT,fF,fF,fF,fF,fF] ?_ (hc := q0g HT_.out (by kernel_rfl))
                    refine tK 5 69 #[tT,tT,tT,tT,tT,tT,tT,tT,tT,fF,tT,fF,fF,fF,fF,fF] hHeld ?_ (hc := take_ofW HT_.out HW_.out (by kernel_rfl)) (hy := by
                     rintro w' ⟨s0, s1, s2⟩
                     go_simp
                     with_reducible rfl)
                    refine tK 9 73 #[tT,tT,tT,tT,tT,tT,tT,tT,tT,tT,tT,fF,fF,fF,fF,fF] hHeld ?_ (hc := take_ofW HT_.out HW_.out (by kernel_rfl)) (hy := by
                     rintro w' ⟨s0, s1, s2⟩
                     go_simp
                     with_reducible rfl)
                    refine pU 11 75 #[tT,tT,tT,tT,tT,tT,tT,tT,tT,tT,tT,tT,fF,fF,fF,fF] ?_ (hc := q0g HT_.out (by kernel_rfl))
                    refine tK 12 76 #[tT,tT,tT,tT,tT,tT,tT,tT,tT,tT,tT,tT,tT,fF,fF,fF] hHeld ?_ (hc := take_ofW HT_.out HW_.out (by kernel_rfl)) (hy := by
                     rintro w' ⟨s0, s1, s2⟩
                     go_simp
                     with_reducible rfl)
                    refine pU 13 77 #[tT,tT,tT,tT,tT,tT,tT,tT,tT,tT,tT,tT,tT,tT,fF,fF] ?_ (hc := q0g HT_.out (by kernel_rfl))
                    refine pU 14 78 #[tT,tT,tT,tT,tT,tT,tT,tT,tT,tT,tT,tT,tT,tT,tT,fF] ?_ (hc := q0g HT_.out (by kernel_rfl))
                    refine last_ (i := 15) (N := none) #[tT,tT,tT,tT,tT,tT,tT,tT,tT,tT,tT,tT,tT,tT,tT,tT] rfl rfl (one_of HT_.out (by kernel_rfl)) (by decide) (fun K hK => ?_)
                    refine skip_ (w1 := ?_) (by rfl) rfl ?_ ?_
                    rotate_left
                    · go_simp
                      rfl
                    refine hK.out _ _ ?_
                    clear hK K
                    refine done_ (done_of HT_.out (by kernel_rfl)) ?_
                    try go_wp2
                    go_roundg k4
                    case measure => have := HK1.out; have := HJ5.out; have := HK3.out; have := HK4.out; omega
                    case rel => exact ⟨(y117), (wrap64 (x17_4 + 1)), (by rfl), H', ⟨by have := HK1.out; have := HJ5.out; have := HK3.out; have := HK4.out; omega⟩, ⟨by (with_reducible repeat (first | apply Kd.S_alloc | apply Kd.S_drewN | apply Kd.S_drew)); exact Kd.S_mono (Kd.S_far (p := ⟨go28, (x17_4 : Int).toNat, none⟩) (Kd.S_mono HO_11.out (fun k_ hk => (⟨hk, fun e_ => hk.2.2 (by rw [e_]; rfl)⟩ : _ ∧ k_ ≠ go28))) (fun _ hk => hk.2) (.int .u8 (Go.bits .xor .u8 (rd x16_4 x17_4) (rd (rd_L1 l1 x13_1) x17_4)))) (fun _ hk => ⟨hk.1.1, ⟨hk.1.2.1, hk.1.2.2⟩⟩)⟩, ⟨by (with_reducible repeat (first | apply Kd.S_alloc | apply Kd.S_drewN | apply Kd.S_drew)); exact Kd.S_mono (Kd.S_far (p := ⟨go28, (x17_4 : Int).toNat, none⟩) (Kd.S_mono HO_12.out (fun k_ hk => (⟨hk, fun e_ => hk.2.2 (by rw [e_]; rfl)⟩ : _ ∧ k_ ≠ go28))) (fun _ hk => hk.2) (.int .u8 (Go.bits .xor .u8 (rd x16_4 x17_4) (rd (rd_L1 l1 x13_1) x17_4)))) (fun _ hk => ⟨hk.1.1, ⟨hk.1.2.1, hk.1.2.2⟩⟩)⟩, ⟨by (with_reducible repeat (first | apply Kd.R_alloc | apply Kd.R_drewN | apply Kd.R_drew)); exact Kd.R_mono (Kd.R_far (p := ⟨go28, (x17_4 : Int).toNat, none⟩) (Kd.R_mono HO_14.out (fun k_ hk => (⟨hk, fun e_ => hk (by rw [e_]; rfl)⟩ : _ ∧ k_ ≠ go28))) (fun _ hk => hk.2) (.int .u8 (Go.bits .xor .u8 (rd x16_4 x17_4) (rd (rd_L1 l1 x13_1) x17_4)))) (fun _ hk => hk.1)⟩, ⟨by (with_reducible repeat (first | apply Kd.R_alloc | apply Kd.R_drewN | apply Kd.R_drew)); exact HQ31.out⟩, ⟨by repeat ((with_reducible first | exact HB.out | refine q0m ?_ GB28.out))⟩⟩
                   · rw [if_neg c27] at H
                     exact absurd H (by simp)
                  · rw [if_neg c26] at H
                    exact absurd H (by simp)
                 · rw [if_neg c25] at H
                   exact absurd H (by simp)
                · rw [if_neg c24] at H
                  exact absurd H (by simp)
               · rw [if_neg c23] at H
                 exact absurd H (by simp)
              ·
               rw [if_neg c22] at H
               have c22b0 : decide (x17_4 < a4) = false := decide_eq_false c22
               clear c22
               by_cases c32 : x11_1.length < 5864062014805
               ·
                rw [if_pos c32] at H
                have LMc32 := sqM c32
                clear c32
                obtain ⟨y118, hy118⟩ : ∃ y_ : List (List Int), y_ = (x11_1 ++ [x14_3]) := ⟨_, rfl⟩
                replace H : (if x12_1.length < 5864062014805 then (r5_solved.l0 k4 l0 l1 l2 l3 a4 y118 (x12_1 ++ [x16_4]) (wrap64 (x13_1 + 1))) else (none)) = some r := by (rw [hy118]; with_reducible exact H)
                have Ny118 := sqM hy118
                clear hy118
                by_cases c33 : x12_1.length < 5864062014805
                · rw [if_pos c33] at H
                  have LMc33 := sqM c33
                  clear c33
                  obtain ⟨y121, hy121⟩ : ∃ y_ : List (List Int), y_ = (x12_1 ++ [x16_4]) := ⟨_, rfl⟩
                  replace H : (r5_solved.l0 k4 l0 l1 l2 l3 a4 y118 y121 (wrap64 (x13_1 + 1))) = some r := by (rw [hy121]; with_reducible exact H)
                  have Ny121 := sqM hy121
                  clear hy121
                  have H' := sqM H
                  clear H
                  obtain ⟨Ao35, co35, eo35⟩ := Kd.R_slice HO_14.out
                  subst eo35
                  go_wp2_with (first | ((with_reducible refine q05 (b := .append) (xs := #[.tmp 79, .tmp 81]) rfl ?_); (try (refine q0r (by rfl) ?_; dsimp only)); at_builtin; refine Kd.S_append (Kd.slice 5 (Kd.int .u8)) (w0 := w) w.heap.size rfl (.tmp 79) (.tmp 81) 35 41 (.slice none 0 0) 24 rfl Try.underlying35 info41 rfl (by decide) (by omega) u11 x11_1 x14_3 [.slice Ao35 x14_3.length co35] (fun k_ => some k_ ≠ (u12 : Value).ownBlock ∧ some k_ ≠ (v112 : Value).ownBlock) (fun k_ => some k_ = (.slice Ao35 x14_3.length co35 : Value).ownBlock) rfl rfl ?aP (fun k_ hk_ => ((Kd.R_mono (ok' := fun k_ => ((fun k_ => some k_ ≠ (u12 : Value).ownBlock ∧ some k_ ≠ (v112 : Value).ownBlock)) k_ ∧ some k_ ≠ (u11 : Value).ownBlock) (Kd.R_apart' (Kd.R_apart' (HO_14.out) (Kd.S_typed HO_12.out) (by decide)) (Kd.S_typed HO_11.out) (by decide)) (fun k_ hk => ⟨⟨hk.1.2, hk.1.1⟩, hk.2⟩))).1 k_ hk_.symm) ?aF ?aO ?aB ?aS ?aL ?_; (case aP => exact Kd.M_row (Kd.R_mono (Kd.R_tight rfl (Kd.R_mono (ok' := fun k_ => ((fun k_ => some k_ ≠ (u12 : Value).ownBlock ∧ some k_ ≠ (v112 : Value).ownBlock)) k_ ∧ some k_ ≠ (u11 : Value).ownBlock) (Kd.R_apart' (Kd.R_apart' (HO_14.out) (Kd.S_typed HO_12.out) (by decide)) (Kd.S_typed HO_11.out) (by decide)) (fun k_ hk => ⟨⟨hk.1.2, hk.1.1⟩, hk.2⟩))) (fun _ h_ => h_))); (case aB => exact (by repeat ((with_reducible (exact HB.out))))); (case aF => exact (fun k_ hk => ⟨Kd.fresh' (Kd.S_lt (by (with_reducible repeat (first | apply Kd.S_alloc | apply Kd.S_drewN | apply Kd.S_drew)); exact HO_12.out)) k_ hk, Kd.fresh' (Kd.R_lt (by (with_reducible repeat (first | apply Kd.R_alloc | apply Kd.R_drewN | apply Kd.R_drew)); exact HO_16.out)) k_ hk⟩)); (case aO => exact (by (with_reducible repeat (first | apply Kd.S_alloc | apply Kd.S_drewN | apply Kd.S_drew)); exact Kd.S_mono HO_11.out (fun k_ hk => ⟨⟨hk.1, hk.2.2⟩, fun e_ => hk.2.1 e_⟩))); (case aS => exact (q01 (by repeat ((with_reducible (exact HB.out)))))); (case aL => have := LMc32.out; omega); intro v119 w34 ho hb hg hat; rw [← Ny118.out] at ho; have n0_ := sqM (Kd.S_after (ok := (fun k_ => some k_ ≠ (.slice Ao35 x14_3.length co35 : Value).ownBlock ∧ some k_ ≠ (v112 : Value).ownBlock)) (by (with_reducible repeat (first | apply Kd.S_alloc | apply Kd.S_drewN | apply Kd.S_drew)); exact Kd.S_mono HO_12.out (fun _ hk => ⟨⟨hk.2.1, hk.2.2⟩, hk.1⟩)) hg hat); have n1_ := sqM (Kd.R_over' (by (with_reducible repeat (first | apply Kd.R_alloc | apply Kd.R_drewN | apply Kd.R_drew)); exact HO_16.out) (Kd.S_typed (by (with_reducible repeat (first | apply Kd.S_alloc | apply Kd.S_drewN | apply Kd.S_drew)); exact HO_11.out)) (by decide) hg); have n2_ := sqM (hb); have n3_ := sqM (ho); clear HO_12; clear HO_16; clear HB; clear HO_11; clear HO_14; have HO_12 := n0_; have HO_16 := n1_; have HB := n2_; have HO120 := n3_; clear n0_ n1_ n2_ n3_; clear ho hb hg hat; obtain ⟨Ao37, co37, eo37⟩ := Kd.R_slice HO_16.out; subst eo37) | ((with_reducible refine q05 (b := .append) (xs := #[.tmp 83, .tmp 85]) rfl ?_); (try (refine q0r (by rfl) ?_; dsimp only)); at_builtin; refine Kd.S_append (Kd.slice 5 (Kd.int .u8)) (w0 := w) w.heap.size rfl (.tmp 83) (.tmp 85) 35 41 (.slice none 0 0) 24 rfl Try.underlying35 info41 rfl (by decide) (by omega) u12 x12_1 x16_4 [.slice Ao37 x16_4.length co37] (fun k_ => some k_ ≠ (v119 : Value).ownBlock) (fun k_ => some k_ = (.slice Ao37 x16_4.length co37 : Value).ownBlock) rfl rfl ?aP (fun k_ hk_ => ((Kd.R_mono (ok' := fun k_ => ((fun k_ => some k_ ≠ (v119 : Value).ownBlock)) k_ ∧ some k_ ≠ (u12 : Value).ownBlock) (Kd.R_apart' (Kd.R_apart' (HO_16.out) (Kd.S_typed HO120.out) (by decide)) (Kd.S_typed HO_12.out) (by decide)) (fun k_ hk => ⟨hk.1.2, hk.2⟩))).1 k_ hk_.symm) ?aF ?aO ?aB ?aS ?aL ?_; (case aP => exact Kd.M_row (Kd.R_mono (Kd.R_tight rfl (Kd.R_mono (ok' := fun k_ => ((fun k_ => some k_ ≠ (v119 : Value).ownBlock)) k_ ∧ some k_ ≠ (u12 : Value).ownBlock) (Kd.R_apart' (Kd.R_apart' (HO_16.out) (Kd.S_typed HO120.out) (by decide)) (Kd.S_typed HO_12.out) (by decide)) (fun k_ hk => ⟨hk.1.2, hk.2⟩))) (fun _ h_ => h_))); (case aB => exact (by repeat ((with_reducible (exact HB.out))))); (case aF => exact (fun k_ hk => Kd.fresh' (Kd.S_lt (by (with_reducible repeat (first | apply Kd.S_alloc | apply Kd.S_drewN | apply Kd.S_drew)); exact HO120.out)) k_ hk)); (case aO => exact (by (with_reducible repeat (first | apply Kd.S_alloc | apply Kd.S_drewN | apply Kd.S_drew)); exact Kd.S_mono HO_12.out (fun k_ hk => ⟨hk.2, fun e_ => hk.1.2 e_⟩))); (case aS => exact (q01 (by repeat ((with_reducible (exact HB.out)))))); (case aL => have := LMc33.out; omega); intro v122 w36 ho hb hg hat; rw [← Ny121.out] at ho; have n0_ := sqM (Kd.S_after (ok := (fun k_ => some k_ ≠ (.slice Ao37 x16_4.length co37 : Value).ownBlock)) (by (with_reducible repeat (first | apply Kd.S_alloc | apply Kd.S_drewN | apply Kd.S_drew)); exact Kd.S_mono HO120.out (fun _ hk => ⟨hk.2, hk.1⟩)) hg hat); have n1_ := sqM (hb); have n2_ := sqM (ho); clear HO120; clear HB; clear HO_12; clear HO_16; have HO120 := n0_; have HB := n1_; have HO123 := n2_; clear n0_ n1_ n2_; clear ho hb hg hat))
                  go_roundg k4
                  case measure => have := HK1.out; have := HJ5.out; have := HK3.out; have := HK4.out; omega
                  case rel => exact ⟨(y118), (y121), (wrap64 (x13_1 + 1)), (by rfl), H', ⟨by have := HK1.out; have := HJ5.out; have := HK3.out; have := HK4.out; omega⟩, ⟨by (with_reducible repeat (first | apply Kd.S_alloc | apply Kd.S_drewN | apply Kd.S_drew)); exact Kd.S_mono HO120.out (fun _ hk => hk.2)⟩, ⟨by (with_reducible repeat (first | apply Kd.S_alloc | apply Kd.S_drewN | apply Kd.S_drew)); exact HO123.out⟩, ⟨by repeat ((with_reducible (exact HB.out)))⟩⟩
                · rw [if_neg c33] at H
                  exact absurd H (by simp)
               · rw [if_neg c32] at H
                 exact absurd H (by simp)
       · rw [if_neg c12] at H
         exact absurd H (by simp)
      · rw [if_neg c11] at H
        exact absurd H (by simp)
     ·
      replace c9 := Bool.eq_false_iff.mpr c9
      subst c9
      have H1 : ((r4_Solve.f x11_1 x12_1).bind fun bt101 => (some bt101.1)) = some r := by rw [if_neg (show ¬ (false = true) by decide)] at H; exact H
      clear H
      have H := H1
      clear H1
      replace H := Option.bind_eq_some_iff.mp H
      obtain ⟨⟨t101, t102⟩, A380, H⟩ := H
      replace H : (some t101) = some r := H
      have A38 := sqM A380
      clear A380
      obtain rfl := Option.some.inj H
      obtain ⟨Ao39, co39, eo39⟩ := Kd.S_slice HO_11.out
      subst eo39
      obtain ⟨Ao40, co40, eo40⟩ := Kd.S_slice HO_12.out
      subst eo40
      go_wp2_with (first | ((with_reducible refine q09 (f := 59) rfl ?_); refine q1p (some 90) rfl rfl Try.func59 (by kernel_rfl) rfl #[.slice Ao39 x11_1.length co39, .slice Ao40 x12_1.length co40] rfl (by (try simp only [List.map_toArray, List.map_cons, List.map_nil]); (rfl)) ?_; (with_reducible refine (r4_Solve.calls _ _ x11_1 _ _ x12_1 t101 t102 _ ?side1 ?side2 ?side3 ?side4 A38.out).mono ?_); (case side1 => repeat (exact (Kd.S_reads' HO_11.out).2.2)); (case side2 => exact (Kd.S_reads' HO_11.out).2.1); (case side3 => repeat (exact (Kd.S_reads' HO_12.out).2.2)); (case side4 => exact (Kd.S_reads' HO_12.out).2.1); rintro e w41 ⟨v103, rfl, ho0, hb⟩; refine ⟨_, rfl, ?_⟩; have n0_ := sqM (Kd.S_elder' (by (with_reducible repeat (first | apply Kd.S_alloc | apply Kd.S_drewN | apply Kd.S_drew)); exact HO_11.out) (Kd.S_base ho0) hb); have n1_ := sqM (Kd.S_elder' (by (with_reducible repeat (first | apply Kd.S_alloc | apply Kd.S_drewN | apply Kd.S_drew)); exact HO_12.out) (Kd.S_base ho0) hb); have n2_ := sqM (Kd.S_lower (Kd.S_new' (Kd.S_new' ho0 (Kd.S_lt (by (with_reducible repeat (first | apply Kd.S_alloc | apply Kd.S_drewN | apply Kd.S_drew)); exact HO_11.out))) (Kd.S_lt (by (with_reducible repeat (first | apply Kd.S_alloc | apply Kd.S_drewN | apply Kd.S_drew)); exact HO_12.out))) (q01 (by repeat ((with_reducible (exact HB.out)))))); have n3_ := sqM (q04 (by repeat ((with_reducible (exact HB.out)))) hb); clear HO_11; clear HO_12; clear HB; have HO_11 := n0_; have HO_12 := n1_; have HO104 := n2_; have HB := n3_; clear n0_ n1_ n2_ n3_; (try clear hb); (try clear ho0)))
      go_ret
      exact ⟨_, by rfl, by (with_reducible repeat (first | apply Kd.S_alloc | apply Kd.S_drewN | apply Kd.S_drew)); exact Kd.S_mono HO104.out (fun _ hk => trivial), by repeat ((with_reducible (exact HB.out)))⟩
mutual
def r5_Restore.j0 : Nat → List (List Int) → List Int → List (List Int) → List Int → Int → Bool → Option ((List (List Int)) × Int)
 | 0, _, _, _, _, _, _ => none
 | k + 1, x0, x1, x2, x3, x10, x31 => if x31 = true then (some (([] : List (List Int)), 51)) else ((r5_fits.f k x0 x1 x2 x3).bind fun bt124 => (if bt124.2 = true then (if 0 ≤ x10 then (if (x10 : Int).toNat ≤ 11728124029610 then (r5_Restore.l0 k x0 x1 x2 x10 bt124.1 0 0 ([] : List Int) (List.replicate (x10 : Int).toNat []) 0) else (none)) else (none)) else (some (([] : List (List Int)), 52))))
def r5_Restore.l0 : Nat → List (List Int) → List Int → List (List Int) → Int → List Bool → Int → Int → List Int → List (List Int) → Int → Option ((List (List Int)) × Int)
 | 0, _, _, _, _, _, _, _, _, _, _ => none
 | k + 1, x0, x1, x2, x10, x11, x13, x14, x15, x16, x17 => if x17 < x10 then (if 0 ≤ x17 then (if x17 < (x1.length : Int) then (if x17 < (x11.length : Int) then (if rdOf false x11 x17 = true then (if x15.length < 17592186044416 then (r5_Restore.l0 k x0 x1 x2 x10 x11 (mx x13 (rd x1 x17)) x14 (x15 ++ [x17]) x16 (wrap64 (x17 + 1))) else (none)) else (if x17 < (x0.length : Int) then ((r5_copied.f (rd_L1 x0 x17)).bind fun t137 => (if x17 < (x16.length : Int) then (r5_Restore.l0 k x0 x1 x2 x10 x11 (mx x13 (rd x1 x17)) x14 x15 (x16.set (x17 : Int).toNat t137) (wrap64 (x17 + 1))) else (none))) else (none))) else (none)) else (none)) else (none)) else (r5_Restore.l1 k x1 x2 x10 x11 x13 x14 x15 x16 0)
def r5_Restore.l1 : Nat → List Int → List (List Int) → Int → List Bool → Int → Int → List Int → List (List Int) → Int → Option ((List (List Int)) × Int)
 | 0, _, _, _, _, _, _, _, _, _ => none
 | k + 1, x1, x2, x10, x11, x13, x14, x15, x16, x18 => if x18 < (x11.length : Int) then (if 0 ≤ x18 then (if rdOf false x11 x18 = true then (r5_Restore.l1 k x1 x2 x10 x11 x13 (wrap64 (x14 + 1)) x15 x16 (wrap64 (x18 + 1))) else (r5_Restore.l1 k x1 x2 x10 x11 x13 x14 x15 x16 (wrap64 (x18 + 1)))) else (none)) else (if x14 > (x2.length : Int) then (some (([] : List (List Int)), 53)) else ((r5_solved.f k x16 x2 x11 x15 x13).bind fun t142 => (r5_Restore.l2 k x1 x2 x10 x11 x13 x15 x16 t142 0)))
def r5_Restore.j4 : Nat → List (List Int) → Int → List Bool → Int → List (List Int) → Option ((List (List Int)) × Int)
 | 0, _, _, _, _, _ => none
 | k + 1, x2, x10, x11, x13, x16 => if ([] : List (List Int)).length + x16.length < 5864062014805 then (r5_Restore.l3 k x2 x10 x11 x13 x16 (([] : List (List Int)) ++ x16) 0) else (none)
def r5_Restore.l3 : Nat → List (List Int) → Int → List Bool → Int → List (List Int) → List (List Int) → Int → Option ((List (List Int)) × Int)
 | 0, _, _, _, _, _, _, _ => none
 | k + 1, x2, x10, x11, x13, x16, x21, x22 => if x22 < (x2.length : Int) then (if 0 ≤ (wrap64 (x10 + x22)) then (if (wrap64 (x10 + x22)) < (x11.length : Int) then (if rdOf false x11 (wrap64 (x10 + x22)) = true then ((r5_row.f k x16 x22 x13).bind fun t162 => (if x21.length < 5864062014805 then (r5_Restore.l3 k x2 x10 x11 x13 x16 (x21 ++ [t162]) (wrap64 (x22 + 1))) else (none))) else (if 0 ≤ x22 then ((r5_copied.f (rd_L1 x2 x22)).bind fun t169 => (if x21.length < 5864062014805 then (r5_Restore.l3 k x2 x10 x11 x13 x16 (x21 ++ [t169]) (wrap64 (x22 + 1))) else (none))) else (none))) else (none)) else (none)) else (some (x21, 0))
def r5_Restore.l2 : Nat → List Int → List (List Int) → Int → List Bool → Int → List Int → List (List Int) → List (List Int) → Int → Option ((List (List Int)) × Int)
 | 0, _, _, _, _, _, _, _, _, _ => none
 | k + 1, x1, x2, x10, x11, x13, x15, x16, x19, x20 => if x20 < (x15.length : Int) then (if x20 < (x19.length : Int) then (if 0 ≤ x20 then (if 0 ≤ (rd x15 x20) then (if (rd x15 x20) < (x1.length : Int) then (if 0 ≤ (rd x1 (rd x15 x20)) then (if (rd x1 (rd x15 x20)) ≤ ((rd_L1 x19 x20).length : Int) then ((r5_copied.f ((rd_L1 x19 x20).take ((rd x1 (rd x15 x20)) : Int).toNat)).bind fun t154 => (if (rd x15 x20) < (x16.length : Int) then (r5_Restore.l2 k x1 x2 x10 x11 x13 x15 (x16.set ((rd x15 x20) : Int).toNat t154) x19 (wrap64 (x20 + 1))) else (none))) else (none)) else (none)) else (none)) else (none)) else (none)) else (r5_Restore.j4 k x2 x10 x11 x13 x16)) else (r5_Restore.j4 k x2 x10 x11 x13 x16)
end
def r5_Restore.f (k : Nat) (l0 : List (List Int)) (l1 : List Int) (l2 : List (List Int)) (l3 : List Int) : Option ((List (List Int)) × Int) := if (l0.length : Int) > 200 then (r5_Restore.j0 k l0 l1 l2 l3 (l0.length : Int) true) else (r5_Restore.j0 k l0 l1 l2 l3 (l0.length : Int) (decide ((l2.length : Int) > 16)))
def r5_Restore.T29 : Bool × List (List Nat × List Nat) := (true, [([], []), ([], []), ([], []), ([1, 2], [1, 2]), ([3], [3]), ([], []), ([], []), ([5, 6], [5, 6]), ([7], [7]), ([], []), ([], []), ([], []), ([10, 11], [10, 11]), ([12], [12]), ([9, 13], [9, 13]), ([14], [14]), ([8, 15], [8, 15]), ([16], [16]), ([0, 4, 0, 1, 2, 3, 4, 5, 6, 7, 8, 9, 10, 11, 12, 13, 14, 15, 16, 17], [0, 4]), ([18, 17, 17, 0, 1, 2, 3, 4, 5, 6, 7, 8, 9, 10, 11, 12, 13, 14, 15, 16, 17], [17, 18])])
def r5_Restore.B29 : List Nat := [0, 0, 0, 6, 14, 0, 0, 96, 224, 0, 0, 0, 3072, 7168, 15872, 32256, 65504, 131040, 262143, 524287]
theorem r5_Restore.tab29 : rtab .any (opsOf Try.f44 29) = r5_Restore.T29 := by kernel_rfl
theorem r5_Restore.bits29 : waitsOk r5_Restore.T29.2 r5_Restore.B29 = true := by kernel_rfl
set_option maxHeartbeats 8000000 in
set_option maxRecDepth 100000 in
theorem r5_Restore.calls (k : Nat) (A0 : Option Addr) (c0 : Nat) (l0 : List (List Int)) (A1 : Option Addr) (c1 : Nat) (l1 : List Int) (A2 : Option Addr) (c2 : Nat) (l2 : List (List Int)) (A3 : Option Addr) (c3 : Nat) (l3 : List Int) (r1 : List (List Int)) (r2 : Int) (w : World) (hr0 : Kd.C (Kd.slice 5 (Kd.int .u8)) w A0 l0.length l0) (hc0 : l0.length ≤ c0) (hr1 : Kd.C (Kd.int .i64) w A1 l1.length l1) (hc1 : l1.length ≤ c1) (hr2 : Kd.C (Kd.slice 5 (Kd.int .u8)) w A2 l2.length l2) (hc2 : l2.length ≤ c2) (hr3 : Kd.C (Kd.int .i64) w A3 l3.length l3) (hc3 : l3.length ≤ c3) (h : r5_Restore.f k l0 l1 l2 l3 = some (r1, r2)) :
    Calls Try.prog 44 #[.slice A0 l0.length c0, .slice A1 l1.length c1, .slice A2 l2.length c2, .slice A3 l3.length c3] w fun e w' => ∃ v0_ : Value, e = .returned (.tuple #[v0_, .int .i64 r2]) ∧ Kd.N (Kd.slice 5 (Kd.int .u8)) 41 w' w.heap.size (fun k_ => (w.heap.size ≤ k_)) v0_ r1 ∧ Below w.heap.size w w' := by
 have HR0 := sqM hr0
 have HC0 := sqM hc0
 clear hr0 hc0
 have HR1 := sqM hr1
 have HC1 := sqM hc1
 clear hr1 hc1
 have HR2 := sqM hr2
 have HC2 := sqM hc2
 clear hr2 hc2
 have HR3 := sqM hr3
 have HC3 := sqM hc3
 clear hr3 hc3
 have HB := sqM (Below.refl w.heap.size w)
 have H : (if (l0.length : Int) > 200 then (r5_Restore.j0 k l0 l1 l2 l3 (l0.length : Int) true) else (r5_Restore.j0 k l0 l1 l2 l3 (l0.length : Int) (decide ((l2.length : Int) > 16)))) = some (r1, r2) := h
 clear h
 have HC5 := sqM H
 clear H
 go_enter Try.func44, Try.ntmps44
 go_upto_region 2 with (fail)
 go_cut [31] (fun v31 wc => ∃ (kq : Nat) (x31_4 : Bool), v31 = .bool x31_4 ∧ Aside0 (r5_Restore.j0 kq l0 l1 l2 l3 (l0.length : Int) x31_4 = some (r1, r2)) ∧ Aside0 (kq ≤ k) ∧ Aside0 (Below w.heap.size w wc))
 case first =>
  have H := HC5.out
  clear HC5
  by_cases c6 : (l0.length : Int) > 200
  ·
   rw [if_pos c6] at H
   have c6b0 : decide (200 < (l0.length : Int)) = true := decide_eq_true c6
   have c6b1 : decide (200 < l0.length) = true := decide_eq_true (by omega)
   clear c6
   (skip)
   have H' := sqM H
   clear H
   go_wp2
   go_meet
   case rel => exact ⟨_, (true), (by rfl), H', ⟨by omega⟩, ⟨by repeat ((with_reducible (exact HB.out)))⟩⟩
  ·
   rw [if_neg c6] at H
   have c6b0 : decide (200 < (l0.length : Int)) = false := decide_eq_false c6
   have c6b1 : decide (200 < l0.length) = false := decide_eq_false (by omega)
   clear c6
   (skip)
   have H' := sqM H
   clear H
   go_wp2
   go_meet
   case rel => exact ⟨_, (decide ((l2.length : Int) > 16)), (by rfl), H', ⟨by omega⟩, ⟨by repeat ((with_reducible (exact HB.out)))⟩⟩
 case rest =>
  clear HC5
  obtain ⟨kq, x31_4, rfl, HA, HJ4, HB⟩ := hcut
  cases kq with
  | zero => exact absurd HA.out (by simp [r5_Restore.j0])
  | succ kj4 =>
   have H := HA.out
   clear HA
   simp only [r5_Restore.j0] at H
   by_cases c7 : x31_4 = true
   ·
    subst c7
    have H1 : (some (([] : List (List Int)), 51)) = some (r1, r2) := by rw [if_pos rfl] at H; exact H
    clear H
    have H := H1
    clear H1
    simp only [Option.some.injEq, Prod.mk.injEq] at H
    obtain ⟨rfl, rfl⟩ := H
    go_wp2
    go_ret2
    exact ⟨_, by rfl, by exact Kd.N_nil _ _ _ _ _, by repeat ((with_reducible (exact HB.out)))⟩
   ·
    replace c7 := Bool.eq_false_iff.mpr c7
    subst c7
    have H1 : ((r5_fits.f kj4 l0 l1 l2 l3).bind fun bt124 => (if bt124.2 = true then (if 0 ≤ (l0.length : Int) then (if ((l0.length : Int) : Int).toNat ≤ 11728124029610 then (r5_Restore.l0 kj4 l0 l1 l2 (l0.length : Int) bt124.1 0 0 ([] : List Int) (List.replicate ((l0.length : Int) : Int).toNat []) 0) else (none)) else (none)) else (some (([] : List (List Int)), 52)))) = some (r1, r2) := by rw [if_neg (show ¬ (false = true) by decide)] at H; exact H
    clear H
    have H := H1
    clear H1
    replace H := Option.bind_eq_some_iff.mp H
    obtain ⟨⟨t124, t125⟩, A80, H⟩ := H
    replace H : (if t125 = true then (if 0 ≤ (l0.length : Int) then (if ((l0.length : Int) : Int).toNat ≤ 11728124029610 then (r5_Restore.l0 kj4 l0 l1 l2 (l0.length : Int) t124 0 0 ([] : List Int) (List.replicate ((l0.length : Int) : Int).toNat []) 0) else (none)) else (none)) else (some (([] : List (List Int)), 52))) = some (r1, r2) := H
    have A8 := sqM A80
    clear A80
    by_cases c9 : t125 = true
    ·
     subst c9
     have H1 : (if 0 ≤ (l0.length : Int) then (if ((l0.length : Int) : Int).toNat ≤ 11728124029610 then (r5_Restore.l0 kj4 l0 l1 l2 (l0.length : Int) t124 0 0 ([] : List Int) (List.replicate ((l0.length : Int) : Int).toNat []) 0) else (none)) else (none)) = some (r1, r2) := by rw [if_pos rfl] at H; exact H
     clear H
     have H := H1
     clear H1
     by_cases c10 : 0 ≤ (l0.length : Int)
     ·
      rw [if_pos c10] at H
      have c10b0 := eq_true c10
      have c10b1 : decide (0 ≤ (l0.length : Int)) = true := decide_eq_true c10
      clear c10
      by_cases c11 : ((l0.length : Int) : Int).toNat ≤ 11728124029610
      ·
       rw [if_pos c11] at H
       have c11b0 := eq_true c11
       have c11b1 : decide (((l0.length : Int) : Int).toNat ≤ 11728124029610) = true := decide_eq_true c11
       clear c11
       obtain ⟨y128, hy128⟩ : ∃ y_ : List (List Int), y_ = (List.replicate ((l0.length : Int) : Int).toNat []) := ⟨_, rfl⟩
       replace H : (r5_Restore.l0 kj4 l0 l1 l2 (l0.length : Int) t124 0 0 ([] : List Int) y128 0) = some (r1, r2) := by (rw [hy128]; with_reducible exact H)
       have Ny128 := sqM hy128
       clear hy128
       have H' := sqM H
       clear H
       go_wp2_with (first | ((with_reducible refine q09 (f := 53) rfl ?_); refine q1p (some 37) rfl rfl Try.func53 (by kernel_rfl) rfl #[.slice A0 l0.length c0, .slice A1 l1.length c1, .slice A2 l2.length c2, .slice A3 l3.length c3] rfl (by (try simp only [List.map_toArray, List.map_cons, List.map_nil]); (rfl)) ?_; (with_reducible refine (r5_fits.calls kj4 _ _ l0 _ _ l1 _ _ l2 _ _ l3 t124 true _ ?side1 ?side2 ?side3 ?side4 ?side5 ?side6 ?side7 ?side8 A8.out).mono ?_); (case side1 => repeat (exact (Kd.C_below HR0.out HB.out))); (case side2 => exact HC0.out); (case side3 => repeat (exact (Kd.C_below HR1.out HB.out))); (case side4 => exact HC1.out); (case side5 => repeat (exact (Kd.C_below HR2.out HB.out))); (case side6 => exact HC2.out); (case side7 => repeat (exact (Kd.C_below HR3.out HB.out))); (case side8 => exact HC3.out); rintro e w12 ⟨v126, rfl, ho0, hb⟩; refine ⟨_, rfl, ?_⟩; have n0_ := sqM (Kd.R_lower (Kd.R_newM (M := fun k_ => (w.heap.size ≤ k_)) ho0 (q01 (by repeat ((with_reducible (exact HB.out))))) (fun k_ h_ => h_)) (q01 (by repeat ((with_reducible (exact HB.out)))))); have n1_ := sqM (q04 (by repeat ((with_reducible (exact HB.out)))) hb); clear HB; have HO127 := n0_; have HB := n1_; clear n0_ n1_; (try clear hb); (try clear ho0)) | ((with_reducible refine q1t (N := 43) rfl ?_); (try (refine q0r (by rfl) ?_; dsimp only)); refine Kd.N_make (Kd.slice 5 (Kd.int .u8)) _ 41 rfl (N' := 43) rfl 35 _ _ rfl (l0.length : Int) rfl rfl Try.underlying35 (.slice none 0 0) 24 info41 rfl (by decide) (by omega) [] (ok := fun k_ => w12.heap.size ≤ k_) (okp := fun _ => False) (Kd.FK_slice_mk (Nat.le_refl _) (Kd.F_nil _ _ _)) (fun _ hk => hk.elim) (Nat.le_refl _) (of_decide_eq_true (by (with_reducible assumption))) (Nat.le_trans (Nat.mul_le_mul_right _ (of_decide_eq_true (by (with_reducible assumption)) : (l0.length : Int).toNat ≤ 11728124029610)) (by omega)) (Below.refl _ _) (Nat.le_refl _) ?_; intro v129 w13 ho14 hb hg_ hnew_; clear hg_ hnew_; (rw [← Ny128.out] at ho14); have n0_ := sqM (Kd.R_below (by (with_reducible repeat (first | apply Kd.R_alloc | apply Kd.R_drewN | apply Kd.R_drew)); exact HO127.out) hb); have n1_ := sqM (Kd.N_lower (Kd.N_mono (ok' := fun k_ => (w.heap.size ≤ k_) ∧ some k_ ≠ (v126 : Value).ownBlock) ho14 (fun k_ hk_ => ⟨(Nat.le_trans (q01 (by repeat ((with_reducible (exact HB.out))))) hk_), (Kd.fresh' (Kd.R_lt (by (with_reducible repeat (first | apply Kd.R_alloc | apply Kd.R_drewN | apply Kd.R_drew)); exact HO127.out)) k_ hk_)⟩)) (q01 (by repeat ((with_reducible (exact HB.out)))))); have n2_ := sqM (q04 (by repeat ((with_reducible (exact HB.out)))) hb); clear HO127; clear HB; have HO127 := n0_; have HO130 := n1_; have HB := n2_; clear n0_ n1_ n2_; clear hb ho14))
       go_loopg [13, 15, 17] kj4 (fun kq v13 v15 v17 w' => ∃ (x13_2 : Int) (x15_2 : List Int) (x16_2 : List (List Int)) (x17_2 : Int), v13 = .int .i64 x13_2 ∧ v17 = .int .i64 x17_2 ∧ Aside0 (r5_Restore.l0 kq l0 l1 l2 (l0.length : Int) t124 x13_2 0 x15_2 x16_2 x17_2 = some (r1, r2)) ∧ Aside0 (kq ≤ kj4) ∧ Aside0 (Kd.R Kd.bool 4 w' w.heap.size (fun k_ => (w.heap.size ≤ k_)) v126 t124) ∧ Aside0 (Kd.R (Kd.int .i64) 3 w' w.heap.size (fun k_ => (w.heap.size ≤ k_)) v15 x15_2) ∧ Aside0 (Kd.N (Kd.slice 5 (Kd.int .u8)) 41 w' w.heap.size (fun k_ => (w.heap.size ≤ k_) ∧ some k_ ≠ (v126 : Value).ownBlock ∧ some k_ ≠ (v15 : Value).ownBlock) v129 x16_2) ∧ Aside0 (Below w.heap.size w w'))
       case atStart => exact ⟨(0), (([] : List Int)), (y128), (0), (by rfl), (by rfl), H', ⟨Nat.le_refl _⟩, ⟨by (with_reducible repeat (first | apply Kd.R_alloc | apply Kd.R_drewN | apply Kd.R_drew)); exact Kd.R_mono HO127.out (fun _ hk => hk.1)⟩, ⟨by exact Kd.R_nil _ _ _ _ _⟩, ⟨by (with_reducible repeat (first | apply Kd.N_alloc | apply Kd.N_drewN | apply Kd.N_drew)); exact Kd.N_mono HO130.out (fun _ hk => ⟨hk.1, ⟨hk.2, (by simp [Value.ownBlock])⟩⟩)⟩, ⟨by repeat ((with_reducible (exact HB.out)))⟩⟩
       case round =>
        clear H'
        try clear c10b0
        try clear c10b1
        try clear c11b0
        try clear c11b1
        obtain ⟨x13_2, x15_2, x16_2, x17_2, rfl, rfl, HA, HK2, HO_11, HO_15, HO_16, HB⟩ := hrel
        cases gk with
        | zero => exact absurd HA.out (by simp [r5_Restore.l0])
        | succ k2 =>
         have H := HA.out
         clear HA
         simp only [r5_Restore.l0] at H
         by_cases c15 : x17_2 < (l0.length : Int)
         ·
          rw [if_pos c15] at H
          have c15b0 : decide (x17_2 < (l0.length : Int)) = true := decide_eq_true c15
          clear c15
          by_cases c16 : 0 ≤ x17_2
          ·
           rw [if_pos c16] at H
           have c16b0 : decide (0 ≤ x17_2) = true := decide_eq_true c16
           clear c16
           by_cases c17 : x17_2 < (l1.length : Int)
           ·
            rw [if_pos c17] at H
            have c17b0 : decide (x17_2 < (l1.length : Int)) = true := decide_eq_true c17
            clear c17
            obtain ⟨ji18, hji18⟩ : ∃ j_ : Int, (mx x13_2 (rd l1 x17_2)) = j_ := ⟨_, rfl⟩
            replace H : (if x17_2 < (t124.length : Int) then (if rdOf false t124 x17_2 = true then (if x15_2.length < 17592186044416 then (r5_Restore.l0 k2 l0 l1 l2 (l0.length : Int) t124 ji18 0 (x15_2 ++ [x17_2]) x16_2 (wrap64 (x17_2 + 1))) else (none)) else (if x17_2 < (l0.length : Int) then ((r5_copied.f (rd_L1 l0 x17_2)).bind fun t137 => (if x17_2 < (x16_2.length : Int) then (r5_Restore.l0 k2 l0 l1 l2 (l0.length : Int) t124 ji18 0 x15_2 (x16_2.set (x17_2 : Int).toNat t137) (wrap64 (x17_2 + 1))) else (none))) else (none))) else (none)) = some (r1, r2) := by (rw [hji18] at H; exact H)
            have hji18_ : (if x13_2 < (rd l1 x17_2) then (rd l1 x17_2) else x13_2) = ji18 := hji18
            by_cases c19 : x17_2 < (t124.length : Int)
            ·
             rw [if_pos c19] at H
             have c19b0 : decide (x17_2 < (t124.length : Int)) = true := decide_eq_true c19
             clear c19
             obtain ⟨bq20, hbq20⟩ : ∃ b_ : Bool, b_ = (rdOf false t124 x17_2) := ⟨_, rfl⟩
             replace H : (if bq20 = true then (if x15_2.length < 17592186044416 then (r5_Restore.l0 k2 l0 l1 l2 (l0.length : Int) t124 ji18 0 (x15_2 ++ [x17_2]) x16_2 (wrap64 (x17_2 + 1))) else (none)) else (if x17_2 < (l0.length : Int) then ((r5_copied.f (rd_L1 l0 x17_2)).bind fun t137 => (if x17_2 < (x16_2.length : Int) then (r5_Restore.l0 k2 l0 l1 l2 (l0.length : Int) t124 ji18 0 x15_2 (x16_2.set (x17_2 : Int).toNat t137) (wrap64 (x17_2 + 1))) else (none))) else (none))) = some (r1, r2) := by rw [← hbq20] at H; exact H
             have Nbq20 := sqM hbq20
             clear hbq20
             by_cases c21 : bq20 = true
             ·
              subst c21
              have H1 : (if x15_2.length < 17592186044416 then (r5_Restore.l0 k2 l0 l1 l2 (l0.length : Int) t124 ji18 0 (x15_2 ++ [x17_2]) x16_2 (wrap64 (x17_2 + 1))) else (none)) = some (r1, r2) := by rw [if_pos rfl] at H; exact H
              clear H
              have H := H1
              clear H1
              by_cases c22 : x15_2.length < 17592186044416
              ·
               rw [if_pos c22] at H
               have LMc22 := sqM c22
               clear c22
               obtain ⟨y133, hy133⟩ : ∃ y_ : List Int, y_ = (x15_2 ++ [x17_2]) := ⟨_, rfl⟩
               replace H : (r5_Restore.l0 k2 l0 l1 l2 (l0.length : Int) t124 ji18 0 y133 x16_2 (wrap64 (x17_2 + 1))) = some (r1, r2) := by (rw [hy133]; with_reducible exact H)
               have Ny133 := sqM hy133
               clear hy133
               have H' := sqM H
               clear H
               have p131 : 0 ≤ (x17_2 : Int) := of_decide_eq_true (by (with_reducible assumption))
               have q131 : x17_2 < (l1.length : Int) := of_decide_eq_true (by (with_reducible assumption))
               obtain ⟨ad131, e131, hx131_0⟩ := Kd.at_int HR1.out x17_2 p131 q131
               cases e131
               replace hx131_0 := (HB.out.cell (World.block_lt_of_cell? w _ hx131_0)).trans hx131_0
               replace p131 := eq_true p131
               replace q131 := eq_true q131
               obtain ⟨Ao23, co23, eo23⟩ := Kd.R_slice HO_11.out
               subst eo23
               have p132 : 0 ≤ (x17_2 : Int) := of_decide_eq_true (by (with_reducible assumption))
               have q132 : x17_2 < (t124.length : Int) := of_decide_eq_true (by (with_reducible assumption))
               obtain ⟨ad132, e132, hx132_0⟩ := Kd.at_bool (Kd.R_reads' HO_11.out).2.2 x17_2 p132 q132
               (try rw [← Nbq20.out] at hx132_0)
               cases e132
               replace p132 := eq_true p132
               replace q132 := eq_true q132
               go_wp2_with (first | ((with_reducible refine q05 (b := .append) (xs := #[.tmp 59, .tmp 61]) rfl ?_); (try (refine q0r (by rfl) ?_; dsimp only)); at_builtin; refine Kd.R_append (Kd.int .i64) (w0 := w) w.heap.size rfl (.tmp 59) (.tmp 61) 30 3 (.int .i64 0) 8 rfl Try.underlying30 info3 rfl (by decide) (by omega) u15 x15_2 x17_2 [.int .i64 x17_2] (fun k_ => (w.heap.size ≤ k_)) (fun _ => False) rfl rfl ?aP (fun _ hk => hk.elim) ?aF ?aO ?aB ?aS ?aL ?_; (case aP => exact rfl); (case aB => exact (by repeat ((with_reducible (exact HB.out))))); (case aF => exact (fun k_ hk => (Nat.le_trans (q01 (by repeat ((with_reducible (exact HB.out))))) hk))); (case aO => exact (by (with_reducible repeat (first | apply Kd.R_alloc | apply Kd.R_drewN | apply Kd.R_drew)); exact HO_15.out)); (case aS => exact (q01 (by repeat ((with_reducible (exact HB.out)))))); (case aL => have := LMc22.out; omega); intro v134 w24 ho hb hg hat; rw [← Ny133.out] at ho; have n0_ := sqM (Kd.R_over' (by (with_reducible repeat (first | apply Kd.R_alloc | apply Kd.R_drewN | apply Kd.R_drew)); exact HO_11.out) (Kd.R_typed (by (with_reducible repeat (first | apply Kd.R_alloc | apply Kd.R_drewN | apply Kd.R_drew)); exact HO_15.out)) (by decide) hg); have n1_ := sqM (Kd.N_afterv (ok := (fun k_ => (w.heap.size ≤ k_) ∧ some k_ ≠ (.slice (some ad132) t124.length co23 : Value).ownBlock)) (by (with_reducible repeat (first | apply Kd.N_alloc | apply Kd.N_drewN | apply Kd.N_drew)); exact Kd.N_mono HO_16.out (fun _ hk => ⟨⟨hk.1, hk.2.1⟩, hk.2.2⟩)) hg hat); have n2_ := sqM (hb); have n3_ := sqM (ho); clear HO_11; clear HO_16; clear HB; clear HO_15; have HO_11 := n0_; have HO_16 := n1_; have HB := n2_; have HO135 := n3_; clear n0_ n1_ n2_ n3_; clear ho hb hg hat))
               go_roundg k2
               case measure => have := HJ4.out; have := HK2.out; omega
               case rel => exact ⟨(ji18), (y133), (x16_2), (wrap64 (x17_2 + 1)), (by rfl), (by rfl), H', ⟨by have := HJ4.out; have := HK2.out; omega⟩, ⟨by (with_reducible repeat (first | apply Kd.R_alloc | apply Kd.R_drewN | apply Kd.R_drew)); exact HO_11.out⟩, ⟨by (with_reducible repeat (first | apply Kd.R_alloc | apply Kd.R_drewN | apply Kd.R_drew)); exact HO135.out⟩, ⟨by (with_reducible repeat (first | apply Kd.N_alloc | apply Kd.N_drewN | apply Kd.N_drew)); exact Kd.N_mono HO_16.out (fun _ hk => ⟨hk.1.1, ⟨hk.1.2, hk.2⟩⟩)⟩, ⟨by repeat ((with_reducible (exact HB.out)))⟩⟩
              · rw [if_neg c22] at H
                exact absurd H (by simp)
             ·
              replace c21 := Bool.eq_false_iff.mpr c21
              subst c21
              have H1 : (if x17_2 < (l0.length : Int) then ((r5_copied.f (rd_L1 l0 x17_2)).bind fun t137 => (if x17_2 < (x16_2.length : Int) then (r5_Restore.l0 k2 l0 l1 l2 (l0.length : Int) t124 ji18 0 x15_2 (x16_2.set (x17_2 : Int).toNat t137) (wrap64 (x17_2 + 1))) else (none))) else (none)) = some (r1, r2) := by rw [if_neg (show ¬ (false = true) by decide)] at H; exact H
              clear H
              have H := H1
              clear H1
              by_cases c25 : x17_2 < (l0.length : Int)
              ·
               rw [if_pos c25] at H
               have c25b0 : decide (x17_2 < (l0.length : Int)) = true := decide_eq_true c25
               clear c25
               replace H := Option.bind_eq_some_iff.mp H
               obtain ⟨t137, A260, H⟩ := H
               replace H : (if x17_2 < (x16_2.length : Int) then (r5_Restore.l0 k2 l0 l1 l2 (l0.length : Int) t124 ji18 0 x15_2 (x16_2.set (x17_2 : Int).toNat t137) (wrap64 (x17_2 + 1))) else (none)) = some (r1, r2) := H
               have A26 := sqM A260
               clear A260
               by_cases c27 : x17_2 < (x16_2.length : Int)
               ·
                rw [if_pos c27] at H
                have c27b0 : decide (x17_2 < (x16_2.length : Int)) = true := decide_eq_true c27
                clear c27
                obtain ⟨y140, hy140⟩ : ∃ y_ : List (List Int), y_ = (x16_2.set (x17_2 : Int).toNat t137) := ⟨_, rfl⟩
                replace H : (r5_Restore.l0 k2 l0 l1 l2 (l0.length : Int) t124 ji18 0 x15_2 y140 (wrap64 (x17_2 + 1))) = some (r1, r2) := by (rw [hy140]; with_reducible exact H)
                have Ny140 := sqM hy140
                clear hy140
                have H' := sqM H
                clear H
                have p131 : 0 ≤ (x17_2 : Int) := of_decide_eq_true (by (with_reducible assumption))
                have q131 : x17_2 < (l1.length : Int) := of_decide_eq_true (by (with_reducible assumption))
                obtain ⟨ad131, e131, hx131_0⟩ := Kd.at_int HR1.out x17_2 p131 q131
                cases e131
                replace hx131_0 := (HB.out.cell (World.block_lt_of_cell? w _ hx131_0)).trans hx131_0
                replace p131 := eq_true p131
                replace q131 := eq_true q131
                obtain ⟨Ao29, co29, eo29⟩ := Kd.R_slice HO_11.out
                subst eo29
                have p132 : 0 ≤ (x17_2 : Int) := of_decide_eq_true (by (with_reducible assumption))
                have q132 : x17_2 < (t124.length : Int) := of_decide_eq_true (by (with_reducible assumption))
                obtain ⟨ad132, e132, hx132_0⟩ := Kd.at_bool (Kd.R_reads' HO_11.out).2.2 x17_2 p132 q132
                (try rw [← Nbq20.out] at hx132_0)
                cases e132
                replace p132 := eq_true p132
                replace q132 := eq_true q132
                have p136 : 0 ≤ (x17_2 : Int) := of_decide_eq_true (by (with_reducible assumption))
                have q136 : x17_2 < (l0.length : Int) := of_decide_eq_true (by (with_reducible assumption))
                obtain ⟨ad136, A136_0, c136_0, e136, hx136_0, hl136_0, hi136_0⟩ := at_L1 HR0.out x17_2 p136 q136
                cases e136
                replace hx136_0 := (HB.out.cell (World.block_lt_of_cell? w _ hx136_0)).trans hx136_0
                have HR136_0 := sqM hi136_0
                have HC136_0 := sqM hl136_0
                clear hi136_0 hl136_0
                replace p136 := eq_true p136
                replace q136 := eq_true q136
                go_wp2_with (first | ((with_reducible refine q09 (f := 54) rfl ?_); refine q1p (some 69) rfl rfl Try.func54 (by kernel_rfl) rfl #[.slice A136_0 (rd_L1 l0 x17_2).length c136_0] rfl (by (try simp only [List.map_toArray, List.map_cons, List.map_nil]); (rfl)) ?_; (with_reducible refine (r5_copied.calls _ _ (rd_L1 l0 x17_2) t137 _ ?side1 ?side2 A26.out).mono ?_); (case side1 => repeat (exact (Kd.C_below HR136_0.out HB.out))); (case side2 => exact HC136_0.out); rintro e w30 ⟨v138, rfl, ho0, hb⟩; refine ⟨_, rfl, ?_⟩; have n0_ := sqM (Kd.R_below (by (with_reducible repeat (first | apply Kd.R_alloc | apply Kd.R_drewN | apply Kd.R_drew)); exact HO_11.out) hb); have n1_ := sqM (Kd.R_below (by (with_reducible repeat (first | apply Kd.R_alloc | apply Kd.R_drewN | apply Kd.R_drew)); exact HO_15.out) hb); have n2_ := sqM (Kd.N_elder' (by (with_reducible repeat (first | apply Kd.N_alloc | apply Kd.N_drewN | apply Kd.N_drew)); exact HO_16.out) (Kd.R_base ho0) hb); have n3_ := sqM (Kd.R_lower (Kd.R_newM (M := fun k_ => (w.heap.size ≤ k_)) ho0 (q01 (by repeat ((with_reducible (exact HB.out))))) (fun k_ h_ => h_)) (q01 (by repeat ((with_reducible (exact HB.out)))))); have n4_ := sqM (q04 (by repeat ((with_reducible (exact HB.out)))) hb); clear HO_11; clear HO_15; clear HO_16; clear HB; have HO_11 := n0_; have HO_15 := n1_; have HO_16 := n2_; have HO139 := n3_; have HB := n4_; clear n0_ n1_ n2_ n3_ n4_; (try clear hb); (try clear ho0); obtain ⟨AS_v138, cS_v138, eS_v138⟩ := Kd.R_slice HO139.out; subst eS_v138; have p28 : 0 ≤ (x17_2 : Int) := of_decide_eq_true (by (with_reducible assumption)); have q28 : (x17_2 : Int) < ((x16_2.length : Int) : Int) := of_decide_eq_true (by (with_reducible assumption)); obtain ⟨go28, co28, eo28, gb28, gl28, cl28, HG28⟩ := Kd.N_form HO_16.out (by omega); (cases eo28); have GB28 := sqM gb28; have GG28 := sqM HG28; clear gb28 gl28 HG28; obtain ⟨ce28, hcl28, hM28, hcc28, hfr28⟩ := Kd.N_elem HO_16.out [] (x17_2 : Int) p28 q28; obtain ⟨ua28_0, uc28_0, rfl, ul28_0, ge28_0⟩ := Kd.FK_slice_open hM28; have hx28_0 := hcc28 0 _ rfl; have hf28_0 := hfr28 0; (try simp only [show ((Kd.slice 5 (Kd.int .u8))).sz = 1 from rfl, Nat.mul_one, Nat.add_zero] at hx28_0); (try simp only [show ((Kd.slice 5 (Kd.int .u8))).sz = 1 from rfl, Nat.mul_one, Nat.add_zero] at hf28_0); clear hcl28 hcc28 hfr28; (try clear hM28); replace p28 := eq_true p28; replace q28 := eq_true q28; have n_ := sqM (Kd.N_mono (ok' := (fun k_ => (w.heap.size ≤ k_) ∧ some k_ ≠ (.slice (some ad132) t124.length co29 : Value).ownBlock ∧ some k_ ≠ (u15 : Value).ownBlock ∧ some k_ ≠ (.slice AS_v138 t137.length cS_v138 : Value).ownBlock)) HO_16.out (fun k_ hk => ⟨hk.1.1, ⟨hk.1.2.1, ⟨hk.1.2.2, hk.2⟩⟩⟩)); clear HO_16; have HO_16 := n_; clear n_; have HX31 := sqM (show Kd.N (Kd.slice 5 (Kd.int .u8)) 41 w30 w.heap.size (fun k_ => (w.heap.size ≤ k_) ∧ some k_ ≠ (.slice (some ad132) t124.length co29 : Value).ownBlock ∧ some k_ ≠ (u15 : Value).ownBlock) (.slice (some ⟨go28, 0, none⟩) x16_2.length co28) x16_2 from (by (with_reducible repeat (first | apply Kd.N_alloc | apply Kd.N_drewN | apply Kd.N_drew)); exact Kd.N_mono HO_16.out (fun _ hk => ⟨hk.1, ⟨hk.2.1, hk.2.2.1⟩⟩))); obtain ⟨ce31, hcl31, hM31, hcc31, hfr31⟩ := Kd.N_elem HX31.out [] (x17_2 : Int) (of_decide_eq_true (by (with_reducible assumption))) (by have h_ : (x17_2 : Int) < ((x16_2.length : Int) : Int) := of_decide_eq_true (by (with_reducible assumption)); (exact h_)); obtain ⟨ua31_0, uc31_0, rfl, ul31_0, ge31_0⟩ := Kd.FK_slice_open hM31; have HP31 := Kd.N_seg HX31.out (x17_2 : Int) (of_decide_eq_true (by (with_reducible assumption))) (by have h_ : (x17_2 : Int) < ((x16_2.length : Int) : Int) := of_decide_eq_true (by (with_reducible assumption)); (exact h_)) (seg := [.slice AS_v138 t137.length cS_v138]) (j := 0) hcl31 hcc31 (show 1 ≤ 1 from by decide) (x' := t137) (Kd.FK_slice_mk (Kd.R_reads' (Kd.R_mono (ok' := (fun k_ => ((fun k_ => (w.heap.size ≤ k_) ∧ some k_ ≠ (.slice (some ad132) t124.length co29 : Value).ownBlock ∧ some k_ ≠ (u15 : Value).ownBlock)) k_ ∧ k_ ≠ go28)) (Kd.R_apart' (Kd.R_apart' (Kd.R_apart' (HO139.out) (Kd.R_typed HO_11.out) (by decide)) (Kd.R_typed HO_15.out) (by decide)) (Kd.N_typed HO_16.out) (by decide)) (fun k_ hk => ⟨⟨hk.1.1.1.1, ⟨hk.1.1.2, hk.1.2⟩⟩, fun e_ => (hk.2) (by rw [e_]; rfl)⟩))).2.1 (Kd.R_F (Kd.R_mono (ok' := (fun k_ => ((fun k_ => (w.heap.size ≤ k_) ∧ some k_ ≠ (.slice (some ad132) t124.length co29 : Value).ownBlock ∧ some k_ ≠ (u15 : Value).ownBlock)) k_ ∧ k_ ≠ go28)) (Kd.R_apart' (Kd.R_apart' (Kd.R_apart' (HO139.out) (Kd.R_typed HO_11.out) (by decide)) (Kd.R_typed HO_15.out) (by decide)) (Kd.N_typed HO_16.out) (by decide)) (fun k_ hk => ⟨⟨hk.1.1.1.1, ⟨hk.1.1.2, hk.1.2⟩⟩, fun e_ => (hk.2) (by rw [e_]; rfl)⟩)))) (fun _ hk => hk); have hx31_0 := hcc31 0 _ rfl; (try simp only [show ((Kd.slice 5 (Kd.int .u8))).sz = 1 from rfl, Nat.mul_one, Nat.add_zero] at hx31_0); have hf31_0 := hfr31 0; (try simp only [show ((Kd.slice 5 (Kd.int .u8))).sz = 1 from rfl, Nat.mul_one, Nat.add_zero] at hf31_0); clear hcl31 hcc31 hfr31; (try clear hM31); (try simp only [show ((Kd.slice 5 (Kd.int .u8))).sz = 1 from rfl, Nat.mul_one, Nat.add_zero] at HP31); (skip)) | ((with_reducible refine q1j (t := 41) (p := 70) rfl ?_); refine q14 (t := 41) (p := 70) (v := ?vo_w32) (w1 := (w30.setCell ⟨go28, (x17_2 : Int).toNat, none⟩ (.slice AS_v138 t137.length cS_v138))) ?hg ?ho ?hn ?hr ?_; (case ho => rfl); (case hg => rfl); (case hn => rfl); (case hr => ((go_simp; done))); intro w32 hw; have hg : w30.grownBy w32 (some go28) := (by rw [hw]; exact HP31.2); have hp_ : Kd.N (Kd.slice 5 (Kd.int .u8)) 41 w32 w.heap.size (fun k_ => (w.heap.size ≤ k_) ∧ some k_ ≠ (.slice (some ad132) t124.length co29 : Value).ownBlock ∧ some k_ ≠ (u15 : Value).ownBlock) (.slice (some ⟨go28, 0, none⟩) x16_2.length co28) y140 := (by rw [hw, Ny140.out]; exact HP31.1); clear HP31; have n0_ := sqM (Kd.R_over' (v := (.slice (some ⟨go28, 0, none⟩) x16_2.length co28)) (by (with_reducible repeat (first | apply Kd.R_alloc | apply Kd.R_drewN | apply Kd.R_drew)); exact HO_11.out) (Kd.N_typed HO_16.out) (by decide) hg); have n1_ := sqM (Kd.R_over' (v := (.slice (some ⟨go28, 0, none⟩) x16_2.length co28)) (by (with_reducible repeat (first | apply Kd.R_alloc | apply Kd.R_drewN | apply Kd.R_drew)); exact HO_15.out) (Kd.N_typed HO_16.out) (by decide) hg); have n2_ := sqM (hp_); have n3_ := sqM ((by rw [hw]; exact q0m (HB.out) GB28.out : Below w.heap.size w w32)); clear HO_11; clear HO_15; clear HO_16; clear HB; clear HO139; have HO_11 := n0_; have HO_15 := n1_; have HO_16 := n2_; have HB := n3_; clear n0_ n1_ n2_ n3_; clear hg hw hp_))
                go_roundg k2
                case measure => have := HJ4.out; have := HK2.out; omega
                case rel => exact ⟨(ji18), (x15_2), (y140), (wrap64 (x17_2 + 1)), (by rfl), (by rfl), H', ⟨by have := HJ4.out; have := HK2.out; omega⟩, ⟨by (with_reducible repeat (first | apply Kd.R_alloc | apply Kd.R_drewN | apply Kd.R_drew)); exact HO_11.out⟩, ⟨by (with_reducible repeat (first | apply Kd.R_alloc | apply Kd.R_drewN | apply Kd.R_drew)); exact HO_15.out⟩, ⟨by (with_reducible repeat (first | apply Kd.N_alloc | apply Kd.N_drewN | apply Kd.N_drew)); exact HO_16.out⟩, ⟨by repeat ((with_reducible (exact HB.out)))⟩⟩
               · rw [if_neg c27] at H
                 exact absurd H (by simp)
              · rw [if_neg c25] at H
                exact absurd H (by simp)
            · rw [if_neg c19] at H
              exact absurd H (by simp)
           · rw [if_neg c17] at H
             exact absurd H (by simp)
          · rw [if_neg c16] at H
            exact absurd H (by simp)
         ·
          rw [if_neg c15] at H
          have c15b0 : decide (x17_2 < (l0.length : Int)) = false := decide_eq_false c15
          clear c15
          have H' := sqM H
          clear H
          go_wp2
          go_loopg [14, 18] k2 (fun kq v14 v18 w' => ∃ (x14_3 : Int) (x18_3 : Int), v14 = .int .i64 x14_3 ∧ v18 = .int .i64 x18_3 ∧ Aside0 (r5_Restore.l1 kq l1 l2 (l0.length : Int) t124 x13_2 x14_3 x15_2 x16_2 x18_3 = some (r1, r2)) ∧ Aside0 (kq ≤ k2) ∧ Aside0 (Kd.R Kd.bool 4 w' w.heap.size (fun k_ => (w.heap.size ≤ k_)) v126 t124) ∧ Aside0 (Kd.R (Kd.int .i64) 3 w' w.heap.size (fun k_ => (w.heap.size ≤ k_)) u15 x15_2) ∧ Aside0 (Kd.N (Kd.slice 5 (Kd.int .u8)) 41 w' w.heap.size (fun k_ => (w.heap.size ≤ k_) ∧ some k_ ≠ (v126 : Value).ownBlock ∧ some k_ ≠ (u15 : Value).ownBlock) v129 x16_2) ∧ Aside0 (Below w.heap.size w w'))
          case atStart => exact ⟨(0), (0), (by rfl), (by rfl), H', ⟨Nat.le_refl _⟩, ⟨by (with_reducible repeat (first | apply Kd.R_alloc | apply Kd.R_drewN | apply Kd.R_drew)); exact HO_11.out⟩, ⟨by (with_reducible repeat (first | apply Kd.R_alloc | apply Kd.R_drewN | apply Kd.R_drew)); exact HO_15.out⟩, ⟨by (with_reducible repeat (first | apply Kd.N_alloc | apply Kd.N_drewN | apply Kd.N_drew)); exact HO_16.out⟩, ⟨by repeat ((with_reducible (exact HB.out)))⟩⟩
          case round =>
           clear H'
           try clear c15b0
           obtain ⟨x14_3, x18_3, rfl, rfl, HA, HK3, HO_11, HO_15, HO_16, HB⟩ := hrel
           cases gk with
           | zero => exact absurd HA.out (by simp [r5_Restore.l1])
           | succ k3 =>
            have H := HA.out
            clear HA
            simp only [r5_Restore.l1] at H
            by_cases c33 : x18_3 < (t124.length : Int)
            ·
             rw [if_pos c33] at H
             have c33b0 : decide (x18_3 < (t124.length : Int)) = true := decide_eq_true c33
             clear c33
             by_cases c34 : 0 ≤ x18_3
             ·
              rw [if_pos c34] at H
              have c34b0 : decide (0 ≤ x18_3) = true := decide_eq_true c34
              clear c34
              obtain ⟨bq35, hbq35⟩ : ∃ b_ : Bool, b_ = (rdOf false t124 x18_3) := ⟨_, rfl⟩
              replace H : (if bq35 = true then (r5_Restore.l1 k3 l1 l2 (l0.length : Int) t124 x13_2 (wrap64 (x14_3 + 1)) x15_2 x16_2 (wrap64 (x18_3 + 1))) else (r5_Restore.l1 k3 l1 l2 (l0.length : Int) t124 x13_2 x14_3 x15_2 x16_2 (wrap64 (x18_3 + 1)))) = some (r1, r2) := by rw [← hbq35] at H; exact H
              have Nbq35 := sqM hbq35
              clear hbq35
              by_cases c36 : bq35 = true
              ·
               subst c36
               have H1 : (r5_Restore.l1 k3 l1 l2 (l0.length : Int) t124 x13_2 (wrap64 (x14_3 + 1)) x15_2 x16_2 (wrap64 (x18_3 + 1))) = some (r1, r2) := by rw [if_pos rfl] at H; exact H
               clear H
               have H := H1
               clear H1
               have H' := sqM H
               clear H
               obtain ⟨Ao37, co37, eo37⟩ := Kd.R_slice HO_11.out
               subst eo37
               have p141 : 0 ≤ (x18_3 : Int) := of_decide_eq_true (by (with_reducible assumption))
               have q141 : x18_3 < (t124.length : Int) := of_decide_eq_true (by (with_reducible assumption))
               obtain ⟨ad141, e141, hx141_0⟩ := Kd.at_bool (Kd.R_reads' HO_11.out).2.2 x18_3 p141 q141
               (try rw [← Nbq35.out] at hx141_0)
               cases e141
               replace p141 := eq_true p141
               replace q141 := eq_true q141
               go_wp2
               go_roundg k3
               case measure => have := HJ4.out; have := HK2.out; have := HK3.out; omega
               case rel => exact ⟨(wrap64 (x14_3 + 1)), (wrap64 (x18_3 + 1)), (by rfl), (by rfl), H', ⟨by have := HJ4.out; have := HK2.out; have := HK3.out; omega⟩, ⟨by (with_reducible repeat (first | apply Kd.R_alloc | apply Kd.R_drewN | apply Kd.R_drew)); exact HO_11.out⟩, ⟨by (with_reducible repeat (first | apply Kd.R_alloc | apply Kd.R_drewN | apply Kd.R_drew)); exact HO_15.out⟩, ⟨by (with_reducible repeat (first | apply Kd.N_alloc | apply Kd.N_drewN | apply Kd.N_drew)); exact HO_16.out⟩, ⟨by repeat ((with_reducible (exact HB.out)))⟩⟩
              ·
               replace c36 := Bool.eq_false_iff.mpr c36
               subst c36
               have H1 : (r5_Restore.l1 k3 l1 l2 (l0.length : Int) t124 x13_2 x14_3 x15_2 x16_2 (wrap64 (x18_3 + 1))) = some (r1, r2) := by rw [if_neg (show ¬ (false = true) by decide)] at H; exact H
               clear H
               have H := H1
               clear H1
               have H' := sqM H
               clear H
               obtain ⟨Ao38, co38, eo38⟩ := Kd.R_slice HO_11.out
               subst eo38
               have p141 : 0 ≤ (x18_3 : Int) := of_decide_eq_true (by (with_reducible assumption))
               have q141 : x18_3 < (t124.length : Int) := of_decide_eq_true (by (with_reducible assumption))
               obtain ⟨ad141, e141, hx141_0⟩ := Kd.at_bool (Kd.R_reads' HO_11.out).2.2 x18_3 p141 q141
               (try rw [← Nbq35.out] at hx141_0)
               cases e141
               replace p141 := eq_true p141
               replace q141 := eq_true q141
               go_wp2
               go_roundg k3
               case measure => have := HJ4.out; have := HK2.out; have := HK3.out; omega
               case rel => exact ⟨(x14_3), (wrap64 (x18_3 + 1)), (by rfl), (by rfl), H', ⟨by have := HJ4.out; have := HK2.out; have := HK3.out; omega⟩, ⟨by (with_reducible repeat (first | apply Kd.R_alloc | apply Kd.R_drewN | apply Kd.R_drew)); exact HO_11.out⟩, ⟨by (with_reducible repeat (first | apply Kd.R_alloc | apply Kd.R_drewN | apply Kd.R_drew)); exact HO_15.out⟩, ⟨by (with_reducible repeat (first | apply Kd.N_alloc | apply Kd.N_drewN | apply Kd.N_drew)); exact HO_16.out⟩, ⟨by repeat ((with_reducible (exact HB.out)))⟩⟩
             · rw [if_neg c34] at H
               exact absurd H (by simp)
            ·
             rw [if_neg c33] at H
             have c33b0 : decide (x18_3 < (t124.length : Int)) = false := decide_eq_false c33
             clear c33
             by_cases c39 : x14_3 > (l2.length : Int)
             · rw [if_pos c39] at H
               have c39b0 : decide ((l2.length : Int) < x14_3) = true := decide_eq_true c39
               clear c39
               simp only [Option.some.injEq, Prod.mk.injEq] at H
               obtain ⟨rfl, rfl⟩ := H
               obtain ⟨Ao40, co40, eo40⟩ := Kd.R_slice HO_11.out
               subst eo40
               go_wp2
               go_ret2
               exact ⟨_, by rfl, by exact Kd.N_nil _ _ _ _ _, by repeat ((with_reducible (exact HB.out)))⟩
             ·
              rw [if_neg c39] at H
              have c39b0 : decide ((l2.length : Int) < x14_3) = false := decide_eq_false c39
              clear c39
              replace H := Option.bind_eq_some_iff.mp H
              obtain ⟨t142, A410, H⟩ := H
              replace H : (r5_Restore.l2 k3 l1 l2 (l0.length : Int) t124 x13_2 x15_2 x16_2 t142 0) = some (r1, r2) := H
              have A41 := sqM A410
              clear A410
              have HC42 := sqM H
              clear H
              obtain ⟨Ao43, co43, eo43⟩ := Kd.R_slice HO_11.out
              subst eo43
              obtain ⟨Ao44, co44, eo44⟩ := Kd.N_slice HO_16.out
              subst eo44
              obtain ⟨Ao45, co45, eo45⟩ := Kd.R_slice HO_15.out
              subst eo45
              go_upto_block 4 with (first | ((with_reducible refine q09 (f := 55) rfl ?_); refine q1p (some 92) rfl rfl Try.func55 (by kernel_rfl) rfl #[.slice Ao44 x16_2.length co44, .slice A2 l2.length c2, .slice Ao43 t124.length co43, .slice Ao45 x15_2.length co45, .int .i64 x13_2] rfl (by (try simp only [List.map_toArray, List.map_cons, List.map_nil]); (rfl)) ?_; (with_reducible refine (r5_solved.calls k3 _ _ x16_2 _ _ l2 _ _ t124 _ _ x15_2 x13_2 t142 _ ?side1 ?side2 ?side3 ?side4 ?side5 ?side6 ?side7 ?side8 A41.out).mono ?_); (case side1 => repeat (exact (Kd.N_reads' HO_16.out).2.2)); (case side2 => exact (Kd.N_reads' HO_16.out).2.1); (case side3 => repeat (exact (Kd.C_below HR2.out HB.out))); (case side4 => exact HC2.out); (case side5 => repeat (exact (Kd.R_reads' HO_11.out).2.2)); (case side6 => exact (Kd.R_reads' HO_11.out).2.1); (case side7 => repeat (exact (Kd.R_reads' HO_15.out).2.2)); (case side8 => exact (Kd.R_reads' HO_15.out).2.1); rintro e w46 ⟨v143, rfl, ho0, hb⟩; refine ⟨_, rfl, ?_⟩; have n0_ := sqM (Kd.R_below (by (with_reducible repeat (first | apply Kd.R_alloc | apply Kd.R_drewN | apply Kd.R_drew)); exact HO_11.out) hb); have n1_ := sqM (Kd.R_below (by (with_reducible repeat (first | apply Kd.R_alloc | apply Kd.R_drewN | apply Kd.R_drew)); exact HO_15.out) hb); have n2_ := sqM (Kd.N_elder' (by (with_reducible repeat (first | apply Kd.N_alloc | apply Kd.N_drewN | apply Kd.N_drew)); exact HO_16.out) (Kd.S_base ho0) hb); have n3_ := sqM (Kd.N_lower (Kd.N_mono (ok' := fun k_ => (w.heap.size ≤ k_) ∧ some k_ ≠ (.slice Ao43 t124.length co43 : Value).ownBlock ∧ some k_ ≠ (.slice Ao45 x15_2.length co45 : Value).ownBlock ∧ some k_ ≠ (.slice Ao44 x16_2.length co44 : Value).ownBlock) (Kd.S_N (Kd.S_bound ho0)) (fun k_ hk_ => ⟨(Nat.le_trans (q01 (by repeat ((with_reducible (exact HB.out))))) hk_.2.1), (Kd.fresh' (Kd.R_lt (by (with_reducible repeat (first | apply Kd.R_alloc | apply Kd.R_drewN | apply Kd.R_drew)); exact HO_11.out)) k_ hk_.2.1), (Kd.fresh' (Kd.R_lt (by (with_reducible repeat (first | apply Kd.R_alloc | apply Kd.R_drewN | apply Kd.R_drew)); exact HO_15.out)) k_ hk_.2.1), (Kd.fresh' (Kd.N_lt (by (with_reducible repeat (first | apply Kd.N_alloc | apply Kd.N_drewN | apply Kd.N_drew)); exact HO_16.out)) k_ hk_.2.1)⟩)) (q01 (by repeat ((with_reducible (exact HB.out)))))); have n4_ := sqM (q04 (by repeat ((with_reducible (exact HB.out)))) hb); clear HO_11; clear HO_15; clear HO_16; clear HB; have HO_11 := n0_; have HO_15 := n1_; have HO_16 := n2_; have HO144 := n3_; have HB := n4_; clear n0_ n1_ n2_ n3_ n4_; (try clear hb); (try clear ho0)))
              (skip)
              go_cut [] (fun wc => ∃ (kq : Nat) (x16_41 : List (List Int)), Aside0 (r5_Restore.j4 kq l2 (l0.length : Int) t124 x13_2 x16_41 = some (r1, r2)) ∧ Aside0 (kq ≤ k3) ∧ Aside0 (Kd.R Kd.bool 4 wc w.heap.size (fun k_ => (w.heap.size ≤ k_)) (.slice Ao43 t124.length co43) t124) ∧ Aside0 (Kd.N (Kd.slice 5 (Kd.int .u8)) 41 wc w.heap.size (fun k_ => (w.heap.size ≤ k_) ∧ some k_ ≠ ((.slice Ao43 t124.length co43) : Value).ownBlock) (.slice Ao44 x16_2.length co44) x16_41) ∧ Aside0 (Below w.heap.size w wc))
              case first =>
               have H := HC42.out
               clear HC42
               have H' := sqM H
               clear H
               go_wp2
               go_loopg [20] k3 (fun kq v20 w' => ∃ (x16_4 : List (List Int)) (x20_4 : Int), v20 = .int .i64 x20_4 ∧ Aside0 (r5_Restore.l2 kq l1 l2 (l0.length : Int) t124 x13_2 x15_2 x16_4 t142 x20_4 = some (r1, r2)) ∧ Aside0 (kq ≤ k3) ∧ Aside0 (Kd.R Kd.bool 4 w' w.heap.size (fun k_ => (w.heap.size ≤ k_)) (.slice Ao43 t124.length co43) t124) ∧ Aside0 (Kd.R (Kd.int .i64) 3 w' w.heap.size (fun k_ => (w.heap.size ≤ k_)) (.slice Ao45 x15_2.length co45) x15_2) ∧ Aside0 (Kd.N (Kd.slice 5 (Kd.int .u8)) 41 w' w.heap.size (fun k_ => (w.heap.size ≤ k_) ∧ some k_ ≠ ((.slice Ao43 t124.length co43) : Value).ownBlock ∧ some k_ ≠ ((.slice Ao45 x15_2.length co45) : Value).ownBlock ∧ some k_ ≠ (v143 : Value).ownBlock) (.slice Ao44 x16_2.length co44) x16_4) ∧ Aside0 (Kd.N (Kd.slice 5 (Kd.int .u8)) 41 w' w.heap.size (fun k_ => (w.heap.size ≤ k_) ∧ some k_ ≠ ((.slice Ao43 t124.length co43) : Value).ownBlock ∧ some k_ ≠ ((.slice Ao45 x15_2.length co45) : Value).ownBlock ∧ some k_ ≠ ((.slice Ao44 x16_2.length co44) : Value).ownBlock) v143 t142) ∧ Aside0 (Below w.heap.size w w'))
               case atStart => exact ⟨(x16_2), (0), (by rfl), H', ⟨Nat.le_refl _⟩, ⟨by (with_reducible repeat (first | apply Kd.R_alloc | apply Kd.R_drewN | apply Kd.R_drew)); exact HO_11.out⟩, ⟨by (with_reducible repeat (first | apply Kd.R_alloc | apply Kd.R_drewN | apply Kd.R_drew)); exact HO_15.out⟩, ⟨by (with_reducible repeat (first | apply Kd.N_alloc | apply Kd.N_drewN | apply Kd.N_drew)); exact Kd.N_mono HO_16.out (fun _ hk => ⟨hk.1.1, ⟨hk.1.2.1, ⟨hk.1.2.2, hk.2⟩⟩⟩)⟩, ⟨by (with_reducible repeat (first | apply Kd.N_alloc | apply Kd.N_drewN | apply Kd.N_drew)); exact HO144.out⟩, ⟨by repeat ((with_reducible (exact HB.out)))⟩⟩
               case round =>
                clear H'
                try clear c33b0
                try clear c39b0
                obtain ⟨x16_4, x20_4, rfl, HA, HK4, HO_11, HO_15, HO_16, HO_19, HB⟩ := hrel
                have hl16_4 := (Kd.N_reads' HO_16.out).1
                rw [hl16_4] at HO_16
                (try simp only [hl16_4])
                (skip)
                (skip)
                (try simp only [hl16_4] at HO_19)
                cases gk with
                | zero => exact absurd HA.out (by simp [r5_Restore.l2])
                | succ k4 =>
                 have H := HA.out
                 clear HA
                 simp only [r5_Restore.l2] at H
                 by_cases c47 : x20_4 < (x15_2.length : Int)
                 ·
                  rw [if_pos c47] at H
                  have c47b0 : decide (x20_4 < (x15_2.length : Int)) = true := decide_eq_true c47
                  clear c47
                  (skip)
                  by_cases c48 : x20_4 < (t142.length : Int)
                  ·
                   rw [if_pos c48] at H
                   have c48b0 : decide (x20_4 < (t142.length : Int)) = true := decide_eq_true c48
                   clear c48
                   by_cases c49 : 0 ≤ x20_4
                   ·
                    rw [if_pos c49] at H
                    have c49b0 : decide (0 ≤ x20_4) = true := decide_eq_true c49
                    clear c49
                    by_cases c50 : 0 ≤ (rd x15_2 x20_4)
                    ·
                     rw [if_pos c50] at H
                     have c50b0 : decide (0 ≤ (rd x15_2 x20_4)) = true := decide_eq_true c50
                     clear c50
                     by_cases c51 : (rd x15_2 x20_4) < (l1.length : Int)
                     ·
                      rw [if_pos c51] at H
                      have c51b0 : decide ((rd x15_2 x20_4) < (l1.length : Int)) = true := decide_eq_true c51
                      clear c51
                      by_cases c52 : 0 ≤ (rd l1 (rd x15_2 x20_4))
                      ·
                       rw [if_pos c52] at H
                       have c52b0 := eq_true c52
                       have c52b1 : decide (0 ≤ (rd l1 (rd x15_2 x20_4))) = true := decide_eq_true c52
                       clear c52
                       by_cases c53 : (rd l1 (rd x15_2 x20_4)) ≤ ((rd_L1 t142 x20_4).length : Int)
                       ·
                        rw [if_pos c53] at H
                        have c53b0 := eq_true c53
                        have c53b1 : decide ((rd l1 (rd x15_2 x20_4)) ≤ ((rd_L1 t142 x20_4).length : Int)) = true := decide_eq_true c53
                        clear c53
                        obtain ⟨y149, hy149⟩ : ∃ y_ : List Int, y_ = ((rd_L1 t142 x20_4).take ((rd l1 (rd x15_2 x20_4)) : Int).toNat) := ⟨_, rfl⟩
                        replace H : ((r5_copied.f y149).bind fun t154 => (if (rd x15_2 x20_4) < (x16_4.length : Int) then (r5_Restore.l2 k4 l1 l2 (l0.length : Int) t124 x13_2 x15_2 (x16_4.set ((rd x15_2 x20_4) : Int).toNat t154) t142 (wrap64 (x20_4 + 1))) else (none))) = some (r1, r2) := by (rw [hy149]; with_reducible exact H)
                        have Ny149 := sqM hy149
                        clear hy149
                        replace H := Option.bind_eq_some_iff.mp H
                        obtain ⟨t154, A540, H⟩ := H
                        replace H : (if (rd x15_2 x20_4) < (x16_4.length : Int) then (r5_Restore.l2 k4 l1 l2 (l0.length : Int) t124 x13_2 x15_2 (x16_4.set ((rd x15_2 x20_4) : Int).toNat t154) t142 (wrap64 (x20_4 + 1))) else (none)) = some (r1, r2) := H
                        have A54 := sqM A540
                        clear A540
                        by_cases c55 : (rd x15_2 x20_4) < (x16_4.length : Int)
                        ·
                         rw [if_pos c55] at H
                         have c55b0 : decide ((rd x15_2 x20_4) < (x16_4.length : Int)) = true := decide_eq_true c55
                         clear c55
                         obtain ⟨y157, hy157⟩ : ∃ y_ : List (List Int), y_ = (x16_4.set ((rd x15_2 x20_4) : Int).toNat t154) := ⟨_, rfl⟩
                         replace H : (r5_Restore.l2 k4 l1 l2 (l0.length : Int) t124 x13_2 x15_2 y157 t142 (wrap64 (x20_4 + 1))) = some (r1, r2) := by (rw [hy157]; with_reducible exact H)
                         have Ny157 := sqM hy157
                         clear hy157
                         have H' := sqM H
                         clear H
                         obtain ⟨Ao57, co57, eo57⟩ := Kd.N_slice HO_19.out
                         subst eo57
                         try go_wp2
                         have n0_ := sqM (Kd.R_drew HO_11.out)
                         have n1_ := sqM (Kd.R_drew HO_15.out)
                         have n2_ := sqM (Kd.N_drew HO_16.out)
                         have n3_ := sqM (Kd.N_drew HO_19.out)
                         have n4_ := sqM (q06 HB.out)
                         clear HO_11
                         clear HO_15
                         clear HO_16
                         clear HO_19
                         clear HB
                         have HO_11 := n0_
                         have HO_15 := n1_
                         have HO_16 := n2_
                         have HO_19 := n3_
                         have HB := n4_
                         clear n0_ n1_ n2_ n3_ n4_
                         have p145 : 0 ≤ (x20_4 : Int) := of_decide_eq_true (by (with_reducible assumption))
                         have q145 : x20_4 < (x15_2.length : Int) := of_decide_eq_true (by (with_reducible assumption))
                         obtain ⟨ad145, e145, hx145_0⟩ := Kd.at_int (Kd.R_reads' HO_15.out).2.2 x20_4 p145 q145
                         cases e145
                         replace p145 := eq_true p145
                         replace q145 := eq_true q145
                         have p146 : 0 ≤ (x20_4 : Int) := of_decide_eq_true (by (with_reducible assumption))
                         have q146 : x20_4 < (t142.length : Int) := of_decide_eq_true (by (with_reducible assumption))
                         obtain ⟨ad146, A146_0, c146_0, e146, hx146_0, hl146_0, hi146_0⟩ := at_L1 (Kd.N_reads' HO_19.out).2.2 x20_4 p146 q146
                         cases e146
                         obtain ⟨ce146, hce146, hMe146, hcc146⟩ := Kd.N_get HO_19.out [] x20_4 p146 (by exact q146)
                         obtain ⟨ua146_0, uc146_0, rfl, ul146_0, ge146_0⟩ := Kd.FK_slice_open hMe146
                         have hv146_0 := hcc146 0 _ rfl
                         rw [Nat.add_zero, show ((Kd.slice 5 (Kd.int .u8))).sz = 1 from rfl, Nat.mul_one] at hv146_0
                         replace hv146_0 := Option.some.inj (hv146_0.symm.trans hx146_0)
                         injection hv146_0 with hva_ hvn_ hvc_
                         rw [hva_] at ge146_0
                         rw [hvc_] at ul146_0
                         have HL146_0 := sqM (show Kd.V (Kd.int .u8) 5 _ w.heap.size _ _ (rd_L1 t142 x20_4) from Kd.V_mk ul146_0 ge146_0)
                         clear hva_ hvn_ hvc_ ge146_0 ul146_0
                         clear hcc146 hce146
                         have HR146_0 := sqM hi146_0
                         have HC146_0 := sqM hl146_0
                         clear hi146_0 hl146_0
                         replace p146 := eq_true p146
                         replace q146 := eq_true q146
                         have p147 : 0 ≤ (x20_4 : Int) := of_decide_eq_true (by (with_reducible assumption))
                         have q147 : x20_4 < (x15_2.length : Int) := of_decide_eq_true (by (with_reducible assumption))
                         obtain ⟨ad147, e147, hx147_0⟩ := Kd.at_int (Kd.R_reads' HO_15.out).2.2 x20_4 p147 q147
                         obtain rfl : ad145 = ad147 := (by injection e147)
                         replace p147 := eq_true p147
                         replace q147 := eq_true q147
                         have p148 : 0 ≤ ((rd x15_2 x20_4) : Int) := of_decide_eq_true (by (with_reducible assumption))
                         have q148 : (rd x15_2 x20_4) < (l1.length : Int) := of_decide_eq_true (by (with_reducible assumption))
                         obtain ⟨ad148, e148, hx148_0⟩ := Kd.at_int HR1.out (rd x15_2 x20_4) p148 q148
                         have hw148_0 := hx148_0
                         cases e148
                         replace hx148_0 := (HB.out.cell (World.block_lt_of_cell? w _ hx148_0)).trans hx148_0
                         replace p148 := eq_true p148
                         replace q148 := eq_true q148
                         have q59 : ((rd l1 (rd x15_2 x20_4)) : Int) ≤ (((rd_L1 t142 x20_4).length : Int) : Int) := of_decide_eq_true (by (with_reducible assumption))
                         obtain ⟨i059, hi059, _, hsz59, _⟩ := info_parts info5
                         have hroom59 : (rd_L1 t142 x20_4).length ≤ c146_0 := HC146_0.out
                         have hC59 : Kd.F (Kd.int .u8) _ _ A146_0 (rd_L1 t142 x20_4).length (rd_L1 t142 x20_4) := (Kd.V_at (base := w.heap.size) HL146_0.out).2.2
                         have hcut59 := cut_to (P := Try.prog) 41 5 .i64 Try.underlying41 hi059 A146_0 (rd_L1 t142 x20_4).length c146_0 (rd l1 (rd x15_2 x20_4)) (of_decide_eq_true (by (with_reducible assumption))) q59 hroom59
                         have hr59 := Kd.F_take (m := ((rd l1 (rd x15_2 x20_4)) : Int).toNat) hC59 (by omega)
                         have hy59 : y149.length = ((rd l1 (rd x15_2 x20_4)) : Int).toNat := (by rw [Ny149.out, List.length_take]; omega)
                         rw [← Ny149.out] at hr59
                         rw [← hy59] at hcut59
                         have HO153 := sqM (show Kd.V (Kd.int .u8) 5 _ w.heap.size _ (.slice A146_0 y149.length c146_0) y149 from Kd.V_mk (by omega) hr59)
                         have HC153 := sqM (show y149.length ≤ c146_0 from by omega)
                         clear hr59 hC59 hroom59 hi059 hsz59
                         have KY59 := sqM hy59
                         clear hy59
                         replace q59 := eq_true q59
                         refine q1x (n := 20) (S := fun w' => w'.cell? (ad145.add (x20_4).toNat) = some (.int .i64 (rd x15_2 x20_4)) ∧ w'.cell? (ad146.add (x20_4).toNat) = some (.slice A146_0 (rd_L1 t142 x20_4).length c146_0) ∧ w'.cell? (ad145.add (x20_4).toNat) = some (.int .i64 (rd x15_2 x20_4)) ∧ w'.cell? (ad148.add ((rd x15_2 x20_4)).toNat) = some (.int .i64 (rd l1 (rd x15_2 x20_4)))) (ds := [19]) #[fF,fF,fF,fF,fF,fF,fF,fF,fF,fF,fF,fF,fF,fF,fF,fF,fF,fF,fF,fF] (by kernel_rfl) rfl rfl ⟨hx145_0, hx146_0, hx147_0, ((HB.out.cell (World.block_lt_of_cell? w _ hw148_0)).trans hw148_0)⟩ (fun hHeld => ?_); refine with_tabW r5_Restore.tab29 r5_Restore.bits29 (fun HT_ HW_ => ?_)
                         generalize wr.drew = w58 at HO_11 HO_15 HO_16 HO_19 HB HL146_0 HO153 HR146_0 hx145_0 hx146_0 hx147_0 hx148_0 hHeld ⊢
                         refine pU 0 105 #[tT,fF,fF,fF,fF,fF,fF,fF,fF,fF,fF,fF,fF,fF,fF,fF,fF,fF,fF,fF] ?_ (hc := q0g HT_.out (by kernel_rfl))
                         refine pU 1 106 #[tT,tT,fF,fF,fF,fF,fF,fF,fF,fF,fF,fF,fF,fF,fF,fF,fF,fF,fF,fF] ?_ (hc := q0g HT_.out (by kernel_rfl))
                         refine pU 2 107 #[tT,tT,tT,fF,fF,fF,fF,fF,fF,fF,fF,fF,fF,fF,fF,fF,fF,fF,fF,fF] ?_ (hc := q0g HT_.out (by kernel_rfl))
                         refine pU 3 108 #[tT,tT,tT,tT,fF,fF,fF,fF,fF,fF,fF,fF,fF,fF,fF,fF,fF,fF,fF,fF] ?_ (hc := q0g HT_.out (by kernel_rfl))
                         refine pU 5 110 #[tT,tT,tT,tT,fF,tT,fF,fF,fF,fF,fF,fF,fF,fF,fF,fF,fF,fF,fF,fF] ?_ (hc := q0g HT_.out (by kernel_rfl))
                         refine pU 6 111 #[tT,tT,tT,tT,fF,tT,tT,fF,fF,fF,fF,fF,fF,fF,fF,fF,fF,fF,fF,fF] ?_ (hc := q0g HT_.out (by kernel_rfl))
                         refine pU 7 112 #[tT,tT,tT,tT,fF,tT,tT,tT,fF,fF,fF,fF,fF,fF,fF,fF,fF,fF,fF,fF] ?_ (hc := q0g HT_.out (by kernel_rfl))
                         refine pU 9 114 #[tT,tT,tT,tT,fF,tT,tT,tT,fF,tT,fF,fF,fF,fF,fF,fF,fF,fF,fF,fF] ?_ (hc := q0g HT_.out (by kernel_rfl))
                         refine pU 10 115 #[tT,tT,tT,tT,fF,tT,tT,tT,fF,tT,tT,fF,fF,fF,fF,fF,fF,fF,fF,fF] ?_ (hc := q0g HT_.out (by kernel_rfl))
                         refine pU 11 116 #[tT,tT,tT,tT,fF,tT,tT,tT,fF,tT,tT,tT,fF,fF,fF,fF,fF,fF,fF,fF] ?_ (hc := q0g HT_.out (by kernel_rfl))
                         refine pU 12 117 #[tT,tT,tT,tT,fF,tT,tT,tT,fF,tT,tT,tT,tT,fF,fF,fF,fF,fF,fF,fF] ?_ (hc := q0g HT_.out (by kernel_rfl))
                         refine tK 4 109 #[tT,tT,tT,tT,tT,tT,tT,tT,fF,tT,tT,tT,tT,fF,fF,fF,fF,fF,fF,fF] hHeld ?_ (hc := take_ofW HT_.out HW_.out (by kernel_rfl)) (hy := by
                          rintro w' ⟨s0, s1, s2, s3⟩
                          go_simp
                          with_reducible rfl)
                         refine tK 8 113 #[tT,tT,tT,tT,tT,tT,tT,tT,tT,tT,tT,tT,tT,fF,fF,fF,fF,fF,fF,fF] hHeld ?_ (hc := take_ofW HT_.out HW_.out (by kernel_rfl)) (hy := by
                          rintro w' ⟨s0, s1, s2, s3⟩
                          go_simp
                          with_reducible rfl)
                         refine tK 13 118 #[tT,tT,tT,tT,tT,tT,tT,tT,tT,tT,tT,tT,tT,tT,fF,fF,fF,fF,fF,fF] hHeld ?_ (hc := take_ofW HT_.out HW_.out (by kernel_rfl)) (hy := by
                          rintro w' ⟨s0, s1, s2, s3⟩
                          go_simp
                          with_reducible rfl)
                         refine pU 14 119 #[tT,tT,tT,tT,tT,tT,tT,tT,tT,tT,tT,tT,tT,tT,tT,fF,fF,fF,fF,fF] ?_ (hc := q0g HT_.out (by kernel_rfl))
                         refine tK 15 120 #[tT,tT,tT,tT,tT,tT,tT,tT,tT,tT,tT,tT,tT,tT,tT,tT,fF,fF,fF,fF] hHeld ?_ (hc := take_ofW HT_.out HW_.out (by kernel_rfl)) (hy := by
                          rintro w' ⟨s0, s1, s2, s3⟩
                          go_simp
                          with_reducible rfl)
                         refine pU 16 121 #[tT,tT,tT,tT,tT,tT,tT,tT,tT,tT,tT,tT,tT,tT,tT,tT,tT,fF,fF,fF] ?_ (hc := q0g HT_.out (by kernel_rfl))
                         refine one_ (i := 17) (N := some 122) #[tT,tT,tT,tT,tT,tT,tT,tT,tT,tT,tT,tT,tT,tT,tT,tT,tT,tT,fF,fF] rfl rfl (one_of HT_.out (by kernel_rfl)) (by decide) (fun K hK => ?_)
                         refine goes_ Try.func54 (by kernel_rfl) rfl #[.slice A146_0 y149.length c146_0] (by rfl) rfl rfl (by (try simp only [List.map_toArray, List.map_cons, List.map_nil]); (rfl)) ?_
                         with_reducible refine (r5_copied.calls _ _ y149 t154 _ ?side1 ?side2 A54.out).mono ?_
                         (case side1 => repeat (exact (Kd.V_reads' HO153.out).2.2))
                         (case side2 => exact (Kd.V_reads' HO153.out).2.1)
                         rintro e w60 ⟨v155, rfl, ho0, hb⟩
                         obtain ⟨AS_v155, cS_v155, eS_v155⟩ := Kd.R_slice ho0
                         subst eS_v155
                         have HS0_ := (hb.cell (World.block_lt_of_cell? _ _ (hHeld.1))).trans (hHeld.1)
                         have HS1_ := (hb.cell (World.block_lt_of_cell? _ _ (hHeld.2.1))).trans (hHeld.2.1)
                         have HS2_ := (hb.cell (World.block_lt_of_cell? _ _ (hHeld.2.2.1))).trans (hHeld.2.2.1)
                         refine ⟨_, rfl, ?_⟩
                         have n0_ := sqM (Kd.R_below (by (with_reducible repeat (first | apply Kd.R_alloc | apply Kd.R_drewN | apply Kd.R_drew)); exact HO_11.out) hb)
                         have n1_ := sqM (Kd.R_below (by (with_reducible repeat (first | apply Kd.R_alloc | apply Kd.R_drewN | apply Kd.R_drew)); exact HO_15.out) hb)
                         have n2_ := sqM (Kd.N_elder' (by (with_reducible repeat (first | apply Kd.N_alloc | apply Kd.N_drewN | apply Kd.N_drew)); exact HO_16.out) (Kd.R_base ho0) hb)
                         have n3_ := sqM (Kd.N_elder' (by (with_reducible repeat (first | apply Kd.N_alloc | apply Kd.N_drewN | apply Kd.N_drew)); exact HO_19.out) (Kd.R_base ho0) hb)
                         have n4_ := sqM (Kd.V_elder' (by (with_reducible repeat (first | apply Kd.V_alloc | apply Kd.V_drewN | apply Kd.V_drew)); exact HL146_0.out) (Kd.R_base ho0) hb)
                         have n5_ := sqM (Kd.V_elder' (by (with_reducible repeat (first | apply Kd.V_alloc | apply Kd.V_drewN | apply Kd.V_drew)); exact HO153.out) (Kd.R_base ho0) hb)
                         have n6_ := sqM (Kd.R_lower (Kd.R_newM (M := fun k_ => (w.heap.size ≤ k_)) ho0 (q01 (by repeat ((with_reducible (exact HB.out))))) (fun k_ h_ => h_)) (q01 (by repeat ((with_reducible (exact HB.out))))))
                         have n7_ := sqM (Kd.C_below (by repeat ((with_reducible exact HR146_0.out))) hb)
                         have n8_ := sqM (q04 (by repeat ((with_reducible (exact HB.out)))) hb)
                         clear HO_11
                         clear HO_15
                         clear HO_16
                         clear HO_19
                         clear HL146_0
                         clear HO153
                         clear HR146_0
                         clear HB
                         have HO_11 := n0_
                         have HO_15 := n1_
                         have HO_16 := n2_
                         have HO_19 := n3_
                         have HL146_0 := n4_
                         have HO153 := n5_
                         have HO156 := n6_
                         have HR146_0 := n7_
                         have HB := n8_
                         clear n0_ n1_ n2_ n3_ n4_ n5_ n6_ n7_ n8_
                         (try clear hb)
                         (skip)
                         (skip)
                         (skip)
                         (try clear ho0)
                         have p56 : 0 ≤ ((rd x15_2 x20_4) : Int) := of_decide_eq_true (by (with_reducible assumption))
                         have q56 : ((rd x15_2 x20_4) : Int) < ((x16_4.length : Int) : Int) := of_decide_eq_true (by (with_reducible assumption))
                         obtain ⟨go56, co56, eo56, gb56, gl56, cl56, HG56⟩ := Kd.N_form HO_16.out (by omega)
                         (cases eo56)
                         have GB56 := sqM gb56
                         have GG56 := sqM HG56
                         clear gb56 gl56 HG56
                         obtain ⟨ce56, hcl56, hM56, hcc56, hfr56⟩ := Kd.N_elem HO_16.out [] ((rd x15_2 x20_4) : Int) p56 q56
                         obtain ⟨ua56_0, uc56_0, rfl, ul56_0, ge56_0⟩ := Kd.FK_slice_open hM56
                         have hx56_0 := hcc56 0 _ rfl
                         have hf56_0 := hfr56 0
                         (try simp only [show ((Kd.slice 5 (Kd.int .u8))).sz = 1 from rfl, Nat.mul_one, Nat.add_zero] at hx56_0)
                         (try simp only [show ((Kd.slice 5 (Kd.int .u8))).sz = 1 from rfl, Nat.mul_one, Nat.add_zero] at hf56_0)
                         clear hcl56 hcc56 hfr56; (try clear hM56)
                         replace p56 := eq_true p56
                         replace q56 := eq_true q56
                         have HX61 := sqM (show Kd.N (Kd.slice 5 (Kd.int .u8)) 41 _ w.heap.size (fun k_ => (w.heap.size ≤ k_) ∧ some k_ ≠ (.slice Ao43 t124.length co43 : Value).ownBlock ∧ some k_ ≠ (.slice (some ad145) x15_2.length co45 : Value).ownBlock ∧ some k_ ≠ (.slice (some ad146) t142.length co57 : Value).ownBlock ∧ some k_ ≠ (.slice AS_v155 t154.length cS_v155 : Value).ownBlock) (.slice (some ⟨go56, 0, none⟩) x16_4.length co44) x16_4 from (Kd.N_mono (HO_16.out) (fun k_ hk => ⟨hk.1.1, ⟨hk.1.2.1, ⟨hk.1.2.2.1, ⟨hk.1.2.2.2, hk.2⟩⟩⟩⟩)))
                         replace HX61 := sqM (show Kd.N (Kd.slice 5 (Kd.int .u8)) 41 _ w.heap.size (fun k_ => (w.heap.size ≤ k_) ∧ some k_ ≠ (.slice Ao43 t124.length co43 : Value).ownBlock ∧ some k_ ≠ (.slice (some ad145) x15_2.length co45 : Value).ownBlock ∧ some k_ ≠ (.slice (some ad146) t142.length co57 : Value).ownBlock) (.slice (some ⟨go56, 0, none⟩) x16_4.length co44) x16_4 from Kd.N_mono HX61.out (fun k_ hk => ⟨hk.1, ⟨hk.2.1, ⟨hk.2.2.1, hk.2.2.2.1⟩⟩⟩))
                         obtain ⟨ce61, hcl61, hM61, hcc61, hfr61⟩ := Kd.N_elem HX61.out [] ((rd x15_2 x20_4) : Int) (of_decide_eq_true (by (with_reducible assumption))) (by have h_ : ((rd x15_2 x20_4) : Int) < ((x16_4.length : Int) : Int) := of_decide_eq_true (by (with_reducible assumption)); (exact h_))
                         obtain ⟨ua61_0, uc61_0, rfl, ul61_0, ge61_0⟩ := Kd.FK_slice_open hM61
                         have HP61 := (Kd.N_seg HX61.out ((rd x15_2 x20_4) : Int) (of_decide_eq_true (by (with_reducible assumption))) (by have h_ : ((rd x15_2 x20_4) : Int) < ((x16_4.length : Int) : Int) := of_decide_eq_true (by (with_reducible assumption)); (exact h_)) (seg := [.slice AS_v155 t154.length cS_v155]) (j := 0) hcl61 hcc61 (show 1 ≤ 1 from by decide) (x' := t154) (Kd.FK_slice_mk (Kd.R_reads' (Kd.R_mono (ok' := (fun k_ => ((fun k_ => (w.heap.size ≤ k_) ∧ some k_ ≠ (.slice Ao43 t124.length co43 : Value).ownBlock ∧ some k_ ≠ (.slice (some ad145) x15_2.length co45 : Value).ownBlock ∧ some k_ ≠ (.slice (some ad146) t142.length co57 : Value).ownBlock)) k_ ∧ k_ ≠ go56)) (Kd.R_apart' (Kd.R_apart' (Kd.R_apart' (Kd.R_apart' (HO156.out) (Kd.R_typed HO_11.out) (by decide)) (Kd.R_typed HO_15.out) (by decide)) (Kd.N_typed HO_19.out) (by decide)) (Kd.N_typed HO_16.out) (by decide)) (fun k_ hk => ⟨⟨hk.1.1.1.1.1, ⟨hk.1.1.1.2, ⟨hk.1.1.2, hk.1.2⟩⟩⟩, fun e_ => (hk.2) (by rw [e_]; rfl)⟩))).2.1 (Kd.R_F (Kd.R_mono (ok' := (fun k_ => ((fun k_ => (w.heap.size ≤ k_) ∧ some k_ ≠ (.slice Ao43 t124.length co43 : Value).ownBlock ∧ some k_ ≠ (.slice (some ad145) x15_2.length co45 : Value).ownBlock ∧ some k_ ≠ (.slice (some ad146) t142.length co57 : Value).ownBlock)) k_ ∧ k_ ≠ go56)) (Kd.R_apart' (Kd.R_apart' (Kd.R_apart' (Kd.R_apart' (HO156.out) (Kd.R_typed HO_11.out) (by decide)) (Kd.R_typed HO_15.out) (by decide)) (Kd.N_typed HO_19.out) (by decide)) (Kd.N_typed HO_16.out) (by decide)) (fun k_ hk => ⟨⟨hk.1.1.1.1.1, ⟨hk.1.1.1.2, ⟨hk.1.1.2, hk.1.2⟩⟩⟩, fun e_ => (hk.2) (by rw [e_]; rfl)⟩)))) (fun _ hk => hk)).1
                         (try simp only [show ((Kd.slice 5 (Kd.int .u8))).sz = 1 from rfl, Nat.mul_one, Nat.add_zero] at HP61)
                         rw [← Ny157.out] at HP61
                         have HQ61 := sqM HP61
                         clear hcl61 hcc61 hfr61; (try clear hM61); clear HP61
                         refine hK.out _ _ ⟨HS0_, HS1_, HS2_, ((HB.out.cell (World.block_lt_of_cell? w _ hw148_0)).trans hw148_0)⟩ (fun hHeld => ?_)
                         clear hK K
                         refine norm_ (a' := ?_) ?_ ?_
                         rotate_left
                         · show Act.put _ (some 122) _ = _
                           simp only [Act.put, sqA, sqB, sqC, i64_w, i32_w]
                           rfl
                         refine pU 18 123 #[tT,tT,tT,tT,tT,tT,tT,tT,tT,tT,tT,tT,tT,tT,tT,tT,tT,tT,tT,fF] ?_ (hc := q0g HT_.out (by kernel_rfl))
                         refine last_ (i := 19) (N := none) #[tT,tT,tT,tT,tT,tT,tT,tT,tT,tT,tT,tT,tT,tT,tT,tT,tT,tT,tT,tT] rfl rfl (one_of HT_.out (by kernel_rfl)) (by decide) (fun K hK => ?_)
                         refine skip_ (w1 := ?_) (by rfl) rfl ?_ ?_
                         rotate_left
                         · go_simp
                           rfl
                         refine hK.out _ _ ?_
                         clear hK K
                         refine done_ (done_of HT_.out (by kernel_rfl)) ?_
                         try go_wp2
                         (try simp only [← hl16_4])
                         go_roundg k4
                         case measure => have := HJ4.out; have := HK2.out; have := HK3.out; have := HK4.out; omega
                         case rel => exact ⟨(y157), (wrap64 (x20_4 + 1)), (by rfl), H', ⟨by have := HJ4.out; have := HK2.out; have := HK3.out; have := HK4.out; omega⟩, ⟨by (with_reducible repeat (first | apply Kd.R_alloc | apply Kd.R_drewN | apply Kd.R_drew)); exact Kd.R_mono (Kd.R_far (p := ⟨go56, ((rd x15_2 x20_4) : Int).toNat, none⟩) (Kd.R_types HO_11.out GG56.out (by decide)) (fun _ hk => hk.2) (.slice AS_v155 t154.length cS_v155)) (fun _ hk => hk.1)⟩, ⟨by (with_reducible repeat (first | apply Kd.R_alloc | apply Kd.R_drewN | apply Kd.R_drew)); exact Kd.R_mono (Kd.R_far (p := ⟨go56, ((rd x15_2 x20_4) : Int).toNat, none⟩) (Kd.R_types HO_15.out GG56.out (by decide)) (fun _ hk => hk.2) (.slice AS_v155 t154.length cS_v155)) (fun _ hk => hk.1)⟩, ⟨by (try simp only [hl16_4]); (with_reducible repeat (first | apply Kd.N_alloc | apply Kd.N_drewN | apply Kd.N_drew)); exact HQ61.out⟩, ⟨by (try simp only [hl16_4]); (with_reducible repeat (first | apply Kd.N_alloc | apply Kd.N_drewN | apply Kd.N_drew)); exact Kd.N_mono (Kd.N_far (p := ⟨go56, ((rd x15_2 x20_4) : Int).toNat, none⟩) (Kd.N_mono HO_19.out (fun k_ hk => (⟨hk, fun e_ => hk.1.2.2.2 (by rw [e_]; rfl)⟩ : _ ∧ k_ ≠ go56))) (fun _ hk => hk.2) (.slice AS_v155 t154.length cS_v155)) (fun _ hk => ⟨hk.1.1.1, ⟨hk.1.1.2.1, ⟨hk.1.1.2.2.1, hk.1.1.2.2.2⟩⟩⟩)⟩, ⟨by repeat ((with_reducible first | exact HB.out | refine q0m ?_ GB56.out))⟩⟩
                        · rw [if_neg c55] at H
                          exact absurd H (by simp)
                       · rw [if_neg c53] at H
                         exact absurd H (by simp)
                      · rw [if_neg c52] at H
                        exact absurd H (by simp)
                     · rw [if_neg c51] at H
                       exact absurd H (by simp)
                    · rw [if_neg c50] at H
                      exact absurd H (by simp)
                   · rw [if_neg c49] at H
                     exact absurd H (by simp)
                  · rw [if_neg c48] at H
                    have c48b0 : decide (x20_4 < (t142.length : Int)) = false := decide_eq_false c48
                    clear c48
                    have H' := sqM H
                    clear H
                    obtain ⟨Ao62, co62, eo62⟩ := Kd.N_slice HO_19.out
                    subst eo62
                    go_wp2
                    (try simp only [← hl16_4])
                    go_meet
                    case rel => exact ⟨_, (x16_4), H', ⟨by have := HJ4.out; have := HK2.out; have := HK3.out; have := HK4.out; (omega)⟩, ⟨by (with_reducible repeat (first | apply Kd.R_alloc | apply Kd.R_drewN | apply Kd.R_drew)); exact HO_11.out⟩, ⟨by (try simp only [hl16_4]); (with_reducible repeat (first | apply Kd.N_alloc | apply Kd.N_drewN | apply Kd.N_drew)); exact Kd.N_mono HO_16.out (fun _ hk => ⟨hk.1, hk.2.1⟩)⟩, ⟨by repeat ((with_reducible (exact HB.out)))⟩⟩
                 · rw [if_neg c47] at H
                   have c47b0 : decide (x20_4 < (x15_2.length : Int)) = false := decide_eq_false c47
                   clear c47
                   (skip)
                   have H' := sqM H
                   clear H
                   go_wp2
                   (try simp only [← hl16_4])
                   go_meet
                   case rel => exact ⟨_, (x16_4), H', ⟨by have := HJ4.out; have := HK2.out; have := HK3.out; have := HK4.out; (omega)⟩, ⟨by (with_reducible repeat (first | apply Kd.R_alloc | apply Kd.R_drewN | apply Kd.R_drew)); exact HO_11.out⟩, ⟨by (try simp only [hl16_4]); (with_reducible repeat (first | apply Kd.N_alloc | apply Kd.N_drewN | apply Kd.N_drew)); exact Kd.N_mono HO_16.out (fun _ hk => ⟨hk.1, hk.2.1⟩)⟩, ⟨by repeat ((with_reducible (exact HB.out)))⟩⟩
              case rest =>
               clear HC42
               try clear c33b0
               try clear c39b0
               obtain ⟨kq, x16_41, HA, HJ41, HO_11, HO_16, HB⟩ := hcut
               have hl16_41 := (Kd.N_reads' HO_16.out).1
               rw [hl16_41] at HO_16
               (try simp only [hl16_41])
               (skip)
               cases kq with
               | zero => exact absurd HA.out (by simp [r5_Restore.j4])
               | succ kj41 =>
                have H := HA.out
                clear HA
                simp only [r5_Restore.j4] at H
                by_cases c63 : ([] : List (List Int)).length + x16_41.length < 5864062014805
                ·
                 rw [if_pos c63] at H
                 have LMc63 := sqM c63
                 clear c63
                 obtain ⟨y158, hy158⟩ : ∃ y_ : List (List Int), y_ = (([] : List (List Int)) ++ x16_41) := ⟨_, rfl⟩
                 replace H : (r5_Restore.l3 kj41 l2 (l0.length : Int) t124 x13_2 x16_41 y158 0) = some (r1, r2) := by (rw [hy158]; with_reducible exact H)
                 have Ny158 := sqM hy158
                 clear hy158
                 have H' := sqM H
                 clear H
                 go_wp2_with (first | ((with_reducible refine q05 (b := .append) (xs := #[.tmp 124, .tmp 125]) rfl ?_); (try (refine q0r (by rfl) ?_; dsimp only)); at_builtin; refine Kd.N_append_rows (Kd.slice 5 (Kd.int .u8)) (w0 := w) w.heap.size rfl (.tmp 124) (.tmp 125) 35 41 (.slice none 0 0) 24 rfl Try.underlying35 info41 rfl (by decide) (by omega) (.slice none 0 0) ([] : List (List Int)) x16_41 _ _ _ (fun k_ => (w.heap.size ≤ k_) ∧ some k_ ≠ (.slice Ao43 t124.length co43 : Value).ownBlock) (fun k_ => ((fun k_ => (w.heap.size ≤ k_) ∧ some k_ ≠ (.slice Ao43 t124.length co43 : Value).ownBlock)) k_ ∧ some k_ ≠ (.slice none 0 0 : Value).ownBlock) rfl rfl ?aO ?aR (fun _ hk => hk) ?aF ?aB ?aS ?aL ?_; (case aR => exact (by skip; exact Kd.N_F (Kd.N_mono (ok' := (fun k_ => ((fun k_ => (w.heap.size ≤ k_) ∧ some k_ ≠ (.slice Ao43 t124.length co43 : Value).ownBlock)) k_ ∧ some k_ ≠ (.slice none 0 0 : Value).ownBlock)) (HO_16.out) (fun k_ hk => ⟨⟨hk.1, hk.2⟩, (by simp [Value.ownBlock])⟩)))); (case aB => exact (by repeat ((with_reducible (exact HB.out))))); (case aF => exact (fun k_ hk => ⟨(Nat.le_trans (q01 (by repeat ((with_reducible (exact HB.out))))) hk), Kd.fresh' (Kd.R_lt (by (with_reducible repeat (first | apply Kd.R_alloc | apply Kd.R_drewN | apply Kd.R_drew)); exact HO_11.out)) k_ hk⟩)); (case aO => exact ((Kd.N_nil _ _ _ _ (fun k_ => (w.heap.size ≤ k_) ∧ some k_ ≠ (.slice Ao43 t124.length co43 : Value).ownBlock)))); (case aS => exact (q01 (by repeat ((with_reducible (exact HB.out)))))); (case aL => have := LMc63.out; omega); intro v159 w64 ho hb hg hat; rw [← Ny158.out] at ho; have n0_ := sqM (Kd.R_grown (by (with_reducible repeat (first | apply Kd.R_alloc | apply Kd.R_drewN | apply Kd.R_drew)); exact HO_11.out) hg (fun _ _ => by simp [Value.ownBlock])); have n1_ := sqM (Kd.N_afterv (Kd.N_apart_nil (by (with_reducible repeat (first | apply Kd.N_alloc | apply Kd.N_drewN | apply Kd.N_drew)); exact HO_16.out)) hg hat); have n2_ := sqM (hb); have n3_ := sqM (ho); clear HO_11; clear HO_16; clear HB; have HO_11 := n0_; have HO_16 := n1_; have HB := n2_; have HO160 := n3_; clear n0_ n1_ n2_ n3_; clear ho hb hg hat))
                 go_loopg [21, 22] kj41 (fun kq v21 v22 w' => ∃ (x21_5 : List (List Int)) (x22_5 : Int), v22 = .int .i64 x22_5 ∧ Aside0 (r5_Restore.l3 kq l2 (l0.length : Int) t124 x13_2 x16_41 x21_5 x22_5 = some (r1, r2)) ∧ Aside0 (kq ≤ kj41) ∧ Aside0 (Kd.R Kd.bool 4 w' w.heap.size (fun k_ => (w.heap.size ≤ k_)) (.slice Ao43 t124.length co43) t124) ∧ Aside0 (Kd.N (Kd.slice 5 (Kd.int .u8)) 41 w' w.heap.size (fun k_ => (w.heap.size ≤ k_) ∧ some k_ ≠ ((.slice Ao43 t124.length co43) : Value).ownBlock ∧ some k_ ≠ (v21 : Value).ownBlock) (.slice Ao44 x16_41.length co44) x16_41) ∧ Aside0 (Kd.N (Kd.slice 5 (Kd.int .u8)) 41 w' w.heap.size (fun k_ => (w.heap.size ≤ k_) ∧ some k_ ≠ ((.slice Ao43 t124.length co43) : Value).ownBlock) v21 x21_5) ∧ Aside0 (Below w.heap.size w w'))
                 case atStart => exact ⟨(y158), (0), (by rfl), H', ⟨Nat.le_refl _⟩, ⟨by (with_reducible repeat (first | apply Kd.R_alloc | apply Kd.R_drewN | apply Kd.R_drew)); exact HO_11.out⟩, ⟨by (with_reducible repeat (first | apply Kd.N_alloc | apply Kd.N_drewN | apply Kd.N_drew)); exact Kd.N_mono HO_16.out (fun _ hk => ⟨hk.1.1, ⟨hk.1.2, hk.2⟩⟩)⟩, ⟨by (with_reducible repeat (first | apply Kd.N_alloc | apply Kd.N_drewN | apply Kd.N_drew)); exact HO160.out⟩, ⟨by repeat ((with_reducible (exact HB.out)))⟩⟩
                 case round =>
                  clear H'
                  obtain ⟨x21_5, x22_5, rfl, HA, HK5, HO_11, HO_16, HO_21, HB⟩ := hrel
                  cases gk with
                  | zero => exact absurd HA.out (by simp [r5_Restore.l3])
                  | succ k5 =>
                   have H := HA.out
                   clear HA
                   simp only [r5_Restore.l3] at H
                   by_cases c65 : x22_5 < (l2.length : Int)
                   ·
                    rw [if_pos c65] at H
                    have c65b0 : decide (x22_5 < (l2.length : Int)) = true := decide_eq_true c65
                    clear c65
                    obtain ⟨ji66, hji66⟩ : ∃ j_ : Int, (wrap64 ((l0.length : Int) + x22_5)) = j_ := ⟨_, rfl⟩
                    replace H : (if 0 ≤ (ji66) then (if (ji66) < (t124.length : Int) then (if rdOf false t124 (ji66) = true then ((r5_row.f k5 x16_41 x22_5 x13_2).bind fun t162 => (if x21_5.length < 5864062014805 then (r5_Restore.l3 k5 l2 (l0.length : Int) t124 x13_2 x16_41 (x21_5 ++ [t162]) (wrap64 (x22_5 + 1))) else (none))) else (if 0 ≤ x22_5 then ((r5_copied.f (rd_L1 l2 x22_5)).bind fun t169 => (if x21_5.length < 5864062014805 then (r5_Restore.l3 k5 l2 (l0.length : Int) t124 x13_2 x16_41 (x21_5 ++ [t169]) (wrap64 (x22_5 + 1))) else (none))) else (none))) else (none)) else (none)) = some (r1, r2) := by (rw [hji66] at H; exact H)
                    have hji66w : (IntKind.i64.wrap ((l0.length : Int) + x22_5)) = ji66 := (i64_w _).trans hji66
                    by_cases c67 : 0 ≤ (ji66)
                    ·
                     rw [if_pos c67] at H
                     have c67b0 : decide (0 ≤ (ji66)) = true := decide_eq_true c67
                     clear c67
                     by_cases c68 : (ji66) < (t124.length : Int)
                     ·
                      rw [if_pos c68] at H
                      have c68b0 : decide ((ji66) < (t124.length : Int)) = true := decide_eq_true c68
                      clear c68
                      obtain ⟨bq69, hbq69⟩ : ∃ b_ : Bool, b_ = (rdOf false t124 (ji66)) := ⟨_, rfl⟩
                      replace H : (if bq69 = true then ((r5_row.f k5 x16_41 x22_5 x13_2).bind fun t162 => (if x21_5.length < 5864062014805 then (r5_Restore.l3 k5 l2 (l0.length : Int) t124 x13_2 x16_41 (x21_5 ++ [t162]) (wrap64 (x22_5 + 1))) else (none))) else (if 0 ≤ x22_5 then ((r5_copied.f (rd_L1 l2 x22_5)).bind fun t169 => (if x21_5.length < 5864062014805 then (r5_Restore.l3 k5 l2 (l0.length : Int) t124 x13_2 x16_41 (x21_5 ++ [t169]) (wrap64 (x22_5 + 1))) else (none))) else (none))) = some (r1, r2) := by rw [← hbq69] at H; exact H
                      have Nbq69 := sqM hbq69
                      clear hbq69
                      by_cases c70 : bq69 = true
                      ·
                       subst c70
                       have H1 : ((r5_row.f k5 x16_41 x22_5 x13_2).bind fun t162 => (if x21_5.length < 5864062014805 then (r5_Restore.l3 k5 l2 (l0.length : Int) t124 x13_2 x16_41 (x21_5 ++ [t162]) (wrap64 (x22_5 + 1))) else (none))) = some (r1, r2) := by rw [if_pos rfl] at H; exact H
                       clear H
                       have H := H1
                       clear H1
                       replace H := Option.bind_eq_some_iff.mp H
                       obtain ⟨t162, A710, H⟩ := H
                       replace H : (if x21_5.length < 5864062014805 then (r5_Restore.l3 k5 l2 (l0.length : Int) t124 x13_2 x16_41 (x21_5 ++ [t162]) (wrap64 (x22_5 + 1))) else (none)) = some (r1, r2) := H
                       have A71 := sqM A710
                       clear A710
                       by_cases c72 : x21_5.length < 5864062014805
                       · rw [if_pos c72] at H
                         have LMc72 := sqM c72
                         clear c72
                         obtain ⟨y165, hy165⟩ : ∃ y_ : List (List Int), y_ = (x21_5 ++ [t162]) := ⟨_, rfl⟩
                         replace H : (r5_Restore.l3 k5 l2 (l0.length : Int) t124 x13_2 x16_41 y165 (wrap64 (x22_5 + 1))) = some (r1, r2) := by (rw [hy165]; with_reducible exact H)
                         have Ny165 := sqM hy165
                         clear hy165
                         have H' := sqM H
                         clear H
                         have p161 : 0 ≤ ((ji66) : Int) := of_decide_eq_true (by (with_reducible assumption))
                         have q161 : (ji66) < (t124.length : Int) := of_decide_eq_true (by (with_reducible assumption))
                         obtain ⟨ad161, e161, hx161_0⟩ := Kd.at_bool (Kd.R_reads' HO_11.out).2.2 (ji66) p161 q161
                         (try rw [← Nbq69.out] at hx161_0)
                         cases e161
                         replace p161 := eq_true p161
                         replace q161 := eq_true q161
                         go_wp2_with (first | ((with_reducible refine q09 (f := 52) rfl ?_); refine q1p (some 143) rfl rfl Try.func52 (by kernel_rfl) rfl #[.slice Ao44 x16_41.length co44, .int .i64 x22_5, .int .i64 x13_2] rfl (by (try simp only [List.map_toArray, List.map_cons, List.map_nil]); (rfl)) ?_; (with_reducible refine (r5_row.calls k5 _ _ x16_41 x22_5 x13_2 t162 _ ?side1 ?side2 A71.out).mono ?_); (case side1 => repeat (exact (Kd.N_reads' HO_16.out).2.2)); (case side2 => exact (Kd.N_reads' HO_16.out).2.1); rintro e w73 ⟨v163, rfl, ho0, hb⟩; refine ⟨_, rfl, ?_⟩; have n0_ := sqM (Kd.R_below (by (with_reducible repeat (first | apply Kd.R_alloc | apply Kd.R_drewN | apply Kd.R_drew)); exact HO_11.out) hb); have n1_ := sqM (Kd.N_elder' (by (with_reducible repeat (first | apply Kd.N_alloc | apply Kd.N_drewN | apply Kd.N_drew)); exact HO_16.out) (Kd.R_base ho0) hb); have n2_ := sqM (Kd.N_elder' (by (with_reducible repeat (first | apply Kd.N_alloc | apply Kd.N_drewN | apply Kd.N_drew)); exact HO_21.out) (Kd.R_base ho0) hb); have n3_ := sqM (Kd.R_lower (Kd.R_newM (M := fun k_ => (w.heap.size ≤ k_)) ho0 (q01 (by repeat ((with_reducible (exact HB.out))))) (fun k_ h_ => h_)) (q01 (by repeat ((with_reducible (exact HB.out)))))); have n4_ := sqM (q04 (by repeat ((with_reducible (exact HB.out)))) hb); clear HO_11; clear HO_16; clear HO_21; clear HB; have HO_11 := n0_; have HO_16 := n1_; have HO_21 := n2_; have HO164 := n3_; have HB := n4_; clear n0_ n1_ n2_ n3_ n4_; (try clear hb); (try clear ho0); obtain ⟨Ao75, co75, eo75⟩ := Kd.R_slice HO164.out; subst eo75) | ((with_reducible refine q05 (b := .append) (xs := #[.tmp 139, .tmp 144]) rfl ?_); (try (refine q0r (by rfl) ?_; dsimp only)); at_builtin; refine Kd.N_append (Kd.slice 5 (Kd.int .u8)) (w0 := w) w.heap.size rfl (.tmp 139) (.tmp 144) 35 41 (.slice none 0 0) 24 rfl Try.underlying35 info41 rfl (by decide) (by omega) u21 x21_5 t162 [.slice Ao75 t162.length co75] (fun k_ => (w.heap.size ≤ k_) ∧ some k_ ≠ (.slice (some ad161) t124.length co43 : Value).ownBlock) (fun k_ => ((fun k_ => (w.heap.size ≤ k_) ∧ some k_ ≠ (.slice (some ad161) t124.length co43 : Value).ownBlock)) k_ ∧ some k_ ≠ (u21 : Value).ownBlock) rfl rfl ?aP (fun _ hk => hk) ?aF ?aO ?aB ?aS ?aL ?_; (case aP => exact (Kd.FK_slice_mk (Kd.R_reads' (Kd.R_mono (ok' := (fun k_ => ((fun k_ => (w.heap.size ≤ k_) ∧ some k_ ≠ (.slice (some ad161) t124.length co43 : Value).ownBlock)) k_ ∧ some k_ ≠ (u21 : Value).ownBlock)) (Kd.R_apart' (Kd.R_apart' (HO164.out) (Kd.R_typed HO_11.out) (by decide)) (Kd.N_typed HO_21.out) (by decide)) (fun k_ hk => ⟨⟨hk.1.1.1, hk.1.2⟩, hk.2⟩))).2.1 (Kd.R_F (Kd.R_mono (ok' := (fun k_ => ((fun k_ => (w.heap.size ≤ k_) ∧ some k_ ≠ (.slice (some ad161) t124.length co43 : Value).ownBlock)) k_ ∧ some k_ ≠ (u21 : Value).ownBlock)) (Kd.R_apart' (Kd.R_apart' (HO164.out) (Kd.R_typed HO_11.out) (by decide)) (Kd.N_typed HO_21.out) (by decide)) (fun k_ hk => ⟨⟨hk.1.1.1, hk.1.2⟩, hk.2⟩))))); (case aB => exact (by repeat ((with_reducible (exact HB.out))))); (case aF => exact (fun k_ hk => ⟨(Nat.le_trans (q01 (by repeat ((with_reducible (exact HB.out))))) hk), Kd.fresh' (Kd.R_lt (by (with_reducible repeat (first | apply Kd.R_alloc | apply Kd.R_drewN | apply Kd.R_drew)); exact HO_11.out)) k_ hk⟩)); (case aO => exact (by (with_reducible repeat (first | apply Kd.N_alloc | apply Kd.N_drewN | apply Kd.N_drew)); exact Kd.N_mono HO_21.out (fun _ hk => ⟨hk.1.1, hk.1.2⟩))); (case aS => exact (q01 (by repeat ((with_reducible (exact HB.out)))))); (case aL => have := LMc72.out; omega); intro v166 w74 ho hb hg hat; rw [← Ny165.out] at ho; have n0_ := sqM (Kd.R_over' (by (with_reducible repeat (first | apply Kd.R_alloc | apply Kd.R_drewN | apply Kd.R_drew)); exact HO_11.out) (Kd.N_typed (by (with_reducible repeat (first | apply Kd.N_alloc | apply Kd.N_drewN | apply Kd.N_drew)); exact HO_21.out)) (by decide) hg); have n1_ := sqM (Kd.N_afterv (ok := (fun k_ => (w.heap.size ≤ k_) ∧ some k_ ≠ (.slice (some ad161) t124.length co43 : Value).ownBlock ∧ some k_ ≠ (.slice Ao75 t162.length co75 : Value).ownBlock)) (by (with_reducible repeat (first | apply Kd.N_alloc | apply Kd.N_drewN | apply Kd.N_drew)); exact Kd.N_mono HO_16.out (fun _ hk => ⟨⟨hk.1.1, ⟨hk.1.2.1, hk.2⟩⟩, hk.1.2.2⟩)) hg hat); have n2_ := sqM (hb); have n3_ := sqM (ho); clear HO_11; clear HO_16; clear HB; clear HO_21; clear HO164; have HO_11 := n0_; have HO_16 := n1_; have HB := n2_; have HO167 := n3_; clear n0_ n1_ n2_ n3_; clear ho hb hg hat))
                         go_roundg k5
                         case measure => have := HJ4.out; have := HK2.out; have := HK3.out; have := HJ41.out; have := HK5.out; omega
                         case rel => exact ⟨(y165), (wrap64 (x22_5 + 1)), (by rfl), H', ⟨by have := HJ4.out; have := HK2.out; have := HK3.out; have := HJ41.out; have := HK5.out; omega⟩, ⟨by (with_reducible repeat (first | apply Kd.R_alloc | apply Kd.R_drewN | apply Kd.R_drew)); exact HO_11.out⟩, ⟨by (with_reducible repeat (first | apply Kd.N_alloc | apply Kd.N_drewN | apply Kd.N_drew)); exact Kd.N_mono HO_16.out (fun _ hk => ⟨hk.1.1, ⟨hk.1.2.1, hk.2⟩⟩)⟩, ⟨by (with_reducible repeat (first | apply Kd.N_alloc | apply Kd.N_drewN | apply Kd.N_drew)); exact HO167.out⟩, ⟨by repeat ((with_reducible (exact HB.out)))⟩⟩
                       · rw [if_neg c72] at H
                         exact absurd H (by simp)
                      ·
                       replace c70 := Bool.eq_false_iff.mpr c70
                       subst c70
                       have H1 : (if 0 ≤ x22_5 then ((r5_copied.f (rd_L1 l2 x22_5)).bind fun t169 => (if x21_5.length < 5864062014805 then (r5_Restore.l3 k5 l2 (l0.length : Int) t124 x13_2 x16_41 (x21_5 ++ [t169]) (wrap64 (x22_5 + 1))) else (none))) else (none)) = some (r1, r2) := by rw [if_neg (show ¬ (false = true) by decide)] at H; exact H
                       clear H
                       have H := H1
                       clear H1
                       by_cases c76 : 0 ≤ x22_5
                       ·
                        rw [if_pos c76] at H
                        have c76b0 : decide (0 ≤ x22_5) = true := decide_eq_true c76
                        clear c76
                        replace H := Option.bind_eq_some_iff.mp H
                        obtain ⟨t169, A770, H⟩ := H
                        replace H : (if x21_5.length < 5864062014805 then (r5_Restore.l3 k5 l2 (l0.length : Int) t124 x13_2 x16_41 (x21_5 ++ [t169]) (wrap64 (x22_5 + 1))) else (none)) = some (r1, r2) := H
                        have A77 := sqM A770
                        clear A770
                        by_cases c78 : x21_5.length < 5864062014805
                        ·
                         rw [if_pos c78] at H
                         have LMc78 := sqM c78
                         clear c78
                         obtain ⟨y172, hy172⟩ : ∃ y_ : List (List Int), y_ = (x21_5 ++ [t169]) := ⟨_, rfl⟩
                         replace H : (r5_Restore.l3 k5 l2 (l0.length : Int) t124 x13_2 x16_41 y172 (wrap64 (x22_5 + 1))) = some (r1, r2) := by (rw [hy172]; with_reducible exact H)
                         have Ny172 := sqM hy172
                         clear hy172
                         have H' := sqM H
                         clear H
                         have p161 : 0 ≤ ((ji66) : Int) := of_decide_eq_true (by (with_reducible assumption))
                         have q161 : (ji66) < (t124.length : Int) := of_decide_eq_true (by (with_reducible assumption))
                         obtain ⟨ad161, e161, hx161_0⟩ := Kd.at_bool (Kd.R_reads' HO_11.out).2.2 (ji66) p161 q161
                         (try rw [← Nbq69.out] at hx161_0)
                         cases e161
                         replace p161 := eq_true p161
                         replace q161 := eq_true q161
                         have p168 : 0 ≤ (x22_5 : Int) := of_decide_eq_true (by (with_reducible assumption))
                         have q168 : x22_5 < (l2.length : Int) := of_decide_eq_true (by (with_reducible assumption))
                         obtain ⟨ad168, A168_0, c168_0, e168, hx168_0, hl168_0, hi168_0⟩ := at_L1 HR2.out x22_5 p168 q168
                         cases e168
                         replace hx168_0 := (HB.out.cell (World.block_lt_of_cell? w _ hx168_0)).trans hx168_0
                         have HR168_0 := sqM hi168_0
                         have HC168_0 := sqM hl168_0
                         clear hi168_0 hl168_0
                         replace p168 := eq_true p168
                         replace q168 := eq_true q168
                         go_wp2_with (first | ((with_reducible refine q09 (f := 54) rfl ?_); refine q1p (some 151) rfl rfl Try.func54 (by kernel_rfl) rfl #[.slice A168_0 (rd_L1 l2 x22_5).length c168_0] rfl (by (try simp only [List.map_toArray, List.map_cons, List.map_nil]); (rfl)) ?_; (with_reducible refine (r5_copied.calls _ _ (rd_L1 l2 x22_5) t169 _ ?side1 ?side2 A77.out).mono ?_); (case side1 => repeat (exact (Kd.C_below HR168_0.out HB.out))); (case side2 => exact HC168_0.out); rintro e w79 ⟨v170, rfl, ho0, hb⟩; refine ⟨_, rfl, ?_⟩; have n0_ := sqM (Kd.R_below (by (with_reducible repeat (first | apply Kd.R_alloc | apply Kd.R_drewN | apply Kd.R_drew)); exact HO_11.out) hb); have n1_ := sqM (Kd.N_elder' (by (with_reducible repeat (first | apply Kd.N_alloc | apply Kd.N_drewN | apply Kd.N_drew)); exact HO_16.out) (Kd.R_base ho0) hb); have n2_ := sqM (Kd.N_elder' (by (with_reducible repeat (first | apply Kd.N_alloc | apply Kd.N_drewN | apply Kd.N_drew)); exact HO_21.out) (Kd.R_base ho0) hb); have n3_ := sqM (Kd.R_lower (Kd.R_newM (M := fun k_ => (w.heap.size ≤ k_)) ho0 (q01 (by repeat ((with_reducible (exact HB.out))))) (fun k_ h_ => h_)) (q01 (by repeat ((with_reducible (exact HB.out)))))); have n4_ := sqM (q04 (by repeat ((with_reducible (exact HB.out)))) hb); clear HO_11; clear HO_16; clear HO_21; clear HB; have HO_11 := n0_; have HO_16 := n1_; have HO_21 := n2_; have HO171 := n3_; have HB := n4_; clear n0_ n1_ n2_ n3_ n4_; (try clear hb); (try clear ho0); obtain ⟨Ao81, co81, eo81⟩ := Kd.R_slice HO171.out; subst eo81) | ((with_reducible refine q05 (b := .append) (xs := #[.tmp 146, .tmp 152]) rfl ?_); (try (refine q0r (by rfl) ?_; dsimp only)); at_builtin; refine Kd.N_append (Kd.slice 5 (Kd.int .u8)) (w0 := w) w.heap.size rfl (.tmp 146) (.tmp 152) 35 41 (.slice none 0 0) 24 rfl Try.underlying35 info41 rfl (by decide) (by omega) u21 x21_5 t169 [.slice Ao81 t169.length co81] (fun k_ => (w.heap.size ≤ k_) ∧ some k_ ≠ (.slice (some ad161) t124.length co43 : Value).ownBlock) (fun k_ => ((fun k_ => (w.heap.size ≤ k_) ∧ some k_ ≠ (.slice (some ad161) t124.length co43 : Value).ownBlock)) k_ ∧ some k_ ≠ (u21 : Value).ownBlock) rfl rfl ?aP (fun _ hk => hk) ?aF ?aO ?aB ?aS ?aL ?_; (case aP => exact (Kd.FK_slice_mk (Kd.R_reads' (Kd.R_mono (ok' := (fun k_ => ((fun k_ => (w.heap.size ≤ k_) ∧ some k_ ≠ (.slice (some ad161) t124.length co43 : Value).ownBlock)) k_ ∧ some k_ ≠ (u21 : Value).ownBlock)) (Kd.R_apart' (Kd.R_apart' (HO171.out) (Kd.R_typed HO_11.out) (by decide)) (Kd.N_typed HO_21.out) (by decide)) (fun k_ hk => ⟨⟨hk.1.1.1, hk.1.2⟩, hk.2⟩))).2.1 (Kd.R_F (Kd.R_mono (ok' := (fun k_ => ((fun k_ => (w.heap.size ≤ k_) ∧ some k_ ≠ (.slice (some ad161) t124.length co43 : Value).ownBlock)) k_ ∧ some k_ ≠ (u21 : Value).ownBlock)) (Kd.R_apart' (Kd.R_apart' (HO171.out) (Kd.R_typed HO_11.out) (by decide)) (Kd.N_typed HO_21.out) (by decide)) (fun k_ hk => ⟨⟨hk.1.1.1, hk.1.2⟩, hk.2⟩))))); (case aB => exact (by repeat ((with_reducible (exact HB.out))))); (case aF => exact (fun k_ hk => ⟨(Nat.le_trans (q01 (by repeat ((with_reducible (exact HB.out))))) hk), Kd.fresh' (Kd.R_lt (by (with_reducible repeat (first | apply Kd.R_alloc | apply Kd.R_drewN | apply Kd.R_drew)); exact HO_11.out)) k_ hk⟩)); (case aO => exact (by (with_reducible repeat (first | apply Kd.N_alloc | apply Kd.N_drewN | apply Kd.N_drew)); exact Kd.N_mono HO_21.out (fun _ hk => ⟨hk.1.1, hk.1.2⟩))); (case aS => exact (q01 (by repeat ((with_reducible (exact HB.out)))))); (case aL => have := LMc78.out; omega); intro v173 w80 ho hb hg hat; rw [← Ny172.out] at ho; have n0_ := sqM (Kd.R_over' (by (with_reducible repeat (first | apply Kd.R_alloc | apply Kd.R_drewN | apply Kd.R_drew)); exact HO_11.out) (Kd.N_typed (by (with_reducible repeat (first | apply Kd.N_alloc | apply Kd.N_drewN | apply Kd.N_drew)); exact HO_21.out)) (by decide) hg); have n1_ := sqM (Kd.N_afterv (ok := (fun k_ => (w.heap.size ≤ k_) ∧ some k_ ≠ (.slice (some ad161) t124.length co43 : Value).ownBlock ∧ some k_ ≠ (.slice Ao81 t169.length co81 : Value).ownBlock)) (by (with_reducible repeat (first | apply Kd.N_alloc | apply Kd.N_drewN | apply Kd.N_drew)); exact Kd.N_mono HO_16.out (fun _ hk => ⟨⟨hk.1.1, ⟨hk.1.2.1, hk.2⟩⟩, hk.1.2.2⟩)) hg hat); have n2_ := sqM (hb); have n3_ := sqM (ho); clear HO_11; clear HO_16; clear HB; clear HO_21; clear HO171; have HO_11 := n0_; have HO_16 := n1_; have HB := n2_; have HO174 := n3_; clear n0_ n1_ n2_ n3_; clear ho hb hg hat))
                         go_roundg k5
                         case measure => have := HJ4.out; have := HK2.out; have := HK3.out; have := HJ41.out; have := HK5.out; omega
                         case rel => exact ⟨(y172), (wrap64 (x22_5 + 1)), (by rfl), H', ⟨by have := HJ4.out; have := HK2.out; have := HK3.out; have := HJ41.out; have := HK5.out; omega⟩, ⟨by (with_reducible repeat (first | apply Kd.R_alloc | apply Kd.R_drewN | apply Kd.R_drew)); exact HO_11.out⟩, ⟨by (with_reducible repeat (first | apply Kd.N_alloc | apply Kd.N_drewN | apply Kd.N_drew)); exact Kd.N_mono HO_16.out (fun _ hk => ⟨hk.1.1, ⟨hk.1.2.1, hk.2⟩⟩)⟩, ⟨by (with_reducible repeat (first | apply Kd.N_alloc | apply Kd.N_drewN | apply Kd.N_drew)); exact HO174.out⟩, ⟨by repeat ((with_reducible (exact HB.out)))⟩⟩
                        · rw [if_neg c78] at H
                          exact absurd H (by simp)
                       · rw [if_neg c76] at H
                         exact absurd H (by simp)
                     · rw [if_neg c68] at H
                       exact absurd H (by simp)
                    · rw [if_neg c67] at H
                      exact absurd H (by simp)
                   · rw [if_neg c65] at H
                     have c65b0 : decide (x22_5 < (l2.length : Int)) = false := decide_eq_false c65
                     clear c65
                     simp only [Option.some.injEq, Prod.mk.injEq] at H
                     obtain ⟨rfl, rfl⟩ := H
                     go_wp2
                     go_ret2
                     exact ⟨_, by rfl, by (with_reducible repeat (first | apply Kd.N_alloc | apply Kd.N_drewN | apply Kd.N_drew)); exact Kd.N_mono HO_21.out (fun _ hk => hk.1), by repeat ((with_reducible (exact HB.out)))⟩
                · rw [if_neg c63] at H
                  exact absurd H (by simp)
      · rw [if_neg c11] at H
        exact absurd H (by simp)
     · rw [if_neg c10] at H
       exact absurd H (by simp)
    ·
     replace c9 := Bool.eq_false_iff.mpr c9
     subst c9
     have H1 : (some (([] : List (List Int)), 52)) = some (r1, r2) := by rw [if_neg (show ¬ (false = true) by decide)] at H; exact H
     clear H
     have H := H1
     clear H1
     simp only [Option.some.injEq, Prod.mk.injEq] at H
     obtain ⟨rfl, rfl⟩ := H
     go_wp2_with (first | ((with_reducible refine q09 (f := 53) rfl ?_); refine q1p (some 37) rfl rfl Try.func53 (by kernel_rfl) rfl #[.slice A0 l0.length c0, .slice A1 l1.length c1, .slice A2 l2.length c2, .slice A3 l3.length c3] rfl (by (try simp only [List.map_toArray, List.map_cons, List.map_nil]); (rfl)) ?_; (with_reducible refine (r5_fits.calls kj4 _ _ l0 _ _ l1 _ _ l2 _ _ l3 t124 false _ ?side1 ?side2 ?side3 ?side4 ?side5 ?side6 ?side7 ?side8 A8.out).mono ?_); (case side1 => repeat (exact (Kd.C_below HR0.out HB.out))); (case side2 => exact HC0.out); (case side3 => repeat (exact (Kd.C_below HR1.out HB.out))); (case side4 => exact HC1.out); (case side5 => repeat (exact (Kd.C_below HR2.out HB.out))); (case side6 => exact HC2.out); (case side7 => repeat (exact (Kd.C_below HR3.out HB.out))); (case side8 => exact HC3.out); rintro e w82 ⟨v126, rfl, ho0, hb⟩; refine ⟨_, rfl, ?_⟩; have n0_ := sqM (Kd.R_lower (Kd.R_newM (M := fun k_ => (w.heap.size ≤ k_)) ho0 (q01 (by repeat ((with_reducible (exact HB.out))))) (fun k_ h_ => h_)) (q01 (by repeat ((with_reducible (exact HB.out)))))); have n1_ := sqM (q04 (by repeat ((with_reducible (exact HB.out)))) hb); clear HB; have HO127 := n0_; have HB := n1_; clear n0_ n1_; (try clear hb); (try clear ho0)))
     go_ret2
     exact ⟨_, by rfl, by exact Kd.N_nil _ _ _ _ _, by repeat ((with_reducible (exact HB.out)))⟩
end Go.Proofs.Ytdhajlkiiphlfaa.QP
namespace Go.Proofs.Ytdhajlkiiphlfaa.Rv
open Go.RowKit Go.Proofs.Ytdhajlkiiphlfaa.QP Go.Proofs.YtdhajlkiiphlfaaW.PrintWords Go.Proofs.YtdhajlkiiphlfaaW.PrintLast
open Go.Proofs.Ytdhajlkiiphlfaa.Solve Go.Proofs.Ytdhajlkiiphlfaa.Par
theorem p_el {k i j : Nat} (hi : i < 256) (hj : j < 256) (hk : 280 ≤ k) : QP.r5_element.f k (i : Int) (j : Int) = some (cE i j) := el_f hi hj hk
theorem p_row (rows : List (List Int)) (i W : Nat) (hi : i < 256) (hW : W ≤ 100000000000) (hn : rows.length ≤ 256) (hl : ∀ r ∈ rows, r.length ≤ W) (hin : ∀ r ∈ rows, ∀ y ∈ r, In8 y) {k : Nat} (hk : (W + 40) * rows.length + 300 ≤ k) :
    QP.r5_row.f k rows (i : Int) (W : Int) = some (Par.part (cE i) rows (zeros W) rows.length) := row_f rows i W hi hW hn hl hin hk
theorem p_copied (l : List Int) (h : l.length < 140737488355328) : QP.r5_copied.f l = some l := by
 show QR.r5_copied.f l = _
 unfold QR.r5_copied.f
 rw [if_pos (by simpa using h), List.nil_append]
theorem rdL1_nat (l : List (List Int)) (i : Nat) : QP.rd_L1 l (i : Int) = l.getD i [] := by unfold QP.rd_L1; rw [Int.toNat_natCast]
theorem up_len (ls : List Nat) : (Par.up ls).length = ls.length := by simp [Par.up]
theorem up_rd (ls : List Nat) (i : Nat) : rd (Par.up ls) (i : Int) = ((ls.getD i 0 : Nat) : Int) := by
 rw [rd_nat]
 unfold Par.up
 rw [List.getD_eq_getElem?_getD, List.getElem?_map, List.getD_eq_getElem?_getD]
 cases ls[i]? <;> rfl
theorem wadd {a b : Nat} (h : a + b ≤ 140737488355328) : wrap64 ((a : Int) + (b : Int)) = ((a + b : Nat) : Int) := by unfold wrap64; omega
theorem sol_l2 (known more : List (List Int)) (g : List Bool) (gone : List Int) (W : Nat) (m v : List (List Int)) (i : Nat) (line h z : List Int) (hi : i < more.length) (hp : more.length ≤ 1000) (hz : more.getD i [] = z) (hh : h.length = W) (hzl : z.length = W) (h8 : ∀ y ∈ h, In8 y) (z8 : ∀ y ∈ z, In8 y) (hW : W ≤ 100000000000) (hm : m.length ≤ 1000) (hv : v.length ≤ 1000) (res : List (List Int)) (Q : Nat)
    (hc : ∀ q, Q ≤ q → r5_solved.l0 q known more g gone (W : Int) (m ++ [line]) (v ++ [List.zipWith xorZ h z]) ((i + 1 : Nat) : Int) = some res) :
    ∀ (d x k : Nat), x + d = W → Q + d + 1 ≤ k → r5_solved.l2 k known more g gone (W : Int) m v (i : Int) line ((List.zipWith xorZ h z).take x ++ h.drop x) (x : Int) = some res := by
 have hzw : (List.zipWith xorZ h z).length = W := by rw [List.length_zipWith, hh, hzl, Nat.min_self]
 intro d
 induction d with
 | zero =>
  intro x k hx hk
  obtain ⟨k, rfl⟩ : ∃ m, k = m + 1 := ⟨k - 1, by omega⟩
  rw [r5_solved.l2, List.take_of_length_le (by omega), List.drop_eq_nil_of_le (by omega), List.append_nil, if_neg (by omega), if_pos (by omega), if_pos (by omega), Par.wr1 (n := more.length) hi (by omega)]
  exact hc k (by omega)
 | succ d ih =>
  intro x k hx hk
  obtain ⟨k, rfl⟩ : ∃ m, k = m + 1 := ⟨k - 1, by omega⟩
  have hlen : ((List.zipWith xorZ h z).take x ++ h.drop x).length = W := by rw [List.length_append, List.length_take, List.length_drop]; omega
  have hxh : x < h.length := by omega
  have hxz : x < z.length := by omega
  have e1 : rd ((List.zipWith xorZ h z).take x ++ h.drop x) (x : Int) = h[x] := by
   rw [rd_nat, List.getD_eq_getElem?_getD, List.getElem?_append_right (by rw [List.length_take]; omega), List.length_take, Nat.min_eq_left (by omega), Nat.sub_self, List.getElem?_drop, Nat.add_zero, List.getElem?_eq_getElem hxh]; rfl
  have e2 : rd z (x : Int) = z[x] := by rw [rd_nat, List.getD_eq_getElem?_getD, List.getElem?_eq_getElem hxz]; rfl
  have es : ((List.zipWith xorZ h z).take x ++ h.drop x).set x (xorZ h[x] z[x]) = (List.zipWith xorZ h z).take (x + 1) ++ h.drop (x + 1) := by
   rw [List.set_append_right _ _ (by rw [List.length_take]; omega), List.length_take, Nat.min_eq_left (by omega), Nat.sub_self, List.drop_eq_getElem_cons hxh, List.set_cons_zero, List.take_succ_eq_append_getElem (by omega), List.append_assoc, List.getElem_zipWith]; rfl
  rw [r5_solved.l2, if_pos (by omega), if_pos (by omega), if_pos (by rw [hlen]; omega), if_pos (by omega), if_pos (by omega), rdL1_nat, hz, if_pos (by omega), e1, e2, xor_in (h8 _ (List.getElem_mem hxh)) (z8 _ (List.getElem_mem hxz)), Int.toNat_natCast, es, Par.wr1 (n := W) (by omega) (by omega)]
  exact ih (x + 1) k (by omega) (by omega)
theorem sol_l1 (known more : List (List Int)) (g : List Bool) (wo : List Nat) (W : Nat) (m v : List (List Int)) (i : Nat) (hi : i < 256) (hw : ∀ t, t < wo.length → wo.getD t 0 < 256) (hwl : wo.length ≤ 1000) (hW : W ≤ 100000000000) (hkn : known.length ≤ 256) (hkl : ∀ r ∈ known, r.length ≤ W) (hk8 : ∀ r ∈ known, ∀ y ∈ r, In8 y) (res : List (List Int)) (Q : Nat) (hQ : (W + 40) * known.length + 300 ≤ Q)
    (hc : ∀ q, Q ≤ q → r5_solved.l2 q known more g (Par.up wo) (W : Int) m v (i : Int) (wo.map (cE i)) (Par.part (cE i) known (zeros W) known.length) 0 = some res) :
    ∀ (d j k : Nat), j + d = wo.length → Q + d + 1 ≤ k → r5_solved.l1 k known more g (Par.up wo) (W : Int) m v (i : Int) ((wo.take j).map (cE i)) (j : Int) = some res := by
 intro d
 induction d with
 | zero =>
  intro j k hj hk
  obtain ⟨k, rfl⟩ : ∃ m, k = m + 1 := ⟨k - 1, by omega⟩
  rw [r5_solved.l1, up_len, if_neg (by omega), List.take_of_length_le (by omega), p_row known i W hi hW hkn hkl hk8 (by omega), Option.bind_some]
  exact hc k (by omega)
 | succ d ih =>
  intro j k hj hk
  obtain ⟨k, rfl⟩ : ∃ m, k = m + 1 := ⟨k - 1, by omega⟩
  have es : (wo.take j).map (cE i) ++ [cE i (wo.getD j 0)] = (wo.take (j + 1)).map (cE i) := by
   rw [List.take_succ_eq_append_getElem (by omega), List.map_append, List.getD_eq_getElem?_getD, List.getElem?_eq_getElem (by omega)]; rfl
  rw [r5_solved.l1, up_len, if_pos (by omega), if_pos (by omega), up_rd, p_el hi (hw j (by omega)) (by omega), Option.bind_some, if_pos (by rw [List.length_map, List.length_take]; omega), es, Par.wr1 (n := wo.length) (by omega) (by omega)]
  exact ih (j + 1) k (by omega) (by omega)
theorem mem_getD {l : List (List Int)} {P : List Int → Prop} (h : ∀ t, t < l.length → P (l.getD t [])) : ∀ r ∈ l, P r := fun r hr => by
 obtain ⟨t, ht, rfl⟩ := List.getElem_of_mem hr
 have := h t ht
 rw [List.getD_eq_getElem?_getD, List.getElem?_eq_getElem ht] at this
 exact this
section
variable {rows : List (List Int)} {ls : List Nat} {more : List (List Int)} {g : List Bool} {n p W q : Nat}
theorem ls_le (h : Given rows ls more g n p W) (t : Nat) : ls.getD t 0 ≤ W := by
 rw [h.wid]
 by_cases ht : t < ls.length
 · exact Par.le_wideN (getD_mem ht)
 · rw [List.getD_eq_getElem?_getD, List.getElem?_eq_none (by omega)]; exact Nat.zero_le _
theorem W_small (h : Given rows ls more g n p W) : W ≤ 16777216 := by
 rw [h.wid]
 refine wideN_le fun x hx => ?_
 obtain ⟨t, ht, rfl⟩ := List.getElem_of_mem hx
 have := h.small t (by rw [← h.ln]; exact ht)
 rw [List.getD_eq_getElem?_getD, List.getElem?_eq_getElem ht] at this
 exact this
theorem kn_le (h : Given rows ls more g n p W) : ∀ r ∈ knA rows g n n, r.length ≤ W := mem_getD fun t ht => by
 rw [q1a] at ht
 rw [knA_get _ _ _ _ ht]
 split
 · next e => rw [h.rowsFit t ht e.2]; exact ls_le h t
 · exact Nat.zero_le _
theorem kn_in (h : Given rows ls more g n p W) : ∀ r ∈ knA rows g n n, ∀ y ∈ r, In8 y := mem_getD fun t ht => knA_in h.rin g n n t
theorem solve_end (h : Given rows ls more g n p W) (hq : (woL g n).length = q) {X : List (List Int)} {i : Nat} (hX : cols q q 0 (partL g n i, vL g n (outA rows ls g n) more i) = some X ∧ Sh q q (partL g n i) ∧ Sh q W (vL g n (outA rows ls g n) more i)) (hS : Sh q W X) :
    rsolveF (partL g n i) (vL g n (outA rows ls g n) more i) = some (X, 0) := by
 have h1 := hX.2.1.len
 have h2 := hX.2.2.len
 unfold rsolveF
 by_cases e : q = 0
 · have h3 := hS.len
   rw [if_pos ⟨by omega, by omega⟩, List.eq_nil_of_length_eq_zero (l := X) (by omega)]
 · rw [if_neg (by omega), solveF_fit ⟨q, W, by omega, by have := q0i g n; have := h.n200; omega, by have := W_small h; omega, hX.2.1, hX.2.2⟩, h1, hX.1]
theorem usedL_up {i : Nat} (hg : g.getD (n + i) false = true) : usedL g n (i + 1) = usedL g n i := by rw [usedL_succ, if_pos hg]
theorem sol_l0 (h : Given rows ls more g n p W) (hq : (woL g n).length = q) (hc : q ≤ (usedL g n p).length) (X : List (List Int)) (hS : Sh q W X) (hX : ∀ i, i ≤ p → (usedL g n i).length = q → cols q q 0 (partL g n i, vL g n (outA rows ls g n) more i) = some X ∧ Sh q q (partL g n i) ∧ Sh q W (vL g n (outA rows ls g n) more i)) :
    ∀ (C : Nat), (W + 40) * n + W + 2000 ≤ C → ∀ (d i k : Nat), i + d = p → (usedL g n i).length ≤ q → C * (d + 1) ≤ k → r5_solved.l0 k (knA rows g n n) more g (Par.up (woL g n)) (W : Int) (partL g n i) (vL g n (outA rows ls g n) more i) (i : Int) = some X := by
 have hn := h.n200
 have hp := h.p16
 have hWs := W_small h
 have hwo := q0i g n
 have hml := h.pn
 have stop : ∀ (i k : Nat), i ≤ p → (usedL g n i).length = q → 1 ≤ k → ((r4_Solve.f (partL g n i) (vL g n (outA rows ls g n) more i)).bind fun bt101 => (some bt101.1)) = some X := fun i k hi hu hk => by
  show (rsolveF _ _).bind _ = _
  rw [solve_end h hq (hX i hi hu) hS]; rfl
 have pl : ∀ i, (partL g n i).length = (usedL g n i).length := fun i => by simp [partL]
 have vl : ∀ i, (vL g n (outA rows ls g n) more i).length = (usedL g n i).length := fun i => by simp [vL]
 intro C hC
 have hB : ∃ B, (W + 40) * n = B := ⟨_, rfl⟩
 obtain ⟨B, hB⟩ := hB
 rw [hB] at hC
 intro d
 induction d with
 | zero =>
  intro i k hi hu hk
  obtain ⟨k, rfl⟩ : ∃ m, k = m + 2 := ⟨k - 2, by omega⟩
  obtain rfl : i = p := by omega
  rw [r5_solved.l0, if_neg (by omega), r5_solved.j1, if_neg (by decide)]
  exact stop i k (Nat.le_refl _) (by omega) (by omega)
 | succ d ih =>
  intro i k hi hu hk
  rw [Nat.mul_add, Nat.mul_one] at hk
  obtain ⟨k, rfl⟩ : ∃ m, k = m + 2 := ⟨k - 2, by omega⟩
  rw [r5_solved.l0, if_pos (by omega), r5_solved.j1, pl, up_len, hq]
  by_cases hlt : (usedL g n i).length < q
  ·
   rw [if_pos (decide_eq_true (by omega)), q1a, wadd (by omega), if_pos (by omega), if_pos (by rw [h.gn]; omega), rdB_nat]
   by_cases hg : g.getD (n + i) false = true
   · have e1 : partL g n (i + 1) = partL g n i := by unfold partL; rw [usedL_up hg]
     have e2 : vL g n (outA rows ls g n) more (i + 1) = vL g n (outA rows ls g n) more i := by unfold vL; rw [usedL_up hg]
     rw [if_pos hg, Par.wr1 (n := p) (by omega) (by omega), ← e1, ← e2]
     exact ih (i + 1) k (by omega) (by rw [usedL_up hg]; exact hu) (by omega)
   ·
    have hgf : g.getD (n + i) false = false := by simpa using hg
    have eu : usedL g n (i + 1) = usedL g n i ++ [i] := by rw [usedL_succ, if_neg hg]
    have e1 : partL g n i ++ [(woL g n).map (cE i)] = partL g n (i + 1) := by unfold partL; rw [eu, List.map_append]; rfl
    have e2 : vL g n (outA rows ls g n) more i ++ [leftP g (outA rows ls g n) i (more.getD i []) n] = vL g n (outA rows ls g n) more (i + 1) := by unfold vL; rw [eu, List.map_append]; rfl
    rw [if_neg hg]
    have hr := ref_left h (i := i) (by omega) hgf
    refine sol_l1 (knA rows g n n) more g (woL g n) W _ _ i (by omega) (fun t ht => by have := (mem_woL.1 (getD_mem (d := 0) ht)).1; omega) (by omega) (by omega) (by rw [q1a]; omega) (kn_le h) (kn_in h) X (B + W + 1700 + C * (d + 1)) (by rw [q1a, hB]; omega) (fun q' hq' => ?_) (woL g n).length 0 k (by omega) (by omega)
    rw [q1a]
    have hz := sol_l2 (knA rows g n n) more g (Par.up (woL g n)) W (partL g n i) (vL g n (outA rows ls g n) more i) i ((woL g n).map (cE i)) (Par.part (cE i) (knA rows g n n) (zeros W) n) (more.getD i []) (by omega) (by omega) rfl (by rw [q0s]; simp [zeros]) (h.moreFit i (by omega) hgf) (part_in _ _ _ (zeros_in _) _ (fun t ht => cE_in (by omega))) (getD_rows h.min i) (by omega) (by rw [pl]; have := usedL_length_le g n i; omega) (by rw [vl]; have := usedL_length_le g n i; omega) X (C * (d + 1)) (fun q2 hq2 => ?_) W 0 q' (by omega) (by omega)
    · rw [List.take_zero, List.nil_append, List.drop_zero] at hz
      exact hz
    · rw [hr, e1, e2]
      exact ih (i + 1) q2 (by omega) (by rw [eu, List.length_append]; simp; omega) hq2
  · rw [if_neg (by rw [decide_eq_true_eq]; omega)]
    exact stop i k (by omega) (by omega) (by omega)
theorem sol_f (h : Given rows ls more g n p W) (hq : (woL g n).length = q) (hc : q ≤ (usedL g n p).length) (X : List (List Int)) (hS : Sh q W X) (hX : ∀ i, i ≤ p → (usedL g n i).length = q → cols q q 0 (partL g n i, vL g n (outA rows ls g n) more i) = some X ∧ Sh q q (partL g n i) ∧ Sh q W (vL g n (outA rows ls g n) more i)) {k : Nat} (hk : ((W + 40) * n + W + 2000) * (p + 1) ≤ k) :
    r5_solved.f k (knA rows g n n) more g (Par.up (woL g n)) (W : Int) = some X := sol_l0 h hq hc X hS hX _ (Nat.le_refl _) p 0 k (by omega) (Nat.zero_le _) hk
end
def lR (kn more : List (List Int)) (g : List Bool) (n W i : Nat) : List Int := if g.getD (n + i) false = true then Par.part (cE i) kn (zeros W) n else more.getD i []
theorem range_snoc (f : Nat → List Int) (i : Nat) : (List.range i).map f ++ [f i] = (List.range (i + 1)).map f := by rw [List.range_succ, List.map_append]; rfl
section
variable {rows : List (List Int)} {ls : List Nat} {more : List (List Int)} {g : List Bool} {n p W q : Nat}
theorem res_l3 (h : Given rows ls more g n p W) (kn : List (List Int)) (hk1 : kn.length = n) (hk2 : ∀ r ∈ kn, r.length ≤ W) (hk3 : ∀ r ∈ kn, ∀ y ∈ r, In8 y) (C : Nat) (hC : (W + 40) * n + 400 ≤ C) :
    ∀ (d i k : Nat), i + d = p → C + d + 1 ≤ k → r5_Restore.l3 k more (n : Int) g (W : Int) kn (kn ++ (List.range i).map (lR kn more g n W)) (i : Int) = some (kn ++ (List.range p).map (lR kn more g n W), 0) := by
 have hn := h.n200
 have hp := h.p16
 have hWs := W_small h
 have hml := h.pn
 have hrow : ∀ (i k : Nat), i < 256 → C ≤ k → QP.r5_row.f k kn (i : Int) (W : Int) = some (Par.part (cE i) kn (zeros W) n) := fun i k hi hk => by
  have hk4 : (W + 40) * kn.length + 300 ≤ k := by
   rw [hk1]
   generalize (W + 40) * n = B at hC ⊢
   omega
  rw [← hk1]
  exact p_row kn i W hi (by omega) (by omega) hk2 hk3 hk4
 clear hC
 intro d
 induction d with
 | zero =>
  intro i k hi hk
  obtain ⟨k, rfl⟩ : ∃ m, k = m + 1 := ⟨k - 1, by omega⟩
  obtain rfl : i = p := by omega
  rw [r5_Restore.l3, if_neg (by omega)]
 | succ d ih =>
  intro i k hi hk
  obtain ⟨k, rfl⟩ : ∃ m, k = m + 1 := ⟨k - 1, by omega⟩
  have hlen : (kn ++ (List.range i).map (lR kn more g n W)).length = n + i := by simp [hk1]
  have hs : ∀ r, r = lR kn more g n W i → kn ++ (List.range i).map (lR kn more g n W) ++ [r] = kn ++ (List.range (i + 1)).map (lR kn more g n W) := fun r hr => by
   rw [hr, List.append_assoc, range_snoc]
  have hni : n + i ≤ 1000 := by omega
  rw [r5_Restore.l3, if_pos (by omega), wadd (a := n) (b := i) (Nat.le_trans hni (by decide)), if_pos (by omega), if_pos (by rw [h.gn]; omega), rdB_nat]
  by_cases hg : g.getD (n + i) false = true
  · have hv : Par.part (cE i) kn (zeros W) n = lR kn more g n W i := by unfold lR; rw [if_pos hg]
    rw [if_pos hg, hrow i k (by omega) (by omega), Option.bind_some, if_pos (by rw [hlen]; omega), hv, hs _ rfl, Par.wr1 (i := i) (n := p) (by omega) (by omega)]
    exact ih (i + 1) k (by omega) (by omega)
  · have hgf : g.getD (n + i) false = false := by simpa using hg
    have hv : more.getD i [] = lR kn more g n W i := by unfold lR; rw [if_neg hg]
    have hl : (more.getD i []).length < 140737488355328 := by rw [h.moreFit i (by omega) hgf]; omega
    rw [if_neg hg, if_pos (by omega), rdL1_nat, p_copied _ hl, Option.bind_some, if_pos (by rw [hlen]; omega), hv, hs _ rfl, Par.wr1 (i := i) (n := p) (by omega) (by omega)]
    exact ih (i + 1) k (by omega) (by omega)
theorem outB_at (wo : List Nat) (X : List (List Int)) (ls : List Nat) (hnd : wo.Nodup) : ∀ (k : Nat) (out : List (List Int)), k ≤ wo.length → (outB wo X ls out k).length = out.length ∧ ∀ t, t < out.length → (outB wo X ls out k).getD t [] = if t ∈ wo.take k then (X.getD (wo.idxOf t) []).take (ls.getD t 0) else out.getD t []
 | 0, out, _ => ⟨rfl, fun t _ => by simp [outB]⟩
 | k + 1, out, hk => by
  obtain ⟨h1, h2⟩ := outB_at wo X ls hnd k out (by omega)
  have hlt : k < wo.length := by omega
  have hw : wo.getD k 0 = wo[k] := by rw [List.getD_eq_getElem?_getD, List.getElem?_eq_getElem hlt]; rfl
  have hidx : wo.idxOf wo[k] = k := List.Nodup.idxOf_getElem hnd k hlt
  refine ⟨by rw [outB, List.length_set, h1], fun t ht => ?_⟩
  rw [outB, hw, List.take_succ_eq_append_getElem hlt]
  by_cases e : t = wo[k]
  · subst e
    rw [List.getD_eq_getElem?_getD, List.getElem?_set_self (by omega), if_pos (List.mem_append.2 (.inr (List.mem_singleton.2 rfl))), hidx]; rfl
  · rw [List.getD_eq_getElem?_getD, List.getElem?_set_ne (Ne.symm e), ← List.getD_eq_getElem?_getD, h2 t ht]
    by_cases e2 : t ∈ wo.take k
    · rw [if_pos e2, if_pos (List.mem_append.2 (.inl e2))]
    · rw [if_neg e2, if_neg (fun e3 => (List.mem_append.1 e3).elim e2 (fun e4 => e (List.mem_singleton.1 e4)))]
theorem outB_same (h : Given rows ls more g n p W) (X : List (List Int)) : outB (woL g n) X ls (knA rows g n n) (woL g n).length = outB (woL g n) X ls (outA rows ls g n) (woL g n).length := by
 obtain ⟨a1, a2⟩ := outB_at (woL g n) X ls (woL_nodup g n) (woL g n).length (knA rows g n n) (Nat.le_refl _)
 obtain ⟨b1, b2⟩ := outB_at (woL g n) X ls (woL_nodup g n) (woL g n).length (outA rows ls g n) (Nat.le_refl _)
 rw [q1a] at a1 a2
 rw [q1o, h.ln] at b1 b2
 refine ext_getD a1 b1 fun t ht => ?_
 rw [a2 t ht, b2 t ht]
 by_cases e : t ∈ (woL g n).take (woL g n).length
 · rw [if_pos e, if_pos e]
 ·
  rw [if_neg e, if_neg e, knA_get _ _ _ _ ht, List.getD_eq_getElem?_getD (l := outA rows ls g n), outA_get rows ls g n (by rw [h.ln]; exact ht)]
  have hg : g.getD t false = false := by
   rw [List.take_length, mem_woL] at e
   cases hgt : g.getD t false with
   | false => rfl
   | true => exact absurd ⟨ht, hgt⟩ e
  rw [if_pos ⟨ht, hg⟩, if_pos ⟨ht, hg⟩]; rfl
def resL (rows : List (List Int)) (ls : List Nat) (more : List (List Int)) (g : List Bool) (n p q : Nat) (X : List (List Int)) : List (List Int) :=
 outB (woL g n) X ls (outA rows ls g n) q ++ restB g n more (madeL (outB (woL g n) X ls (outA rows ls g n) q) p) p
theorem kn_facts (h : Given rows ls more g n p W) (hq : (woL g n).length = q) {X : List (List Int)} (hS : Sh q W X) :
    (outB (woL g n) X ls (outA rows ls g n) q).length = n ∧ (∀ r ∈ outB (woL g n) X ls (outA rows ls g n) q, r.length ≤ W) ∧ (∀ r ∈ outB (woL g n) X ls (outA rows ls g n) q, ∀ y ∈ r, In8 y) ∧ q0f (outB (woL g n) X ls (outA rows ls g n) q) = W := by
 obtain ⟨h1, h2⟩ := outB_row h hq hS q (Nat.le_refl _)
 have hl : (outB (woL g n) X ls (outA rows ls g n) q).map List.length = ls := by
  apply List.ext_getElem?
  intro t
  by_cases ht : t < n
  · obtain ⟨r, e1, e2, _⟩ := h2 t ht
    rw [List.getElem?_map, e1]
    show some r.length = _
    rw [e2, getD_get (by rw [h.ln]; exact ht)]
  · rw [List.getElem?_eq_none (by rw [List.length_map]; omega), List.getElem?_eq_none (by rw [h.ln]; omega)]
 refine ⟨h1, mem_getD fun t ht => ?_, mem_getD fun t ht => ?_, ?_⟩
 · rw [h1] at ht
   obtain ⟨r, e1, e2, _⟩ := h2 t ht
   rw [List.getD_eq_getElem?_getD, e1]
   show r.length ≤ W
   rw [e2]; exact ls_le h t
 · rw [h1] at ht
   obtain ⟨r, e1, _, e3⟩ := h2 t ht
   rw [List.getD_eq_getElem?_getD, e1]
   exact e3
 · unfold q0f
   rw [hl, h.wid]
theorem rest_same (h : Given rows ls more g n p W) (hq : (woL g n).length = q) {X : List (List Int)} (hS : Sh q W X) (kn : List (List Int)) (hkn : outB (woL g n) X ls (outA rows ls g n) q = kn) :
    (List.range p).map (lR kn more g n W) = restB g n more (madeL kn p) p := by
 obtain ⟨h1, _, _, h4⟩ := kn_facts h hq hS
 rw [hkn] at h1 h4
 have hm : (madeL kn p).length = p := by simp [madeL]
 apply List.ext_getElem?
 intro t
 by_cases ht : t < p
 ·
  rw [restB_get _ _ _ _ _ (by omega), List.getElem?_map, List.getElem?_range ht]
  show some (lR kn more g n W t) = _
  congr 1
  unfold lR
  by_cases hg : g.getD (n + t) false = true
  · rw [if_pos hg, if_neg (fun e => by rw [hg] at e; cases e.2)]
    unfold madeL
    rw [List.getD_eq_getElem?_getD, List.getElem?_map, List.getElem?_range ht]
    show _ = q1s kn t
    unfold q1s
    rw [h4, h1]
  · rw [if_neg hg, if_pos ⟨ht, by simpa using hg⟩]
 · rw [List.getElem?_eq_none (by simp; omega), List.getElem?_eq_none (by rw [q1n]; omega)]
theorem res_l2 (h : Given rows ls more g n p W) (hq : (woL g n).length = q) (X : List (List Int)) (hS : Sh q W X) (C : Nat) (hC : (W + 40) * n + 500 ≤ C) :
    ∀ (d j k : Nat), j + d = q → C + d + 1 ≤ k → r5_Restore.l2 k (Par.up ls) more (n : Int) g (W : Int) (Par.up (woL g n)) (outB (woL g n) X ls (knA rows g n n) j) X (j : Int) = some (resL rows ls more g n p q X, 0) := by
 have hn := h.n200
 have hp := h.p16
 have hWs := W_small h
 have hwl := q0i g n
 have hXl := hS.len
 intro d
 induction d with
 | zero =>
  intro j k hj hk
  obtain ⟨k, rfl⟩ : ∃ m, k = m + 2 := ⟨k - 2, by omega⟩
  obtain rfl : j = q := by omega
  rw [r5_Restore.l2, up_len, if_neg (by omega), r5_Restore.j4]
  have e : outB (woL g n) X ls (knA rows g n n) j = outB (woL g n) X ls (outA rows ls g n) j := by rw [← hq]; exact outB_same h X
  rw [e]
  obtain ⟨k1, k2, k3, k4⟩ := kn_facts h hq hS
  rw [if_pos (by rw [k1]; simp; omega), List.nil_append]
  have := res_l3 h _ k1 k2 k3 ((W + 40) * n + 400) (Nat.le_refl _) p 0 k (by omega) (by omega)
  rw [List.range_zero, List.map_nil, List.append_nil] at this
  unfold resL
  rw [← rest_same h hq hS _ rfl]
  exact this
 | succ d ih =>
  intro j k hj hk
  obtain ⟨k, rfl⟩ : ∃ m, k = m + 1 := ⟨k - 1, by omega⟩
  have hw : (woL g n).getD j 0 < n := (mem_woL.1 (getD_mem (d := 0) (show j < (woL g n).length by omega))).1
  have hx : (X.getD j []).length = W := hS.row _ (by rw [List.getD_eq_getElem?_getD, List.getElem?_eq_getElem (by omega)]; exact List.getElem_mem _)
  have hl := ls_le h ((woL g n).getD j 0)
  have ho := (outB_at (woL g n) X ls (woL_nodup g n) j (knA rows g n n) (by omega)).1
  rw [q1a] at ho
  have ht : ((X.getD j []).take (ls.getD ((woL g n).getD j 0) 0)).length < 140737488355328 := by rw [List.length_take]; omega
  rw [r5_Restore.l2, up_len, if_pos (by omega), if_pos (by omega), if_pos (by omega), up_rd, if_pos (by omega), up_len, if_pos (by rw [h.ln]; omega), up_rd, if_pos (by omega), rdL1_nat, if_pos (by omega), Int.toNat_natCast, p_copied _ ht, Option.bind_some, if_pos (by omega), Int.toNat_natCast, Par.wr1 (n := q) (by omega) (by omega)]
  exact ih (j + 1) k (by omega) (by omega)
theorem cnt_take (g : List Bool) {i : Nat} (hi : i < g.length) : (g.take (i + 1)).count true = if g.getD i false = true then (g.take i).count true + 1 else (g.take i).count true := by
 rw [List.take_succ_eq_append_getElem hi, List.count_append, List.getD_eq_getElem?_getD, List.getElem?_eq_getElem hi]
 cases g[i] <;> simp
theorem res_l1 (sizes : List Int) (more : List (List Int)) (g : List Bool) (n W : Int) (wo : List Int) (kn : List (List Int)) (hg : g.length ≤ 1000) (hm : more.length ≤ 1000) (res : Option (List (List Int) × Int)) (Q : Nat)
    (hc : ∀ k, Q ≤ k → (if ((cnt g : Nat) : Int) > (more.length : Int) then (some (([] : List (List Int)), (53 : Int))) else ((r5_solved.f k kn more g wo W).bind fun t142 => (r5_Restore.l2 k sizes more n g W wo kn t142 0))) = res) :
    ∀ (d i k : Nat), i + d = g.length → Q + d + 1 ≤ k → r5_Restore.l1 k sizes more n g W (((g.take i).count true : Nat) : Int) wo kn (i : Int) = res := by
 intro d
 induction d with
 | zero =>
  intro i k hi hk
  obtain ⟨k, rfl⟩ : ∃ m, k = m + 1 := ⟨k - 1, by omega⟩
  rw [r5_Restore.l1, if_neg (by omega), List.take_of_length_le (by omega)]
  exact hc k (by omega)
 | succ d ih =>
  intro i k hi hk
  obtain ⟨k, rfl⟩ : ∃ m, k = m + 1 := ⟨k - 1, by omega⟩
  have hct := cnt_take g (i := i) (by omega)
  have hcl : (g.take i).count true ≤ 1000 := Nat.le_trans List.count_le_length (by rw [List.length_take]; omega)
  rw [r5_Restore.l1, if_pos (by omega), if_pos (by omega), rdB_nat]
  by_cases h : g.getD i false = true
  · rw [if_pos h] at hct
    rw [if_pos h, Par.wr1 (i := (g.take i).count true) (n := 1001) (by omega) (by omega), Par.wr1 (n := g.length) (by omega) (by omega), ← hct]
    exact ih (i + 1) k (by omega) (by omega)
  · rw [if_neg h] at hct
    rw [if_neg h, Par.wr1 (n := g.length) (by omega) (by omega), ← hct]
    exact ih (i + 1) k (by omega) (by omega)
theorem up_snoc (wo : List Nat) (t : Nat) : Par.up wo ++ [(t : Int)] = Par.up (wo ++ [t]) := by unfold Par.up; rw [List.map_append]; rfl
theorem wide_snoc (ls : List Nat) {i : Nat} (hi : i < ls.length) : mx ((wideN (ls.take i) : Nat) : Int) ((ls.getD i 0 : Nat) : Int) = ((wideN (ls.take (i + 1)) : Nat) : Int) := by
 rw [mx_nat, wideN_take ls hi, List.getD_eq_getElem?_getD, List.getElem?_eq_getElem hi]; rfl
theorem res_l0 (h : Given rows ls more g n p W) (res : Option (List (List Int) × Int)) (Q : Nat)
    (hc : ∀ k, Q ≤ k → r5_Restore.l1 k (Par.up ls) more (n : Int) g (W : Int) 0 (Par.up (woL g n)) (knA rows g n n) 0 = res) :
    ∀ (d i k : Nat), i + d = n → Q + d + 1 ≤ k → r5_Restore.l0 k rows (Par.up ls) more (n : Int) g ((wideN (ls.take i) : Nat) : Int) 0 (Par.up (woL g i)) (knA rows g n i) (i : Int) = res := by
 have hn := h.n200
 have hp := h.p16
 intro d
 induction d with
 | zero =>
  intro i k hi hk
  obtain ⟨k, rfl⟩ : ∃ m, k = m + 1 := ⟨k - 1, by omega⟩
  obtain rfl : i = n := by omega
  rw [r5_Restore.l0, if_neg (by omega), List.take_of_length_le (by rw [h.ln]; omega), ← h.wid]
  exact hc k (by omega)
 | succ d ih =>
  intro i k hi hk
  obtain ⟨k, rfl⟩ : ∃ m, k = m + 1 := ⟨k - 1, by omega⟩
  have hwl := q0i g i
  rw [r5_Restore.l0, if_pos (by omega), if_pos (by omega), up_len, if_pos (by rw [h.ln]; omega), if_pos (by rw [h.gn]; omega), rdB_nat, up_rd, wide_snoc ls (by rw [h.ln]; omega), Par.wr1 (n := n) (by omega) (by omega)]
  by_cases hg : g.getD i false = true
  · have e1 : woL g i ++ [i] = woL g (i + 1) := by rw [woL_succ, if_pos hg]
    rw [if_pos hg, up_len, if_pos (by omega), up_snoc, e1, ← knA_gone rows hg]
    exact ih (i + 1) k (by omega) (by omega)
  · have hgf : g.getD i false = false := by simpa using hg
    have e1 : woL g i = woL g (i + 1) := by rw [woL_succ, if_neg hg]
    have hl : (rows.getD i []).length < 140737488355328 := by rw [h.rowsFit i (by omega) hgf]; have := h.small i (by omega); omega
    rw [if_neg hg, if_pos (by rw [h.rn]; omega), rdL1_nat, p_copied _ hl, Option.bind_some, if_pos (by rw [q1a]; omega), Int.toNat_natCast, knA_kept rows (by omega) hgf, e1]
    exact ih (i + 1) k (by omega) (by omega)
end
theorem ups_len (sizes : List Int) : (ups sizes).length = sizes.length := by simp [ups]
theorem ups_getD (sizes : List Int) {t : Nat} (ht : t < sizes.length) : (ups sizes).getD t 0 = (sizes.getD t 0).toNat := by
 unfold ups
 rw [List.getD_eq_getElem?_getD, List.getElem?_map, List.getElem?_eq_getElem ht, List.getD_eq_getElem?_getD, List.getElem?_eq_getElem ht]; rfl
theorem gones_len (N : Nat) (lost : List Int) : (q1u N lost).length = N := by unfold q1u; rw [marksFrom_length, List.length_replicate]
theorem given_of {rows : List (List Int)} {sizes : List Int} {more : List (List Int)} {lost : List Int} (hr8 : ∀ r ∈ rows, ∀ y ∈ r, In8 y) (hm8 : ∀ r ∈ more, ∀ y ∈ r, In8 y) (hn : rows.length ≤ 200) (hp : more.length ≤ 16) (h : fOK rows sizes more lost = true) :
    sizes.length = rows.length ∧ sizes = Par.up (ups sizes) ∧ Given rows (ups sizes) more (q1u (rows.length + more.length) lost) rows.length more.length (wideN (ups sizes)) := by
 unfold fOK rOK at h
 rw [Bool.and_eq_true, Bool.and_eq_true, Bool.and_eq_true, Bool.and_eq_true] at h
 obtain ⟨h1, h2, h3, h4, h5⟩ := h
 have hs : sizes.length = rows.length := of_decide_eq_true h1
 rw [okFrom_iff] at h2 h4 h5
 have hsz : ∀ t, t < rows.length → 0 ≤ sizes.getD t 0 ∧ sizes.getD t 0 ≤ 16777216 := fun t ht => of_decide_eq_true (h2 t (Nat.zero_le _) (by omega))
 refine ⟨hs, (up_ups fun x hx => ?_).symm, ⟨rfl, rfl, by rw [ups_len, hs], gones_len _ _, hn, hp, rfl, fun t ht => ?_, fun t ht hg => ?_, fun t ht hg => ?_, hr8, hm8⟩⟩
 · obtain ⟨t, ht, rfl⟩ := List.getElem_of_mem hx
   have := (hsz t (by omega)).1
   rw [List.getD_eq_getElem?_getD, List.getElem?_eq_getElem ht] at this
   exact this
 · rw [ups_getD _ (by omega)]
   have := (hsz t ht).2
   omega
 ·
  have := h4 t (Nat.zero_le _) (by omega)
  unfold fRw at this
  have hm : q0x lost (List.replicate (rows.length + more.length) false) 0 lost.length = q1u (rows.length + more.length) lost := rfl
  rw [hm, hg, Bool.false_or, decide_eq_true_eq] at this
  rw [ups_getD _ (by omega)]
  omega
 · have := h5 t (Nat.zero_le _) (by omega)
   unfold fL2 at this
   have hm : q0x lost (List.replicate (rows.length + more.length) false) 0 lost.length = q1u (rows.length + more.length) lost := rfl
   rw [hm, hg, Bool.false_or, decide_eq_true_eq] at this
   exact this
theorem p_fits (rows : List (List Int)) (sizes : List Int) (more : List (List Int)) (lost : List Int) (hlo : lost.length ≤ 140737488355328) (hn : rows.length ≤ 1000) (hp : more.length ≤ 1000) {k : Nat} (hk : lost.length + 5000 ≤ k) :
    ∃ is, QP.r5_fits.f k rows sizes more lost = some (is, fOK rows sizes more lost) ∧ (fOK rows sizes more lost = true → is = q1u (rows.length + more.length) lost) := rfits_f rows sizes more lost hlo hn hp hk
theorem ref_no {rows : List (List Int)} {sizes : List Int} {more : List (List Int)} {lost : List Int} (hr8 : ∀ r ∈ rows, ∀ y ∈ r, In8 y) (hm8 : ∀ r ∈ more, ∀ y ∈ r, In8 y) (hlo : lost.length ≤ 140737488355328) {g : List Bool} {x : Int} (hf : fitsL rows sizes more lost = (g, x)) (hx : x ≠ 0) :
    ∃ K, QP.r5_Restore.f K rows sizes more lost = some ([], x) := by
 obtain ⟨K, hK⟩ : ∃ K : Nat, K = lost.length + 100000 := ⟨_, rfl⟩
 refine ⟨K, ?_⟩
 obtain ⟨k, rfl⟩ : ∃ k, K = k + 1 := ⟨K - 1, by omega⟩
 by_cases hbig : 200 < rows.length ∨ 16 < more.length
 ·
  unfold fitsL at hf
  rw [if_pos hbig] at hf
  obtain ⟨rfl, rfl⟩ := Prod.mk.inj hf
  unfold QP.r5_Restore.f
  by_cases h1 : (rows.length : Int) > 200
  · rw [if_pos h1, r5_Restore.j0, if_pos rfl]
  · rw [if_neg h1, r5_Restore.j0, if_pos (decide_eq_true (by omega))]
 ·
  have hn : rows.length ≤ 200 := by omega
  have hp : more.length ≤ 16 := by omega
  rw [fits_same rows sizes more lost hn hp] at hf
  unfold QP.r5_Restore.f
  rw [if_neg (by omega), r5_Restore.j0, if_neg (by rw [decide_eq_true_eq]; omega)]
  obtain ⟨is, e1, e2⟩ := p_fits rows sizes more lost hlo (by omega) (by omega) (k := k) (by omega)
  rw [e1, Option.bind_some]
  by_cases hok : fOK rows sizes more lost = true
  ·
   rw [if_pos hok] at hf
   obtain rfl := e2 hok
   obtain ⟨hs, hu, hG⟩ := given_of hr8 hm8 hn hp hok
   by_cases hc : more.length < cnt (q1u (rows.length + more.length) lost)
   ·
    rw [if_pos hc] at hf
    obtain ⟨rfl, rfl⟩ := Prod.mk.inj hf
    rw [hok, if_pos rfl, if_pos (by omega), if_pos (by omega)]
    have h0 := res_l0 hG (some ([], 53)) 1000 (fun k2 hk2 => ?_) rows.length 0 k (by omega) (by omega)
    · rw [← hu, Int.toNat_natCast, ← knA_zero rows (q1u (rows.length + more.length) lost)] at *
      exact h0
    · refine res_l1 (Par.up (ups sizes)) more (q1u (rows.length + more.length) lost) _ _ _ _ (by rw [gones_len]; omega) (by omega) (some ([], 53)) 10 (fun k3 hk3 => ?_) (rows.length + more.length) 0 k2 (by rw [gones_len]; omega) (by omega)
      rw [if_pos (by omega)]
   · rw [if_neg hc] at hf
     obtain ⟨_, rfl⟩ := Prod.mk.inj hf
     exact absurd rfl hx
  · rw [if_neg hok] at hf
    obtain ⟨rfl, rfl⟩ := Prod.mk.inj hf
    rw [if_neg hok]
theorem ref_ok {rows : List (List Int)} {sizes : List Int} {more : List (List Int)} {lost : List Int} (hr8 : ∀ r ∈ rows, ∀ y ∈ r, In8 y) (hm8 : ∀ r ∈ more, ∀ y ∈ r, In8 y) (hlo : lost.length ≤ 140737488355328) {g : List Bool} (hf : fitsL rows sizes more lost = (g, 0)) :
    sizes.length = rows.length ∧ sizes = Par.up (ups sizes) ∧ Given rows (ups sizes) more g rows.length more.length (wideN (ups sizes)) ∧ (woL g rows.length).length ≤ (usedL g rows.length more.length).length ∧
    ∃ X, (Sh (woL g rows.length).length (wideN (ups sizes)) X ∧ ∀ i, i ≤ more.length → (usedL g rows.length i).length = (woL g rows.length).length → cols (woL g rows.length).length (woL g rows.length).length 0 (partL g rows.length i, vL g rows.length (outA rows (ups sizes) g rows.length) more i) = some X ∧ Sh (woL g rows.length).length (woL g rows.length).length (partL g rows.length i) ∧ Sh (woL g rows.length).length (wideN (ups sizes)) (vL g rows.length (outA rows (ups sizes) g rows.length) more i)) ∧
    ∃ K, QP.r5_Restore.f K rows sizes more lost = some (resL rows (ups sizes) more g rows.length more.length (woL g rows.length).length X, 0) := by
 by_cases hbig : 200 < rows.length ∨ 16 < more.length
 · unfold fitsL at hf
   rw [if_pos hbig] at hf
   exact absurd (Prod.mk.inj hf).2 (by decide)
 ·
  have hn : rows.length ≤ 200 := by omega
  have hp : more.length ≤ 16 := by omega
  rw [fits_same rows sizes more lost hn hp] at hf
  by_cases hok : fOK rows sizes more lost = true
  ·
   rw [if_pos hok] at hf
   by_cases hc : more.length < cnt (q1u (rows.length + more.length) lost)
   · rw [if_pos hc] at hf
     exact absurd (Prod.mk.inj hf).2 (by decide)
   ·
    rw [if_neg hc] at hf
    obtain ⟨rfl, _⟩ := Prod.mk.inj hf
    obtain ⟨hs, hu, hG⟩ := given_of hr8 hm8 hn hp hok
    have hcount := count_ok (gones_len (rows.length + more.length) lost) (by omega)
    obtain ⟨X, hS, hX⟩ := given_X hG rfl hcount
    refine ⟨hs, hu, hG, hcount, X, ⟨hS, hX⟩, ?_⟩
    obtain ⟨C1, hC1⟩ : ∃ C1 : Nat, C1 = ((wideN (ups sizes) + 40) * rows.length + wideN (ups sizes) + 2000) * (more.length + 1) := ⟨_, rfl⟩
    obtain ⟨C2, hC2⟩ : ∃ C2 : Nat, C2 = (wideN (ups sizes) + 40) * rows.length + 500 := ⟨_, rfl⟩
    obtain ⟨K, hK⟩ : ∃ K : Nat, K = lost.length + 100000 + C1 + C2 := ⟨_, rfl⟩
    refine ⟨K, ?_⟩
    obtain ⟨k, rfl⟩ : ∃ k, K = k + 1 := ⟨K - 1, by omega⟩
    unfold QP.r5_Restore.f
    rw [if_neg (by omega), r5_Restore.j0, if_neg (by rw [decide_eq_true_eq]; omega)]
    obtain ⟨is, e1, e2⟩ := p_fits rows sizes more lost hlo (by omega) (by omega) (k := k) (by omega)
    obtain rfl := e2 hok
    rw [e1, Option.bind_some, hok, if_pos rfl, if_pos (by omega), if_pos (by omega)]
    have hq := q0i (q1u (rows.length + more.length) lost) rows.length
    have h0 := res_l0 hG (some (resL rows (ups sizes) more (q1u (rows.length + more.length) lost) rows.length more.length (woL (q1u (rows.length + more.length) lost) rows.length).length X, 0)) (C1 + C2 + 2000) (fun k2 hk2 => ?_) rows.length 0 k (by omega) (by omega)
    · rw [← hu, ← knA_zero rows (q1u (rows.length + more.length) lost)] at *
      exact h0
    · refine res_l1 (Par.up (ups sizes)) more (q1u (rows.length + more.length) lost) _ _ _ _ (by rw [gones_len]; omega) (by omega) _ (C1 + C2 + 1000) (fun k3 hk3 => ?_) (rows.length + more.length) 0 k2 (by rw [gones_len]; omega) (by omega)
      rw [if_neg (by omega), sol_f hG rfl hcount X hS hX (by rw [← hC1]; omega), Option.bind_some]
      exact res_l2 hG rfl X hS C2 (by omega) (woL (q1u (rows.length + more.length) lost) rows.length).length 0 k3 (by omega) (by omega)
  · rw [if_neg hok] at hf
    exact absurd (Prod.mk.inj hf).2 (by decide)
end Go.Proofs.Ytdhajlkiiphlfaa.Rv
namespace Go.Proofs.Ytdhajlkiiphlfaa.Par
open Go.RowKit Go.Proofs.Ytdhajlkiiphlfaa.QB Go.Proofs.YtdhajlkiiphlfaaW.PrintWords Go.Proofs.YtdhajlkiiphlfaaW.PrintLast Go.Proofs.YtdhajlkiiphlfaaW.PrintMore Go.Proofs.Ytdhajlkiiphlfaa.Solve
def Smal (m : List (List Int)) : Prop := m.length ≤ 300 ∧ ∀ r ∈ m, r.length ≤ 16777216
theorem Smal.nil : Smal [] := ⟨Nat.zero_le _, fun r h => absurd h List.not_mem_nil⟩
theorem moreRow_len (rows : List (List Int)) (i : Nat) : (q1s rows i).length = q0f rows := by
 unfold q1s
 rw [q0s]
 exact List.length_replicate
theorem madeL_row (rows : List (List Int)) (p : Nat) : ∀ r ∈ madeL rows p, r.length = q0f rows := fun r h => by
 unfold madeL at h
 obtain ⟨i, _, rfl⟩ := List.mem_map.1 h
 exact moreRow_len rows i
theorem q2b (rows : List (List Int)) (p : Nat) : (madeL rows p).length = p := by simp [madeL]
theorem mV_small {rows : List (List Int)} {p : Int} (hr : ∀ r ∈ rows, r.length ≤ 16777216) : Smal (mV rows p) := by
 unfold mV
 split
 · exact Smal.nil
 ·
  unfold Rv.makeV
  split
  · refine ⟨by rw [q2b]; omega, fun r h => ?_⟩
    rw [madeL_row _ _ r h]
    exact wideN_le (fun x hx => by obtain ⟨r, hr', rfl⟩ := List.mem_map.1 hx; exact hr r hr')
  · exact Smal.nil
theorem overL_small {l : List ByteArray} {B : Nat} (h : ∀ s ∈ l, s.size ≤ B) : ∀ r ∈ Rv.overL l, r.length ≤ B := fun r hr => by
 unfold Rv.overL at hr
 obtain ⟨s, hs, rfl⟩ := List.mem_map.1 hr
 rw [List.length_replicate]
 exact h s hs
theorem bytes_small {l : List ByteArray} {B : Nat} (h : ∀ s ∈ l, s.size ≤ B) : ∀ r ∈ l.map q0e, r.length ≤ B := fun r hr => by
 obtain ⟨s, hs, rfl⟩ := List.mem_map.1 hr
 rw [bytesOf_len]
 exact h s hs
theorem resL_small {rows : List (List Int)} {ls : List Nat} {more : List (List Int)} {g : List Bool} {n p W q : Nat} (h : Given rows ls more g n p W) (hq : (woL g n).length = q) {X : List (List Int)} (hS : Sh q W X) : Smal (Rv.resL rows ls more g n p q X) := by
 obtain ⟨h1, h2, _, h4⟩ := Rv.kn_facts h hq hS
 have hW := Rv.W_small h
 have hn := h.n200
 have hp := h.p16
 unfold Rv.resL
 refine ⟨by rw [List.length_append, h1, q1n, q2b]; omega, fun r hr => ?_⟩
 rcases List.mem_append.1 hr with hr | hr
 · exact Nat.le_trans (h2 r hr) hW
 ·
  obtain ⟨t, ht, rfl⟩ := List.getElem_of_mem hr
  have ht' : t < p := by rw [q1n, q2b] at ht; exact ht
  have e := restB_get g n more (madeL (outB (woL g n) X ls (outA rows ls g n) q) p) p (t := t) (by rw [q2b]; exact ht')
  rw [List.getElem?_eq_getElem ht] at e
  rw [Option.some.inj e]
  split
  · next c => rw [h.moreFit t ht' c.2]; exact hW
  · rw [madeL_row _ p _ (getD_mem (by rw [q2b]; exact ht')), h4]; exact hW
theorem Sg.apart {w : World} {lo hi : Nat} {h1 h2 : List Hdr} {c1 c2 : List (List Int)} (a : Sg w lo hi h1 c1) (b : Sg w lo hi h2 c2) (D : ∀ (i j : Nat) d1 d2 (k o1 o2 : Nat), h1[i]? = some d1 → h2[j]? = some d2 → d1.1 = some ⟨k, o1, none⟩ → d2.1 = some ⟨k, o2, none⟩ → 0 < d1.2.1 → 0 < d2.2.1 → False) : Sg w lo hi (h1 ++ h2) (c1 ++ c2) := by
 have la := a.len
 have lb := b.len
 have at1 : ∀ (i : Nat) hd, (h1 ++ h2)[i]? = some hd → (i < h1.length ∧ h1[i]? = some hd) ∨ (h1.length ≤ i ∧ h2[i - h1.length]? = some hd) := fun i hd e => by
  by_cases hlt : i < h1.length
  · rw [List.getElem?_append_left hlt] at e; exact .inl ⟨hlt, e⟩
  · rw [List.getElem?_append_right (by omega)] at e; exact .inr ⟨by omega, e⟩
 refine ⟨by rw [List.length_append, List.length_append, la, lb], fun i hd r e1 e2 => ?_, fun i j d1 d2 k o1 o2 e1 e2 hij f1 f2 p1 p2 => ?_⟩
 · rcases at1 i hd e1 with ⟨hlt, e⟩ | ⟨hge, e⟩
   · rw [List.getElem?_append_left (by omega)] at e2
     exact a.row i hd r e e2
   · rw [List.getElem?_append_right (by omega), ← la] at e2
     exact b.row _ hd r e e2
 · rcases at1 i d1 e1 with ⟨_, g1⟩ | ⟨ge1, g1⟩ <;> rcases at1 j d2 e2 with ⟨_, g2⟩ | ⟨ge2, g2⟩
   · exact a.ap i j d1 d2 k o1 o2 g1 g2 hij f1 f2 p1 p2
   · exact (D _ _ _ _ _ _ _ g1 g2 f1 f2 p1 p2).elim
   · exact (D _ _ _ _ _ _ _ g2 g1 f2 f1 p2 p1).elim
   · exact b.ap _ _ d1 d2 k o1 o2 g1 g2 (by omega) f1 f2 p1 p2
theorem Dt.blockOf {w : World} {base b : Nat} {hs : List Hdr} {m : List (List Int)} (h : Dt w base b hs m) {i : Nat} {d : Hdr} {k o : Nat} (hi : hs[i]? = some d) (e : d.1 = some ⟨k, o, none⟩) : k = b := by
 have hl : i < m.length := by rw [← h.len]; exact (List.getElem?_eq_some_iff.1 hi).1
 obtain ⟨o', e1, _⟩ := h.row i _ (List.getElem?_eq_getElem hl)
 rw [hi] at e1
 obtain rfl := Option.some.inj e1
 injection e with e; injection e with e; exact e.symm
theorem HkR.of_RRes {w : World} {base : Nat} {v : Value} {hs1 hs2 : List Hdr} {b1 b2 : Nat} {m1 m2 : List (List Int)} (h : RRes w base v hs1 hs2 b1 b2 m1 m2) : ∃ a : Hdr, v = hdV a ∧ HkR w base w.heap.size a (m1 ++ m2) := by
 obtain ⟨A, c, e⟩ := q0q h.own
 subst e
 refine ⟨(A, _, c), rfl, hs1 ++ hs2, h.own, fun k e => q0u h.own k e, ?_⟩
 have q1 : b1 < w.heap.size := (Array.getElem?_eq_some_iff.1 h.d1.data).1
 have q2 : b2 < w.heap.size := (Array.getElem?_eq_some_iff.1 h.d2.data).1
 exact (Sg.of_Dt h.d1 q1).apart (Sg.of_Dt h.d2 q2) fun i j d1 d2 k o1 o2 e1 e2 f1 f2 _ _ => h.ne ((h.d1.blockOf e1 f1).symm.trans (h.d2.blockOf e2 f2))
theorem restore_both (rows : List (List Int)) (sizes : List Int) (more : List (List Int)) (lost : List Int) (hr8 : ∀ r ∈ rows, ∀ y ∈ r, In8 y) (hm8 : ∀ r ∈ more, ∀ y ∈ r, In8 y) (hlo : lost.length ≤ 140737488355328) : ∃ (R : List (List Int)) (x : Int), Smal R ∧
    (∀ (A0 A1 A2 A3 : Option Addr) (c0 c1 c2 c3 : Nat) (w : World), Kd.C (Kd.slice 5 (Kd.int .u8)) w A0 rows.length rows → rows.length ≤ c0 → Kd.C (Kd.int .i64) w A1 sizes.length sizes → sizes.length ≤ c1 → Kd.C (Kd.slice 5 (Kd.int .u8)) w A2 more.length more → more.length ≤ c2 → Kd.C (Kd.int .i64) w A3 lost.length lost → lost.length ≤ c3 →
     Calls Try.prog 16 #[.slice A0 rows.length c0, .slice A1 sizes.length c1, .slice A2 more.length c2, .slice A3 lost.length c3] w fun e w' => ∃ a : Hdr, e = .returned (.tuple #[hdV a, .int .i64 x]) ∧ HkR w' w.heap.size w'.heap.size a R ∧ Below w.heap.size w w') ∧
    (∀ (A0 A1 A2 A3 : Option Addr) (c0 c1 c2 c3 : Nat) (w : World), Kd.C (Kd.slice 5 (Kd.int .u8)) w A0 rows.length rows → rows.length ≤ c0 → Kd.C (Kd.int .i64) w A1 sizes.length sizes → sizes.length ≤ c1 → Kd.C (Kd.slice 5 (Kd.int .u8)) w A2 more.length more → more.length ≤ c2 → Kd.C (Kd.int .i64) w A3 lost.length lost → lost.length ≤ c3 →
     Calls Try.prog 44 #[.slice A0 rows.length c0, .slice A1 sizes.length c1, .slice A2 more.length c2, .slice A3 lost.length c3] w fun e w' => ∃ b : Hdr, e = .returned (.tuple #[hdV b, .int .i64 x]) ∧ HkW w' w.heap.size w'.heap.size b R ∧ Below w.heap.size w w') := by
 obtain ⟨g, x, hf⟩ : ∃ g x, fitsL rows sizes more lost = (g, x) := ⟨_, _, rfl⟩
 have ref : ∀ (R : List (List Int)) (K : Nat), QP.r5_Restore.f K rows sizes more lost = some (R, x) → ∀ (A0 A1 A2 A3 : Option Addr) (c0 c1 c2 c3 : Nat) (w : World), Kd.C (Kd.slice 5 (Kd.int .u8)) w A0 rows.length rows → rows.length ≤ c0 → Kd.C (Kd.int .i64) w A1 sizes.length sizes → sizes.length ≤ c1 → Kd.C (Kd.slice 5 (Kd.int .u8)) w A2 more.length more → more.length ≤ c2 → Kd.C (Kd.int .i64) w A3 lost.length lost → lost.length ≤ c3 →
     Calls Try.prog 44 #[.slice A0 rows.length c0, .slice A1 sizes.length c1, .slice A2 more.length c2, .slice A3 lost.length c3] w fun e w' => ∃ b : Hdr, e = .returned (.tuple #[hdV b, .int .i64 x]) ∧ HkW w' w.heap.size w'.heap.size b R ∧ Below w.heap.size w w' := fun R K hK A0 A1 A2 A3 c0 c1 c2 c3 w h0 d0 h1 d1 h2 d2 h3 d3 => by
  refine (QP.r5_Restore.calls K A0 c0 rows A1 c1 sizes A2 c2 more A3 c3 lost R x w h0 d0 h1 d1 h2 d2 h3 d3 hK).mono ?_
  rintro e w' ⟨v0, rfl, hN, hb⟩
  obtain ⟨b, rfl, hW⟩ := HkW.of_N hN
  exact ⟨b, rfl, hW, hb⟩
 by_cases hx : x = 0
 ·
  subst hx
  obtain ⟨hs, hu, hG, hcount, X, ⟨hS, hX⟩, K, hK⟩ := Rv.ref_ok hr8 hm8 hlo hf
  refine ⟨_, 0, resL_small hG rfl hS, fun A0 A1 A2 A3 c0 c1 c2 c3 w h0 d0 h1 d1 h2 d2 h3 d3 => ?_, ref _ K hK⟩
  rw [hu] at h1 d1 hf
  rw [Rv.up_len, Rv.ups_len, hs] at h1 d1
  have := restore_ok A0 A1 A2 A3 c0 c1 c2 c3 rows (ups sizes) more lost g rows.length more.length (wideN (ups sizes)) w h0 d0 h1 d1 h2 d2 h3 d3 hlo hf hG (woL g rows.length).length rfl hcount (outA rows (ups sizes) g rows.length) rfl X (fun _ => ⟨hS, hX⟩)
  rw [hs]
  refine this.mono ?_
  rintro e w' ⟨v, hs1, hs2, b1, b2, rfl, hR, hb⟩
  obtain ⟨a, rfl, hk⟩ := HkR.of_RRes hR
  exact ⟨a, rfl, hk, hb⟩
 · obtain ⟨K, hK⟩ := Rv.ref_no hr8 hm8 hlo hf hx
   refine ⟨[], x, Smal.nil, fun A0 A1 A2 A3 c0 c1 c2 c3 w h0 d0 h1 d1 h2 d2 h3 d3 => ?_, ref _ K hK⟩
   refine (restore_no A0 A1 A2 A3 c0 c1 c2 c3 rows sizes more lost g x w h0 d0 h1 d1 h2 d2 h3 d3 hlo hf hx).mono ?_
   rintro e w' ⟨rfl, hb⟩
   exact ⟨(none, 0, 0), rfl, HkR.nil _ _ _, hb⟩
theorem Lt.carry {w0 w1 w w' : World} {g c : Nat} {Ao : Option Addr} {co : Nat} {gs : List Gd} {hb : Hdr} {ls : List ByteArray} {cs : List (List Int)} (h : Lt w1 w g c Ao co gs hb ls cs) {hi : Nat} (hH : LtHi g Ao ls.length co gs hi) (hbel : Below w0.heap.size w0 w') (hle : w0.heap.size ≤ w1.heap.size) (hs : q0d w w' w1.heap.size hi) : Lt w0 w' g c Ao co gs hb ls cs :=
 ⟨hbel, ⟨h.rows.len, fun x hx => Nat.le_trans hle (h.rows.low x hx), fun i x r a b => by
  have hr := h.rows.row i x r a b
  exact hr.blk (hs x.1 (h.rows.low x (List.mem_of_getElem? a)) (hH.r x (List.mem_of_getElem? a))), h.rows.ap⟩, h.len, h.sz, h.cap, own_weak (own_in h.hr (fun k e => by injection e with e; rw [← e]; exact hH.g) hs) hle, own_weak (own_in h.ho hH.o hs) hle⟩
theorem Row5.carry {w w' : World} {hb : Hdr} {r : List Int} {lo hi k : Nat} (h : Row5 w hb r) (hk : hb.1 = some ⟨k, 0, none⟩) (hlo : lo ≤ k) (hhi : k < hi) (hs : q0d w w' lo hi) : Row5 w' hb r := by
 obtain ⟨a, b, c, d⟩ := h
 refine ⟨a, b, c, fun hp => ?_⟩
 obtain ⟨k', o, cells, fz, e1, e2, e3⟩ := d hp
 rw [hk] at e1
 injection e1 with e1; injection e1 with e1 e1'
 subst e1; subst e1'
 exact ⟨k, 0, cells, fz, hk, (hs k hlo hhi).trans e2, e3⟩
theorem NB.carry {w w' : World} {base base' g c hi : Nat} {xs : List Int} (h : NB w base g c xs) (hle : base' ≤ base) (hg : g < hi) (hs : q0d w w' base hi) : NB w' base' g c xs := own_weak (own_in h (fun k e => by injection e with e; rw [← e]; exact hg) hs) hle
theorem Row5.hlt {w : World} {hb : Hdr} {r : List Int} {k : Nat} (h : Row5 w hb r) (hk : hb.1 = some ⟨k, 0, none⟩) (hr : 0 < r.length) : k < w.heap.size := by
 obtain ⟨a, b, c, d⟩ := h
 obtain ⟨k', o, cells, fz, e1, e2, e3⟩ := d hr
 rw [hk] at e1
 injection e1 with e1; injection e1 with e1 e1'
 subst e1
 exact (Array.getElem?_eq_some_iff.1 e2).1
theorem keptIn {w w' : World} {S : Nat → Prop} {lo hi : Nat} (h : Kept w w' S) (hS : ∀ k, lo ≤ k → k < hi → ¬ S k) (hh : hi ≤ w.heap.size) : q0d w w' lo hi := fun k a b => h.2 k (by omega) (hS k a b)
theorem NB.readsC {w : World} {base g c : Nat} {l : List Int} (h : NB w base g c (l ++ q20)) : ∀ W, q0d w W base w.heap.size → Kd.C (Kd.int .i64) W (some ⟨g, 0, none⟩) l.length l := by
 intro W hW
 have ho := own_in h (fun k e => q0u h k e) hW
 have h2 := own_take ho (m := l.length) (by rw [List.length_append]; omega)
 have e : (nums .i64 (l ++ q20)).take l.length = nums .i64 l := by
  unfold nums
  rw [List.map_append, List.take_append_of_le_length (by simp), List.take_of_length_le (by simp)]
 rw [e] at h2
 exact (Kd.R_reads' (R_of_own h2)).2.2
theorem overL_len (l : List ByteArray) : (Rv.overL l).length = l.length := List.length_map _
set_option maxHeartbeats 3200000 in
set_option maxRecDepth 100000 in
theorem restored_calls (w0 w : World) (gb : Nat) (vh : Value) (es : List He) (ms : List (List (List Int))) (bd : List (Nat × Nat)) (l m : List ByteArray) (sz lost : List Int) (A1 A2 A3 A4 : Option Addr) (c1 c2 c3 c4 : Nat) (h : Bq w0 w gb vh es ms bd) (hes : es.length ≤ 999999990)
    (hr1 : ∀ W, q0a w W gb vh.ownBlock → Kd.C Kd.string W A1 l.length l) (hc1 : l.length ≤ c1) (hl : l.length ≤ 100000000000) (hs : ∀ s ∈ l, s.size ≤ 100000000000)
    (hr2 : ∀ W, q0a w W gb vh.ownBlock → Kd.C (Kd.int .i64) W A2 sz.length sz) (hc2 : sz.length ≤ c2) (hl2 : sz.length ≤ 100000000000)
    (hr3 : ∀ W, q0a w W gb vh.ownBlock → Kd.C Kd.string W A3 m.length m) (hc3 : m.length ≤ c3) (hl3 : m.length ≤ 100000000000) (hs3 : ∀ s ∈ m, s.size ≤ 100000000000)
    (hr4 : ∀ W, q0a w W gb vh.ownBlock → Kd.C (Kd.int .i64) W A4 lost.length lost) (hc4 : lost.length ≤ c4) (hl4 : lost.length ≤ 100000000000) :
    Calls Try.prog 22 #[.pointer (some ⟨gb, 0, none⟩), .slice A1 l.length c1, .slice A2 sz.length c2, .slice A3 m.length c3, .slice A4 lost.length c4] w fun e w' => ∃ vh' x1 x2 R1 R2 bd', e = .returned (.bool true) ∧ Bq w0 w' gb vh' (es ++ [x1] ++ [x2]) (ms ++ [R1] ++ [R2]) bd' ∧ Hx w w' gb vh vh' ∧ Smal R1 ∧ Smal R2 := by
 have HB := sqM h
 have HE := sqM hes
 have HR1 := sqM hr1
 have HR2 := sqM hr2
 have HR3 := sqM hr3
 have HR4 := sqM hr4
 have HC1 := sqM hc1
 have HC2 := sqM hc2
 have HC3 := sqM hc3
 have HC4 := sqM hc4
 have HL := sqM hl
 have HL2 := sqM hl2
 have HL3 := sqM hl3
 have HL4 := sqM hl4
 have HS := sqM hs
 have HS3 := sqM hs3
 obtain ⟨R1, x1, hS1, hP1, hQ1⟩ := restore_both (l.map q0e) sz (m.map q0e) lost (bytes_in l) (bytes_in m) (by omega)
 obtain ⟨R2, x2, hS2, hP2, hQ2⟩ := restore_both (Rv.overL l) sz (Rv.overL m) lost (Rv.overL_in l) (Rv.overL_in m) (by omega)
 have HSM : Aside0 (Smal R1 ∧ Smal R2) := ⟨hS1, hS2⟩
 clear hS1 hS2
 simp only [List.length_map] at hP1 hQ1
 simp only [overL_len] at hP2 hQ2
 have HP1 := sqM hP1
 have HQ1 := sqM hQ1
 have HP2 := sqM hP2
 have HQ2 := sqM hQ2
 clear h hes hr1 hr2 hr3 hr4 hc1 hc2 hc3 hc4 hl hl2 hl3 hl4 hs hs3 hP1 hQ1 hP2 hQ2
 go_enter Try.func22, Try.ntmps22
 go_wp2_with (fail)
 refine (lent_calls A1 c1 l w (HR1.out w (q0a.of_below (Below.refl _ _) _ _)) HL.out HS.out).mono ?_
 rintro e wa ⟨g1, d1, Ao1, co1, gs1, hb1, rfl, hlt1, hbe1, k1, hk1, hk1'⟩
 have LT1 := sqM hlt1
 have HI1 := sqM hlt1.hi
 have BE1 := sqM hbe1
 have HG1 := sqM (show l.length ≤ d1 by have := hlt1.cap; omega)
 clear hlt1 hbe1 hk1 hk1'
 go_wp2_with (fail)
 obtain ⟨wb, hwb⟩ : ∃ wb, wb = wa.alloc (.cells #[.slice (some ⟨g1, 0, none⟩) l.length d1, .slice Ao1 l.length co1] 79) := ⟨_, rfl⟩
 rw [← hwb]
 have BAB := sqM (show Below wa.heap.size wa wb by rw [hwb]; exact q02 (Below.refl _ _) _)
 have BX1 := sqM (show Box wb wa.heap.size (.slice (some ⟨g1, 0, none⟩) l.length d1) (.slice Ao1 l.length co1) by rw [hwb]; exact q0z wa _)
 have HB_ := sqM (q03 LT1.out.below LT1.out.below.size BAB.out)
 clear hwb
 refine (numbers_calls A2 c2 sz wb (HR2.out wb (q0a.of_below HB_.out _ _)) HC2.out HL2.out).mono ?_
 rintro e wc ⟨gn, cn, rfl, hnb, hbc⟩
 have NB1 := sqM hnb
 have BBC := sqM hbc
 have HBC := sqM (q03 HB_.out HB_.out.size hbc)
 have HCN := sqM (show sz.length ≤ cn by obtain ⟨_, _, ex, ey⟩ := numbers_form hnb; injection ex with _ _ ex; omega)
 clear hnb hbc
 go_wp2_with (fail)
 refine (lent_calls A3 c3 m wc (HR3.out wc (q0a.of_below HBC.out _ _)) HL3.out HS3.out).mono ?_
 rintro e wd ⟨g2, d2, Ao2, co2, gs2, hb2, rfl, hlt2, hbe2, k2, hk2, hk2'⟩
 have LT2 := sqM hlt2
 have HI2 := sqM hlt2.hi
 have BE2 := sqM hbe2
 have K2 := sqM hk2
 have K2' := sqM hk2'
 have HG2 := sqM (show m.length ≤ d2 by have := hlt2.cap; omega)
 have HBD := sqM (q03 HBC.out HBC.out.size hlt2.below)
 clear hlt2 hbe2 hk2 hk2'
 go_wp2_with (fail)
 obtain ⟨we, hwe⟩ : ∃ we, we = wd.alloc (.cells #[.slice (some ⟨g2, 0, none⟩) m.length d2, .slice Ao2 m.length co2] 79) := ⟨_, rfl⟩
 rw [← hwe]
 have BDE := sqM (show Below wd.heap.size wd we by rw [hwe]; exact q02 (Below.refl _ _) _)
 have BX2 := sqM (show Box we wd.heap.size (.slice (some ⟨g2, 0, none⟩) m.length d2) (.slice Ao2 m.length co2) by rw [hwe]; exact q0z wd _)
 have HBE := sqM (q03 HBD.out HBD.out.size BDE.out)
 clear hwe
 refine (numbers_calls A4 c4 lost we (HR4.out we (q0a.of_below HBE.out _ _)) HC4.out HL4.out).mono ?_
 rintro e wf ⟨gl, cl, rfl, hnb, hbf⟩
 have NB2 := sqM hnb
 have BEF := sqM hbf
 have HBF := sqM (q03 HBE.out HBE.out.size hbf)
 have HCL := sqM (show lost.length ≤ cl by obtain ⟨_, _, ex, ey⟩ := numbers_form hnb; injection ex with _ _ ex; omega)
 clear hnb hbf
 have s0 : w.heap.size ≤ wa.heap.size := LT1.out.below.size
 have s1 : wa.heap.size < wb.heap.size := q0l BX1.out
 have s2 : wb.heap.size ≤ wc.heap.size := BBC.out.size
 have s3 : wc.heap.size ≤ wd.heap.size := LT2.out.below.size
 have s4 : wd.heap.size < we.heap.size := q0l BX2.out
 have s5 : we.heap.size ≤ wf.heap.size := BEF.out.size
 have S0 := sqM (show w.heap.size ≤ wa.heap.size ∧ wa.heap.size < wb.heap.size ∧ wb.heap.size ≤ wc.heap.size ∧ wc.heap.size ≤ wd.heap.size ∧ wd.heap.size < we.heap.size ∧ we.heap.size ≤ wf.heap.size from ⟨s0, s1, s2, s3, s4, s5⟩)
 clear s0 s1 s2 s3 s4 s5
 have bcf := q03 LT2.out.below LT2.out.below.size (q03 BDE.out BDE.out.size BEF.out)
 have bbf := q03 BBC.out BBC.out.size bcf
 have baf := q03 BAB.out BAB.out.size bbf
 have bdf := q03 BDE.out BDE.out.size BEF.out
 have BAF := sqM baf
 have BBF := sqM bbf
 have BCF := sqM bcf
 have BDF := sqM bdf
 have x0 : wf.cell? ⟨wa.heap.size, 0, none⟩ = some (.slice (some ⟨g1, 0, none⟩) l.length d1) := (BX1.out.below bbf).cell0
 have x1_ : wf.cell? ⟨wd.heap.size, 0, none⟩ = some (.slice (some ⟨g2, 0, none⟩) m.length d2) := (BX2.out.below BEF.out).cell0
 clear bcf bbf baf bdf
 go_wp2_with (fail)
 refine (HP1.out (some ⟨g1, 0, none⟩) (some ⟨gn, 0, none⟩) (some ⟨g2, 0, none⟩) (some ⟨gl, 0, none⟩) d1 cn d2 cl wf (LT1.out.readsFull HS.out wf (q0d.of_below BAF.out (Nat.le_refl _))) HG1.out (NB1.out.readsC wf (q0d.of_below BCF.out (Nat.le_refl _))) HCN.out (LT2.out.readsFull HS3.out wf (q0d.of_below BDF.out (Nat.le_refl _))) HG2.out (NB2.out.readsC wf (fun _ _ _ => rfl)) HCL.out).mono ?_
 clear x0 x1_
 rintro e w1 ⟨a1, rfl, hk, hb⟩
 obtain ⟨Aa, na, ca⟩ := a1
 have HK1 := sqM hk
 have B1 := sqM hb
 have HB1 := sqM (q03 HBF.out HBF.out.size hb)
 have y0 : w1.cell? ⟨wa.heap.size, 0, none⟩ = some (.slice (some ⟨g1, 0, none⟩) l.length d1) := ((BX1.out.below BBF.out).below hb).cell0
 have y1 : w1.cell? ⟨wa.heap.size, 1, none⟩ = some (.slice Ao1 l.length co1) := ((BX1.out.below BBF.out).below hb).cell1
 clear hk hb
 show _
 unfold hdV
 go_wp2_with (fail)
 have baf1 := q03 BAF.out BAF.out.size B1.out
 refine (whole_calls g1 d1 Ao1 co1 gs1 hb1 A1 c1 l w w1 (lt_moved LT1.out baf1) (Row5.move BE1.out (Same5.of_below baf1)) (fun W hW => HR1.out W ⟨Nat.le_trans HB1.out.size hW.1, fun k hk h1 h2 => (hW.2 k (Nat.lt_of_lt_of_le hk HB1.out.size) (fun ⟨x, hx, e⟩ => by have := LT1.out.rows.low x hx; omega)).trans (HB1.out.block k hk)⟩) HL.out HS.out).mono ?_
 clear baf1 y0 y1
 rintro e w2 ⟨rfl, hwh⟩
 have hsz1 : wf.heap.size ≤ w1.heap.size := B1.out.size
 have k12 : ∀ lo hi, wa.heap.size ≤ lo → hi ≤ w1.heap.size → q0d w1 w2 lo hi := fun lo hi h1 h2 => keptIn hwh.kept (fun k a b ⟨x, hx, e⟩ => by have := HI1.out.r x hx; omega) h2
 have K12 := sqM k12
 have LT1b := sqM hwh.lt
 have B2 := sqM hwh.lt.below
 have S1 := sqM (show wf.heap.size ≤ w1.heap.size ∧ w1.heap.size ≤ w2.heap.size from ⟨hsz1, hwh.kept.1⟩)
 clear hwh k12 hsz1
 go_wp2_with (fail)
 have nb1 : NB w2 w.heap.size gn cn (sz ++ q20) := (NB1.out.carry (w' := w1) (base' := wb.heap.size) (Nat.le_refl _) (q0u NB1.out gn rfl) (q0d.of_below (q03 BCF.out BCF.out.size B1.out) (Nat.le_refl _))).carry (by have := S0.out; omega) (hi := wc.heap.size) (q0u NB1.out gn rfl) (K12.out _ _ (by have := S0.out; omega) (by have := S0.out; have := S1.out; omega))
 have gn1 : wb.heap.size ≤ gn ∧ gn < wc.heap.size := ⟨q0k NB1.out gn rfl, q0u NB1.out gn rfl⟩
 have GN := sqM gn1
 refine (still_calls gn cn A2 c2 sz w w2 B2.out nb1 (fun W hW => HR2.out W ⟨Nat.le_trans B2.out.size hW.1, fun k hk h1 h2 => (hW.2 k (Nat.lt_of_lt_of_le hk B2.out.size) (fun e => by have e2 : k = gn := e; have := GN.out; have := S0.out; omega)).trans (B2.out.block k hk)⟩) HC2.out HL2.out).mono ?_
 clear nb1 gn1
 rintro e w3 ⟨rfl, hst⟩
 have k23 : ∀ lo hi, (wc.heap.size ≤ lo ∨ hi ≤ wb.heap.size) → hi ≤ w2.heap.size → q0d w2 w3 lo hi := fun lo hi h1 h2 => keptIn hst.kept (fun k a b e => by have e2 : k = gn := e; have := GN.out; omega) h2
 have K23 := sqM k23
 have B3 := sqM hst.below
 have S2 := sqM (show w2.heap.size ≤ w3.heap.size from hst.kept.1)
 clear hst k23
 have sm13 : ∀ lo hi, wc.heap.size ≤ lo → hi ≤ w1.heap.size → q0d w1 w3 lo hi := fun lo hi h1 h2 => (K12.out lo hi (by have := S0.out; omega) h2).trans (K23.out lo hi (.inl h1) (by have := S1.out; omega))
 have SM13 := sqM sm13
 have bx23 : Box w3 wd.heap.size (.slice (some ⟨g2, 0, none⟩) m.length d2) (.slice Ao2 m.length co2) := (sm13 wd.heap.size we.heap.size (by have := S0.out; omega) (by have := S0.out; have := S1.out; omega) wd.heap.size (Nat.le_refl _) (by have := S0.out; omega)).trans ((BX2.out.below BEF.out).below B1.out)
 have y0 := bx23.cell0
 have y1 := bx23.cell1
 clear sm13 bx23
 go_wp2_with (fail)
 have lt2 : Lt w w3 g2 d2 Ao2 co2 gs2 hb2 m (m.map fullB) := (lt_moved LT2.out (q03 BDF.out BDF.out.size B1.out)).carry HI2.out B3.out (by have := S0.out; omega) (SM13.out _ _ (Nat.le_refl _) (by have := S0.out; have := S1.out; omega))
 have be2 : Row5 w3 hb2 behindL := (Row5.move BE2.out (Same5.of_below (q03 BDF.out BDF.out.size B1.out))).carry K2.out (lo := wc.heap.size) (hi := wd.heap.size) K2'.out (BE2.out.hlt K2.out (by decide)) (SM13.out _ _ (Nat.le_refl _) (by have := S0.out; have := S1.out; omega))
 refine (whole_calls g2 d2 Ao2 co2 gs2 hb2 A3 c3 m w w3 lt2 be2 (fun W hW => HR3.out W ⟨Nat.le_trans B3.out.size hW.1, fun k hk h1 h2 => (hW.2 k (Nat.lt_of_lt_of_le hk B3.out.size) (fun ⟨x, hx, e⟩ => by have := LT2.out.rows.low x hx; have := S0.out; omega)).trans (B3.out.block k hk)⟩) HL3.out HS3.out).mono ?_
 clear lt2 be2 y0 y1
 rintro e w4 ⟨rfl, hwh⟩
 have k34 : ∀ lo hi, (wd.heap.size ≤ lo ∨ hi ≤ wc.heap.size) → hi ≤ w3.heap.size → q0d w3 w4 lo hi := fun lo hi h1 h2 => keptIn hwh.kept (fun k a b ⟨x, hx, e⟩ => by have := HI2.out.r x hx; have := LT2.out.rows.low x hx; omega) h2
 have K34 := sqM k34
 have LT2b := sqM hwh.lt
 have B4 := sqM hwh.lt.below
 have S3 := sqM (show w3.heap.size ≤ w4.heap.size from hwh.kept.1)
 clear hwh k34
 go_wp2_with (fail)
 have nb2 : NB w4 w.heap.size gl cl (lost ++ q20) := ((NB2.out.carry (w' := w1) (base' := we.heap.size) (Nat.le_refl _) (q0u NB2.out gl rfl) (q0d.of_below B1.out (Nat.le_refl _))).carry (base' := we.heap.size) (Nat.le_refl _) (hi := wf.heap.size) (q0u NB2.out gl rfl) (SM13.out _ _ (by have := S0.out; omega) (by have := S1.out; omega))).carry (by have := S0.out; omega) (hi := wf.heap.size) (q0u NB2.out gl rfl) (K34.out _ _ (.inl (by have := S0.out; omega)) (by have := S1.out; have := S2.out; omega))
 have gl1 : we.heap.size ≤ gl ∧ gl < wf.heap.size := ⟨q0k NB2.out gl rfl, q0u NB2.out gl rfl⟩
 have GL := sqM gl1
 refine (still_calls gl cl A4 c4 lost w w4 B4.out nb2 (fun W hW => HR4.out W ⟨Nat.le_trans B4.out.size hW.1, fun k hk h1 h2 => (hW.2 k (Nat.lt_of_lt_of_le hk B4.out.size) (fun e => by have e2 : k = gl := e; have := GL.out; have := S0.out; omega)).trans (B4.out.block k hk)⟩) HC4.out HL4.out).mono ?_
 clear nb2 gl1
 rintro e w5 ⟨rfl, hst⟩
 have k45 : ∀ lo hi, (wf.heap.size ≤ lo ∨ hi ≤ we.heap.size) → hi ≤ w4.heap.size → q0d w4 w5 lo hi := fun lo hi h1 h2 => keptIn hst.kept (fun k a b e => by have e2 : k = gl := e; have := GL.out; omega) h2
 have K45 := sqM k45
 have B5 := sqM hst.below
 have S4 := sqM (show w4.heap.size ≤ w5.heap.size from hst.kept.1)
 clear hst k45
 have hk5 : HkR w5 wf.heap.size w1.heap.size (Aa, na, ca) R1 := ((HK1.out.move (SM13.out _ _ (by have := S0.out; omega) (Nat.le_refl _))).move (K34.out _ _ (.inl (by have := S0.out; omega)) (by have := S1.out; have := S2.out; omega))).move (K45.out _ _ (.inl (Nat.le_refl _)) (by have := S1.out; have := S2.out; have := S3.out; omega))
 have HK5 := sqM hk5
 have bx1 : Box w5 wa.heap.size (.slice (some ⟨g1, 0, none⟩) l.length d1) (.slice Ao1 l.length co1) := ((((K12.out wa.heap.size wb.heap.size (Nat.le_refl _) (by have := S0.out; have := S1.out; omega)).trans (K23.out _ _ (.inr (Nat.le_refl _)) (by have := S0.out; have := S1.out; omega))).trans (K34.out _ _ (.inr (by have := S0.out; omega)) (by have := S0.out; have := S1.out; have := S2.out; omega))).trans (K45.out _ _ (.inr (by have := S0.out; omega)) (by have := S0.out; have := S1.out; have := S2.out; have := S3.out; omega)) wa.heap.size (Nat.le_refl _) (by have := S0.out; omega)).trans ((BX1.out.below BBF.out).below B1.out)
 have bx2 : Box w5 wd.heap.size (.slice (some ⟨g2, 0, none⟩) m.length d2) (.slice Ao2 m.length co2) := (((SM13.out wd.heap.size we.heap.size (by have := S0.out; omega) (by have := S0.out; have := S1.out; omega)).trans (K34.out _ _ (.inl (Nat.le_refl _)) (by have := S0.out; have := S1.out; have := S2.out; omega))).trans (K45.out _ _ (.inr (Nat.le_refl _)) (by have := S0.out; have := S1.out; have := S2.out; have := S3.out; omega)) wd.heap.size (Nat.le_refl _) (by have := S0.out; omega)).trans ((BX2.out.below BEF.out).below B1.out)
 have rd1 : ∀ W, q0d w5 W w.heap.size w5.heap.size → Kd.C (Kd.slice 5 (Kd.int .u8)) W (some ⟨g1, 0, none⟩) l.length (Rv.overL l) := fun W hW => LT1b.out.readsOverH HS.out HI1.out W (fun k a b => by
  have q1 := K23.out w.heap.size wa.heap.size (.inr (by have := S0.out; omega)) (by have := S0.out; have := S1.out; omega) k a b
  have q2 := K34.out w.heap.size wa.heap.size (.inr (by have := S0.out; omega)) (by have := S0.out; have := S1.out; have := S2.out; omega) k a b
  have q3 := K45.out w.heap.size wa.heap.size (.inr (by have := S0.out; omega)) (by have := S0.out; have := S1.out; have := S2.out; have := S3.out; omega) k a b
  have q4 := hW k a (by have := S0.out; have := S1.out; have := S2.out; have := S3.out; have := S4.out; omega)
  exact ((q4.trans q3).trans q2).trans q1)
 have rd2 : ∀ W, q0d w5 W w.heap.size w5.heap.size → Kd.C (Kd.slice 5 (Kd.int .u8)) W (some ⟨g2, 0, none⟩) m.length (Rv.overL m) := fun W hW => LT2b.out.readsOverH HS3.out HI2.out W (fun k a b => by
  by_cases hk : k < we.heap.size
  · have q3 := K45.out w.heap.size we.heap.size (.inr (Nat.le_refl _)) (by have := S0.out; have := S1.out; have := S2.out; have := S3.out; omega) k a hk
    have q4 := hW k a (by have := S0.out; have := S1.out; have := S2.out; have := S3.out; have := S4.out; omega)
    exact q4.trans q3
  · have := S0.out; omega)
 have RD1 := sqM rd1
 have RD2 := sqM rd2
 have XB1 := sqM bx1
 have XB2 := sqM bx2
 have S5 := sqM (show w.heap.size ≤ wa.heap.size ∧ wa.heap.size < w5.heap.size ∧ wd.heap.size < w5.heap.size ∧ w.heap.size ≤ wd.heap.size ∧ w.heap.size ≤ wf.heap.size ∧ w1.heap.size ≤ w5.heap.size ∧ w.heap.size ≤ w5.heap.size from by have := S0.out; have := S1.out; have := S2.out; have := S3.out; have := S4.out; omega)
 clear hk5 bx1 bx2 rd1 rd2 LT1b LT2b K12 K23 K34 K45 SM13 GL GN S0 S1 S2 S3 S4 B1 B2 B3 B4 HK1 BX1 BX2 BAF BBF BCF BDF BE1 BE2 K2 K2' LT1 LT2 NB1 NB2 HBE HBF HBD HBC HB_ HB1 BDE BEF BBC BAB
 go_wp2_with (fail)
 refine (lent_calls A1 c1 l w5 (HR1.out w5 (q0a.of_below B5.out _ _)) HL.out HS.out).mono ?_
 rintro e w6 ⟨g3, d3, Ao3, co3, gs3, hb3, rfl, hlt3, _, _, _, _⟩
 have LT3 := sqM hlt3
 have B6 := sqM (q03 B5.out B5.out.size hlt3.below)
 have HG3 := sqM (show l.length ≤ d3 by have := hlt3.cap; omega)
 have hfl := fun W => field79 W (some ⟨g3, 0, none⟩) Ao3 l.length d3 l.length co3
 clear hlt3
 go_wp2_with (fail)
 clear hfl
 refine (lent_calls A3 c3 m w6 (HR3.out w6 (q0a.of_below B6.out _ _)) HL3.out HS3.out).mono ?_
 rintro e w7 ⟨g4, d4, Ao4, co4, gs4, hb4, rfl, hlt4, _, _, _, _⟩
 have LT4 := sqM hlt4
 have B7 := sqM (q03 B6.out B6.out.size hlt4.below)
 have HG4 := sqM (show m.length ≤ d4 by have := hlt4.cap; omega)
 have hfl := fun W => field79 W (some ⟨g4, 0, none⟩) Ao4 m.length d4 m.length co4
 clear hlt4
 go_wp2_with (fail)
 clear hfl
 refine (HQ1.out (some ⟨g3, 0, none⟩) A2 (some ⟨g4, 0, none⟩) A4 d3 c2 d4 c4 w7 (LT3.out.readsFull HS.out w7 (q0d.of_below LT4.out.below (Nat.le_refl _))) HG3.out (HR2.out w7 (q0a.of_below B7.out _ _)) HC2.out (LT4.out.readsFull HS3.out w7 (fun _ _ _ => rfl)) HG4.out (HR4.out w7 (q0a.of_below B7.out _ _)) HC4.out).mono ?_
 rintro e w8 ⟨b1, rfl, hk, hb⟩
 obtain ⟨Ab, nb, cb⟩ := b1
 have HK8 := sqM hk
 have b58 : Below w5.heap.size w5 w8 := q03 LT3.out.below LT3.out.below.size (q03 LT4.out.below LT4.out.below.size hb)
 have B58 := sqM b58
 have B8 := sqM (q03 B5.out B5.out.size b58)
 have S7 := sqM (show w5.heap.size ≤ w7.heap.size from Nat.le_trans LT3.out.below.size LT4.out.below.size)
 clear hk hb b58 LT3 LT4 B6 B7
 show _
 unfold hdV
 go_wp2_with (fail)
 have hBQ8 := HB.out.moved B8.out
 refine (hold_calls w0 w8 gb vh es (Aa, na, ca) (Ab, nb, cb) hBQ8.bh (by have := HE.out; omega)).mono ?_
 rintro e w9 ⟨rfl, vh9, hbh9, _, hx9⟩
 have hEnt : Hk w8 w.heap.size w8.heap.size (Aa, na, ca) (Ab, nb, cb) R1 := by
  obtain ⟨hs, a, b, d⟩ := (HK5.out.move (q0d.of_below B58.out S5.out.2.2.2.2.2.1)).widen (lo' := w.heap.size) (hi' := w8.heap.size) S5.out.2.2.2.2.1 (by have := S5.out; have := B58.out.size; omega)
  have hw8 := HK8.out.widen (lo' := w.heap.size) (hi' := w8.heap.size) (by have := S5.out; have := S7.out; omega) (Nat.le_refl _)
  exact ⟨⟨hs, a, b, d⟩, hw8⟩
 have hBQ9 := hBQ8.snoc hEnt (fun i x e => (HB.out.bnd i x e).2.2.1) B8.out.size (Nat.le_refl _) HB.out.glt HB.out.vlt hbh9 hx9
 have hx09 : Hx w w9 gb vh vh9 := below_hx B8.out hx9
 have same9 : q0d w5 w9 w.heap.size w5.heap.size := fun k h1 h2 => (hx9.same k (by have := B58.out.size; omega) (by have := HB.out.glt; omega) (fun e => by have := HB.out.vlt k e.symm; omega)).trans (B58.out.block k h2)
 have bx1 : Box w9 wa.heap.size (.slice (some ⟨g1, 0, none⟩) l.length d1) (.slice Ao1 l.length co1) := (same9 wa.heap.size S5.out.1 S5.out.2.1).trans XB1.out
 have bx2 : Box w9 wd.heap.size (.slice (some ⟨g2, 0, none⟩) m.length d2) (.slice Ao2 m.length co2) := (same9 wd.heap.size S5.out.2.2.2.1 S5.out.2.2.1).trans XB2.out
 have HBQ9 := sqM hBQ9
 have HX09 := sqM hx09
 have SAME9 := sqM same9
 have x0 := bx1.cell0
 have x1_ := bx2.cell0
 have S9 := sqM (show w5.heap.size ≤ w9.heap.size from Nat.le_trans B58.out.size hx9.size)
 clear hBQ8 hbh9 hx9 hEnt hBQ9 hx09 same9 bx1 bx2
 go_wp2_with (fail)
 refine q1x (n := 14) (S := fun w' => Below w9.heap.size w9 w') (ds := []) #[fF,fF,fF,fF,fF,fF,fF,fF,fF,fF,fF,fF,fF,fF] (by kernel_rfl) rfl rfl (q06 (Below.refl _ _)) (fun hHeld => ?_)
 refine pU 0 74 #[tT,fF,fF,fF,fF,fF,fF,fF,fF,fF,fF,fF,fF,fF] ?_
 refine pU 2 76 #[tT,fF,tT,fF,fF,fF,fF,fF,fF,fF,fF,fF,fF,fF] ?_
 refine pU 4 78 #[tT,fF,tT,fF,tT,fF,fF,fF,fF,fF,fF,fF,fF,fF] ?_
 refine pU 6 80 #[tT,fF,tT,fF,tT,fF,tT,fF,fF,fF,fF,fF,fF,fF] ?_
 refine tK 1 75 #[tT,tT,tT,fF,tT,fF,tT,fF,fF,fF,fF,fF,fF,fF] hHeld ?_ (hy := by
  intro w' hS
  have hx' := q0c hS x0
  go_simp
  with_reducible rfl)
 refine tK 5 79 #[tT,tT,tT,fF,tT,tT,tT,fF,fF,fF,fF,fF,fF,fF] hHeld ?_ (hy := by
  intro w' hS
  have hx' := q0c hS x1_
  go_simp
  with_reducible rfl)
 refine one_ (i := 3) (N := some 77) #[tT,tT,tT,tT,tT,tT,tT,fF,fF,fF,fF,fF,fF,fF] rfl rfl (by kernel_rfl) (by decide) (fun K hK => ?_)
 refine goes_ Try.func42 (by kernel_rfl) rfl #[.slice A2 sz.length c2] (by rfl) rfl rfl (by simp only [List.map_toArray, List.map_cons, List.map_nil]; rfl) ?_
 refine (numbers_calls A2 c2 sz _ (HR2.out _ (q0a.of_Hx (HX09.out.below (q06 (Below.refl _ _))))) HC2.out HL2.out).mono ?_
 rintro e w10 ⟨g5, c5, rfl, hnb5, hb10⟩
 have NB5 := sqM hnb5
 have B10 := sqM (q03 (q06 (Below.refl w9.heap.size w9)) (Nat.le_refl _) hb10)
 have HCN5 := sqM (show sz.length ≤ c5 by obtain ⟨_, _, ex, ey⟩ := numbers_form hnb5; injection ex with _ _ ex; omega)
 clear hnb5 hb10
 refine ⟨_, rfl, ?_⟩
 refine hK.out _ _ (B10.out) (fun hHeld => ?_)
 clear hK K
 refine norm_ (a' := ?_) ?_ ?_
 rotate_left
 · show Act.put _ (some 77) _ = _
   simp only [Act.put, sqA, sqB, sqC, i64_w, i32_w]
   rfl
 refine one_ (i := 7) (N := some 81) #[tT,tT,tT,tT,tT,tT,tT,tT,fF,fF,fF,fF,fF,fF] rfl rfl (by kernel_rfl) (by decide) (fun K hK => ?_)
 refine goes_ Try.func42 (by kernel_rfl) rfl #[.slice A4 lost.length c4] (by rfl) rfl rfl (by simp only [List.map_toArray, List.map_cons, List.map_nil]; rfl) ?_
 refine (numbers_calls A4 c4 lost _ (HR4.out _ (q0a.of_Hx (HX09.out.below B10.out))) HC4.out HL4.out).mono ?_
 rintro e w11 ⟨g6, c6, rfl, hnb6, hb11⟩
 have NB6 := sqM hnb6
 have B1011 := sqM hb11
 have B11 := sqM (q03 B10.out B10.out.size hb11)
 have HCN6 := sqM (show lost.length ≤ c6 by obtain ⟨_, _, ex, ey⟩ := numbers_form hnb6; injection ex with _ _ ex; omega)
 clear hnb6 hb11
 refine ⟨_, rfl, ?_⟩
 refine hK.out _ _ (B11.out) (fun hHeld => ?_)
 clear hK K
 refine norm_ (a' := ?_) ?_ ?_
 rotate_left
 · show Act.put _ (some 81) _ = _
   simp only [Act.put, sqA, sqB, sqC, i64_w, i32_w]
   rfl
 refine one_ (i := 8) (N := some 82) #[tT,tT,tT,tT,tT,tT,tT,tT,tT,fF,fF,fF,fF,fF] rfl rfl (by kernel_rfl) (by decide) (fun K hK => ?_)
 refine goes_ Try.func16 (by kernel_rfl) rfl #[.slice (some ⟨g1, 0, none⟩) l.length d1, .slice (some ⟨g5, 0, none⟩) sz.length c5, .slice (some ⟨g2, 0, none⟩) m.length d2, .slice (some ⟨g6, 0, none⟩) lost.length c6] (by rfl) rfl rfl (by simp only [List.map_toArray, List.map_cons, List.map_nil]; rfl) ?_
 refine (HP2.out (some ⟨g1, 0, none⟩) (some ⟨g5, 0, none⟩) (some ⟨g2, 0, none⟩) (some ⟨g6, 0, none⟩) d1 c5 d2 c6 w11 (RD1.out w11 (SAME9.out.trans (q0d.of_below B11.out S9.out))) HG1.out (NB5.out.readsC w11 (q0d.of_below B1011.out (Nat.le_refl _))) HCN5.out (RD2.out w11 (SAME9.out.trans (q0d.of_below B11.out S9.out))) HG2.out (NB6.out.readsC w11 (fun _ _ _ => rfl)) HCN6.out).mono ?_
 rintro e w13 ⟨a2, rfl, hk13, hb13⟩
 obtain ⟨Aa2, na2, ca2⟩ := a2
 have HK13 := sqM hk13
 have LO13 := sqM (show w9.heap.size ≤ w11.heap.size from B11.out.size)
 have B13 := sqM (q03 B11.out B11.out.size hb13)
 clear hk13 hb13
 refine ⟨_, rfl, ?_⟩
 unfold hdV
 refine hK.out _ _ (B13.out) (fun hHeld => ?_)
 clear hK K
 refine norm_ (a' := ?_) ?_ ?_
 rotate_left
 · show Act.put _ (some 82) _ = _
   simp only [Act.put, sqA, sqB, sqC, i64_w, i32_w]
   rfl
 refine pU 9 73 #[tT,tT,tT,tT,tT,tT,tT,tT,tT,tT,fF,fF,fF,fF] ?_
 refine pU 10 83 #[tT,tT,tT,tT,tT,tT,tT,tT,tT,tT,tT,fF,fF,fF] ?_
 refine pU 11 84 #[tT,tT,tT,tT,tT,tT,tT,tT,tT,tT,tT,tT,fF,fF] ?_
 refine pU 12 23 #[tT,tT,tT,tT,tT,tT,tT,tT,tT,tT,tT,tT,tT,fF] ?_
 refine pU 13 24 #[tT,tT,tT,tT,tT,tT,tT,tT,tT,tT,tT,tT,tT,tT] ?_
 refine done_ (by kernel_rfl) ?_
 go_wp2_with (fail)
 refine (Rv.over_calls A1 c1 l w13 (HR1.out w13 (q0a.of_Hx (HX09.out.below B13.out))) HC1.out HL.out HS.out).mono ?_
 rintro e w14 ⟨v14, rfl, hs14, hb14⟩
 obtain ⟨b14, rfl, hk14⟩ := HkW.of_S hs14
 have HK14 := sqM hk14
 have hn14 := hk14.2.1
 obtain ⟨e14, _⟩ := hk14.reads
 rw [overL_len] at e14 hn14
 have B14 := sqM hb14
 have HN14 := sqM hn14
 obtain ⟨A14, n14, c14⟩ := b14
 rw [e14]
 clear hs14 hb14 hk14 e14 hn14
 go_wp2_with (fail)
 refine (Rv.over_calls A3 c3 m w14 (HR3.out w14 (q0a.of_Hx (HX09.out.below (q03 B13.out B13.out.size B14.out)))) HC3.out HL3.out HS3.out).mono ?_
 rintro e w15 ⟨v15, rfl, hs15, hb15⟩
 obtain ⟨b15, rfl, hk15⟩ := HkW.of_S hs15
 have HK15 := sqM hk15
 have hn15 := hk15.2.1
 obtain ⟨e15, _⟩ := hk15.reads
 rw [overL_len] at e15 hn15
 have B15 := sqM hb15
 have HN15 := sqM hn15
 obtain ⟨A15, n15, c15⟩ := b15
 rw [e15]
 have b9_15 := q03 B13.out B13.out.size (q03 B14.out B14.out.size hb15)
 have B915 := sqM b9_15
 clear hs15 hb15 hk15 e15 hn15 b9_15
 go_wp2_with (fail)
 refine (HQ2.out A14 A2 A15 A4 c14 c2 c15 c4 w15 (by have := HK14.out.2.2 w15 (q0d.of_below B15.out (Nat.le_refl _)); rw [overL_len] at this; exact this) HN14.out (HR2.out w15 (q0a.of_Hx (HX09.out.below B915.out))) HC2.out (by have := HK15.out.2.2 w15 (fun _ _ _ => rfl); rw [overL_len] at this; exact this) HN15.out (HR4.out w15 (q0a.of_Hx (HX09.out.below B915.out))) HC4.out).mono ?_
 rintro e w16 ⟨b2, rfl, hk, hb⟩
 obtain ⟨Ab2, nb2, cb2⟩ := b2
 have HK16 := sqM hk
 have B16 := sqM hb
 clear hk hb
 show _
 unfold hdV
 go_wp2_with (fail)
 have b13_16 := q03 B14.out B14.out.size (q03 B15.out B15.out.size B16.out)
 have b9_16 := q03 B13.out B13.out.size b13_16
 have hBQ16 := HBQ9.out.moved b9_16
 refine (hold_calls w0 w16 gb vh9 _ (Aa2, na2, ca2) (Ab2, nb2, cb2) hBQ16.bh (by rw [List.length_append, List.length_singleton]; have := HE.out; omega)).mono ?_
 rintro e w17 ⟨rfl, vh17, hbh17, _, hx17⟩
 have hEnt2 : Hk w16 w9.heap.size w16.heap.size (Aa2, na2, ca2) (Ab2, nb2, cb2) R2 := by
  obtain ⟨hs, a, b, d⟩ := (HK13.out.move (q0d.of_below b13_16 (Nat.le_refl _))).widen (lo' := w9.heap.size) (hi' := w16.heap.size) LO13.out b13_16.size
  have hw16 := HK16.out.widen (lo' := w9.heap.size) (hi' := w16.heap.size) B915.out.size (Nat.le_refl _)
  exact ⟨⟨hs, a, b, d⟩, hw16⟩
 have hBQ17 := hBQ16.snoc hEnt2 (fun i x e => (HBQ9.out.bnd i x e).2.2.1) b9_16.size (Nat.le_refl _) HBQ9.out.glt HBQ9.out.vlt hbh17 hx17
 have hX17 : Hx w w17 gb vh vh17 := (HX09.out.below b9_16).trans hx17
 have HBQ17 := sqM hBQ17
 have HX17 := sqM hX17
 clear b13_16 b9_16 hBQ16 hbh17 hx17 hEnt2 hBQ17 hX17
 go_wp2
 go_ret
 exact ⟨vh17, ((Aa, na, ca), (Ab, nb, cb)), ((Aa2, na2, ca2), (Ab2, nb2, cb2)), R1, R2, _, by simp, HBQ17.out, HX17.out, HSM.out⟩
theorem Hx.but {w w1 W : World} {gb : Nat} {vh vh1 : Value} (h : Hx w w1 gb vh vh1) (hs : q0a w1 W gb vh1.ownBlock) : q0a w W gb vh.ownBlock :=
 ⟨Nat.le_trans h.size hs.1, fun k hk hg ho => (hs.2 k (Nat.lt_of_lt_of_le hk h.size) hg (fun e => by
  rcases h.at_ with f | ⟨b, f, hb⟩
  · exact ho (by rw [← f]; exact e)
  · rw [f] at e; injection e with e; omega)).trans (h.same k hk hg ho)⟩
structure Bz (w0 w : World) (gb : Nat) (vh : Value) (es : List He) (ms : List (List (List Int))) (bd : List (Nat × Nat)) (N : Nat) : Prop where
 bq : Bq w0 w gb vh es ms bd
 few : es.length ≤ N
 sm : ∀ m ∈ ms, Smal m
theorem Bz.moved {w0 w w' : World} {gb : Nat} {vh : Value} {es : List He} {ms : List (List (List Int))} {bd : List (Nat × Nat)} {N : Nat} (h : Bz w0 w gb vh es ms bd N) (hb : Below w.heap.size w w') : Bz w0 w' gb vh es ms bd N := ⟨h.bq.moved hb, h.few, h.sm⟩
theorem Bz.more {w0 w : World} {gb : Nat} {vh : Value} {es : List He} {ms : List (List (List Int))} {bd : List (Nat × Nat)} {N M : Nat} (h : Bz w0 w gb vh es ms bd N) (hN : N ≤ M) : Bz w0 w gb vh es ms bd M := ⟨h.bq, Nat.le_trans h.few hN, h.sm⟩
theorem Bz.two {w0 w w' : World} {gb : Nat} {vh vh' : Value} {es : List He} {ms : List (List (List Int))} {bd bd' : List (Nat × Nat)} {N : Nat} {x1 x2 : He} {m1 m2 : List (List Int)} (h : Bz w0 w gb vh es ms bd N) (hq : Bq w0 w' gb vh' (es ++ [x1] ++ [x2]) (ms ++ [m1] ++ [m2]) bd') (h1 : Smal m1) (h2 : Smal m2) : Bz w0 w' gb vh' (es ++ [x1] ++ [x2]) (ms ++ [m1] ++ [m2]) bd' (N + 2) :=
 ⟨hq, by have := h.few; simp; omega, fun m hm => by
  rcases List.mem_append.1 hm with hm | hm
  · rcases List.mem_append.1 hm with hm | hm
    · exact h.sm m hm
    · rw [List.mem_singleton.1 hm]; exact h1
  · rw [List.mem_singleton.1 hm]; exact h2⟩
structure StA (w : World) (gb : Nat) (o : Option Nat) (A2 A3 A4 A5 : Option Addr) (c2 c3 c4 c5 : Nat) (rows more : List ByteArray) (sizes lost : List Int) : Prop where
 r2 : ∀ W, q0a w W gb o → Kd.C Kd.string W A2 rows.length rows
 k2 : rows.length ≤ c2
 l2 : rows.length ≤ 1048576
 s2 : ∀ s ∈ rows, s.size ≤ 1048576
 r3 : ∀ W, q0a w W gb o → Kd.C Kd.string W A3 more.length more
 k3 : more.length ≤ c3
 l3 : more.length ≤ 1048576
 s3 : ∀ s ∈ more, s.size ≤ 1048576
 r4 : ∀ W, q0a w W gb o → Kd.C (Kd.int .i64) W A4 sizes.length sizes
 k4 : sizes.length ≤ c4
 l4 : sizes.length ≤ 1048576
 i4 : ∀ y ∈ sizes, -9223372036854775808 ≤ y ∧ y ≤ 9223372036854775807
 r5 : ∀ W, q0a w W gb o → Kd.C (Kd.int .i64) W A5 lost.length lost
 k5 : lost.length ≤ c5
 l5 : lost.length ≤ 1048576
 i5 : ∀ y ∈ lost, -9223372036854775808 ≤ y ∧ y ≤ 9223372036854775807
section
variable {w w1 w0 : World} {gb N : Nat} {vh vh1 : Value} {A2 A3 A4 A5 : Option Addr} {c2 c3 c4 c5 : Nat} {rows more : List ByteArray} {sizes lost : List Int} {es : List He} {ms : List (List (List Int))} {bd : List (Nat × Nat)}
theorem StA.moved (h : StA w gb vh.ownBlock A2 A3 A4 A5 c2 c3 c4 c5 rows more sizes lost) (hx : Hx w w1 gb vh vh1) : StA w1 gb vh1.ownBlock A2 A3 A4 A5 c2 c3 c4 c5 rows more sizes lost :=
 ⟨fun W hW => h.r2 W (hx.but hW), h.k2, h.l2, h.s2, fun W hW => h.r3 W (hx.but hW), h.k3, h.l3, h.s3, fun W hW => h.r4 W (hx.but hW), h.k4, h.l4, h.i4, fun W hW => h.r5 W (hx.but hW), h.k5, h.l5, h.i5⟩
theorem b1m {l : List ByteArray} (h : ∀ s ∈ l, s.size ≤ 1048576) : ∀ s ∈ l, s.size ≤ 16777216 := fun s hs => Nat.le_trans (h s hs) (by decide)
theorem bmade2 (h : Bz w0 w gb vh es ms bd N) (hN : N ≤ 100000000) (l : List ByteArray) (A1 : Option Addr) (c1 : Nat) (p : Int) (hr1 : ∀ W, q0a w W gb vh.ownBlock → Kd.C Kd.string W A1 l.length l) (hc1 : l.length ≤ c1) (hl : l.length ≤ 1048576) (hs : ∀ s ∈ l, s.size ≤ 1048576) :
    Calls Try.prog 21 #[.pointer (some ⟨gb, 0, none⟩), .slice A1 l.length c1, .int .i64 p] w fun e w' => ∃ (vh' : Value) (es' : List He) (ms' : List (List (List Int))) (bd' : List (Nat × Nat)) (b : Hdr), e = .returned (.tuple #[hdV b, .bool true]) ∧ Bz w0 w' gb vh' es' ms' bd' (N + 2) ∧ Hx w w' gb vh vh' ∧
     (∀ W, q0a w' W gb vh'.ownBlock → Kd.C (Kd.slice 5 (Kd.int .u8)) W b.1 (mV (l.map q0e) p).length (mV (l.map q0e) p)) ∧ b.2.1 = (mV (l.map q0e) p).length ∧ (mV (l.map q0e) p).length ≤ b.2.2 := by
 refine (bmade_calls w0 w gb vh es ms bd l A1 c1 p h.bq (by have := h.few; omega) hr1 hc1 (by omega) (fun s hs' => Nat.le_trans (hs s hs') (by decide))).mono ?_
 rintro e w' ⟨vh', a1, b1, a2, b2, bd', rfl, hq, hx⟩
 have l1 := hq.l1
 have l2 := hq.l2
 have l3 := h.bq.l1
 have hi : es.length < (es ++ [(a1, b1)] ++ [(a2, b2)]).length := by simp
 have hib : es.length < bd'.length := by rw [← l2]; exact hi
 have e1 : (es ++ [(a1, b1)] ++ [(a2, b2)])[es.length]? = some (a1, b1) := by simp
 have e2 : (ms ++ [mV (l.map q0e) p] ++ [mV (Rv.overL l) p])[es.length]? = some (mV (l.map q0e) p) := by rw [l3]; simp
 have hk := hq.held _ _ _ _ e1 e2 (List.getElem?_eq_getElem hib)
 have hbn := hq.bnd _ _ (List.getElem?_eq_getElem hib)
 obtain ⟨k1, k2, k3⟩ := hk.want
 refine ⟨vh', _, _, bd', b1, rfl, h.two hq (mV_small (bytes_small (b1m hs))) (mV_small (overL_small (b1m hs))), hx, fun W hW => k3 W (fun k ka kb => ?_), k1, k2⟩
 obtain ⟨g1, g2, g3, g4⟩ := hbn
 exact hW.2 k (Nat.lt_of_lt_of_le kb g3) (by omega) (fun e => by rcases g4 k e.symm with f | f <;> omega)
theorem brest2 (h : Bz w0 w gb vh es ms bd N) (hN : N ≤ 100000000) (l m : List ByteArray) (sz lo : List Int) (A1 A2 A3 A4 : Option Addr) (c1 c2 c3 c4 : Nat)
    (hr1 : ∀ W, q0a w W gb vh.ownBlock → Kd.C Kd.string W A1 l.length l) (hc1 : l.length ≤ c1) (hl : l.length ≤ 16777216) (hs : ∀ s ∈ l, s.size ≤ 16777216)
    (hr2 : ∀ W, q0a w W gb vh.ownBlock → Kd.C (Kd.int .i64) W A2 sz.length sz) (hc2 : sz.length ≤ c2) (hl2 : sz.length ≤ 16777216)
    (hr3 : ∀ W, q0a w W gb vh.ownBlock → Kd.C Kd.string W A3 m.length m) (hc3 : m.length ≤ c3) (hl3 : m.length ≤ 16777216) (hs3 : ∀ s ∈ m, s.size ≤ 16777216)
    (hr4 : ∀ W, q0a w W gb vh.ownBlock → Kd.C (Kd.int .i64) W A4 lo.length lo) (hc4 : lo.length ≤ c4) (hl4 : lo.length ≤ 16777216) :
    Calls Try.prog 22 #[.pointer (some ⟨gb, 0, none⟩), .slice A1 l.length c1, .slice A2 sz.length c2, .slice A3 m.length c3, .slice A4 lo.length c4] w fun e w' => ∃ vh' es' ms' bd', e = .returned (.bool true) ∧ Bz w0 w' gb vh' es' ms' bd' (N + 2) ∧ Hx w w' gb vh vh' := by
 refine (restored_calls w0 w gb vh es ms bd l m sz lo A1 A2 A3 A4 c1 c2 c3 c4 h.bq (by have := h.few; omega) hr1 hc1 (by omega) (fun s hs' => Nat.le_trans (hs s hs') (by decide)) hr2 hc2 (by omega) hr3 hc3 (by omega) (fun s hs' => Nat.le_trans (hs3 s hs') (by decide)) hr4 hc4 (by omega)).mono ?_
 rintro e w' ⟨vh', x1, x2, R1, R2, bd', rfl, hq, hx, s1, s2⟩
 exact ⟨vh', _, _, bd', rfl, h.two hq s1 s2, hx⟩
theorem StA.made (h : StA w gb vh.ownBlock A2 A3 A4 A5 c2 c3 c4 c5 rows more sizes lost) (hz : Bz w0 w gb vh es ms bd N) (hN : N ≤ 100000000) (p : Int) :
    Calls Try.prog 21 #[.pointer (some ⟨gb, 0, none⟩), .slice A2 rows.length c2, .int .i64 p] w fun e w' => ∃ (vh' : Value) (es' : List He) (ms' : List (List (List Int))) (bd' : List (Nat × Nat)) (b : Hdr), e = .returned (.tuple #[hdV b, .bool true]) ∧ Bz w0 w' gb vh' es' ms' bd' (N + 2) ∧ Hx w w' gb vh vh' ∧
     (∀ W, q0a w' W gb vh'.ownBlock → Kd.C (Kd.slice 5 (Kd.int .u8)) W b.1 (mV (rows.map q0e) p).length (mV (rows.map q0e) p)) ∧ b.2.1 = (mV (rows.map q0e) p).length ∧ (mV (rows.map q0e) p).length ≤ b.2.2 := bmade2 hz hN rows A2 c2 p h.r2 h.k2 h.l2 h.s2
theorem StA.madeMore (h : StA w gb vh.ownBlock A2 A3 A4 A5 c2 c3 c4 c5 rows more sizes lost) (hz : Bz w0 w gb vh es ms bd N) (hN : N ≤ 100000000) (p : Int) :
    Calls Try.prog 21 #[.pointer (some ⟨gb, 0, none⟩), .slice A3 more.length c3, .int .i64 p] w fun e w' => ∃ (vh' : Value) (es' : List He) (ms' : List (List (List Int))) (bd' : List (Nat × Nat)) (b : Hdr), e = .returned (.tuple #[hdV b, .bool true]) ∧ Bz w0 w' gb vh' es' ms' bd' (N + 2) ∧ Hx w w' gb vh vh' := by
 refine (bmade2 hz hN more A3 c3 p h.r3 h.k3 h.l3 h.s3).mono ?_
 rintro e w' ⟨vh', es', ms', bd', b, a1, a2, a3, _⟩
 exact ⟨vh', es', ms', bd', b, a1, a2, a3⟩
theorem StA.restored (h : StA w gb vh.ownBlock A2 A3 A4 A5 c2 c3 c4 c5 rows more sizes lost) (hz : Bz w0 w gb vh es ms bd N) (hN : N ≤ 100000000) :
    Calls Try.prog 22 #[.pointer (some ⟨gb, 0, none⟩), .slice A2 rows.length c2, .slice A4 sizes.length c4, .slice A3 more.length c3, .slice A5 lost.length c5] w fun e w' => ∃ vh' es' ms' bd', e = .returned (.bool true) ∧ Bz w0 w' gb vh' es' ms' bd' (N + 2) ∧ Hx w w' gb vh vh' :=
 brest2 hz hN rows more sizes lost A2 A4 A3 A5 c2 c4 c3 c5 h.r2 h.k2 (by have := h.l2; omega) (b1m h.s2) h.r4 h.k4 (by have := h.l4; omega) h.r3 h.k3 (by have := h.l3; omega) (b1m h.s3) h.r5 h.k5 (by have := h.l5; omega)
theorem Bz.blk (hz : Bz w0 w gb vh es ms bd N) (hx : Hx w w1 gb vh vh1) {b t : Nat} {cells : Array Value} (hb : w.heap[b]? = some (.cells cells t (0, 0))) (h1 : t ≠ 27) (h2 : t ≠ 60) : w1.heap[b]? = some (.cells cells t (0, 0)) := by
 rw [hx.same b (q0l hb) (fun e => ?_) (fun e => ?_)]
 · exact hb
 · have := hz.bq.bh.box
   rw [← e, hb] at this
   injection this with this; injection this with _ this; exact h1 this
 · obtain ⟨c, hc⟩ := q0b hz.bq.bh.oh b e.symm
   rw [hb] at hc
   injection hc with hc; injection hc with _ hc; exact h2 hc
end
theorem below_drew1s {w : World} (nd : Nat) : Below w.heap.size w (w.drew.drewN nd) := q03 (q06 (Below.refl _ _)) (Nat.le_refl _) (q00 (Below.refl _ _) nd)
theorem pick_any (a n : Int) (ha : -9223372036854775808 ≤ a ∧ a ≤ 9223372036854775807) (hn : 0 < n) : ∃ r : Nat, QR.l5_pick.f a n = some (r : Int) ∧ (r : Int) < n := by
 have key : ∀ c : Int, 0 ≤ c → ∃ r : Nat, some (Int.tmod c n) = some (r : Int) ∧ (r : Int) < n := fun c hc => by
  rw [Int.tmod_eq_emod_of_nonneg hc]
  have h0 := Int.emod_nonneg c (show n ≠ 0 by omega)
  have h1 := Int.emod_lt_of_pos c hn
  exact ⟨(c % n).toNat, by rw [Int.toNat_of_nonneg h0], by rw [Int.toNat_of_nonneg h0]; exact h1⟩
 unfold QR.l5_pick.f
 have hn0 : ¬ (n = 0) := by omega
 by_cases h : a < 0
 · rw [if_pos h, if_neg hn0]
   exact key _ (by unfold wrap64; omega)
 · rw [if_neg h, if_neg hn0]
   exact key _ (by omega)
abbrev opV (kd p : Int) (A2 A3 A4 A5 : Option Addr) (c2 c3 c4 c5 : Nat) (rows more : List ByteArray) (sizes lost : List Int) : Value := .agg #[.int .i64 kd, .int .i64 p, .slice A2 rows.length c2, .slice A3 more.length c3, .slice A4 sizes.length c4, .slice A5 lost.length c5]
set_option maxHeartbeats 3200000 in
set_option maxRecDepth 100000 in
theorem step1_calls (w0 w : World) (gb : Nat) (vh : Value) (es : List He) (ms : List (List (List Int))) (bd : List (Nat × Nat)) (N : Nat) (p : Int) (A2 A3 A4 A5 : Option Addr) (c2 c3 c4 c5 : Nat) (rows more : List ByteArray) (sizes lost : List Int) (h : Bz w0 w gb vh es ms bd N) (hN : N ≤ 10000000) (hp : -9223372036854775808 ≤ p ∧ p ≤ 9223372036854775807) (ha : StA w gb vh.ownBlock A2 A3 A4 A5 c2 c3 c4 c5 rows more sizes lost) :
    Calls Try.prog 11 #[.pointer (some ⟨gb, 0, none⟩), opV 1 p A2 A3 A4 A5 c2 c3 c4 c5 rows more sizes lost] w fun e w' => ∃ vh' es' ms' bd', e = .returned (.bool true) ∧ Bz w0 w' gb vh' es' ms' bd' (N + 6) ∧ Hx w w' gb vh vh' := by
 obtain ⟨wb, hwb⟩ : ∃ wb, wb = w.alloc (.cells #[.int .i64 1, .int .i64 p, .slice A2 rows.length c2, .slice A3 more.length c3, .slice A4 sizes.length c4, .slice A5 lost.length c5] 32) := ⟨_, rfl⟩
 have hab : Below w.heap.size w wb := by rw [hwb]; exact q02 (Below.refl _ _) _
 have HBOX : Aside0 (wb.heap[w.heap.size]? = some (.cells #[.int .i64 1, .int .i64 p, .slice A2 rows.length c2, .slice A3 more.length c3, .slice A4 sizes.length c4, .slice A5 lost.length c5] 32 (0, 0))) := ⟨by rw [hwb]; exact q0z w _⟩
 have HXB : Aside0 (Hx w wb gb vh vh) := ⟨Hx.of_below hab gb vh⟩
 have HZB := sqM (h.moved hab)
 have HAB := sqM (ha.moved HXB.out)
 have HN := sqM hN
 have HP := sqM hp
 have EWB := sqM hwb
 clear h hN hp ha hab hwb
 unfold opV
 go_enter Try.func11, Try.ntmps11
 obtain ⟨kk, hkk, _⟩ := pick_any p 17 HP.out (by decide)
 have HKK := sqM hkk
 clear hkk
 go_wp2_with (fail)
 rw [← EWB.out]
 refine (HAB.out.made HZB.out (by have := HN.out; omega) p).mono ?_
 rintro e w1 ⟨vh1, es1, ms1, bd1, b1, rfl, hz1, hx1, _, _, _⟩
 have hbox1 := HZB.out.blk hx1 HBOX.out (by decide) (by decide)
 have HZ1 := sqM hz1
 have HX1 := sqM (HXB.out.trans hx1)
 have HA1 := sqM (HAB.out.moved hx1)
 clear hz1 hx1
 go_wp2
 refine q1x (n := 12) (S := fun w' => w'.heap[w.heap.size]? = some (.cells #[.int .i64 1, .int .i64 p, .slice A2 rows.length c2, .slice A3 more.length c3, .slice A4 sizes.length c4, .slice A5 lost.length c5] 32 (0, 0))) (ds := []) #[fF,fF,fF,fF,fF,fF,fF,fF,fF,fF,fF,fF] (by kernel_rfl) rfl rfl hbox1 (fun hHeld => ?_)
 refine pU 0 40 #[tT,fF,fF,fF,fF,fF,fF,fF,fF,fF,fF,fF] ?_
 refine pU 1 41 #[tT,tT,fF,fF,fF,fF,fF,fF,fF,fF,fF,fF] ?_
 refine tK 2 42 #[tT,tT,tT,fF,fF,fF,fF,fF,fF,fF,fF,fF] hHeld ?_ (hy := by
  intro w' hS
  have hy := cell_of_row w' w.heap.size 3 _ _ _ hS
  go_simp
  with_reducible rfl)
 refine pU 3 43 #[tT,tT,tT,tT,fF,fF,fF,fF,fF,fF,fF,fF] ?_
 refine tK 4 44 #[tT,tT,tT,tT,tT,fF,fF,fF,fF,fF,fF,fF] hHeld ?_ (hy := by
  intro w' hS
  have hy := cell_of_row w' w.heap.size 1 _ _ _ hS
  go_simp
  with_reducible rfl)
 refine one_ (i := 5) (N := some 45) #[tT,tT,tT,tT,tT,tT,fF,fF,fF,fF,fF,fF] rfl rfl (by kernel_rfl) (by decide) (fun K hK => ?_)
 refine goes_ Try.func14 (by kernel_rfl) rfl #[.int .i64 p, .int .i64 17] (by rfl) rfl rfl (by simp only [List.map_toArray, List.map_cons, List.map_nil]; rfl) ?_
 refine (QR.l5_pick.calls p 17 (kk : Int) _ HKK.out).mono ?_
 rintro e w4 ⟨rfl, ⟨nd, rfl⟩⟩
 refine ⟨_, rfl, ?_⟩
 refine hK.out _ _ hbox1 (fun hHeld => ?_)
 clear hK K
 refine norm_ (a' := ?_) ?_ ?_
 rotate_left
 · show Act.put _ (some 45) _ = _
   simp only [Act.put, sqA, sqB, sqC, i64_w, i32_w]
   rfl
 refine one_ (i := 6) (N := some 46) #[tT,tT,tT,tT,tT,tT,tT,fF,fF,fF,fF,fF] rfl rfl (by kernel_rfl) (by decide) (fun K hK => ?_)
 refine goes_ Try.func21 (by kernel_rfl) rfl #[.pointer (some ⟨gb, 0, none⟩), .slice A3 more.length c3, .int .i64 (kk : Int)] (by rfl) rfl rfl (by simp only [List.map_toArray, List.map_cons, List.map_nil]; rfl) ?_
 have hdn : Below w1.heap.size w1 (w1.drew.drewN nd) := below_drew1s nd
 refine ((HA1.out.moved (Hx.of_below hdn gb vh1)).madeMore (HZ1.out.moved hdn) (by have := HN.out; omega) (kk : Int)).mono ?_
 rintro e w2 ⟨vh2, es2, ms2, bd2, b2, rfl, hz2, hx2⟩
 have hx12 := below_hx hdn hx2
 have hbox2 := HZ1.out.blk hx12 hbox1 (by decide) (by decide)
 have HZ2 := sqM hz2
 have HX2 := sqM (HX1.out.trans hx12)
 have HA2 := sqM (HA1.out.moved hx12)
 clear hdn hz2 hx2 hx12
 refine ⟨_, rfl, ?_⟩
 refine hK.out _ _ hbox2 (fun hHeld => ?_)
 clear hK K
 refine norm_ (a' := ?_) ?_ ?_
 rotate_left
 · show Act.put _ (some 46) _ = _
   simp only [Act.put, sqA, sqB, sqC, i64_w, i32_w]
   rfl
 refine pU 7 39 #[tT,tT,tT,tT,tT,tT,tT,tT,fF,fF,fF,fF] ?_
 refine pU 8 47 #[tT,tT,tT,tT,tT,tT,tT,tT,tT,fF,fF,fF] ?_
 refine pU 9 48 #[tT,tT,tT,tT,tT,tT,tT,tT,tT,tT,fF,fF] ?_
 refine pU 10 8 #[tT,tT,tT,tT,tT,tT,tT,tT,tT,tT,tT,fF] ?_
 refine pU 11 9 #[tT,tT,tT,tT,tT,tT,tT,tT,tT,tT,tT,tT] ?_
 refine done_ (by kernel_rfl) ?_
 have y1 := cell_of_row w2 w.heap.size 1 _ _ _ hbox2
 clear hbox1 hHeld
 go_wp2_with (fail)
 refine (HA2.out.made HZ2.out (by have := HN.out; omega) p).mono ?_
 rintro e w3 ⟨vh3, es3, ms3, bd3, b3, rfl, hz3, hx3, _, _, _⟩
 have HZ3 := sqM hz3
 have HX3 := sqM (HX2.out.trans hx3)
 clear hz3 hx3
 go_wp2
 go_ret
 exact ⟨vh3, _, _, _, rfl, HZ3.out.more (by omega), HX3.out⟩
set_option maxHeartbeats 3200000 in
set_option maxRecDepth 100000 in
theorem step2_calls (w0 w : World) (gb : Nat) (vh : Value) (es : List He) (ms : List (List (List Int))) (bd : List (Nat × Nat)) (N : Nat) (p : Int) (A2 A3 A4 A5 : Option Addr) (c2 c3 c4 c5 : Nat) (rows more : List ByteArray) (sizes lost : List Int) (h : Bz w0 w gb vh es ms bd N) (hN : N ≤ 10000000) (hp : -9223372036854775808 ≤ p ∧ p ≤ 9223372036854775807) (ha : StA w gb vh.ownBlock A2 A3 A4 A5 c2 c3 c4 c5 rows more sizes lost) :
    Calls Try.prog 11 #[.pointer (some ⟨gb, 0, none⟩), opV 2 p A2 A3 A4 A5 c2 c3 c4 c5 rows more sizes lost] w fun e w' => ∃ vh' es' ms' bd', e = .returned (.bool true) ∧ Bz w0 w' gb vh' es' ms' bd' (N + 6) ∧ Hx w w' gb vh vh' := by
 obtain ⟨wb, hwb⟩ : ∃ wb, wb = w.alloc (.cells #[.int .i64 2, .int .i64 p, .slice A2 rows.length c2, .slice A3 more.length c3, .slice A4 sizes.length c4, .slice A5 lost.length c5] 32) := ⟨_, rfl⟩
 have hab : Below w.heap.size w wb := by rw [hwb]; exact q02 (Below.refl _ _) _
 have HBOX : Aside0 (wb.heap[w.heap.size]? = some (.cells #[.int .i64 2, .int .i64 p, .slice A2 rows.length c2, .slice A3 more.length c3, .slice A4 sizes.length c4, .slice A5 lost.length c5] 32 (0, 0))) := ⟨by rw [hwb]; exact q0z w _⟩
 have HXB : Aside0 (Hx w wb gb vh vh) := ⟨Hx.of_below hab gb vh⟩
 have HZB := sqM (h.moved hab)
 have HAB := sqM (ha.moved HXB.out)
 have HN := sqM hN
 have HP := sqM hp
 have EWB := sqM hwb
 clear h hN hp ha hab hwb
 unfold opV
 go_enter Try.func11, Try.ntmps11
 go_wp2_with (fail)
 rw [← EWB.out]
 refine (HAB.out.restored HZB.out (by have := HN.out; omega)).mono ?_
 rintro e w1 ⟨vh1, es1, ms1, bd1, rfl, hz1, hx1⟩
 have hbox1 := HZB.out.blk hx1 HBOX.out (by decide) (by decide)
 have HZ1 := sqM hz1
 have HX1 := sqM (HXB.out.trans hx1)
 have HA1 := sqM (HAB.out.moved hx1)
 have y3 := cell_of_row w1 w.heap.size 3 _ _ _ hbox1
 have y4 := cell_of_row w1 w.heap.size 4 _ _ _ hbox1
 have y5 := cell_of_row w1 w.heap.size 5 _ _ _ hbox1
 clear hz1 hx1 hbox1
 go_wp2_with (fail)
 refine (HA1.out.restored HZ1.out (by have := HN.out; omega)).mono ?_
 rintro e w2 ⟨vh2, es2, ms2, bd2, rfl, hz2, hx2⟩
 have HZ2 := sqM hz2
 have HX2 := sqM (HX1.out.trans hx2)
 clear hz2 hx2 y3 y4 y5
 go_wp2
 go_ret
 exact ⟨vh2, _, _, _, rfl, HZ2.out.more (by omega), HX2.out⟩
set_option maxHeartbeats 3200000 in
set_option maxRecDepth 100000 in
theorem step0_calls (w0 w : World) (gb : Nat) (vh : Value) (es : List He) (ms : List (List (List Int))) (bd : List (Nat × Nat)) (N : Nat) (kd p : Int) (A2 A3 A4 A5 : Option Addr) (c2 c3 c4 c5 : Nat) (rows more : List ByteArray) (sizes lost : List Int) (h : Bz w0 w gb vh es ms bd N) (h1 : kd ≠ 1) (h2 : kd ≠ 2) (h3 : kd ≠ 3) (hN : N ≤ 10000000) (hp : -9223372036854775808 ≤ p ∧ p ≤ 9223372036854775807) (ha : StA w gb vh.ownBlock A2 A3 A4 A5 c2 c3 c4 c5 rows more sizes lost) :
    Calls Try.prog 11 #[.pointer (some ⟨gb, 0, none⟩), opV kd p A2 A3 A4 A5 c2 c3 c4 c5 rows more sizes lost] w fun e w' => ∃ vh' es' ms' bd', e = .returned (.bool true) ∧ Bz w0 w' gb vh' es' ms' bd' (N + 6) ∧ Hx w w' gb vh vh' := by
 obtain ⟨wb, hwb⟩ : ∃ wb, wb = w.alloc (.cells #[.int .i64 kd, .int .i64 p, .slice A2 rows.length c2, .slice A3 more.length c3, .slice A4 sizes.length c4, .slice A5 lost.length c5] 32) := ⟨_, rfl⟩
 have hab : Below w.heap.size w wb := by rw [hwb]; exact q02 (Below.refl _ _) _
 have HBOX : Aside0 (wb.heap[w.heap.size]? = some (.cells #[.int .i64 kd, .int .i64 p, .slice A2 rows.length c2, .slice A3 more.length c3, .slice A4 sizes.length c4, .slice A5 lost.length c5] 32 (0, 0))) := ⟨by rw [hwb]; exact q0z w _⟩
 have HXB : Aside0 (Hx w wb gb vh vh) := ⟨Hx.of_below hab gb vh⟩
 have HZB := sqM (h.moved hab)
 have HAB := sqM (ha.moved HXB.out)
 have HN := sqM hN
 have HP := sqM hp
 have EWB := sqM hwb
 clear h hN hp ha hab hwb
 unfold opV
 go_enter Try.func11, Try.ntmps11
 go_wp2_with (fail)
 rw [← EWB.out]
 go_ret
 exact ⟨vh, _, _, _, rfl, HZB.out.more (by omega), HXB.out⟩
theorem mV_rows {rows : List (List Int)} {p : Int} {B : Nat} (hr : ∀ r ∈ rows, r.length ≤ B) : (mV rows p).length ≤ 16 ∧ ∀ r ∈ mV rows p, r.length ≤ B := by
 unfold mV
 split
 · exact ⟨Nat.zero_le _, fun r h => absurd h List.not_mem_nil⟩
 ·
  unfold Rv.makeV
  split
  · refine ⟨by rw [q2b]; omega, fun r h => ?_⟩
    rw [madeL_row _ _ r h]
    exact wideN_le (fun x hx => by obtain ⟨r, hr', rfl⟩ := List.mem_map.1 hx; exact hr r hr')
  · exact ⟨Nat.zero_le _, fun r h => absurd h List.not_mem_nil⟩
theorem texts_l0 (l : List (List Int)) (hl : l.length ≤ 1000) : ∀ (d i k : Nat), i + d = l.length → d + 1 ≤ k → QR.l5_texts.l0 k l (strs (l.take i)) (i : Int) = some (strs l) := by
 intro d
 induction d with
 | zero =>
  intro i k hi hk
  obtain ⟨k, rfl⟩ : ∃ m, k = m + 1 := ⟨k - 1, by omega⟩
  rw [QR.l5_texts.l0, if_neg (by omega), List.take_of_length_le (by omega)]
 | succ d ih =>
  intro i k hi hk
  obtain ⟨k, rfl⟩ : ∃ m, k = m + 1 := ⟨k - 1, by omega⟩
  have hlt : i < l.length := by omega
  rw [QR.l5_texts.l0, if_pos (by omega), if_pos (by omega), if_pos (by rw [strs_length, List.length_take]; omega), wr1 hlt (by omega)]
  have e : QR.rd_L2 l (i : Int) = l[i] := by
   show l.getD (i : Int).toNat [] = _
   rw [Int.toNat_natCast, List.getD_eq_getElem?_getD, List.getElem?_eq_getElem hlt]; rfl
  rw [e, ← strs_snoc, ← List.take_succ_eq_append_getElem hlt]
  exact ih (i + 1) k (by omega) (by omega)
theorem texts_f (l : List (List Int)) (hl : l.length ≤ 1000) : QR.l5_texts.f 1001 l = some (strs l) := texts_l0 l hl l.length 0 1001 (by omega) (by omega)
theorem own_grown_ne {w w' : World} {b t sz n b2 t2 sz2 n2 : Nat} {v v2 : Value} {xs xs2 : List Value} (ho : w.ownsRow b t sz v n xs) (h2 : w.ownsRow b2 t2 sz2 v2 n2 xs2) (ht : t ≠ t2) (hg : w.grownBy w' v2.ownBlock) : w'.ownsRow b t sz v n xs :=
 q0t ho fun k e => hg.block k (q0u ho k e) fun e2 => by
  obtain ⟨c1, h1⟩ := q0b ho k e
  obtain ⟨c3, h3⟩ := q0b h2 k e2.symm
  rw [h1] at h3
  injection h3 with h3; injection h3 with _ h3; exact ht h3
def szs (l : List ByteArray) : List Int := l.map fun s => (s.size : Int)
theorem szs_len (l : List ByteArray) : (szs l).length = l.length := List.length_map _
theorem szs_snoc (l : List ByteArray) (s : ByteArray) : szs (l ++ [s]) = szs l ++ [(s.size : Int)] := by simp [szs]
structure Lo (w2 w5 wr : World) (vA : Value) (al : List ByteArray) (vS : Value) (sz : List Int) (vL : Value) (lo : List Int) : Prop where
 below : Below w2.heap.size w2 wr
 all : wr.ownsRow w2.heap.size 9 1 vA al.length (encs Value.string al)
 sz : wr.ownsRow w2.heap.size 3 1 vS sz.length (nums .i64 sz)
 lo : wr.ownsRow w5.heap.size 3 1 vL lo.length (nums .i64 lo)
 b1 : w2.heap.size ≤ w5.heap.size
 b2 : w5.heap.size ≤ wr.heap.size
 sh : ∀ k, vS.ownBlock = some k → k < w5.heap.size
section
variable {g c : Nat} {w2 w5 wr w' : World} {vA vS vL v' : Value} {al : List ByteArray} {sz lo : List Int}
theorem Lo.moved (h : Lo w2 w5 wr vA al vS sz vL lo) (hb : Below wr.heap.size wr w') : Lo w2 w5 w' vA al vS sz vL lo :=
 ⟨q03 h.below h.below.size hb, q07 h.all hb, q07 h.sz hb, q07 h.lo hb, h.b1, Nat.le_trans h.b2 hb.size, h.sh⟩
theorem Lo.app (h : Lo w2 w5 wr vA al vS sz vL lo) {k : Int} (ho : w'.ownsRow w5.heap.size 3 1 v' (lo ++ [k]).length (nums .i64 (lo ++ [k]))) (hb : Below w5.heap.size wr w') (hg : wr.grownBy w' vL.ownBlock) : Lo w2 w5 w' vA al vS sz v' (lo ++ [k]) :=
 ⟨h.below.trans (hb.mono h.b1), own_grown_ne h.all h.lo (by decide) hg, q0t h.sz fun k e => hb.block k (h.sh k e), ho, h.b1, Nat.le_trans h.b2 hb.size, h.sh⟩
theorem encs_setS (l : List ByteArray) (k : Nat) (s : ByteArray) : (encs Value.string l).set k (.string s) = encs Value.string (l.set k s) := by unfold encs; rw [List.map_set]
theorem Lo.cell (h : Lo w2 w5 wr (.slice (some ⟨g, 0, none⟩) al.length c) al vS sz vL lo) {k : Nat} {s : ByteArray} (hk : al[k]? = some s) : wr.cell? ⟨g, k, none⟩ = some (.string s) ∧ wr.frozen? ⟨g, k, none⟩ = false := by
 obtain ⟨cells, hc⟩ := q0b h.all g rfl
 refine ⟨?_, q1q hc k⟩
 have := h.all.cells rfl k (.string s) (by unfold encs; rw [List.getElem?_map, hk]; rfl)
 rw [q1r, Nat.zero_add] at this
 exact this
theorem set_other {w : World} {b g k : Nat} {v : Value} {o : Obj} (h : w.heap[b]? = some o) (hne : b ≠ g) : (w.setCell ⟨g, k, none⟩ v).heap[b]? = some o := (Below.heap_setCell w ⟨g, k, none⟩ v b hne).trans h
theorem Lo.cell' {L : Nat} (h : Lo w2 w5 wr (.slice (some ⟨g, 0, none⟩) L c) al vS sz vL lo) (hL : al.length = L) {k : Nat} {s : ByteArray} (hk : al[k]? = some s) : wr.cell? ⟨g, k, none⟩ = some (.string s) ∧ wr.frozen? ⟨g, k, none⟩ = false := by
 subst hL
 exact h.cell hk
theorem Lo.put (h : Lo w2 w5 wr (.slice (some ⟨g, 0, none⟩) al.length c) al vS sz vL lo) (k : Nat) (s : ByteArray) : Lo w2 w5 (wr.setCell ⟨g, k, none⟩ (.string s)) (.slice (some ⟨g, 0, none⟩) al.length c) (al.set k s) vS sz vL lo := by
 have hg : w2.heap.size ≤ g := q0k h.all g rfl
 obtain ⟨cells, hc⟩ := q0b h.all g rfl
 refine ⟨h.below.setCell hg _, ?_, q1h h.sz (p := ⟨g, k, none⟩) (own_ne h.sz hc (by decide)) _, q1h h.lo (p := ⟨g, k, none⟩) (own_ne h.lo hc (by decide)) _, h.b1, by rw [World.size_setCell]; exact h.b2, h.sh⟩
 have := (h.all.stored k (.string s)).1
 rw [encs_setS] at this
 rw [List.length_set]
 exact this
theorem Lo.put' {L : Nat} (h : Lo w2 w5 wr (.slice (some ⟨g, 0, none⟩) L c) al vS sz vL lo) (hL : al.length = L) (k : Nat) (s : ByteArray) : Lo w2 w5 (wr.setCell ⟨g, k, none⟩ (.string s)) (.slice (some ⟨g, 0, none⟩) L c) (al.set k s) vS sz vL lo := by
 subst hL
 exact h.put k s
end
section
variable {w0 wr W : World} {gb N : Nat} {vh : Value} {es : List He} {ms : List (List (List Int))} {bd : List (Nat × Nat)}
theorem Bz.own (hz : Bz w0 wr gb vh es ms bd N) {b t sz n : Nat} {v : Value} {xs : List Value} (ho : wr.ownsRow b t sz v n xs) (h1 : t ≠ 27) (h2 : t ≠ 60) (hW : q0a wr W gb vh.ownBlock) : W.ownsRow b t sz v n xs :=
 q0t ho fun k e => hW.2 k (q0u ho k e) (fun e2 => by
  obtain ⟨c1, hc1⟩ := q0b ho k e
  have := hz.bq.bh.box
  rw [← e2, hc1] at this
  injection this with this; injection this with _ this; exact h1 this) (fun e2 => by
  obtain ⟨c1, hc1⟩ := q0b ho k e
  obtain ⟨c, hc⟩ := q0b hz.bq.bh.oh k e2.symm
  rw [hc1] at hc
  injection hc with hc; injection hc with _ hc; exact h2 hc)
theorem Bz.readsS (hz : Bz w0 wr gb vh es ms bd N) {b n c : Nat} {A : Option Addr} {al : List ByteArray} (ho : wr.ownsRow b 9 1 (.slice A n c) n (encs Value.string al)) : ∀ W, q0a wr W gb vh.ownBlock → q0j Value.string ByteArray.empty W A n al := fun W hW =>
 own_reads_of' (hz.own ho (by decide) (by decide) hW)
theorem Bz.readsI (hz : Bz w0 wr gb vh es ms bd N) {b c : Nat} {A : Option Addr} {l : List Int} (ho : wr.ownsRow b 3 1 (.slice A l.length c) l.length (nums .i64 l)) : ∀ W, q0a wr W gb vh.ownBlock → Kd.C (Kd.int .i64) W A l.length l := fun W hW =>
 Kd.C_of_reads (d := (0 : Int)) (h1 := fun _ => rfl) (own_reads_of' (enc := Value.int .i64) (d := (0 : Int)) (hz.own ho (by decide) (by decide) hW))
end
abbrev lostS : ByteArray := ⟨#[108, 111, 115, 116]⟩
theorem lostS_size (s : ByteArray) : (s ++ lostS).size = s.size + 4 := by rw [ByteArray.size_append]; rfl
theorem extract_size (s : ByteArray) (j : Nat) : (s.extract 0 j).size ≤ s.size := by rw [ByteArray.size_extract]; omega
theorem set_sizes {al : List ByteArray} {k : Nat} {s : ByteArray} {B : Nat} (h : ∀ x ∈ al, x.size ≤ B) (hs : s.size ≤ B) : ∀ x ∈ al.set k s, x.size ≤ B := fun x hx => by
 rcases List.mem_or_eq_of_mem_set hx with h1 | h1
 · exact h x h1
 · rw [h1]; exact hs
set_option maxHeartbeats 6400000 in
set_option maxRecDepth 100000 in
theorem step3_calls (w0 w : World) (gb : Nat) (vh : Value) (es : List He) (ms : List (List (List Int))) (bd : List (Nat × Nat)) (N : Nat) (p : Int) (A2 A3 A4 A5 : Option Addr) (c2 c3 c4 c5 : Nat) (rows more : List ByteArray) (sizes lost : List Int) (h : Bz w0 w gb vh es ms bd N) (hN : N ≤ 10000000) (hp : -9223372036854775808 ≤ p ∧ p ≤ 9223372036854775807) (ha : StA w gb vh.ownBlock A2 A3 A4 A5 c2 c3 c4 c5 rows more sizes lost) :
    Calls Try.prog 11 #[.pointer (some ⟨gb, 0, none⟩), opV 3 p A2 A3 A4 A5 c2 c3 c4 c5 rows more sizes lost] w fun e w' => ∃ vh' es' ms' bd', e = .returned (.bool true) ∧ Bz w0 w' gb vh' es' ms' bd' (N + 6) ∧ Hx w w' gb vh vh' := by
 obtain ⟨wb, hwb⟩ : ∃ wb, wb = w.alloc (.cells #[.int .i64 3, .int .i64 p, .slice A2 rows.length c2, .slice A3 more.length c3, .slice A4 sizes.length c4, .slice A5 lost.length c5] 32) := ⟨_, rfl⟩
 have hab : Below w.heap.size w wb := by rw [hwb]; exact q02 (Below.refl _ _) _
 have HBOX : Aside0 (wb.heap[w.heap.size]? = some (.cells #[.int .i64 3, .int .i64 p, .slice A2 rows.length c2, .slice A3 more.length c3, .slice A4 sizes.length c4, .slice A5 lost.length c5] 32 (0, 0))) := ⟨by rw [hwb]; exact q0z w _⟩
 have HXB : Aside0 (Hx w wb gb vh vh) := ⟨Hx.of_below hab gb vh⟩
 have HZB := sqM (h.moved hab)
 have HAB := sqM (ha.moved HXB.out)
 have HN := sqM hN
 have HP := sqM hp
 have EWB := sqM hwb
 clear h hN hp ha hab hwb
 unfold opV
 go_enter Try.func11, Try.ntmps11
 obtain ⟨kk, hkk, _⟩ := pick_any p 17 HP.out (by decide)
 have HKK := sqM hkk
 clear hkk
 go_wp2_with (fail)
 rw [← EWB.out]
 refine (QR.l5_pick.calls p 17 (kk : Int) _ HKK.out).mono ?_
 rintro e w4 ⟨rfl, ⟨nd, rfl⟩⟩
 have hdn : Below wb.heap.size wb (wb.drewN nd) := q00 (Below.refl _ _) nd
 have HDN := sqM hdn
 clear hdn
 go_wp2_with (fail)
 refine ((HAB.out.moved (Hx.of_below HDN.out gb vh)).made (HZB.out.moved HDN.out) (by have := HN.out; omega) (kk : Int)).mono ?_
 rintro e w2 ⟨vh2, es2, ms2, bd2, b, rfl, hz2, hx2, hW, hbl, hbc⟩
 obtain ⟨hm16, hmr⟩ := mV_rows (p := (kk : Int)) (bytes_small HAB.out.s2)
 generalize mV (rows.map q0e) (kk : Int) = m at *
 obtain ⟨Ab, nb, cb⟩ := b
 have hbl' : nb = m.length := hbl
 subst hbl'
 have hx2' := below_hx HDN.out hx2
 have hbox2 := HZB.out.blk hx2' HBOX.out (by decide) (by decide)
 have HBOX2 := sqM hbox2
 have HZ2 := sqM hz2
 have HX2 := sqM (HXB.out.trans hx2')
 have HA2 := sqM (HAB.out.moved hx2')
 have HWM := sqM hW
 have HM16 := sqM hm16
 have HMR := sqM hmr
 have HCB : Aside0 (m.length ≤ cb) := ⟨hbc⟩
 clear hz2 hx2 hx2' hbox2 hW hm16 hmr hbc hbl
 show _
 unfold hdV
 go_wp2
 go_loopw [17, 18] (fun v17 v18 wr => ∃ i : Nat, i ≤ rows.length ∧ v18 = .int .i64 (i : Int) ∧ Aside0 (Below w2.heap.size w2 wr) ∧ Aside0 (wr.ownsRow w2.heap.size 3 1 v17 (szs (rows.take i)).length (nums .i64 (szs (rows.take i))))) (fun _ v18 _ => rows.length - (intOf v18).toNat)
 case atStart => exact ⟨0, Nat.zero_le _, rfl, ⟨Below.refl _ _⟩, ⟨own_nil w2 _ 3⟩⟩
 case round =>
  obtain ⟨i, hi, rfl, HBW, HO⟩ := hrel
  by_cases hlt : i < rows.length
  ·
   have HLT := sqM hlt
   have HW1 := sqM (wr1 (i := i) hlt (by have := HA2.out.l2; omega))
   obtain ⟨ad, eA, hcell⟩ := (Kd.reads_of_C (d := ByteArray.empty) (HA2.out.r2 wr (q0a.of_below HBW.out _ _))).2.2 (by omega)
   subst eA
   have x1 := hcell i hlt
   have e1 : rows.getD i ByteArray.empty = rows[i] := by rw [List.getD_eq_getElem?_getD, List.getElem?_eq_getElem hlt]; rfl
   rw [e1] at x1
   have HTK : Aside0 (szs (rows.take (i + 1)) = szs (rows.take i) ++ [((rows[i]).size : Int)]) := ⟨by rw [← szs_snoc, ← List.take_succ_eq_append_getElem hlt]⟩
   have HSL : Aside0 ((szs (rows.take i)).length ≤ 1048576) := ⟨by rw [szs_len, List.length_take]; have := HA2.out.l2; omega⟩
   generalize rows[i] = s at *
   have hii : (i : Int) < (rows.length : Int) := by omega
   clear hlt hi hcell e1
   go_wp2_with (first
    | ((with_reducible refine q05 (b := .append) (xs := #[.tmp 106, .tmp 112]) rfl ?_); at_builtin; refine q0o (w0 := w2) w2.heap.size rfl (.tmp 106) (.tmp 112) 30 3 .i64 8 rfl Try.underlying30 info3 (by decide) u17 (szs (rows.take i)) (s.size : Int) rfl rfl HO.out HBW.out HBW.out.size (by have := HSL.out; omega) ?_; intro v1 w1 ho1 hb1 _ _; have HO1 := sqM ho1; have HB1 := sqM hb1; clear ho1 hb1))
   clear x1
   go_roundw
   case rel => exact ⟨i + 1, HLT.out, by rw [HW1.out], HB1, ⟨by rw [HTK.out]; exact HO1.out⟩⟩
   case measure => exact meas HW1.out HLT.out
  ·
   obtain rfl : i = rows.length := by omega
   rw [List.take_of_length_le (Nat.le_refl _)] at HO
   have HRD : Aside0 (q0j Value.string ByteArray.empty wr A2 rows.length rows) := ⟨Kd.reads_of_C (HA2.out.r2 wr (q0a.of_below HBW.out _ _))⟩
   have HNIL : Aside0 (wr.ownsRow w2.heap.size 9 1 (.slice none 0 0) ([] : List ByteArray).length (encs Value.string [])) := ⟨own_nil wr _ 9⟩
   have HL2 := sqM HA2.out.l2
   clear hlt hi
   go_wp2_with (first
    | ((with_reducible refine q05 (b := .append) (xs := #[.tmp 114, .tmp 115]) rfl ?_); at_builtin; refine q13 (w0 := w2) Value.string ByteArray.empty w2.heap.size rfl (.tmp 114) (.tmp 115) 29 9 (.string ⟨#[]⟩) 16 rfl Try.underlying29 info9' sc1 (by decide) (fun _ => rfl) (.slice none 0 0) [] rows A2 rows.length c2 ?q1 ?q2 HNIL.out HRD.out HBW.out HBW.out.size ?q4 ?_; (case q4 => have := HL2.out; show (0 + rows.length) * 16 ≤ _; omega); (case q1 => rfl); (case q2 => rfl); intro v4 w4 ho4 hb4 hg4 _; have HO4 := sqM ho4; have HB4 := sqM hb4; have HS4 := sqM (own_grown_ne HO.out HNIL.out (by decide) hg4); clear ho4 hb4 hg4))
   refine (QR.l5_texts.calls 1001 Ab cb m (strs m) w4 (HWM.out w4 (q0a.of_below HB4.out _ _)) HCB.out (texts_f m (by have := HM16.out; omega))).mono ?_
   rintro e w5 ⟨vt, rfl, hR, hb5⟩
   obtain ⟨At, ct, rfl, htl, hCt⟩ := Kd.R_reads hR
   have HRT : Aside0 (q0j Value.string ByteArray.empty w5 At (strs m).length (strs m)) := ⟨Kd.reads_of_C hCt⟩
   have HB5 := sqM (q03 HB4.out HB4.out.size hb5)
   have HO5 := sqM (q07 HO4.out hb5)
   have HS5 := sqM (q07 HS4.out hb5)
   have HSTL : Aside0 ((strs m).length ≤ 16) := ⟨by rw [strs_length]; exact HM16.out⟩
   clear hR hb5 htl hCt HNIL HRD HO HBW HO4 HS4
   go_wp2_with (first
    | ((with_reducible refine q05 (b := .append) (xs := #[.tmp 117, .tmp 119]) rfl ?_); at_builtin; refine q13 (w0 := w2) Value.string ByteArray.empty w2.heap.size rfl (.tmp 117) (.tmp 119) 29 9 (.string ⟨#[]⟩) 16 rfl Try.underlying29 info9' sc1 (by decide) (fun _ => rfl) v4 ([] ++ rows) (strs m) At (strs m).length ct ?q1 ?q2 HO5.out HRT.out HB5.out HB5.out.size ?q4 ?_; (case q4 => have := HL2.out; have := HSTL.out; show (([] ++ rows).length + _) * 16 ≤ _; rw [List.nil_append]; omega); (case q1 => rfl); (case q2 => rfl); intro v6 w6 ho6 hb6 hg6 _; have HO6 := sqM ho6; have HB6 := sqM hb6; have HS6 := sqM (own_grown_ne HS5.out HO5.out (by decide) hg6); clear ho6 hb6 hg6))
   obtain ⟨A6, c6, e6⟩ := q0q HO6.out
   subst e6
   obtain ⟨al0, hal0⟩ : ∃ al0, al0 = [] ++ rows ++ strs m := ⟨_, rfl⟩
   rw [← hal0] at HO6 ⊢
   have HALN : Aside0 (al0.length = rows.length + m.length) := ⟨by rw [hal0, List.nil_append, List.length_append, strs_length]⟩
   have HALS : Aside0 (∀ s ∈ al0, s.size ≤ 1048576) := ⟨fun s hs => by
    rw [hal0, List.nil_append] at hs
    rcases List.mem_append.1 hs with hs | hs
    · exact HA2.out.s2 s hs
    · unfold strs at hs
      obtain ⟨r, hr, rfl⟩ := List.mem_map.1 hs
      rw [strOfNums_size]
      exact HMR.out r hr⟩
   obtain ⟨L, hL⟩ : ∃ L, L = al0.length := ⟨_, rfl⟩
   rw [← hL]
   have HLL := sqM hL
   have HLB : Aside0 (L ≤ 1048592) := ⟨by have := HALN.out; have := HL2.out; have := HM16.out; omega⟩
   have HLO : Aside0 (Lo w2 w6 w6 (.slice A6 L c6) al0 u17 (szs rows) (.slice none 0 0) [] ∧ al0.length = L ∧ ([] : List Int).length = 0 ∧ ∀ s ∈ al0, s.size ≤ 1048576 + 4 * 0) := ⟨⟨HB6.out, by rw [hL]; exact HO6.out, HS6.out, own_nil w6 _ 3, HB6.out.size, Nat.le_refl _, fun k e => q0u HS6.out k e⟩, hL.symm, rfl, HALS.out⟩
   clear hal0 hL HO5 HS5 HB5 HRT HO6 HS6
   go_wp2
   go_loopw [20, 21] (fun v20 v21 wr => ∃ (i : Nat) (al : List ByteArray) (lo : List Int), i ≤ lost.length ∧ v21 = .int .i64 (i : Int) ∧ Aside0 (Lo w2 w6 wr (.slice A6 L c6) al u17 (szs rows) v20 lo ∧ al.length = L ∧ lo.length = i ∧ ∀ s ∈ al, s.size ≤ 1048576 + 4 * i)) (fun _ v21 _ => lost.length - (intOf v21).toNat)
   case atStart => exact ⟨0, al0, [], Nat.zero_le _, rfl, HLO⟩
   case round =>
    clear HLO
    obtain ⟨i, al, lo, hi, rfl, HLO⟩ := hrel
    have yb : wr.heap[w.heap.size]? = _ := (HLO.out.1.below.block _ (q0l HBOX2.out)).trans HBOX2.out
    have y4 := cell_of_row wr w.heap.size 4 _ _ _ yb
    have y5 := cell_of_row wr w.heap.size 5 _ _ _ yb
    clear yb
    by_cases hc : i < lost.length ∧ 0 < L
    ·
     obtain ⟨hlt, h0⟩ := hc
     have HLT := sqM hlt
     have HW1 := sqM (wr1 (i := i) hlt (by have := HA2.out.l5; omega))
     have HL0 := sqM h0
     obtain ⟨ad, eA, hcell⟩ := (Kd.reads_of_C (enc := Value.int .i64) (h1 := fun _ => rfl) (d := (0 : Int)) (HA2.out.r5 wr (q0a.of_below HLO.out.1.below _ _))).2.2 (by omega)
     subst eA
     have x1 := hcell i hlt
     have hmem : lost.getD i 0 ∈ lost := getD_mem hlt
     have hrg := HA2.out.i5 _ hmem
     obtain ⟨k, hk, hkL⟩ := pick_any (lost.getD i 0) ((L : Int) + 1) hrg (by omega)
     generalize lost.getD i 0 = y at *
     have HK := sqM hk
     have HKL : Aside0 (k ≤ L) := ⟨by omega⟩
     have hii : (i : Int) < (lost.length : Int) := by omega
     have hL0 : (0 : Int) < (L : Int) := by omega
     have hL1 : wrap64 ((L : Int) + 1) = (L : Int) + 1 := by have := HLB.out; unfold wrap64; omega
     clear hlt h0 hi hcell hmem hrg hk hkL
     go_wp2_with (fail)
     refine (QR.l5_pick.calls y ((L : Int) + 1) (k : Int) _ HK.out).mono ?_
     rintro e w7 ⟨rfl, ⟨nd7, rfl⟩⟩
     have HLO7 := sqM (HLO.out.1.moved (q00 (Below.refl _ _) nd7))
     have HLOL : Aside0 (lo.length ≤ 1048576) := ⟨by have := HLO.out.2.2.1; have := HLT.out; have := HA2.out.l5; omega⟩
     clear x1 y4 y5 hL1
     by_cases hkL : k < L
     ·
      obtain ⟨g, eg⟩ := own_some HLO7.out.all HL0.out
      subst eg
      have hkal : k < al.length := by rw [HLO.out.2.1]; exact hkL
      obtain ⟨s, hs⟩ : ∃ s, al[k]? = some s := ⟨_, List.getElem?_eq_getElem hkal⟩
      have HSK := sqM hs
      have HKI := sqM hkL
      have hkI : (k : Int) < (L : Int) := by omega
      have HGB : Aside0 (w.heap.size ≠ g) := ⟨by have := q0k HLO7.out.all g rfl; have := q0l HBOX2.out; omega⟩
      have HSZ : Aside0 (s.size ≤ 1048576 + 4 * i) := ⟨HLO.out.2.2.2 s (List.mem_of_getElem? hs)⟩
      have hnb : ¬ (9223372036854775807 < s.size + 4) := by have := HSZ.out; have := HLT.out; have := HA2.out.l5; omega
      clear hkL hkal hs
      by_cases hz : i < sizes.length
      ·
       have hzi : (i : Int) < (sizes.length : Int) := by omega
       go_wp2_with (first
        | ((with_reducible refine q05 (b := .append) (xs := #[.tmp 142, .tmp 144]) rfl ?_); at_builtin; refine q0o (w0 := wr.drewN nd7) w6.heap.size rfl (.tmp 142) (.tmp 144) 30 3 .i64 8 rfl Try.underlying30 info3 (by decide) u20 lo (k : Int) rfl rfl HLO7.out.lo (Below.refl _ _) HLO7.out.b2 (by have := HLOL.out; omega) ?_; intro v8 w8 ho8 hb8 hg8 _; have HLO8 := sqM (HLO7.out.app ho8 hb8 hg8); obtain ⟨xk, fk⟩ := HLO8.out.cell' HLO.out.2.1 HSK.out; have yb8 : w8.heap[w.heap.size]? = _ := (HLO8.out.below.block _ (q0l HBOX2.out)).trans HBOX2.out; have y4 := fun v : Value => cell_of_row (w8.setCell ⟨g, k, none⟩ v) w.heap.size 4 _ _ _ (set_other yb8 (HGB.out)); clear ho8 hb8 hg8 yb8))
       obtain ⟨w9, hw9⟩ : ∃ w9, w9 = w8.setCell ⟨g, k, none⟩ (.string (s ++ lostS)) := ⟨_, rfl⟩
       rw [← hw9]
       have y4b := y4 (.string (s ++ lostS))
       rw [← hw9] at y4b
       have hlo9 := HLO8.out.put' HLO.out.2.1 k (s ++ lostS)
       rw [← hw9] at hlo9
       have hs1z : (s ++ lostS).size = s.size + 4 := lostS_size s
       generalize s ++ lostS = s1 at *
       have hkal : k < al.length := by rw [HLO.out.2.1]; exact HKI.out
       have hget : (al.set k s1)[k]? = some s1 := List.getElem?_set_self hkal
       obtain ⟨x9, f9⟩ := hlo9.cell' (by rw [List.length_set]; exact HLO.out.2.1) hget
       obtain ⟨ad4, eA4, hcell4⟩ := (Kd.reads_of_C (enc := Value.int .i64) (h1 := fun _ => rfl) (d := (0 : Int)) (HA2.out.r4 w9 (q0a.of_below hlo9.below _ _))).2.2 (by omega)
       subst eA4
       have z9 := hcell4 i hz
       have hrg2 := HA2.out.i4 _ (getD_mem (d := 0) hz)
       generalize sizes.getD i 0 = y2 at *
       obtain ⟨j, hj, hjs⟩ := pick_any y2 (s1.size : Int) hrg2 (by omega)
       have HJ := sqM hj
       have HS1 := sqM hs1z
       have HLO9 := sqM hlo9
       have hjb : (j : Int) ≤ (s1.size : Int) := by omega
       have hjb' : j ≤ s1.size := by omega
       have hs1n : ¬ ((s1.size : Int) = 0) := by omega
       clear y4 hw9 hlo9 hs1z hkal hget hcell4 hrg2 hj hjs xk fk hnb hz
       refine q1x (n := 20) (S := fun w' => ∃ n, w' = w9.drewN n) (ds := [19]) #[fF,fF,fF,fF,fF,fF,fF,fF,fF,fF,fF,fF,fF,fF,fF,fF,fF,fF,fF,fF] (by kernel_rfl) rfl rfl ⟨1, rfl⟩ (fun hHeld => ?_)
       refine pU 0 169 #[tT,fF,fF,fF,fF,fF,fF,fF,fF,fF,fF,fF,fF,fF,fF,fF,fF,fF,fF,fF] ?_
       refine pU 1 170 #[tT,tT,fF,fF,fF,fF,fF,fF,fF,fF,fF,fF,fF,fF,fF,fF,fF,fF,fF,fF] ?_
       refine pU 2 171 #[tT,tT,tT,fF,fF,fF,fF,fF,fF,fF,fF,fF,fF,fF,fF,fF,fF,fF,fF,fF] ?_
       refine pU 3 172 #[tT,tT,tT,tT,fF,fF,fF,fF,fF,fF,fF,fF,fF,fF,fF,fF,fF,fF,fF,fF] ?_
       refine pU 4 173 #[tT,tT,tT,tT,tT,fF,fF,fF,fF,fF,fF,fF,fF,fF,fF,fF,fF,fF,fF,fF] ?_
       refine tK 5 174 #[tT,tT,tT,tT,tT,tT,fF,fF,fF,fF,fF,fF,fF,fF,fF,fF,fF,fF,fF,fF] hHeld ?_ (hy := by
        intro w' hS
        obtain ⟨z, rfl⟩ := hS
        go_simp
        with_reducible rfl)
       refine pU 6 175 #[tT,tT,tT,tT,tT,tT,tT,fF,fF,fF,fF,fF,fF,fF,fF,fF,fF,fF,fF,fF] ?_
       refine tK 7 176 #[tT,tT,tT,tT,tT,tT,tT,tT,fF,fF,fF,fF,fF,fF,fF,fF,fF,fF,fF,fF] hHeld ?_ (hy := by
        intro w' hS
        obtain ⟨z, rfl⟩ := hS
        go_simp
        with_reducible rfl)
       refine pU 8 177 #[tT,tT,tT,tT,tT,tT,tT,tT,tT,fF,fF,fF,fF,fF,fF,fF,fF,fF,fF,fF] ?_
       refine pU 9 178 #[tT,tT,tT,tT,tT,tT,tT,tT,tT,tT,fF,fF,fF,fF,fF,fF,fF,fF,fF,fF] ?_
       refine tK 10 179 #[tT,tT,tT,tT,tT,tT,tT,tT,tT,tT,tT,fF,fF,fF,fF,fF,fF,fF,fF,fF] hHeld ?_ (hy := by
        intro w' hS
        obtain ⟨z, rfl⟩ := hS
        go_simp
        with_reducible rfl)
       refine pU 11 180 #[tT,tT,tT,tT,tT,tT,tT,tT,tT,tT,tT,tT,fF,fF,fF,fF,fF,fF,fF,fF] ?_
       refine pU 12 181 #[tT,tT,tT,tT,tT,tT,tT,tT,tT,tT,tT,tT,tT,fF,fF,fF,fF,fF,fF,fF] ?_
       refine pU 13 182 #[tT,tT,tT,tT,tT,tT,tT,tT,tT,tT,tT,tT,tT,tT,fF,fF,fF,fF,fF,fF] ?_
       refine tK 14 183 #[tT,tT,tT,tT,tT,tT,tT,tT,tT,tT,tT,tT,tT,tT,tT,fF,fF,fF,fF,fF] hHeld ?_ (hy := by
        intro w' hS
        obtain ⟨z, rfl⟩ := hS
        go_simp
        with_reducible rfl)
       refine pU 15 184 #[tT,tT,tT,tT,tT,tT,tT,tT,tT,tT,tT,tT,tT,tT,tT,tT,fF,fF,fF,fF] ?_
       refine one_ (i := 16) (N := some 185) #[tT,tT,tT,tT,tT,tT,tT,tT,tT,tT,tT,tT,tT,tT,tT,tT,tT,fF,fF,fF] rfl rfl (by kernel_rfl) (by decide) (fun K hK => ?_)
       refine goes_ Try.func14 (by kernel_rfl) rfl #[.int .i64 y2, .int .i64 (s1.size : Int)] (by rfl) rfl rfl (by simp only [List.map_toArray, List.map_cons, List.map_nil]; rfl) ?_
       refine (QR.l5_pick.calls y2 (s1.size : Int) (j : Int) _ HJ.out).mono ?_
       rintro e w10 ⟨rfl, ⟨nd9, rfl⟩⟩
       refine ⟨_, rfl, ?_⟩
       refine hK.out _ _ ⟨1 + nd9, World.drewN_drewN w9 1 nd9⟩ (fun hHeld => ?_)
       clear hK K
       refine norm_ (a' := ?_) ?_ ?_
       rotate_left
       · show Act.put _ (some 185) _ = _
         simp only [Act.put, sqA, sqB, sqC, i64_w, i32_w]
         rfl
       refine pU 17 186 #[tT,tT,tT,tT,tT,tT,tT,tT,tT,tT,tT,tT,tT,tT,tT,tT,tT,tT,fF,fF] ?_
       refine pU 18 187 #[tT,tT,tT,tT,tT,tT,tT,tT,tT,tT,tT,tT,tT,tT,tT,tT,tT,tT,tT,fF] ?_
       refine last_ (i := 19) (N := none) #[tT,tT,tT,tT,tT,tT,tT,tT,tT,tT,tT,tT,tT,tT,tT,tT,tT,tT,tT,tT] rfl rfl (by kernel_rfl) (by decide) (fun K hK => ?_)
       refine skip_ (w1 := ?_) (by rfl) rfl ?_ ?_
       rotate_left
       · go_simp
         rfl
       refine hK.out _ _ ?_
       clear hK K
       refine done_ (by kernel_rfl) ?_
       have hx10 := (HLO9.out.moved (q00 (Below.refl _ _) (1 + nd9))).put' (by rw [List.length_set]; exact HLO.out.2.1) k (s1.extract 0 j)
       have HNX : Aside0 (Lo w2 w6 ((w9.drewN (1 + nd9)).setCell ⟨g, k, none⟩ (.string (s1.extract 0 j))) (.slice (some ⟨g, 0, none⟩) L c6) ((al.set k s1).set k (s1.extract 0 j)) u17 (szs rows) v8 (lo ++ [(k : Int)]) ∧ ((al.set k s1).set k (s1.extract 0 j)).length = L ∧ (lo ++ [(k : Int)]).length = i + 1 ∧ ∀ x ∈ (al.set k s1).set k (s1.extract 0 j), x.size ≤ 1048576 + 4 * (i + 1)) := by
        have hb1 : s1.size ≤ 1048576 + 4 * (i + 1) := by have := HS1.out; have := HSZ.out; omega
        have hb2 := extract_size s1 j
        refine ⟨hx10, by rw [List.length_set, List.length_set]; exact HLO.out.2.1, by rw [List.length_append, HLO.out.2.2.1]; rfl, set_sizes (set_sizes (fun x hx => ?_) hb1) (by omega)⟩
        have := HLO.out.2.2.2 x hx
        omega
       clear hx10 y4b x9 f9 z9
       go_wp2
       go_roundw
       case rel => exact ⟨i + 1, _, _, HLT.out, by rw [HW1.out], HNX⟩
       case measure => exact meas HW1.out HLT.out
      ·
       have hzi : ¬ ((i : Int) < (sizes.length : Int)) := by omega
       go_wp2_with (first
        | ((with_reducible refine q05 (b := .append) (xs := #[.tmp 142, .tmp 144]) rfl ?_); at_builtin; refine q0o (w0 := wr.drewN nd7) w6.heap.size rfl (.tmp 142) (.tmp 144) 30 3 .i64 8 rfl Try.underlying30 info3 (by decide) u20 lo (k : Int) rfl rfl HLO7.out.lo (Below.refl _ _) HLO7.out.b2 (by have := HLOL.out; omega) ?_; intro v8 w8 ho8 hb8 hg8 _; have HLO8 := sqM (HLO7.out.app ho8 hb8 hg8); obtain ⟨xk, fk⟩ := HLO8.out.cell' HLO.out.2.1 HSK.out; have yb8 : w8.heap[w.heap.size]? = _ := (HLO8.out.below.block _ (q0l HBOX2.out)).trans HBOX2.out; have y4 := fun v : Value => cell_of_row (w8.setCell ⟨g, k, none⟩ v) w.heap.size 4 _ _ _ (set_other yb8 (HGB.out)); clear ho8 hb8 hg8 yb8))
       have HNX : Aside0 (Lo w2 w6 (w8.setCell ⟨g, k, none⟩ (.string (s ++ lostS))) (.slice (some ⟨g, 0, none⟩) L c6) (al.set k (s ++ lostS)) u17 (szs rows) v8 (lo ++ [(k : Int)]) ∧ (al.set k (s ++ lostS)).length = L ∧ (lo ++ [(k : Int)]).length = i + 1 ∧ ∀ x ∈ al.set k (s ++ lostS), x.size ≤ 1048576 + 4 * (i + 1)) := by
        have hb1 : (s ++ lostS).size ≤ 1048576 + 4 * (i + 1) := by rw [lostS_size]; have := HSZ.out; omega
        refine ⟨HLO8.out.put' HLO.out.2.1 k _, by rw [List.length_set]; exact HLO.out.2.1, by rw [List.length_append, HLO.out.2.2.1]; rfl, set_sizes (fun x hx => ?_) hb1⟩
        have := HLO.out.2.2.2 x hx
        omega
       go_roundw
       case rel => exact ⟨i + 1, _, _, HLT.out, by rw [HW1.out], HNX⟩
       case measure => exact meas HW1.out HLT.out
     ·
      obtain rfl : k = L := by have := HKL.out; omega
      clear hkL
      by_cases hz : (i : Int) < (sizes.length : Int)
      ·
       go_wp2_with (first
        | ((with_reducible refine q05 (b := .append) (xs := #[.tmp 142, .tmp 144]) rfl ?_); at_builtin; refine q0o (w0 := wr.drewN nd7) w6.heap.size rfl (.tmp 142) (.tmp 144) 30 3 .i64 8 rfl Try.underlying30 info3 (by decide) u20 lo (k : Int) rfl rfl HLO7.out.lo (Below.refl _ _) HLO7.out.b2 (by have := HLOL.out; omega) ?_; intro v8 w8 ho8 hb8 hg8 _; have HLO8 := sqM (HLO7.out.app ho8 hb8 hg8); have yb8 : w8.heap[w.heap.size]? = _ := (HLO8.out.below.block _ (q0l HBOX2.out)).trans HBOX2.out; have y4 := cell_of_row w8 w.heap.size 4 _ _ _ yb8; clear ho8 hb8 hg8 yb8))
       have HNX : Aside0 (Lo w2 w6 w8 (.slice A6 k c6) al u17 (szs rows) v8 (lo ++ [(k : Int)]) ∧ al.length = k ∧ (lo ++ [(k : Int)]).length = i + 1 ∧ ∀ x ∈ al, x.size ≤ 1048576 + 4 * (i + 1)) := ⟨HLO8.out, HLO.out.2.1, by rw [List.length_append, HLO.out.2.2.1]; rfl, fun x hx => by
        have := HLO.out.2.2.2 x hx
        omega⟩
       go_roundw
       case rel => exact ⟨i + 1, _, _, HLT.out, by rw [HW1.out], HNX⟩
       case measure => exact meas HW1.out HLT.out
      ·
       go_wp2_with (first
        | ((with_reducible refine q05 (b := .append) (xs := #[.tmp 142, .tmp 144]) rfl ?_); at_builtin; refine q0o (w0 := wr.drewN nd7) w6.heap.size rfl (.tmp 142) (.tmp 144) 30 3 .i64 8 rfl Try.underlying30 info3 (by decide) u20 lo (k : Int) rfl rfl HLO7.out.lo (Below.refl _ _) HLO7.out.b2 (by have := HLOL.out; omega) ?_; intro v8 w8 ho8 hb8 hg8 _; have HLO8 := sqM (HLO7.out.app ho8 hb8 hg8); have yb8 : w8.heap[w.heap.size]? = _ := (HLO8.out.below.block _ (q0l HBOX2.out)).trans HBOX2.out; have y4 := cell_of_row w8 w.heap.size 4 _ _ _ yb8; clear ho8 hb8 hg8 yb8))
       have HNX : Aside0 (Lo w2 w6 w8 (.slice A6 k c6) al u17 (szs rows) v8 (lo ++ [(k : Int)]) ∧ al.length = k ∧ (lo ++ [(k : Int)]).length = i + 1 ∧ ∀ x ∈ al, x.size ≤ 1048576 + 4 * (i + 1)) := ⟨HLO8.out, HLO.out.2.1, by rw [List.length_append, HLO.out.2.2.1]; rfl, fun x hx => by
        have := HLO.out.2.2.2 x hx
        omega⟩
       go_roundw
       case rel => exact ⟨i + 1, _, _, HLT.out, by rw [HW1.out], HNX⟩
       case measure => exact meas HW1.out HLT.out
    ·
     obtain ⟨As, cs, es17, hcs⟩ := own_slice HLO.out.1.sz
     subst es17
     obtain ⟨Al, cl, es20, hcl⟩ := own_slice HLO.out.1.lo
     subst es20
     obtain ⟨A6', c6', e6', hc6'⟩ := own_slice HLO.out.1.all
     have hc6 : L ≤ c6 := by
      injection e6' with _ e7 e8
      rw [e8, e7]; exact hc6'
     clear e6' hc6'
     have hle : rows.length ≤ L := by have := HALN.out; have := HLL.out; omega
     have hi6 : i ≤ 1048576 := by have := HA2.out.l5; omega
     obtain ⟨i9, hi9, hz9⟩ := Option.map_eq_some_iff.1 info9'
     simp only [Prod.mk.injEq] at hz9
     obtain ⟨A7, kcut, hcut⟩ := print_cut_of (P := Try.prog) Value.string ByteArray.empty 29 9 .i64 Try.underlying29 hi9 hz9.2.1 A6 L c6 rows.length hle
     have REST : Aside0 (∀ W, Below wr.heap.size wr W → Calls Try.prog 22 #[.pointer (some ⟨gb, 0, none⟩), .slice A6 rows.length c6, .slice As (szs rows).length cs, .slice A7 (L - rows.length) (c6 - rows.length), .slice Al lo.length cl] W fun e w' => ∃ (vh' : Value) (es' : List He) (ms' : List (List (List Int))) (bd' : List (Nat × Nat)), e = .returned (.bool true) ∧ Bz w0 w' gb vh' es' ms' bd' (N + 4) ∧ Hx w2 w' gb vh2 vh') := ⟨fun W hW => by
      have hb2W := q03 HLO.out.1.below HLO.out.1.below.size hW
      have hzW := HZ2.out.moved hb2W
      have hall := q07 HLO.out.1.all hW
      rw [HLO.out.2.1] at hall
      have hrd := hzW.readsS hall
      have e1 : (al.take rows.length).length = rows.length := by rw [List.length_take, HLO.out.2.1]; omega
      have e2 : (al.drop rows.length).length = L - rows.length := by rw [List.length_drop, HLO.out.2.1]
      have big : ∀ s ∈ al, s.size ≤ 16777216 := fun s hs => by have := HLO.out.2.2.2 s hs; omega
      have hlb := HLB.out
      have hl2 := HL2.out
      have := brest2 hzW (by have := HN.out; omega) (al.take rows.length) (al.drop rows.length) (szs rows) lo A6 As A7 Al c6 cs (c6 - rows.length) cl
       (fun W' hW' => by rw [e1]; exact Kd.C_of_reads (h1 := fun _ => rfl) ((hrd W' hW').take_ rows.length hle)) (by omega) (by omega) (fun s hs => big s (List.mem_of_mem_take hs))
       (hzW.readsI (q07 HLO.out.1.sz hW)) hcs (by rw [szs_len]; omega)
       (fun W' hW' => by rw [e2]; exact Kd.C_of_reads (h1 := fun _ => rfl) (hcut W' al hc6 (hrd W' hW'))) (by omega) (by omega) (fun s hs => big s (List.mem_of_mem_drop hs))
       (hzW.readsI (q07 HLO.out.1.lo hW)) hcl (by have := HLO.out.2.2.1; omega)
      rw [e1, e2] at this
      refine this.mono ?_
      rintro e w' ⟨vh', es', ms', bd', a1, a2, a3⟩
      exact ⟨vh', es', ms', bd', a1, a2, below_hx hb2W a3⟩⟩
     have hmin : min (rows.length : Int) (L : Int) = (rows.length : Int) := Int.min_eq_left (by omega)
     have hrl : (rows.length : Int) ≤ (L : Int) := by omega
     have hrc : (L : Int) ≤ (c6 : Int) := by omega
     have hrl' : rows.length ≤ L := hle
     have hrc' : rows.length ≤ c6 := Nat.le_trans hle hc6
     clear hcs hcl hc6 hi6 hi9 hz9 hcut
     rcases Nat.lt_or_ge i lost.length with hlt | hge
     ·
      have h0 : ¬ 0 < L := fun h => hc ⟨hlt, h⟩
      have hii : (i : Int) < (lost.length : Int) := by omega
      clear hc hi hlt
      go_wp2
      refine q1x (n := 11) (S := fun w' => True) (ds := []) #[fF,fF,fF,fF,fF,fF,fF,fF,fF,fF,fF] (by kernel_rfl) rfl rfl trivial (fun hHeld => ?_)
      refine pU 0 193 #[tT,fF,fF,fF,fF,fF,fF,fF,fF,fF,fF] ?_
      refine pU 1 194 #[tT,tT,fF,fF,fF,fF,fF,fF,fF,fF,fF] ?_
      refine pU 2 195 #[tT,tT,tT,fF,fF,fF,fF,fF,fF,fF,fF] ?_
      refine pU 3 196 #[tT,tT,tT,tT,fF,fF,fF,fF,fF,fF,fF] ?_
      refine pU 4 197 #[tT,tT,tT,tT,tT,fF,fF,fF,fF,fF,fF] ?_
      refine pU 5 198 #[tT,tT,tT,tT,tT,tT,fF,fF,fF,fF,fF] ?_
      refine pU 6 199 #[tT,tT,tT,tT,tT,tT,tT,fF,fF,fF,fF] ?_
      refine pU 7 200 #[tT,tT,tT,tT,tT,tT,tT,tT,fF,fF,fF] ?_
      refine pU 8 201 #[tT,tT,tT,tT,tT,tT,tT,tT,tT,fF,fF] ?_
      refine one_ (i := 9) (N := some 202) #[tT,tT,tT,tT,tT,tT,tT,tT,tT,tT,fF] rfl rfl (by kernel_rfl) (by decide) (fun K hK => ?_)
      refine goes_ Try.func22 (by kernel_rfl) rfl #[.pointer (some ⟨gb, 0, none⟩), .slice A6 rows.length c6, .slice As (szs rows).length cs, .slice A7 (L - rows.length) (c6 - rows.length), .slice Al lo.length cl] (by rfl) rfl rfl (by simp only [List.map_toArray, List.map_cons, List.map_nil]; rfl) ?_
      refine (REST.out _ (q06 (Below.refl _ _))).mono ?_
      rintro e w9 ⟨vh9, es9, ms9, bd9, rfl, hz9, hx9⟩
      have HZ9 := sqM hz9
      have HX9 := sqM (HX2.out.trans hx9)
      clear hz9 hx9
      refine ⟨_, rfl, ?_⟩
      refine hK.out _ _ trivial (fun hHeld => ?_)
      clear hK K
      refine norm_ (a' := ?_) ?_ ?_
      rotate_left
      · show Act.put _ (some 202) _ = _
        simp only [Act.put, sqA, sqB, sqC, i64_w, i32_w]
        rfl
      refine pU 10 24 #[tT,tT,tT,tT,tT,tT,tT,tT,tT,tT,tT] ?_
      refine done_ (by kernel_rfl) ?_
      clear hHeld kcut hmin hrl hrc hrl' hrc'
      go_wp2
      go_ret
      exact ⟨vh9, _, _, _, rfl, HZ9.out.more (by omega), HX9.out⟩
     ·
      have hii : ¬ ((i : Int) < (lost.length : Int)) := by omega
      clear hc hi
      go_wp2
      refine q1x (n := 11) (S := fun w' => True) (ds := []) #[fF,fF,fF,fF,fF,fF,fF,fF,fF,fF,fF] (by kernel_rfl) rfl rfl trivial (fun hHeld => ?_)
      refine pU 0 193 #[tT,fF,fF,fF,fF,fF,fF,fF,fF,fF,fF] ?_
      refine pU 1 194 #[tT,tT,fF,fF,fF,fF,fF,fF,fF,fF,fF] ?_
      refine pU 2 195 #[tT,tT,tT,fF,fF,fF,fF,fF,fF,fF,fF] ?_
      refine pU 3 196 #[tT,tT,tT,tT,fF,fF,fF,fF,fF,fF,fF] ?_
      refine pU 4 197 #[tT,tT,tT,tT,tT,fF,fF,fF,fF,fF,fF] ?_
      refine pU 5 198 #[tT,tT,tT,tT,tT,tT,fF,fF,fF,fF,fF] ?_
      refine pU 6 199 #[tT,tT,tT,tT,tT,tT,tT,fF,fF,fF,fF] ?_
      refine pU 7 200 #[tT,tT,tT,tT,tT,tT,tT,tT,fF,fF,fF] ?_
      refine pU 8 201 #[tT,tT,tT,tT,tT,tT,tT,tT,tT,fF,fF] ?_
      refine one_ (i := 9) (N := some 202) #[tT,tT,tT,tT,tT,tT,tT,tT,tT,tT,fF] rfl rfl (by kernel_rfl) (by decide) (fun K hK => ?_)
      refine goes_ Try.func22 (by kernel_rfl) rfl #[.pointer (some ⟨gb, 0, none⟩), .slice A6 rows.length c6, .slice As (szs rows).length cs, .slice A7 (L - rows.length) (c6 - rows.length), .slice Al lo.length cl] (by rfl) rfl rfl (by simp only [List.map_toArray, List.map_cons, List.map_nil]; rfl) ?_
      refine (REST.out _ (q06 (Below.refl _ _))).mono ?_
      rintro e w9 ⟨vh9, es9, ms9, bd9, rfl, hz9, hx9⟩
      have HZ9 := sqM hz9
      have HX9 := sqM (HX2.out.trans hx9)
      clear hz9 hx9
      refine ⟨_, rfl, ?_⟩
      refine hK.out _ _ trivial (fun hHeld => ?_)
      clear hK K
      refine norm_ (a' := ?_) ?_ ?_
      rotate_left
      · show Act.put _ (some 202) _ = _
        simp only [Act.put, sqA, sqB, sqC, i64_w, i32_w]
        rfl
      refine pU 10 24 #[tT,tT,tT,tT,tT,tT,tT,tT,tT,tT,tT] ?_
      refine done_ (by kernel_rfl) ?_
      clear hHeld kcut hmin hrl hrc hrl' hrc'
      go_wp2
      go_ret
      exact ⟨vh9, _, _, _, rfl, HZ9.out.more (by omega), HX9.out⟩
end Go.Proofs.Ytdhajlkiiphlfaa.Par
