/- A part of the proof of ParityPlays: see the text's theorems. No conditions beyond their own. -/
import Derived.Test.YtdhajlkiiphlfaaYc
import Derived.Test.YtdhajlkiiphlfaaYb
import Derived.WalkMore
import Derived.Test.YtdhajlkiiphlfaaProg
import Derived.Below
import Derived.Deep.Draws
import Derived.Deep.AppendLies
import Derived.Maps.AppendAt
import Derived.OwnWalk
import Derived.Laws.BytesArg
import Derived.Laws.MakeOwn
import Derived.Laws.OwnMore
import Derived.Deep.OwnRows
import Derived.Tactics
import Derived.Lib.ConvBytes
import Derived.Laws.Slices
import Derived.WalkKit
import Derived.KernelRfl
import Derived.RowKit3
import Derived.Deep.LoopGhost
import Derived.Deep.QuietTactic
import Derived.BigQuiet
import Derived.WideLaws
import Derived.Deep.DeepCutAuto
import Derived.Deep.CutBlock
import Derived.Deep.RegionHeld3
import Derived.Laws.Rows
import Derived.Lib.AppendStr
import Derived.ArgAppend
import Derived.Laws.IdiomCopy
import Derived.OrdersHeld
import Derived.Laws.BitsLemmas
import Derived.RowKit
import Derived.Test.YtdhajlkiiphlfaaYa
set_option linter.unusedVariables false
set_option linter.unusedSimpArgs false
namespace Go.Proofs.Ytdhajlkiiphlfaa.QR
open Go.RowKit Go.Proofs.YtdhajlkiiphlfaaW.PrintWords Go.Proofs.YtdhajlkiiphlfaaW.PrintLast Go.Proofs.YtdhajlkiiphlfaaW.PrintMore
attribute [local go_sem] q1c q1d q1y q1z q0v q0w q1e q1f
mutual
def r5_Make.j0 : Nat → List (List Int) → Int → Bool → Option ((List (List Int)) × Int)
 | 0, _, _, _ => none
 | k + 1, x0, x1, x20 => if x20 = true then (some (([] : List (List Int)), 51)) else (r5_Make.l0 k x0 x1 0 0)
def r5_Make.l0 : Nat → List (List Int) → Int → Int → Int → Option ((List (List Int)) × Int)
 | 0, _, _, _, _ => none
 | k + 1, x0, x1, x6, x7 => if x7 < (x0.length : Int) then (if 0 ≤ x7 then (if ((rd_L2 x0 x7).length : Int) > 16777216 then (some (([] : List (List Int)), 52)) else (r5_Make.l0 k x0 x1 (mx x6 ((rd_L2 x0 x7).length : Int)) (wrap64 (x7 + 1)))) else (none)) else (r5_Make.l1 k x0 x1 x6 ([] : List (List Int)) 0)
def r5_Make.l1 : Nat → List (List Int) → Int → Int → List (List Int) → Int → Option ((List (List Int)) × Int)
 | 0, _, _, _, _, _ => none
 | k + 1, x0, x1, x6, x8, x9 => if x9 < x1 then ((r5_row.f k x0 x9 x6).bind fun t228 => (if x8.length < 5864062014805 then (r5_Make.l1 k x0 x1 x6 (x8 ++ [t228]) (wrap64 (x9 + 1))) else (none))) else (some (x8, 0))
end
def r5_Make.f (k : Nat) (l0 : List (List Int)) (a1 : Int) : Option ((List (List Int)) × Int) := if (l0.length : Int) > 200 then (r5_Make.j0 k l0 a1 true) else (if a1 < 0 then (r5_Make.j0 k l0 a1 true) else (r5_Make.j0 k l0 a1 (decide (a1 > 16))))
set_option maxHeartbeats 8000000 in
set_option maxRecDepth 100000 in
theorem r5_Make.calls (k : Nat) (A0 : Option Addr) (c0 : Nat) (l0 : List (List Int)) (a1 : Int) (r1 : List (List Int)) (r2 : Int) (w : World) (hr0 : Kd.C (Kd.slice 5 (Kd.int .u8)) w A0 l0.length l0) (hc0 : l0.length ≤ c0) (h : r5_Make.f k l0 a1 = some (r1, r2)) :
    Calls Try.prog 39 #[.slice A0 l0.length c0, .int .i64 a1] w fun e w' => ∃ v0_ : Value, e = .returned (.tuple #[v0_, .int .i64 r2]) ∧ Kd.S (Kd.slice 5 (Kd.int .u8)) 41 w' w.heap.size (fun _ => True) v0_ r1 ∧ Below w.heap.size w w' := by
 have HR0 := sqM hr0
 have HC0 := sqM hc0
 clear hr0 hc0
 have HB := sqM (Below.refl w.heap.size w)
 have H : (if (l0.length : Int) > 200 then (r5_Make.j0 k l0 a1 true) else (if a1 < 0 then (r5_Make.j0 k l0 a1 true) else (r5_Make.j0 k l0 a1 (decide (a1 > 16))))) = some (r1, r2) := h
 clear h
 have HC3 := sqM H
 clear H
 go_enter Try.func39, Try.ntmps39
 go_upto_region 1 with (fail)
 go_cut [20] (fun v20 wc => ∃ (kq : Nat) (x20_2 : Bool), v20 = .bool x20_2 ∧ Aside0 (r5_Make.j0 kq l0 a1 x20_2 = some (r1, r2)) ∧ Aside0 (kq ≤ k) ∧ Aside0 (Below w.heap.size w wc))
 case first =>
  have H := HC3.out
  clear HC3
  by_cases c4 : (l0.length : Int) > 200
  ·
   rw [if_pos c4] at H
   have c4b0 : decide (200 < (l0.length : Int)) = true := decide_eq_true c4
   have c4b1 : decide (200 < l0.length) = true := decide_eq_true (by omega)
   clear c4
   (skip)
   have H' := sqM H
   clear H
   go_wp2
   go_meet
   case rel => exact ⟨_, (true), (by rfl), H', ⟨by omega⟩, ⟨by repeat ((with_reducible (exact HB.out)))⟩⟩
  ·
   rw [if_neg c4] at H
   have c4b0 : decide (200 < (l0.length : Int)) = false := decide_eq_false c4
   have c4b1 : decide (200 < l0.length) = false := decide_eq_false (by omega)
   clear c4
   (skip)
   by_cases c5 : a1 < 0
   ·
    rw [if_pos c5] at H
    have c5b0 : decide (a1 < 0) = true := decide_eq_true c5
    clear c5
    have H' := sqM H
    clear H
    go_wp2
    go_meet
    case rel => exact ⟨_, (true), (by rfl), H', ⟨by omega⟩, ⟨by repeat ((with_reducible (exact HB.out)))⟩⟩
   ·
    rw [if_neg c5] at H
    have c5b0 : decide (a1 < 0) = false := decide_eq_false c5
    clear c5
    have H' := sqM H
    clear H
    go_wp2
    go_meet
    case rel => exact ⟨_, (decide (a1 > 16)), (by rfl), H', ⟨by omega⟩, ⟨by repeat ((with_reducible (exact HB.out)))⟩⟩
 case rest =>
  clear HC3
  obtain ⟨kq, x20_2, rfl, HA, HJ2, HB⟩ := hcut
  cases kq with
  | zero => exact absurd HA.out (by simp [r5_Make.j0])
  | succ kj2 =>
   have H := HA.out
   clear HA
   simp only [r5_Make.j0] at H
   by_cases c6 : x20_2 = true
   ·
    subst c6
    have H1 : (some (([] : List (List Int)), 51)) = some (r1, r2) := by rw [if_pos rfl] at H; exact H
    clear H
    have H := H1
    clear H1
    simp only [Option.some.injEq, Prod.mk.injEq] at H
    obtain ⟨rfl, rfl⟩ := H
    go_wp2
    go_ret2
    exact ⟨_, by rfl, by exact Kd.S_nil _ _ _ _ _, by repeat ((with_reducible (exact HB.out)))⟩
   ·
    replace c6 := Bool.eq_false_iff.mpr c6
    subst c6
    have H1 : (r5_Make.l0 kj2 l0 a1 0 0) = some (r1, r2) := by rw [if_neg (show ¬ (false = true) by decide)] at H; exact H
    clear H
    have H := H1
    clear H1
    have H' := sqM H
    clear H
    go_wp2
    go_loopg [6, 7] kj2 (fun kq v6 v7 w' => ∃ (x6_2 : Int) (x7_2 : Int), v6 = .int .i64 x6_2 ∧ v7 = .int .i64 x7_2 ∧ Aside0 (r5_Make.l0 kq l0 a1 x6_2 x7_2 = some (r1, r2)) ∧ Aside0 (kq ≤ kj2) ∧ Aside0 (Below w.heap.size w w'))
    case atStart => exact ⟨(0), (0), (by rfl), (by rfl), H', ⟨Nat.le_refl _⟩, ⟨by repeat ((with_reducible (exact HB.out)))⟩⟩
    case round =>
     clear H'
     obtain ⟨x6_2, x7_2, rfl, rfl, HA, HK2, HB⟩ := hrel
     cases gk with
     | zero => exact absurd HA.out (by simp [r5_Make.l0])
     | succ k2 =>
      have H := HA.out
      clear HA
      simp only [r5_Make.l0] at H
      by_cases c7 : x7_2 < (l0.length : Int)
      ·
       rw [if_pos c7] at H
       have c7b0 : decide (x7_2 < (l0.length : Int)) = true := decide_eq_true c7
       clear c7
       by_cases c8 : 0 ≤ x7_2
       ·
        rw [if_pos c8] at H
        have c8b0 : decide (0 ≤ x7_2) = true := decide_eq_true c8
        clear c8
        by_cases c9 : ((rd_L2 l0 x7_2).length : Int) > 16777216
        ·
         rw [if_pos c9] at H
         have c9b0 : decide (16777216 < ((rd_L2 l0 x7_2).length : Int)) = true := decide_eq_true c9
         have c9b1 : decide (16777216 < (rd_L2 l0 x7_2).length) = true := decide_eq_true (by omega)
         clear c9
         simp only [Option.some.injEq, Prod.mk.injEq] at H
         obtain ⟨rfl, rfl⟩ := H
         have p226 : 0 ≤ (x7_2 : Int) := of_decide_eq_true (by (with_reducible assumption))
         have q226 : x7_2 < (l0.length : Int) := of_decide_eq_true (by (with_reducible assumption))
         obtain ⟨ad226, A226_0, c226_0, e226, hx226_0, hl226_0, hi226_0⟩ := at_L2 HR0.out x7_2 p226 q226
         cases e226
         replace hx226_0 := (HB.out.cell (World.block_lt_of_cell? w _ hx226_0)).trans hx226_0
         have HR226_0 := sqM hi226_0
         have HC226_0 := sqM hl226_0
         clear hi226_0 hl226_0
         replace p226 := eq_true p226
         replace q226 := eq_true q226
         go_wp2
         go_ret2
         exact ⟨_, by rfl, by exact Kd.S_nil _ _ _ _ _, by repeat ((with_reducible (exact HB.out)))⟩
        ·
         rw [if_neg c9] at H
         have c9b0 : decide (16777216 < ((rd_L2 l0 x7_2).length : Int)) = false := decide_eq_false c9
         have c9b1 : decide (16777216 < (rd_L2 l0 x7_2).length) = false := decide_eq_false (by omega)
         clear c9
         obtain ⟨ji10, hji10⟩ : ∃ j_ : Int, (mx x6_2 ((rd_L2 l0 x7_2).length : Int)) = j_ := ⟨_, rfl⟩
         replace H : (r5_Make.l0 k2 l0 a1 ji10 (wrap64 (x7_2 + 1))) = some (r1, r2) := by (rw [hji10] at H; exact H)
         have hji10_ : (if x6_2 < ((rd_L2 l0 x7_2).length : Int) then ((rd_L2 l0 x7_2).length : Int) else x6_2) = ji10 := hji10
         have H' := sqM H
         clear H
         have p226 : 0 ≤ (x7_2 : Int) := of_decide_eq_true (by (with_reducible assumption))
         have q226 : x7_2 < (l0.length : Int) := of_decide_eq_true (by (with_reducible assumption))
         obtain ⟨ad226, A226_0, c226_0, e226, hx226_0, hl226_0, hi226_0⟩ := at_L2 HR0.out x7_2 p226 q226
         cases e226
         replace hx226_0 := (HB.out.cell (World.block_lt_of_cell? w _ hx226_0)).trans hx226_0
         have HR226_0 := sqM hi226_0
         have HC226_0 := sqM hl226_0
         clear hi226_0 hl226_0
         replace p226 := eq_true p226
         replace q226 := eq_true q226
         have p227 : 0 ≤ (x7_2 : Int) := of_decide_eq_true (by (with_reducible assumption))
         have q227 : x7_2 < (l0.length : Int) := of_decide_eq_true (by (with_reducible assumption))
         obtain ⟨ad227, A227_0, c227_0, e227, hx227_0, hl227_0, hi227_0⟩ := at_L2 HR0.out x7_2 p227 q227
         obtain rfl : ad226 = ad227 := (by injection e227)
         replace hx227_0 := (HB.out.cell (World.block_lt_of_cell? w _ hx227_0)).trans hx227_0
         have HR227_0 := sqM hi227_0
         have HC227_0 := sqM hl227_0
         clear hi227_0 hl227_0
         replace p227 := eq_true p227
         replace q227 := eq_true q227
         have ea_ := Option.some.inj (hx226_0.symm.trans hx227_0)
         injection ea_ with ea_ en_ ec_
         subst ea_
         subst ec_
         clear en_
         go_wp2
         go_roundg k2
         case measure => have := HJ2.out; have := HK2.out; omega
         case rel => exact ⟨(ji10), (wrap64 (x7_2 + 1)), (by rfl), (by rfl), H', ⟨by have := HJ2.out; have := HK2.out; omega⟩, ⟨by repeat ((with_reducible (exact HB.out)))⟩⟩
       · rw [if_neg c8] at H
         exact absurd H (by simp)
      ·
       rw [if_neg c7] at H
       have c7b0 : decide (x7_2 < (l0.length : Int)) = false := decide_eq_false c7
       clear c7
       have H' := sqM H
       clear H
       go_wp2
       go_loopg [8, 9] k2 (fun kq v8 v9 w' => ∃ (x8_3 : List (List Int)) (x9_3 : Int), v9 = .int .i64 x9_3 ∧ Aside0 (r5_Make.l1 kq l0 a1 x6_2 x8_3 x9_3 = some (r1, r2)) ∧ Aside0 (kq ≤ k2) ∧ Aside0 (Kd.S (Kd.slice 5 (Kd.int .u8)) 41 w' w.heap.size (fun _ => True) v8 x8_3) ∧ Aside0 (Below w.heap.size w w'))
       case atStart => exact ⟨(([] : List (List Int))), (0), (by rfl), H', ⟨Nat.le_refl _⟩, ⟨by exact Kd.S_nil _ _ _ _ _⟩, ⟨by repeat ((with_reducible (exact HB.out)))⟩⟩
       case round =>
        clear H'
        try clear c7b0
        obtain ⟨x8_3, x9_3, rfl, HA, HK3, HO_8, HB⟩ := hrel
        cases gk with
        | zero => exact absurd HA.out (by simp [r5_Make.l1])
        | succ k3 =>
         have H := HA.out
         clear HA
         simp only [r5_Make.l1] at H
         by_cases c11 : x9_3 < a1
         ·
          rw [if_pos c11] at H
          have c11b0 : decide (x9_3 < a1) = true := decide_eq_true c11
          clear c11
          replace H := Option.bind_eq_some_iff.mp H
          obtain ⟨t228, A120, H⟩ := H
          replace H : (if x8_3.length < 5864062014805 then (r5_Make.l1 k3 l0 a1 x6_2 (x8_3 ++ [t228]) (wrap64 (x9_3 + 1))) else (none)) = some (r1, r2) := H
          have A12 := sqM A120
          clear A120
          by_cases c13 : x8_3.length < 5864062014805
          · rw [if_pos c13] at H
            have LMc13 := sqM c13
            clear c13
            obtain ⟨y231, hy231⟩ : ∃ y_ : List (List Int), y_ = (x8_3 ++ [t228]) := ⟨_, rfl⟩
            replace H : (r5_Make.l1 k3 l0 a1 x6_2 y231 (wrap64 (x9_3 + 1))) = some (r1, r2) := by (rw [hy231]; with_reducible exact H)
            have Ny231 := sqM hy231
            clear hy231
            have H' := sqM H
            clear H
            go_wp2_with (first | ((with_reducible refine q09 (f := 52) rfl ?_); refine q1p (some 49) rfl rfl Try.func52 (by kernel_rfl) rfl #[.slice A0 l0.length c0, .int .i64 x9_3, .int .i64 x6_2] rfl (by (try simp only [List.map_toArray, List.map_cons, List.map_nil]); (rfl)) ?_; (with_reducible refine (r5_row.calls k3 _ _ l0 x9_3 x6_2 t228 _ ?side1 ?side2 A12.out).mono ?_); (case side1 => repeat (exact (Kd.C_below HR0.out HB.out))); (case side2 => exact HC0.out); rintro e w14 ⟨v229, rfl, ho0, hb⟩; refine ⟨_, rfl, ?_⟩; have n0_ := sqM (Kd.S_elder' (by (with_reducible repeat (first | apply Kd.S_alloc | apply Kd.S_drewN | apply Kd.S_drew)); exact HO_8.out) (Kd.R_base ho0) hb); have n1_ := sqM (Kd.R_lower ho0 (q01 (by repeat ((with_reducible (exact HB.out)))))); have n2_ := sqM (q04 (by repeat ((with_reducible (exact HB.out)))) hb); clear HO_8; clear HB; have HO_8 := n0_; have HO230 := n1_; have HB := n2_; clear n0_ n1_ n2_; (try clear hb); (try clear ho0); obtain ⟨Ao16, co16, eo16⟩ := Kd.R_slice HO230.out; subst eo16) | ((with_reducible refine q05 (b := .append) (xs := #[.tmp 45, .tmp 50]) rfl ?_); at_builtin; refine Kd.S_append (Kd.slice 5 (Kd.int .u8)) (w0 := w) w.heap.size rfl (.tmp 45) (.tmp 50) 35 41 (.slice none 0 0) 24 rfl Try.underlying35 info41 rfl (by decide) (by omega) u8 x8_3 t228 [.slice Ao16 t228.length co16] (fun _ => True) (fun k_ => some k_ = (.slice Ao16 t228.length co16 : Value).ownBlock) rfl rfl ?aP (fun k_ hk_ => ((Kd.R_mono (ok' := fun k_ => ((fun _ => True)) k_ ∧ some k_ ≠ (u8 : Value).ownBlock) (Kd.R_apart' (HO230.out) (Kd.S_typed HO_8.out) (by decide)) (fun k_ hk => ⟨trivial, hk.2⟩))).1 k_ hk_.symm) ?aF ?aO ?aB ?aS ?aL ?_; (case aP => exact Kd.M_row (Kd.R_mono (Kd.R_tight rfl (Kd.R_mono (ok' := fun k_ => ((fun _ => True)) k_ ∧ some k_ ≠ (u8 : Value).ownBlock) (Kd.R_apart' (HO230.out) (Kd.S_typed HO_8.out) (by decide)) (fun k_ hk => ⟨trivial, hk.2⟩))) (fun _ h_ => h_))); (case aB => exact (by repeat ((with_reducible (exact HB.out))))); (case aF => exact (fun _ _ => trivial)); (case aO => exact (by (with_reducible repeat (first | apply Kd.S_alloc | apply Kd.S_drewN | apply Kd.S_drew)); exact Kd.S_mono HO_8.out (fun k_ hk => ⟨trivial, fun e_ => hk.2 e_⟩))); (case aS => exact (q01 (by repeat ((with_reducible (exact HB.out)))))); (case aL => have := LMc13.out; omega); intro v232 w15 ho hb hg hat; rw [← Ny231.out] at ho; have n0_ := sqM (hb); have n1_ := sqM (ho); clear HB; clear HO_8; clear HO230; have HB := n0_; have HO233 := n1_; clear n0_ n1_; clear ho hb hg hat))
            go_roundg k3
            case measure => have := HJ2.out; have := HK2.out; have := HK3.out; omega
            case rel => exact ⟨(y231), (wrap64 (x9_3 + 1)), (by rfl), H', ⟨by have := HJ2.out; have := HK2.out; have := HK3.out; omega⟩, ⟨by (with_reducible repeat (first | apply Kd.S_alloc | apply Kd.S_drewN | apply Kd.S_drew)); exact HO233.out⟩, ⟨by repeat ((with_reducible (exact HB.out)))⟩⟩
          · rw [if_neg c13] at H
            exact absurd H (by simp)
         · rw [if_neg c11] at H
           have c11b0 : decide (x9_3 < a1) = false := decide_eq_false c11
           clear c11
           simp only [Option.some.injEq, Prod.mk.injEq] at H
           obtain ⟨rfl, rfl⟩ := H
           go_wp2
           go_ret2
           exact ⟨_, by rfl, by (with_reducible repeat (first | apply Kd.S_alloc | apply Kd.S_drewN | apply Kd.S_drew)); exact HO_8.out, by repeat ((with_reducible (exact HB.out)))⟩
mutual
def l5_over.l0 : Nat → List ByteArray → List (List Int) → Int → Option ((List (List Int)))
 | 0, _, _, _ => none
 | k + 1, x0, x3, x4 => if x4 < (x0.length : Int) then (if 0 ≤ x4 then (if 0 ≤ ((rdOf ByteArray.empty x0 x4).size : Int) then (if (((rdOf ByteArray.empty x0 x4).size : Int) : Int).toNat ≤ 281474976710656 then (l5_over.l1 k x0 x3 x4 (List.replicate (((rdOf ByteArray.empty x0 x4).size : Int) : Int).toNat 0) 0) else (none)) else (none)) else (none)) else (some x3)
def l5_over.l1 : Nat → List ByteArray → List (List Int) → Int → List Int → Int → Option ((List (List Int)))
 | 0, _, _, _, _, _ => none
 | k + 1, x0, x3, x4, x5, x6 => if x6 < (x5.length : Int) then (if 0 ≤ x6 then (l5_over.l1 k x0 x3 x4 (x5.set (x6 : Int).toNat 170) (wrap64 (x6 + 1))) else (none)) else (if x3.length < 5864062014805 then (l5_over.l0 k x0 (x3 ++ [x5]) (wrap64 (x4 + 1))) else (none))
end
def l5_over.f (k : Nat) (l0 : List ByteArray) : Option ((List (List Int))) := l5_over.l0 k l0 ([] : List (List Int)) 0
set_option maxHeartbeats 8000000 in
set_option maxRecDepth 100000 in
theorem l5_over.calls (k : Nat) (A0 : Option Addr) (c0 : Nat) (l0 : List ByteArray) (r : List (List Int)) (w : World) (hr0 : Kd.C Kd.string w A0 l0.length l0) (hc0 : l0.length ≤ c0) (h : l5_over.f k l0 = some r) :
    Calls Try.prog 41 #[.slice A0 l0.length c0] w fun e w' => ∃ v0_ : Value, e = .returned (v0_) ∧ Kd.S (Kd.slice 5 (Kd.int .u8)) 41 w' w.heap.size (fun _ => True) v0_ r ∧ Below w.heap.size w w' := by
 have HR0 := sqM hr0
 have HC0 := sqM hc0
 clear hr0 hc0
 have HB := sqM (Below.refl w.heap.size w)
 have H : (l5_over.l0 k l0 ([] : List (List Int)) 0) = some r := h
 clear h
 have H' := sqM H
 clear H
 go_enter Try.func41, Try.ntmps41
 go_wp2
 go_loopg [3, 4] k (fun kq v3 v4 w' => ∃ (x3_1 : List (List Int)) (x4_1 : Int), v4 = .int .i64 x4_1 ∧ Aside0 (l5_over.l0 kq l0 x3_1 x4_1 = some r) ∧ Aside0 (kq ≤ k) ∧ Aside0 (Kd.S (Kd.slice 5 (Kd.int .u8)) 41 w' w.heap.size (fun _ => True) v3 x3_1) ∧ Aside0 (Below w.heap.size w w'))
 case atStart => exact ⟨(([] : List (List Int))), (0), (by rfl), H', ⟨Nat.le_refl _⟩, ⟨by exact Kd.S_nil _ _ _ _ _⟩, ⟨by repeat ((with_reducible (exact HB.out)))⟩⟩
 case round =>
  clear H'
  obtain ⟨x3_1, x4_1, rfl, HA, HK1, HO_3, HB⟩ := hrel
  cases gk with
  | zero => exact absurd HA.out (by simp [l5_over.l0])
  | succ k1 =>
   have H := HA.out
   clear HA
   simp only [l5_over.l0] at H
   by_cases c2 : x4_1 < (l0.length : Int)
   ·
    rw [if_pos c2] at H
    have c2b0 : decide (x4_1 < (l0.length : Int)) = true := decide_eq_true c2
    clear c2
    by_cases c3 : 0 ≤ x4_1
    ·
     rw [if_pos c3] at H
     have c3b0 : decide (0 ≤ x4_1) = true := decide_eq_true c3
     clear c3
     by_cases c4 : 0 ≤ ((rdOf ByteArray.empty l0 x4_1).size : Int)
     ·
      rw [if_pos c4] at H
      have c4b0 := eq_true c4
      have c4b1 : decide (0 ≤ ((rdOf ByteArray.empty l0 x4_1).size : Int)) = true := decide_eq_true c4
      clear c4
      by_cases c5 : (((rdOf ByteArray.empty l0 x4_1).size : Int) : Int).toNat ≤ 281474976710656
      ·
       rw [if_pos c5] at H
       have c5b0 := eq_true c5
       have c5b1 : decide ((((rdOf ByteArray.empty l0 x4_1).size : Int) : Int).toNat ≤ 281474976710656) = true := decide_eq_true c5
       clear c5
       obtain ⟨y235, hy235⟩ : ∃ y_ : List Int, y_ = (List.replicate (((rdOf ByteArray.empty l0 x4_1).size : Int) : Int).toNat 0) := ⟨_, rfl⟩
       replace H : (l5_over.l1 k1 l0 x3_1 x4_1 y235 0) = some r := by (rw [hy235]; with_reducible exact H)
       have Ny235 := sqM hy235
       clear hy235
       have H' := sqM H
       clear H
       have p234 : 0 ≤ (x4_1 : Int) := of_decide_eq_true (by (with_reducible assumption))
       have q234 : x4_1 < (l0.length : Int) := of_decide_eq_true (by (with_reducible assumption))
       obtain ⟨ad234, e234, hx234_0⟩ := Kd.at_string HR0.out x4_1 p234 q234
       cases e234
       replace hx234_0 := (HB.out.cell (World.block_lt_of_cell? w _ hx234_0)).trans hx234_0
       replace p234 := eq_true p234
       replace q234 := eq_true q234
       go_wp2_with (first | ((with_reducible refine q1t (N := 18) rfl ?_); refine Kd.R_make (Kd.int .u8) _ 5 rfl (N := 18) rfl 41 _ _ rfl ((rdOf ByteArray.empty l0 x4_1).size : Int) rfl rfl Try.underlying41 (.int .u8 0) 1 info5 rfl (by decide) (by omega) 0 (ok := fun _ => True) (okp := fun _ => True) rfl (fun _ hk => hk) trivial (of_decide_eq_true (by (with_reducible assumption))) (Nat.le_trans (Nat.mul_le_mul_right _ (of_decide_eq_true (by (with_reducible assumption)) : ((rdOf ByteArray.empty l0 x4_1).size : Int).toNat ≤ 281474976710656)) (by omega)) (Below.refl _ _) (Nat.le_refl _) ?_; intro v236 w6 ho7 hb hg_ hnew_; clear hg_ hnew_; (rw [← Ny235.out] at ho7); have n0_ := sqM (Kd.S_elder' (by (with_reducible repeat (first | apply Kd.S_alloc | apply Kd.S_drewN | apply Kd.S_drew)); exact HO_3.out) (Kd.R_base ho7) hb); have n1_ := sqM (Kd.R_lower ho7 (q01 (by repeat ((with_reducible (exact HB.out)))))); have n2_ := sqM (q04 (by repeat ((with_reducible (exact HB.out)))) hb); clear HO_3; clear HB; have HO_3 := n0_; have HO237 := n1_; have HB := n2_; clear n0_ n1_ n2_; clear hb ho7))
       go_loopg [6] k1 (fun kq v6 w' => ∃ (x5_2 : List Int) (x6_2 : Int), v6 = .int .i64 x6_2 ∧ Aside0 (l5_over.l1 kq l0 x3_1 x4_1 x5_2 x6_2 = some r) ∧ Aside0 (kq ≤ k1) ∧ Aside0 (Kd.S (Kd.slice 5 (Kd.int .u8)) 41 w' w.heap.size (fun k_ => some k_ ≠ (v236 : Value).ownBlock) u3 x3_1) ∧ Aside0 (Kd.R (Kd.int .u8) 5 w' w.heap.size (fun _ => True) v236 x5_2) ∧ Aside0 (Below w.heap.size w w'))
       case atStart => exact ⟨(y235), (0), (by rfl), H', ⟨Nat.le_refl _⟩, ⟨by (with_reducible repeat (first | apply Kd.S_alloc | apply Kd.S_drewN | apply Kd.S_drew)); exact Kd.S_mono HO_3.out (fun _ hk => hk.2)⟩, ⟨by (with_reducible repeat (first | apply Kd.R_alloc | apply Kd.R_drewN | apply Kd.R_drew)); exact HO237.out⟩, ⟨by repeat ((with_reducible (exact HB.out)))⟩⟩
       case round =>
        clear H'
        try clear c2b0
        try clear c3b0
        try clear c4b0
        try clear c4b1
        try clear c5b0
        try clear c5b1
        try clear hx234_0
        try clear p234
        try clear q234
        obtain ⟨x5_2, x6_2, rfl, HA, HK2, HO_3, HO_5, HB⟩ := hrel
        cases gk with
        | zero => exact absurd HA.out (by simp [l5_over.l1])
        | succ k2 =>
         have H := HA.out
         clear HA
         simp only [l5_over.l1] at H
         by_cases c8 : x6_2 < (x5_2.length : Int)
         ·
          rw [if_pos c8] at H
          have c8b0 : decide (x6_2 < (x5_2.length : Int)) = true := decide_eq_true c8
          clear c8
          by_cases c9 : 0 ≤ x6_2
          ·
           rw [if_pos c9] at H
           have c9b0 : decide (0 ≤ x6_2) = true := decide_eq_true c9
           clear c9
           obtain ⟨y238, hy238⟩ : ∃ y_ : List Int, y_ = (x5_2.set (x6_2 : Int).toNat 170) := ⟨_, rfl⟩
           replace H : (l5_over.l1 k2 l0 x3_1 x4_1 y238 (wrap64 (x6_2 + 1))) = some r := by (rw [hy238]; with_reducible exact H)
           have Ny238 := sqM hy238
           clear hy238
           have H' := sqM H
           clear H
           obtain ⟨Ao11, co11, eo11⟩ := Kd.R_slice HO_5.out
           subst eo11
           have p10 : 0 ≤ (x6_2 : Int) := of_decide_eq_true (by (with_reducible assumption))
           have q10 : (x6_2 : Int) < ((x5_2.length : Int) : Int) := of_decide_eq_true (by (with_reducible assumption))
           obtain ⟨go10, co10, eo10, gb10, gl10, cl10, HG10⟩ := Kd.R_form HO_5.out (by omega)
           (cases eo10)
           have GB10 := sqM gb10
           have GG10 := sqM HG10
           clear gb10 gl10 HG10
           obtain ⟨hx10_0, hf10_0⟩ := Kd.R_celln 0 HO_5.out (x6_2 : Int) p10 q10
           replace p10 := eq_true p10
           replace q10 := eq_true q10
           have HP12 := Kd.R_putg HO_5.out (x6_2 : Int) 170
           go_wp2_with (first | ((with_reducible refine q1j (t := 5) (p := 27) rfl ?_); refine q14 (t := 5) (p := 27) (v := ?vo_w13) (w1 := (wr.setCell ⟨go10, (x6_2 : Int).toNat, none⟩ (.int .u8 170))) ?hg ?ho ?hn ?hr ?_; (case ho => rfl); (case hg => rfl); (case hn => rfl); (case hr => ((go_simp; done))); intro w13 hw; have hg : wr.grownBy w13 (some go10) := (by rw [hw]; exact HP12.2); have hp_ : Kd.R (Kd.int .u8) 5 w13 w.heap.size (fun _ => True) (.slice (some ⟨go10, 0, none⟩) x5_2.length co11) y238 := (by rw [hw, Ny238.out]; exact HP12.1); clear HP12; have n0_ := sqM (Kd.S_after (v := (.slice (some ⟨go10, 0, none⟩) x5_2.length co11)) (v1 := (.slice (some ⟨go10, 0, none⟩) x5_2.length co11)) (ok := (fun _ => True)) (by (with_reducible repeat (first | apply Kd.S_alloc | apply Kd.S_drewN | apply Kd.S_drew)); exact Kd.S_mono HO_3.out (fun _ hk => ⟨trivial, hk⟩)) hg (.inl rfl)); have n1_ := sqM (hp_); have n2_ := sqM ((by rw [hw]; exact q0m (HB.out) GB10.out : Below w.heap.size w w13)); clear HO_3; clear HO_5; clear HB; have HO_3 := n0_; have HO_5 := n1_; have HB := n2_; clear n0_ n1_ n2_; clear hg hw hp_))
           go_roundg k2
           case measure => have := HK1.out; have := HK2.out; omega
           case rel => exact ⟨(y238), (wrap64 (x6_2 + 1)), (by rfl), H', ⟨by have := HK1.out; have := HK2.out; omega⟩, ⟨by (with_reducible repeat (first | apply Kd.S_alloc | apply Kd.S_drewN | apply Kd.S_drew)); exact Kd.S_mono HO_3.out (fun _ hk => hk.2)⟩, ⟨by (with_reducible repeat (first | apply Kd.R_alloc | apply Kd.R_drewN | apply Kd.R_drew)); exact HO_5.out⟩, ⟨by repeat ((with_reducible (exact HB.out)))⟩⟩
          · rw [if_neg c9] at H
            exact absurd H (by simp)
         ·
          rw [if_neg c8] at H
          have c8b0 : decide (x6_2 < (x5_2.length : Int)) = false := decide_eq_false c8
          clear c8
          by_cases c14 : x3_1.length < 5864062014805
          ·
           rw [if_pos c14] at H
           have LMc14 := sqM c14
           clear c14
           obtain ⟨y239, hy239⟩ : ∃ y_ : List (List Int), y_ = (x3_1 ++ [x5_2]) := ⟨_, rfl⟩
           replace H : (l5_over.l0 k2 l0 y239 (wrap64 (x4_1 + 1))) = some r := by (rw [hy239]; with_reducible exact H)
           have Ny239 := sqM hy239
           clear hy239
           have H' := sqM H
           clear H
           obtain ⟨Ao15, co15, eo15⟩ := Kd.R_slice HO_5.out
           subst eo15
           go_wp2_with (first | ((with_reducible refine q05 (b := .append) (xs := #[.tmp 28, .tmp 30]) rfl ?_); at_builtin; refine Kd.S_append (Kd.slice 5 (Kd.int .u8)) (w0 := w) w.heap.size rfl (.tmp 28) (.tmp 30) 35 41 (.slice none 0 0) 24 rfl Try.underlying35 info41 rfl (by decide) (by omega) u3 x3_1 x5_2 [.slice Ao15 x5_2.length co15] (fun _ => True) (fun k_ => some k_ = (.slice Ao15 x5_2.length co15 : Value).ownBlock) rfl rfl ?aP (fun k_ hk_ => ((Kd.R_mono (ok' := fun k_ => ((fun _ => True)) k_ ∧ some k_ ≠ (u3 : Value).ownBlock) (Kd.R_apart' (HO_5.out) (Kd.S_typed HO_3.out) (by decide)) (fun k_ hk => ⟨trivial, hk.2⟩))).1 k_ hk_.symm) ?aF ?aO ?aB ?aS ?aL ?_; (case aP => exact Kd.M_row (Kd.R_mono (Kd.R_tight rfl (Kd.R_mono (ok' := fun k_ => ((fun _ => True)) k_ ∧ some k_ ≠ (u3 : Value).ownBlock) (Kd.R_apart' (HO_5.out) (Kd.S_typed HO_3.out) (by decide)) (fun k_ hk => ⟨trivial, hk.2⟩))) (fun _ h_ => h_))); (case aB => exact (by repeat ((with_reducible (exact HB.out))))); (case aF => exact (fun _ _ => trivial)); (case aO => exact (by (with_reducible repeat (first | apply Kd.S_alloc | apply Kd.S_drewN | apply Kd.S_drew)); exact Kd.S_mono HO_3.out (fun k_ hk => ⟨trivial, fun e_ => hk e_⟩))); (case aS => exact (q01 (by repeat ((with_reducible (exact HB.out)))))); (case aL => have := LMc14.out; omega); intro v240 w16 ho hb hg hat; rw [← Ny239.out] at ho; have n0_ := sqM (hb); have n1_ := sqM (ho); clear HB; clear HO_3; clear HO_5; have HB := n0_; have HO241 := n1_; clear n0_ n1_; clear ho hb hg hat))
           go_roundg k2
           case measure => have := HK1.out; have := HK2.out; omega
           case rel => exact ⟨(y239), (wrap64 (x4_1 + 1)), (by rfl), H', ⟨by have := HK1.out; have := HK2.out; omega⟩, ⟨by (with_reducible repeat (first | apply Kd.S_alloc | apply Kd.S_drewN | apply Kd.S_drew)); exact HO241.out⟩, ⟨by repeat ((with_reducible (exact HB.out)))⟩⟩
          · rw [if_neg c14] at H
            exact absurd H (by simp)
      · rw [if_neg c5] at H
        exact absurd H (by simp)
     · rw [if_neg c4] at H
       exact absurd H (by simp)
    · rw [if_neg c3] at H
      exact absurd H (by simp)
   · rw [if_neg c2] at H
     have c2b0 : decide (x4_1 < (l0.length : Int)) = false := decide_eq_false c2
     clear c2
     obtain rfl := Option.some.inj H
     go_wp2
     go_ret
     exact ⟨_, by rfl, by (with_reducible repeat (first | apply Kd.S_alloc | apply Kd.S_drewN | apply Kd.S_drew)); exact HO_3.out, by repeat ((with_reducible (exact HB.out)))⟩
end Go.Proofs.Ytdhajlkiiphlfaa.QR
namespace Go.Proofs.Ytdhajlkiiphlfaa.Rv
open Go.RowKit Go.Proofs.Ytdhajlkiiphlfaa.QR Go.Proofs.YtdhajlkiiphlfaaW.PrintWords Go.Proofs.YtdhajlkiiphlfaaW.PrintLast
open Go.Proofs.Ytdhajlkiiphlfaa.Math Go.Proofs.Ytdhajlkiiphlfaa.Bits
theorem w64 {n : Int} (h0 : -9223372036854775808 ≤ n) (h1 : n ≤ 9223372036854775807) : wrap64 n = n := by unfold wrap64; omega
theorem shr_nat (a i : Nat) (hi : i < 64) : shr .i64 (a : Int) (i : Int) = ((a / 2 ^ i : Nat) : Int) := by
 unfold shr
 rw [Int.toNat_natCast, Nat.min_eq_left (by show i ≤ 64; omega)]
 rw [Int.natCast_ediv, Int.natCast_pow]; rfl
theorem shl_nat (a i : Nat) (hi : i < 64) (h : a * 2 ^ i < 9223372036854775808) : shl .i64 (a : Int) (i : Int) = ((a * 2 ^ i : Nat) : Int) := by
 unfold shl
 rw [Int.toNat_natCast, Nat.min_eq_left (by show i ≤ 64; omega), IntKind.wrap_i64]
 have : (a : Int) * 2 ^ i = ((a * 2 ^ i : Nat) : Int) := by rw [Int.natCast_mul, Int.natCast_pow]; rfl
 rw [this]; omega
theorem tmod2 (c : Nat) : Int.tmod (c : Int) 2 = ((c % 2 : Nat) : Int) := by
 rw [Int.tmod_eq_emod_of_nonneg (by omega)]; omega
theorem pow2_le (n : Nat) (h : n < 8) : 2 ^ n ≤ 128 := by
 have := Nat.pow_le_pow_right (n := 2) (by decide) (by omega : n ≤ 7); omega
theorem red_l1 (n : Nat) : ∀ k p : Nat, n ≤ 7 → p < 32768 → n < k → r4_Mul.l1 k p ((7 + n : Nat) : Int) = some ((Fq.red n p % 256 : Nat) : Int) := by
 induction n with
 | zero =>
  intro k p hn hp hk
  obtain ⟨k, rfl⟩ : ∃ m, k = m + 1 := ⟨k - 1, by omega⟩
  simp only [r4_Mul.l1, Fq.red]
  rw [if_neg (by omega)]
  congr 1
 | succ n ih =>
  intro k p hn hp hk
  obtain ⟨k, rfl⟩ : ∃ m, k = m + 1 := ⟨k - 1, by omega⟩
  simp only [r4_Mul.l1, Fq.red]
  have hp2 := pow2_le n (by omega)
  have e7 : (((7 + (n + 1) : Nat) : Int) - 8) = ((n : Nat) : Int) := by omega
  have e1 : (((7 + (n + 1) : Nat) : Int) - 1) = ((7 + n : Nat) : Int) := by omega
  rw [if_pos (by omega), if_pos (by omega), shr_nat _ _ (by omega), tmod2, w64 (by omega) (by omega), w64 (by omega) (by omega), e7, e1, show (357 : Int) = ((357 : Nat) : Int) from rfl, shl_nat 357 n (by omega) (by omega),
   show 8 + n = 7 + (n + 1) from by omega]
  have hb : 357 * 2 ^ n < 32768 ∨ n = 7 := by
   rcases Nat.lt_or_ge n 7 with h | h
   · left; have := Nat.pow_le_pow_right (n := 2) (by decide) (by omega : n ≤ 6); omega
   · right; omega
  have hb : 357 * 2 ^ n < 2 ^ 15 := by
   have : n ≤ 6 := by omega
   have := Nat.pow_le_pow_right (n := 2) (by decide) this; omega
  by_cases h1 : p / 2 ^ (7 + (n + 1)) % 2 = 1
  · rw [if_pos (by omega), if_pos h1, if_pos (by omega), xor_i64 _ _ (by omega) (by omega)]
    exact ih k _ (by omega) (Nat.xor_lt_two_pow (n := 15) hp hb) (by omega)
  · rw [if_neg (by omega), if_neg h1]
    exact ih k _ (by omega) hp (by omega)
theorem ref_l0 (a b : Nat) (ha : a < 256) (hb : b < 256) (n : Nat) : ∀ k p i : Nat, i + n = 8 → p < 32768 → n + 10 ≤ k → r4_Mul.l0 k a b p (i : Int) = some ((Fq.red 7 (Fq.polyMul a b n p) % 256 : Nat) : Int) := by
 induction n with
 | zero =>
  intro k p i hi hp hk
  obtain ⟨k, rfl⟩ : ∃ m, k = m + 1 := ⟨k - 1, by omega⟩
  simp only [r4_Mul.l0, Fq.polyMul]
  rw [if_neg (by omega)]
  exact red_l1 7 k p (by omega) hp (by omega)
 | succ n ih =>
  intro k p i hi hp hk
  obtain ⟨k, rfl⟩ : ∃ m, k = m + 1 := ⟨k - 1, by omega⟩
  simp only [r4_Mul.l0, Fq.polyMul]
  have hpi := pow2_le i (by omega)
  have hm : a * 2 ^ i ≤ 255 * 128 := Nat.mul_le_mul (by omega) hpi
  rw [show 7 - n = i from by omega, if_pos (by omega), if_pos (by omega), w64 (by omega) (by omega), w64 (by omega) (by omega), w64 (by omega) (by omega),
   shr_nat _ _ (by omega), tmod2, shl_nat a i (by omega) (by omega), show ((i : Int) + 1) = ((i + 1 : Nat) : Int) from rfl]
  by_cases h1 : b / 2 ^ i % 2 = 1
  · rw [if_pos (by omega), if_pos h1, xor_i64 _ _ (by omega) (by omega)]
    exact ih k _ _ (by omega) (Nat.xor_lt_two_pow (n := 15) hp (by omega)) (by omega)
  · rw [if_neg (by omega), if_neg h1]
    exact ih k _ _ (by omega) hp (by omega)
theorem refMul_f (k a b : Nat) (ha : a < 256) (hb : b < 256) (hk : 20 ≤ k) : r4_Mul.f k a b = some ((Fq.mul a b : Nat) : Int) := by
 unfold r4_Mul.f
 have h := ref_l0 a b ha hb 8 k 0 0 (by omega) (by omega) (by omega)
 rw [Fq.red_mul a b ha hb, Nat.mod_eq_of_lt (Fq.mul_lt a b ha)] at h
 exact h
theorem refInv_l0 (a : Nat) (ha : a < 256) (n : Nat) : ∀ k x : Nat, x + n = 256 → 1 ≤ x → n + 25 ≤ k → (∀ y, 1 ≤ y → y < x → Fq.mul a y ≠ 1) → r4_Inv.l0 k a x = some (((Fq.inv a : Nat) : Int), if a = 0 then 41 else 0) := by
 induction n with
 | zero =>
  intro k x hx h1 hk hy
  obtain ⟨k, rfl⟩ : ∃ m, k = m + 1 := ⟨k - 1, by omega⟩
  have h0 : a = 0 := Classical.byContradiction fun h => by
   have := Fq.mul_inv a ha h
   have hi := Fq.inv_lt a ha
   refine hy (Fq.inv a) ?_ (by omega) this
   rcases Nat.eq_zero_or_pos (Fq.inv a) with e | e
   · rw [e, Fq.mul_zero] at this; cases this
   · exact e
  subst h0
  simp only [r4_Inv.l0]
  rw [if_neg (by omega), Fq.inv_zero]; rfl
 | succ n ih =>
  intro k x hx h1 hk hy
  obtain ⟨k, rfl⟩ : ∃ m, k = m + 1 := ⟨k - 1, by omega⟩
  simp only [r4_Inv.l0]
  have ex : ((x : Int) % 256) = (x : Int) := by omega
  rw [if_pos (by omega), ex, refMul_f k a x ha (by omega) (by omega)]
  simp only [Option.bind_some]
  by_cases hm : Fq.mul a x = 1
  · rw [if_pos (by omega)]
    have h0 : a ≠ 0 := by rintro rfl; rw [Fq.zero_mul] at hm; cases hm
    rw [← Fq.inv_uniq a x ha (by omega) hm, if_neg h0]
  · rw [if_neg (by omega), w64 (by omega) (by omega)]
    refine ih k (x + 1) (by omega) (by omega) (by omega) ?_
    intro y hy1 hy2
    by_cases e : y = x
    · subst e; exact hm
    · exact hy y hy1 (by omega)
theorem refInv_f (k a : Nat) (ha : a < 256) (hk : 280 ≤ k) : r4_Inv.f k a = some (((Fq.inv a : Nat) : Int), if a = 0 then 41 else 0) := by
 unfold r4_Inv.f
 exact refInv_l0 a ha 255 k 1 (by omega) (by omega) (by omega) (fun y h1 h2 => by omega)
open Go.Proofs.Ytdhajlkiiphlfaa.Solve Go.Proofs.Ytdhajlkiiphlfaa.Par
theorem rMul_z {k : Nat} {a b : Int} (ha : In8 a) (hb : In8 b) (hk : 20 ≤ k) : r4_Mul.f k a b = some (mulZ a b) := by
 obtain ⟨a1, a2⟩ := ha
 obtain ⟨b1, b2⟩ := hb
 obtain ⟨a, rfl⟩ := Int.eq_ofNat_of_zero_le a1
 obtain ⟨b, rfl⟩ := Int.eq_ofNat_of_zero_le b1
 rw [refMul_f k a b (by omega) (by omega) hk]; rfl
theorem rInv_z {k : Nat} {a : Int} (ha : In8 a) (hk : 280 ≤ k) : ∃ e, r4_Inv.f k a = some (invZ a, e) := by
 obtain ⟨a1, a2⟩ := ha
 obtain ⟨a, rfl⟩ := Int.eq_ofNat_of_zero_le a1
 exact ⟨_, refInv_f k a (by omega) hk⟩
theorem xor_in {a b : Int} (ha : In8 a) (hb : In8 b) : Go.bits .xor .u8 a b = xorZ a b := by
 obtain ⟨a1, a2⟩ := ha
 obtain ⟨b1, b2⟩ := hb
 obtain ⟨a, rfl⟩ := Int.eq_ofNat_of_zero_le a1
 obtain ⟨b, rfl⟩ := Int.eq_ofNat_of_zero_le b1
 exact xor_u8 a b (by omega) (by omega)
theorem el_f {k i j : Nat} (hi : i < 256) (hj : j < 256) (hk : 280 ≤ k) : r5_element.f k (i : Int) (j : Int) = some (cE i j) := by
 have h1 : (wrap64 (255 - (i : Int))) % 256 = ((255 - i : Nat) : Int) := by rw [w64 (by omega) (by omega)]; omega
 have h2 : (j : Int) % 256 = (j : Int) := by omega
 have i1 : In8 ((255 - i : Nat) : Int) := In8.of (by omega)
 have i2 : In8 ((j : Nat) : Int) := In8.of hj
 obtain ⟨e, he⟩ := rInv_z (k := k) (xorZ_in i1 i2) hk
 unfold r5_element.f
 rw [h1, h2, xor_in i1 i2, he, Option.bind_some]; rfl
theorem row_l1 (rows : List (List Int)) (i W : Nat) (hW : W ≤ 100000000000) (j : Nat) (hj : j < rows.length) (hj2 : j < 1000) (r : List Int) (hr : rows[j]? = some r) (hl : r.length ≤ W) (hin : ∀ y ∈ r, In8 y) (c : Int) (hc : In8 c) (res : List Int) :
    ∀ (d x k : Nat) (out : List Int), x + d = r.length → out.length = W → (∀ y ∈ out, In8 y) → d + 30 ≤ k → (∀ q, k - d - 1 = q → r5_row.l0 q rows (i : Int) (W : Int) (addAt c (r.drop x) x out) ((j + 1 : Nat) : Int) = some res) → r5_row.l1 k rows (i : Int) (W : Int) out (j : Int) c (x : Int) = some res := by
 have hrd : rd_L2 rows (j : Int) = r := by unfold rd_L2; rw [Int.toNat_natCast, List.getD_eq_getElem?_getD, hr]; rfl
 intro d
 induction d with
 | zero =>
  intro x k out hx ho hi hk h
  obtain ⟨k, rfl⟩ : ∃ m, k = m + 1 := ⟨k - 1, by omega⟩
  have h0 := h k (by omega)
  rw [List.drop_eq_nil_of_le (by omega)] at h0
  rw [r5_row.l1, if_pos (by omega), if_pos (by omega), hrd, if_neg (by omega), Par.wr1 (n := 1000) hj2 (by omega)]
  exact h0
 | succ d ih =>
  intro x k out hx ho hi hk h
  obtain ⟨k, rfl⟩ : ∃ m, k = m + 1 := ⟨k - 1, by omega⟩
  have hxl : x < r.length := by omega
  have hgo : rd out (x : Int) = out.getD x 0 := rd_nat _ _
  have hgr : rd r (x : Int) = r[x] := by rw [rd_nat, List.getD_eq_getElem?_getD, List.getElem?_eq_getElem hxl]; rfl
  have i1 : In8 (out.getD x 0) := hi _ (Par.getD_mem (by omega))
  have i2 : In8 r[x] := hin _ (List.getElem_mem hxl)
  rw [r5_row.l1, if_pos (by omega), if_pos (by omega), hrd, if_pos (by omega), if_pos (by omega), if_pos (by omega), if_pos (by omega), hgr, rMul_z hc i2 (by omega), Option.bind_some, hgo, xor_in i1 (mulZ_in hc), Int.toNat_natCast, Par.wr1 (n := r.length) hxl (by omega)]
  refine ih (x + 1) k _ (by omega) (by rw [List.length_set]; exact ho) (fun y hy => ?_) (by omega) (fun q hq => ?_)
  · rcases List.mem_or_eq_of_mem_set hy with hy | hy
    · exact hi y hy
    · rw [hy]; exact xorZ_in i1 (mulZ_in hc)
  · have := h q (by omega)
    rw [List.drop_eq_getElem_cons hxl, addAt] at this
    exact this
theorem row_l0 (rows : List (List Int)) (i W : Nat) (hi : i < 256) (hW : W ≤ 100000000000) (hn : rows.length ≤ 256) (hl : ∀ r ∈ rows, r.length ≤ W) (hin : ∀ r ∈ rows, ∀ y ∈ r, In8 y) :
    ∀ (d j k : Nat), j + d = rows.length → (W + 40) * d + 300 ≤ k → r5_row.l0 k rows (i : Int) (W : Int) (Par.part (cE i) rows (zeros W) j) (j : Int) = some (Par.part (cE i) rows (zeros W) rows.length) := by
 intro d
 induction d with
 | zero =>
  intro j k hj hk
  obtain ⟨k, rfl⟩ : ∃ m, k = m + 1 := ⟨k - 1, by omega⟩
  obtain rfl : j = rows.length := by omega
  rw [r5_row.l0, if_neg (by omega)]
 | succ d ih =>
  intro j k hj hk
  obtain ⟨k, rfl⟩ : ∃ m, k = m + 1 := ⟨k - 1, by omega⟩
  rw [Nat.mul_add, Nat.mul_one] at hk
  have hjl : j < rows.length := by omega
  have hmem := List.getElem_mem hjl
  have hg := List.getElem?_eq_getElem hjl
  have hp : ∀ y ∈ Par.part (cE i) rows (zeros W) j, In8 y := part_in _ _ _ (zeros_in W) j (fun t ht => cE_in (by omega))
  rw [r5_row.l0, if_pos (by omega), el_f hi (by omega) (by omega), Option.bind_some]
  refine row_l1 rows i W hW j hjl (by omega) rows[j] hg (hl _ hmem) (hin _ hmem) (cE i j) (cE_in (by omega)) _ rows[j].length 0 k _ (by omega) (by rw [q0s]; exact List.length_replicate) hp (by have := hl _ hmem; omega) (fun q hq => ?_)
  have := ih (j + 1) q (by omega) (by have := hl _ hmem; omega)
  rw [Par.part, List.getD_eq_getElem?_getD, hg] at this
  rw [List.drop_zero]
  exact this
theorem row_f (rows : List (List Int)) (i W : Nat) (hi : i < 256) (hW : W ≤ 100000000000) (hn : rows.length ≤ 256) (hl : ∀ r ∈ rows, r.length ≤ W) (hin : ∀ r ∈ rows, ∀ y ∈ r, In8 y) {k : Nat} (hk : (W + 40) * rows.length + 300 ≤ k) :
    r5_row.f k rows (i : Int) (W : Int) = some (Par.part (cE i) rows (zeros W) rows.length) := by
 have := row_l0 rows i W hi hW hn hl hin rows.length 0 k (by omega) hk
 unfold r5_row.f
 rw [if_pos (by omega), Int.toNat_natCast, if_pos (by omega)]
 exact this
theorem wideN_snoc (ls : List Nat) (a : Nat) : wideN (ls ++ [a]) = max (wideN ls) a := by unfold wideN; rw [List.foldl_append]; rfl
theorem mx_nat (a b : Nat) : mx (a : Int) (b : Int) = ((max a b : Nat) : Int) := by unfold mx; split <;> omega
theorem madeL_snoc (rows : List (List Int)) (i : Nat) : madeL rows (i + 1) = madeL rows i ++ [q1s rows i] := by unfold madeL; rw [List.range_succ, List.map_append]; rfl
theorem make_l1 (rows : List (List Int)) (hn : rows.length ≤ 256) (hW : q0f rows ≤ 100000000000) (hl : ∀ r ∈ rows, r.length ≤ q0f rows) (hin : ∀ r ∈ rows, ∀ y ∈ r, In8 y) (p : Nat) (hp : p ≤ 16) :
    ∀ (d i k : Nat), i + d = p → d + (q0f rows + 40) * rows.length + 301 ≤ k → r5_Make.l1 k rows (p : Int) ((q0f rows : Nat) : Int) (madeL rows i) (i : Int) = some (madeL rows p, 0) := by
 intro d
 induction d with
 | zero =>
  intro i k hi hk
  obtain ⟨k, rfl⟩ : ∃ m, k = m + 1 := ⟨k - 1, by omega⟩
  obtain rfl : i = p := by omega
  rw [r5_Make.l1, if_neg (by omega)]
 | succ d ih =>
  intro i k hi hk
  obtain ⟨k, rfl⟩ : ∃ m, k = m + 1 := ⟨k - 1, by omega⟩
  have hlen : (madeL rows i).length = i := by unfold madeL; rw [List.length_map, List.length_range]
  rw [r5_Make.l1, if_pos (by omega), row_f rows i (q0f rows) (by omega) hW hn hl hin (by omega), Option.bind_some, if_pos (by omega), Par.wr1 (n := 1000) (by omega) (by omega)]
  have := ih (i + 1) k (by omega) (by omega)
  rw [madeL_snoc] at this
  exact this
theorem make_l0 (rows : List (List Int)) (hn : rows.length ≤ 256) (hf : ∀ r ∈ rows, r.length ≤ 16777216) (p : Int) (res : List (List Int) × Int) :
    ∀ (d j k : Nat), j + d = rows.length → d + 1 ≤ k → (∀ q, q = k - d - 1 → r5_Make.l1 q rows p ((q0f rows : Nat) : Int) [] 0 = some res) → r5_Make.l0 k rows p ((wideN ((rows.take j).map List.length) : Nat) : Int) (j : Int) = some res := by
 intro d
 induction d with
 | zero =>
  intro j k hj hk h
  obtain ⟨k, rfl⟩ : ∃ m, k = m + 1 := ⟨k - 1, by omega⟩
  obtain rfl : j = rows.length := by omega
  have := h k (by omega)
  rw [r5_Make.l0, if_neg (by omega), List.take_length]
  exact this
 | succ d ih =>
  intro j k hj hk h
  obtain ⟨k, rfl⟩ : ∃ m, k = m + 1 := ⟨k - 1, by omega⟩
  have hjl : j < rows.length := by omega
  have hrd : rd_L2 rows (j : Int) = rows[j] := by unfold rd_L2; rw [Int.toNat_natCast, List.getD_eq_getElem?_getD, List.getElem?_eq_getElem hjl]; rfl
  have hff := hf _ (List.getElem_mem hjl)
  have := ih (j + 1) k (by omega) (by omega) (fun q hq => h q (by omega))
  rw [List.take_succ_eq_append_getElem hjl, List.map_append, List.map_cons, List.map_nil, wideN_snoc] at this
  rw [r5_Make.l0, if_pos (by omega), if_pos (by omega), hrd, if_neg (by omega), mx_nat, Par.wr1 (n := 1000) (by omega) (by omega)]
  exact this
theorem make_l0_no (rows : List (List Int)) (hn : rows.length ≤ 256) (p : Int) :
    ∀ (d j k : Nat) (acc : Int), j + d = rows.length → d + 1 ≤ k → (∃ r ∈ rows.drop j, 16777216 < r.length) → r5_Make.l0 k rows p acc (j : Int) = some ([], 52) := by
 intro d
 induction d with
 | zero =>
  intro j k acc hj hk h
  obtain ⟨r, hr, _⟩ := h
  rw [List.drop_eq_nil_of_le (by omega)] at hr
  exact absurd hr (by simp)
 | succ d ih =>
  intro j k acc hj hk h
  obtain ⟨k, rfl⟩ : ∃ m, k = m + 1 := ⟨k - 1, by omega⟩
  have hjl : j < rows.length := by omega
  have hrd : rd_L2 rows (j : Int) = rows[j] := by unfold rd_L2; rw [Int.toNat_natCast, List.getD_eq_getElem?_getD, List.getElem?_eq_getElem hjl]; rfl
  rw [r5_Make.l0, if_pos (by omega), if_pos (by omega), hrd]
  by_cases hb : 16777216 < rows[j].length
  · rw [if_pos (by omega)]
  ·
   rw [if_neg (by omega), Par.wr1 (n := 1000) (by omega) (by omega)]
   refine ih (j + 1) k _ (by omega) (by omega) ?_
   obtain ⟨r, hr, h2⟩ := h
   rw [List.drop_eq_getElem_cons hjl] at hr
   rcases List.mem_cons.1 hr with rfl | hr
   · exact absurd h2 hb
   · exact ⟨r, hr, h2⟩
theorem le_wideN {ls : List Nat} {a : Nat} (h : a ∈ ls) : a ≤ wideN ls := Par.le_wideN h
theorem rmake_51 {k : Nat} (rows : List (List Int)) (p : Int) (h : 200 < rows.length ∨ p < 0 ∨ 16 < p) : r5_Make.f (k + 1) rows p = some ([], 51) := by
 unfold r5_Make.f
 by_cases h1 : 200 < rows.length
 · rw [if_pos (by omega), r5_Make.j0, if_pos rfl]
 · rw [if_neg (by omega)]
   by_cases h2 : p < 0
   · rw [if_pos h2, r5_Make.j0, if_pos rfl]
   · rw [if_neg h2, r5_Make.j0, if_pos (decide_eq_true (by omega))]
theorem rmake_ok {k : Nat} (rows : List (List Int)) (p : Nat) (hn : rows.length ≤ 200) (hp : p ≤ 16) (hin : ∀ r ∈ rows, ∀ y ∈ r, In8 y) (hk : 4000000000 ≤ k) :
    r5_Make.f k rows (p : Int) = some (if rowsFit rows = true then (madeL rows p, 0) else ([], 52)) := by
 obtain ⟨k, rfl⟩ : ∃ m, k = m + 1 := ⟨k - 1, by omega⟩
 unfold r5_Make.f
 rw [if_neg (by omega), if_neg (by omega), r5_Make.j0, if_neg (by rw [decide_eq_true_iff]; omega)]
 by_cases hf : rowsFit rows = true
 ·
  rw [if_pos hf]
  have hff := rowsFit_iff.1 hf
  have hw : q0f rows ≤ 16777216 := wideN_le (fun x hx => by obtain ⟨r, hr, rfl⟩ := List.mem_map.1 hx; exact hff r hr)
  refine make_l0 rows (by omega) hff (p : Int) _ rows.length 0 k (by omega) (by omega) (fun q hq => ?_)
  refine make_l1 rows (by omega) (by omega) (fun r hr => le_wideN (List.mem_map_of_mem hr)) hin p hp p 0 q (by omega) ?_
  have : (q0f rows + 40) * rows.length ≤ (16777216 + 40) * 200 := Nat.mul_le_mul (by omega) hn
  omega
 ·
  rw [if_neg hf]
  refine make_l0_no rows (by omega) _ rows.length 0 k _ (by omega) (by omega) ?_
  rw [List.drop_zero]
  apply Classical.byContradiction
  intro hne
  exact hf (rowsFit_iff.2 fun r hr => Nat.le_of_not_lt fun h => hne ⟨r, hr, h⟩)
def overL (l : List ByteArray) : List (List Int) := l.map fun s => List.replicate s.size 170
theorem over_l1 (l : List ByteArray) (hl : l.length ≤ 100000000000) (j : Nat) (hj : j < l.length) (out : List (List Int)) (ho : out.length < 5864062014805) (n : Nat) (hn : n ≤ 100000000000) (res : List (List Int)) :
    ∀ (d x k : Nat), x + d = n → d + 1 ≤ k → (∀ q, k - d - 1 = q → l5_over.l0 q l (out ++ [List.replicate n 170]) ((j + 1 : Nat) : Int) = some res) → l5_over.l1 k l out (j : Int) (List.replicate x 170 ++ List.replicate d 0) (x : Int) = some res := by
 intro d
 induction d with
 | zero =>
  intro x k hx hk h
  obtain ⟨k, rfl⟩ : ∃ m, k = m + 1 := ⟨k - 1, by omega⟩
  obtain rfl : x = n := by omega
  have := h k (by omega)
  rw [l5_over.l1, if_neg (by rw [List.length_append, List.length_replicate, List.length_replicate]; omega), if_pos ho, Par.wr1 (n := l.length) hj (by omega), List.replicate_zero, List.append_nil]
  exact this
 | succ d ih =>
  intro x k hx hk h
  obtain ⟨k, rfl⟩ : ∃ m, k = m + 1 := ⟨k - 1, by omega⟩
  have hs : (List.replicate x (170 : Int) ++ List.replicate (d + 1) 0).set x 170 = List.replicate (x + 1) 170 ++ List.replicate d 0 := by
   rw [List.set_append_right _ _ (by rw [List.length_replicate]; exact Nat.le_refl _), List.length_replicate, Nat.sub_self, List.replicate_succ (n := d), List.set_cons_zero, List.replicate_succ' (n := x), List.append_assoc]; rfl
  rw [l5_over.l1, if_pos (by rw [List.length_append, List.length_replicate, List.length_replicate]; omega), if_pos (by omega), Int.toNat_natCast, hs, Par.wr1 (n := n) (by omega) (by omega)]
  exact ih (x + 1) k (by omega) (by omega) (fun q hq => h q (by omega))
theorem over_l0 (l : List ByteArray) (B : Nat) (hl : l.length ≤ 100000000000) (hs : ∀ s ∈ l, s.size ≤ B) (hB : B ≤ 100000000000) :
    ∀ (d j k : Nat), j + d = l.length → (B + 5) * d + 1 ≤ k → l5_over.l0 k l (overL (l.take j)) (j : Int) = some (overL l) := by
 intro d
 induction d with
 | zero =>
  intro j k hj hk
  obtain ⟨k, rfl⟩ : ∃ m, k = m + 1 := ⟨k - 1, by omega⟩
  obtain rfl : j = l.length := by omega
  rw [l5_over.l0, if_neg (by omega), List.take_length]
 | succ d ih =>
  intro j k hj hk
  obtain ⟨k, rfl⟩ : ∃ m, k = m + 1 := ⟨k - 1, by omega⟩
  rw [Nat.mul_add, Nat.mul_one] at hk
  have hjl : j < l.length := by omega
  have hrd : rdOf ByteArray.empty l (j : Int) = l[j] := by unfold rdOf; rw [Int.toNat_natCast, List.getD_eq_getElem?_getD, List.getElem?_eq_getElem hjl]; rfl
  have hsz := hs _ (List.getElem_mem hjl)
  have hlen : (overL (l.take j)).length = j := by unfold overL; rw [List.length_map, List.length_take]; omega
  rw [l5_over.l0, if_pos (by omega), if_pos (by omega), hrd, if_pos (by omega), Int.toNat_natCast, if_pos (by omega)]
  have := over_l1 l hl j hjl (overL (l.take j)) (by omega) l[j].size (by omega) (overL l) l[j].size 0 k (by omega) (by omega) (fun q hq => ?_)
  · rw [List.replicate_zero, List.nil_append] at this
    exact this
  · have h2 := ih (j + 1) q (by omega) (by omega)
    rw [List.take_succ_eq_append_getElem hjl] at h2
    unfold overL at h2 ⊢
    rw [List.map_append] at h2
    exact h2
theorem over_f (l : List ByteArray) (B : Nat) (hl : l.length ≤ 100000000000) (hs : ∀ s ∈ l, s.size ≤ B) (hB : B ≤ 100000000000) {k : Nat} (hk : (B + 5) * l.length + 1 ≤ k) : l5_over.f k l = some (overL l) :=
 over_l0 l B hl hs hB l.length 0 k (by omega) hk
end Go.Proofs.Ytdhajlkiiphlfaa.Rv
namespace Go.Proofs.Ytdhajlkiiphlfaa.QR
open Go.RowKit Go.Proofs.YtdhajlkiiphlfaaW.PrintWords Go.Proofs.YtdhajlkiiphlfaaW.PrintLast Go.Proofs.YtdhajlkiiphlfaaW.PrintMore
attribute [local go_sem] q1c q1d q1y q1z q0v q0w q1e q1f
mutual
def r5_fits.l0 : Nat → List (List Int) → List Int → List (List Int) → List Int → Int → List Bool → Int → Int → Option (List Bool × Bool)
 | 0, _, _, _, _, _, _, _, _ => none
 | k + 1, x0, x1, x2, x3, x10, x11, x12, x13 => if x13 < x10 then (if 0 ≤ x13 then (if x13 < (x1.length : Int) then (if (rd x1 x13) < 0 then (some (x11, false)) else (if (rd x1 x13) > 16777216 then (some (x11, false)) else (r5_fits.l0 k x0 x1 x2 x3 x10 x11 (mx x12 (rd x1 x13)) (wrap64 (x13 + 1))))) else (none)) else (none)) else (r5_fits.l1 k x0 x1 x2 x3 x10 x11 x12 0)
def r5_fits.l1 : Nat → List (List Int) → List Int → List (List Int) → List Int → Int → List Bool → Int → Int → Option (List Bool × Bool)
 | 0, _, _, _, _, _, _, _, _ => none
 | k + 1, x0, x1, x2, x3, x10, x11, x12, x14 => if x14 < (x3.length : Int) then (if 0 ≤ x14 then (if (rd x3 x14) < 0 then (some (x11, false)) else (if (rd x3 x14) ≥ (x11.length : Int) then (some (x11, false)) else (if 0 ≤ (rd x3 x14) then (if (rd x3 x14) < (x11.length : Int) then (r5_fits.l1 k x0 x1 x2 x3 x10 (x11.set ((rd x3 x14) : Int).toNat true) x12 (wrap64 (x14 + 1))) else (none)) else (none)))) else (none)) else (r5_fits.l2 k x0 x1 x2 x10 x11 x12 0)
def r5_fits.l2 : Nat → List (List Int) → List Int → List (List Int) → Int → List Bool → Int → Int → Option (List Bool × Bool)
 | 0, _, _, _, _, _, _, _ => none
 | k + 1, x0, x1, x2, x10, x11, x12, x15 => if x15 < x10 then (if 0 ≤ x15 then (if x15 < (x11.length : Int) then (if rdOf false x11 x15 = true then (r5_fits.l2 k x0 x1 x2 x10 x11 x12 (wrap64 (x15 + 1))) else (if x15 < (x0.length : Int) then (if x15 < (x1.length : Int) then (if ((rd_L2 x0 x15).length : Int) = (rd x1 x15) then (r5_fits.l2 k x0 x1 x2 x10 x11 x12 (wrap64 (x15 + 1))) else (some (x11, false))) else (none)) else (none))) else (none)) else (none)) else (r5_fits.l3 k x2 x10 x11 x12 0)
def r5_fits.l3 : Nat → List (List Int) → Int → List Bool → Int → Int → Option (List Bool × Bool)
 | 0, _, _, _, _, _ => none
 | k + 1, x2, x10, x11, x12, x16 => if x16 < (x2.length : Int) then (if 0 ≤ (wrap64 (x10 + x16)) then (if (wrap64 (x10 + x16)) < (x11.length : Int) then (if (rdOf false x11 (wrap64 (x10 + x16)) = true) then (r5_fits.l3 k x2 x10 x11 x12 (wrap64 (x16 + 1))) else (if 0 ≤ x16 then (if ((rd_L2 x2 x16).length : Int) = x12 then (r5_fits.l3 k x2 x10 x11 x12 (wrap64 (x16 + 1))) else (some (x11, false))) else (none))) else (none)) else (none)) else (some (x11, true))
end
def r5_fits.f (k : Nat) (l0 : List (List Int)) (l1 : List Int) (l2 : List (List Int)) (l3 : List Int) : Option (List Bool × Bool) := if 0 ≤ (wrap64 ((l0.length : Int) + (l2.length : Int))) then (if (wrap64 ((l0.length : Int) + (l2.length : Int)) : Int).toNat ≤ 281474976710656 then ((some (List.replicate (wrap64 ((l0.length : Int) + (l2.length : Int)) : Int).toNat false : List Bool)).bind fun y253 => (if (l1.length : Int) = (l0.length : Int) then (r5_fits.l0 k l0 l1 l2 l3 (l0.length : Int) y253 0 0) else (some (y253, false)))) else (none)) else (none)
set_option maxHeartbeats 8000000 in
set_option maxRecDepth 100000 in
theorem r5_fits.calls (k : Nat) (A0 : Option Addr) (c0 : Nat) (l0 : List (List Int)) (A1 : Option Addr) (c1 : Nat) (l1 : List Int) (A2 : Option Addr) (c2 : Nat) (l2 : List (List Int)) (A3 : Option Addr) (c3 : Nat) (l3 : List Int) (r1 : List Bool) (r2 : Bool) (w : World) (hr0 : Kd.C (Kd.slice 5 (Kd.int .u8)) w A0 l0.length l0) (hc0 : l0.length ≤ c0) (hr1 : Kd.C (Kd.int .i64) w A1 l1.length l1) (hc1 : l1.length ≤ c1) (hr2 : Kd.C (Kd.slice 5 (Kd.int .u8)) w A2 l2.length l2) (hc2 : l2.length ≤ c2) (hr3 : Kd.C (Kd.int .i64) w A3 l3.length l3) (hc3 : l3.length ≤ c3) (h : r5_fits.f k l0 l1 l2 l3 = some (r1, r2)) :
    Calls Try.prog 53 #[.slice A0 l0.length c0, .slice A1 l1.length c1, .slice A2 l2.length c2, .slice A3 l3.length c3] w fun e w' => ∃ v0_ : Value, e = .returned (.tuple #[v0_, .bool r2]) ∧ Kd.R Kd.bool 4 w' w.heap.size (fun _ => True) v0_ r1 ∧ Below w.heap.size w w' := by
 have HR0 := sqM hr0
 have HC0 := sqM hc0
 clear hr0 hc0
 have HR1 := sqM hr1
 have HC1 := sqM hc1
 clear hr1 hc1
 have HR2 := sqM hr2
 have HC2 := sqM hc2
 clear hr2 hc2
 have HR3 := sqM hr3
 have HC3 := sqM hc3
 clear hr3 hc3
 have HB := sqM (Below.refl w.heap.size w)
 have H : (if 0 ≤ (wrap64 ((l0.length : Int) + (l2.length : Int))) then (if (wrap64 ((l0.length : Int) + (l2.length : Int)) : Int).toNat ≤ 281474976710656 then ((some (List.replicate (wrap64 ((l0.length : Int) + (l2.length : Int)) : Int).toNat false : List Bool)).bind fun y253 => (if (l1.length : Int) = (l0.length : Int) then (r5_fits.l0 k l0 l1 l2 l3 (l0.length : Int) y253 0 0) else (some (y253, false)))) else (none)) else (none)) = some (r1, r2) := h
 clear h
 obtain ⟨ji5, hji5⟩ : ∃ j_ : Int, (wrap64 ((l0.length : Int) + (l2.length : Int))) = j_ := ⟨_, rfl⟩
 replace H : (if 0 ≤ (ji5) then (if (ji5 : Int).toNat ≤ 281474976710656 then ((some (List.replicate (ji5 : Int).toNat false : List Bool)).bind fun y253 => (if (l1.length : Int) = (l0.length : Int) then (r5_fits.l0 k l0 l1 l2 l3 (l0.length : Int) y253 0 0) else (some (y253, false)))) else (none)) else (none)) = some (r1, r2) := by (rw [hji5] at H; exact H)
 have hji5w : (IntKind.i64.wrap ((l0.length : Int) + (l2.length : Int))) = ji5 := (i64_w _).trans hji5
 by_cases c6 : 0 ≤ (ji5)
 ·
  rw [if_pos c6] at H
  have c6b0 := eq_true c6
  have c6b1 : decide (0 ≤ (ji5)) = true := decide_eq_true c6
  clear c6
  by_cases c7 : (ji5 : Int).toNat ≤ 281474976710656
  ·
   rw [if_pos c7] at H
   have c7b0 := eq_true c7
   have c7b1 : decide ((ji5 : Int).toNat ≤ 281474976710656) = true := decide_eq_true c7
   clear c7
   obtain ⟨y253, hy253⟩ : ∃ y_ : List Bool, y_ = (List.replicate (ji5 : Int).toNat false) := ⟨_, rfl⟩
   replace H : (if (l1.length : Int) = (l0.length : Int) then (r5_fits.l0 k l0 l1 l2 l3 (l0.length : Int) y253 0 0) else (some (y253, false))) = some (r1, r2) := by (have H2_ := (Option.bind_some _ _).symm.trans H; rw [hy253]; with_reducible exact H2_)
   have Ny253 := sqM hy253
   clear hy253
   by_cases c8 : (l1.length : Int) = (l0.length : Int)
   ·
    rw [if_pos c8] at H
    have c8b0 : ((l1.length : Int) == (l0.length : Int)) = true := beq_iff_eq.mpr c8
    have c8b1 : ((l1.length : Int) != (l0.length : Int)) = false := bne_eq_false_iff_eq.mpr c8
    have c8b2 : (l1.length == l0.length) = true := by (simp at c8 ⊢; omega)
    clear c8
    have H' := sqM H
    clear H
    go_enter Try.func53, Try.ntmps53
    go_wp2_with (first | ((with_reducible refine q1t (N := 23) rfl ?_); (try (refine q0r (by rfl) ?_; dsimp only)); refine Kd.R_make Kd.bool _ 4 rfl (N := 23) rfl 66 _ _ rfl ji5 rfl rfl Try.underlying66 (.bool false) 1 info4 rfl (by decide) (by omega) false (ok := fun _ => True) (okp := fun _ => True) rfl (fun _ hk => hk) trivial (of_decide_eq_true (by (with_reducible assumption))) (Nat.le_trans (Nat.mul_le_mul_right _ (of_decide_eq_true (by (with_reducible assumption)) : ji5.toNat ≤ 281474976710656)) (by omega)) (Below.refl _ _) (Nat.le_refl _) ?_; intro v254 w9 ho10 hb hg_ hnew_; clear hg_ hnew_; (rw [← Ny253.out] at ho10); have n0_ := sqM (Kd.R_lower ho10 (q01 (by repeat ((with_reducible (exact HB.out)))))); have n1_ := sqM (q04 (by repeat ((with_reducible (exact HB.out)))) hb); clear HB; have HO255 := n0_; have HB := n1_; clear n0_ n1_; clear hb ho10))
    repeat (go_quiet (first | ((with_reducible refine q1t (N := 23) rfl ?_); (try (refine q0r (by rfl) ?_; dsimp only)); refine Kd.R_make Kd.bool _ 4 rfl (N := 23) rfl 66 _ _ rfl ji5 rfl rfl Try.underlying66 (.bool false) 1 info4 rfl (by decide) (by omega) false (ok := fun _ => True) (okp := fun _ => True) rfl (fun _ hk => hk) trivial (of_decide_eq_true (by first | (with_reducible assumption) | assumption)) (Nat.le_trans (Nat.mul_le_mul_right _ (of_decide_eq_true (by first | (with_reducible assumption) | assumption) : ji5.toNat ≤ 281474976710656)) (by omega)) (Below.refl _ _) (Nat.le_refl _) ?_; intro v254 w9 ho10 hb hg_ hnew_; clear hg_ hnew_; (first | rw [← Ny253.out] at ho10 | (simp only [Int.reduceToNat] at ho10; rw [← Ny253.out] at ho10)); have n0_ := sqM (Kd.R_lower ho10 (q01 (by repeat (first | (with_reducible first | exact HB.out | apply q02 | apply q00 | apply q06) | exact HB.out)))); have n1_ := sqM (q04 (by repeat (first | (with_reducible first | exact HB.out | apply q02 | apply q00 | apply q06) | exact HB.out)) hb); clear HB; have HO255 := n0_; have HB := n1_; clear n0_ n1_; clear hb ho10)); try go_wp2_with (first | ((with_reducible refine q1t (N := 23) rfl ?_); (try (refine q0r (by rfl) ?_; dsimp only)); refine Kd.R_make Kd.bool _ 4 rfl (N := 23) rfl 66 _ _ rfl ji5 rfl rfl Try.underlying66 (.bool false) 1 info4 rfl (by decide) (by omega) false (ok := fun _ => True) (okp := fun _ => True) rfl (fun _ hk => hk) trivial (of_decide_eq_true (by first | (with_reducible assumption) | assumption)) (Nat.le_trans (Nat.mul_le_mul_right _ (of_decide_eq_true (by first | (with_reducible assumption) | assumption) : ji5.toNat ≤ 281474976710656)) (by omega)) (Below.refl _ _) (Nat.le_refl _) ?_; intro v254 w9 ho10 hb hg_ hnew_; clear hg_ hnew_; (first | rw [← Ny253.out] at ho10 | (simp only [Int.reduceToNat] at ho10; rw [← Ny253.out] at ho10)); have n0_ := sqM (Kd.R_lower ho10 (q01 (by repeat (first | (with_reducible first | exact HB.out | apply q02 | apply q00 | apply q06) | exact HB.out)))); have n1_ := sqM (q04 (by repeat (first | (with_reducible first | exact HB.out | apply q02 | apply q00 | apply q06) | exact HB.out)) hb); clear HB; have HO255 := n0_; have HB := n1_; clear n0_ n1_; clear hb ho10)))
    go_loopg [12, 13] k (fun kq v12 v13 w' => ∃ (x12_1 : Int) (x13_1 : Int), v12 = .int .i64 x12_1 ∧ v13 = .int .i64 x13_1 ∧ Aside0 (r5_fits.l0 kq l0 l1 l2 l3 (l0.length : Int) y253 x12_1 x13_1 = some (r1, r2)) ∧ Aside0 (kq ≤ k) ∧ Aside0 (Kd.R Kd.bool 4 w' w.heap.size (fun _ => True) v254 y253) ∧ Aside0 (Below w.heap.size w w'))
    case atStart => exact ⟨(0), (0), (by rfl), (by rfl), H', ⟨Nat.le_refl _⟩, ⟨by (with_reducible repeat (first | apply Kd.R_alloc | apply Kd.R_drewN | apply Kd.R_drew)); exact HO255.out⟩, ⟨by repeat ((with_reducible (exact HB.out)))⟩⟩
    case round =>
     clear H'
     try clear c6b0
     try clear c6b1
     try clear c7b0
     try clear c7b1
     try clear c8b0
     try clear c8b1
     try clear c8b2
     obtain ⟨x12_1, x13_1, rfl, rfl, HA, HK1, HO_11, HB⟩ := hrel
     cases gk with
     | zero => exact absurd HA.out (by simp [r5_fits.l0])
     | succ k1 =>
      have H := HA.out
      clear HA
      simp only [r5_fits.l0] at H
      by_cases c11 : x13_1 < (l0.length : Int)
      ·
       rw [if_pos c11] at H
       have c11b0 : decide (x13_1 < (l0.length : Int)) = true := decide_eq_true c11
       clear c11
       by_cases c12 : 0 ≤ x13_1
       ·
        rw [if_pos c12] at H
        have c12b0 : decide (0 ≤ x13_1) = true := decide_eq_true c12
        clear c12
        by_cases c13 : x13_1 < (l1.length : Int)
        ·
         rw [if_pos c13] at H
         have c13b0 : decide (x13_1 < (l1.length : Int)) = true := decide_eq_true c13
         clear c13
         by_cases c14 : (rd l1 x13_1) < 0
         ·
          rw [if_pos c14] at H
          have c14b0 : decide ((rd l1 x13_1) < 0) = true := decide_eq_true c14
          clear c14
          simp only [Option.some.injEq, Prod.mk.injEq] at H
          obtain ⟨rfl, rfl⟩ := H
          have p256 : 0 ≤ (x13_1 : Int) := of_decide_eq_true (by (with_reducible assumption))
          have q256 : x13_1 < (l1.length : Int) := of_decide_eq_true (by (with_reducible assumption))
          obtain ⟨ad256, e256, hx256_0⟩ := Kd.at_int HR1.out x13_1 p256 q256
          cases e256
          replace hx256_0 := (HB.out.cell (World.block_lt_of_cell? w _ hx256_0)).trans hx256_0
          replace p256 := eq_true p256
          replace q256 := eq_true q256
          go_wp2
          repeat (go_quiet (fail); try go_wp2)
          go_ret2
          exact ⟨_, by rfl, by (with_reducible repeat (first | apply Kd.R_alloc | apply Kd.R_drewN | apply Kd.R_drew)); exact HO_11.out, by repeat ((with_reducible (exact HB.out)))⟩
         ·
          rw [if_neg c14] at H
          have c14b0 : decide ((rd l1 x13_1) < 0) = false := decide_eq_false c14
          clear c14
          by_cases c15 : (rd l1 x13_1) > 16777216
          ·
           rw [if_pos c15] at H
           have c15b0 : decide (16777216 < (rd l1 x13_1)) = true := decide_eq_true c15
           clear c15
           simp only [Option.some.injEq, Prod.mk.injEq] at H
           obtain ⟨rfl, rfl⟩ := H
           have p256 : 0 ≤ (x13_1 : Int) := of_decide_eq_true (by (with_reducible assumption))
           have q256 : x13_1 < (l1.length : Int) := of_decide_eq_true (by (with_reducible assumption))
           obtain ⟨ad256, e256, hx256_0⟩ := Kd.at_int HR1.out x13_1 p256 q256
           cases e256
           replace hx256_0 := (HB.out.cell (World.block_lt_of_cell? w _ hx256_0)).trans hx256_0
           replace p256 := eq_true p256
           replace q256 := eq_true q256
           have p257 : 0 ≤ (x13_1 : Int) := of_decide_eq_true (by (with_reducible assumption))
           have q257 : x13_1 < (l1.length : Int) := of_decide_eq_true (by (with_reducible assumption))
           obtain ⟨ad257, e257, hx257_0⟩ := Kd.at_int HR1.out x13_1 p257 q257
           obtain rfl : ad256 = ad257 := (by injection e257)
           replace hx257_0 := (HB.out.cell (World.block_lt_of_cell? w _ hx257_0)).trans hx257_0
           replace p257 := eq_true p257
           replace q257 := eq_true q257
           go_wp2
           repeat (go_quiet (fail); try go_wp2)
           go_ret2
           exact ⟨_, by rfl, by (with_reducible repeat (first | apply Kd.R_alloc | apply Kd.R_drewN | apply Kd.R_drew)); exact HO_11.out, by repeat ((with_reducible (exact HB.out)))⟩
          ·
           rw [if_neg c15] at H
           have c15b0 : decide (16777216 < (rd l1 x13_1)) = false := decide_eq_false c15
           clear c15
           obtain ⟨ji16, hji16⟩ : ∃ j_ : Int, (mx x12_1 (rd l1 x13_1)) = j_ := ⟨_, rfl⟩
           replace H : (r5_fits.l0 k1 l0 l1 l2 l3 (l0.length : Int) y253 ji16 (wrap64 (x13_1 + 1))) = some (r1, r2) := by (rw [hji16] at H; exact H)
           have hji16_ : (if x12_1 < (rd l1 x13_1) then (rd l1 x13_1) else x12_1) = ji16 := hji16
           have H' := sqM H
           clear H
           have p256 : 0 ≤ (x13_1 : Int) := of_decide_eq_true (by (with_reducible assumption))
           have q256 : x13_1 < (l1.length : Int) := of_decide_eq_true (by (with_reducible assumption))
           obtain ⟨ad256, e256, hx256_0⟩ := Kd.at_int HR1.out x13_1 p256 q256
           cases e256
           replace hx256_0 := (HB.out.cell (World.block_lt_of_cell? w _ hx256_0)).trans hx256_0
           replace p256 := eq_true p256
           replace q256 := eq_true q256
           have p257 : 0 ≤ (x13_1 : Int) := of_decide_eq_true (by (with_reducible assumption))
           have q257 : x13_1 < (l1.length : Int) := of_decide_eq_true (by (with_reducible assumption))
           obtain ⟨ad257, e257, hx257_0⟩ := Kd.at_int HR1.out x13_1 p257 q257
           obtain rfl : ad256 = ad257 := (by injection e257)
           replace hx257_0 := (HB.out.cell (World.block_lt_of_cell? w _ hx257_0)).trans hx257_0
           replace p257 := eq_true p257
           replace q257 := eq_true q257
           have p258 : 0 ≤ (x13_1 : Int) := of_decide_eq_true (by (with_reducible assumption))
           have q258 : x13_1 < (l1.length : Int) := of_decide_eq_true (by (with_reducible assumption))
           obtain ⟨ad258, e258, hx258_0⟩ := Kd.at_int HR1.out x13_1 p258 q258
           obtain rfl : ad256 = ad258 := (by injection e258)
           replace hx258_0 := (HB.out.cell (World.block_lt_of_cell? w _ hx258_0)).trans hx258_0
           replace p258 := eq_true p258
           replace q258 := eq_true q258
           go_wp2
           repeat (go_quiet (fail); try go_wp2)
           go_roundg k1
           case measure => have := HK1.out; omega
           case rel => exact ⟨(ji16), (wrap64 (x13_1 + 1)), (by rfl), (by rfl), H', ⟨by have := HK1.out; omega⟩, ⟨by (with_reducible repeat (first | apply Kd.R_alloc | apply Kd.R_drewN | apply Kd.R_drew)); exact HO_11.out⟩, ⟨by repeat ((with_reducible (exact HB.out)))⟩⟩
        · rw [if_neg c13] at H
          exact absurd H (by simp)
       · rw [if_neg c12] at H
         exact absurd H (by simp)
      ·
       rw [if_neg c11] at H
       have c11b0 : decide (x13_1 < (l0.length : Int)) = false := decide_eq_false c11
       clear c11
       have H' := sqM H
       clear H
       go_wp2
       repeat (go_quiet (fail); try go_wp2)
       go_loopg [14] k1 (fun kq v14 w' => ∃ (x11_2 : List Bool) (x14_2 : Int), v14 = .int .i64 x14_2 ∧ Aside0 (r5_fits.l1 kq l0 l1 l2 l3 (l0.length : Int) x11_2 x12_1 x14_2 = some (r1, r2)) ∧ Aside0 (kq ≤ k1) ∧ Aside0 (Kd.R Kd.bool 4 w' w.heap.size (fun _ => True) v254 x11_2) ∧ Aside0 (Below w.heap.size w w'))
       case atStart => exact ⟨(y253), (0), (by rfl), H', ⟨Nat.le_refl _⟩, ⟨by (with_reducible repeat (first | apply Kd.R_alloc | apply Kd.R_drewN | apply Kd.R_drew)); exact HO_11.out⟩, ⟨by repeat ((with_reducible (exact HB.out)))⟩⟩
       case round =>
        clear H'
        try clear c11b0
        obtain ⟨x11_2, x14_2, rfl, HA, HK2, HO_11, HB⟩ := hrel
        cases gk with
        | zero => exact absurd HA.out (by simp [r5_fits.l1])
        | succ k2 =>
         have H := HA.out
         clear HA
         simp only [r5_fits.l1] at H
         by_cases c17 : x14_2 < (l3.length : Int)
         ·
          rw [if_pos c17] at H
          have c17b0 : decide (x14_2 < (l3.length : Int)) = true := decide_eq_true c17
          clear c17
          by_cases c18 : 0 ≤ x14_2
          ·
           rw [if_pos c18] at H
           have c18b0 : decide (0 ≤ x14_2) = true := decide_eq_true c18
           clear c18
           by_cases c19 : (rd l3 x14_2) < 0
           ·
            rw [if_pos c19] at H
            have c19b0 : decide ((rd l3 x14_2) < 0) = true := decide_eq_true c19
            clear c19
            simp only [Option.some.injEq, Prod.mk.injEq] at H
            obtain ⟨rfl, rfl⟩ := H
            have p259 : 0 ≤ (x14_2 : Int) := of_decide_eq_true (by (with_reducible assumption))
            have q259 : x14_2 < (l3.length : Int) := of_decide_eq_true (by (with_reducible assumption))
            obtain ⟨ad259, e259, hx259_0⟩ := Kd.at_int HR3.out x14_2 p259 q259
            cases e259
            replace hx259_0 := (HB.out.cell (World.block_lt_of_cell? w _ hx259_0)).trans hx259_0
            replace p259 := eq_true p259
            replace q259 := eq_true q259
            go_wp2
            repeat (go_quiet (fail); try go_wp2)
            go_ret2
            exact ⟨_, by rfl, by (with_reducible repeat (first | apply Kd.R_alloc | apply Kd.R_drewN | apply Kd.R_drew)); exact HO_11.out, by repeat ((with_reducible (exact HB.out)))⟩
           ·
            rw [if_neg c19] at H
            have c19b0 : decide ((rd l3 x14_2) < 0) = false := decide_eq_false c19
            clear c19
            by_cases c20 : (rd l3 x14_2) ≥ (x11_2.length : Int)
            ·
             rw [if_pos c20] at H
             have c20b0 : decide ((x11_2.length : Int) ≤ (rd l3 x14_2)) = true := decide_eq_true c20
             clear c20
             simp only [Option.some.injEq, Prod.mk.injEq] at H
             obtain ⟨rfl, rfl⟩ := H
             have p259 : 0 ≤ (x14_2 : Int) := of_decide_eq_true (by (with_reducible assumption))
             have q259 : x14_2 < (l3.length : Int) := of_decide_eq_true (by (with_reducible assumption))
             obtain ⟨ad259, e259, hx259_0⟩ := Kd.at_int HR3.out x14_2 p259 q259
             cases e259
             replace hx259_0 := (HB.out.cell (World.block_lt_of_cell? w _ hx259_0)).trans hx259_0
             replace p259 := eq_true p259
             replace q259 := eq_true q259
             have p260 : 0 ≤ (x14_2 : Int) := of_decide_eq_true (by (with_reducible assumption))
             have q260 : x14_2 < (l3.length : Int) := of_decide_eq_true (by (with_reducible assumption))
             obtain ⟨ad260, e260, hx260_0⟩ := Kd.at_int HR3.out x14_2 p260 q260
             obtain rfl : ad259 = ad260 := (by injection e260)
             replace hx260_0 := (HB.out.cell (World.block_lt_of_cell? w _ hx260_0)).trans hx260_0
             replace p260 := eq_true p260
             replace q260 := eq_true q260
             obtain ⟨Ao21, co21, eo21⟩ := Kd.R_slice HO_11.out
             subst eo21
             go_wp2
             repeat (go_quiet (fail); try go_wp2)
             go_ret2
             exact ⟨_, by rfl, by (with_reducible repeat (first | apply Kd.R_alloc | apply Kd.R_drewN | apply Kd.R_drew)); exact HO_11.out, by repeat ((with_reducible (exact HB.out)))⟩
            ·
             rw [if_neg c20] at H
             have c20b0 : decide ((x11_2.length : Int) ≤ (rd l3 x14_2)) = false := decide_eq_false c20
             clear c20
             by_cases c22 : 0 ≤ (rd l3 x14_2)
             ·
              rw [if_pos c22] at H
              have c22b0 : decide (0 ≤ (rd l3 x14_2)) = true := decide_eq_true c22
              clear c22
              by_cases c23 : (rd l3 x14_2) < (x11_2.length : Int)
              ·
               rw [if_pos c23] at H
               have c23b0 : decide ((rd l3 x14_2) < (x11_2.length : Int)) = true := decide_eq_true c23
               clear c23
               obtain ⟨y262, hy262⟩ : ∃ y_ : List Bool, y_ = (x11_2.set ((rd l3 x14_2) : Int).toNat true) := ⟨_, rfl⟩
               replace H : (r5_fits.l1 k2 l0 l1 l2 l3 (l0.length : Int) y262 x12_1 (wrap64 (x14_2 + 1))) = some (r1, r2) := by (rw [hy262]; with_reducible exact H)
               have Ny262 := sqM hy262
               clear hy262
               have H' := sqM H
               clear H
               have p259 : 0 ≤ (x14_2 : Int) := of_decide_eq_true (by (with_reducible assumption))
               have q259 : x14_2 < (l3.length : Int) := of_decide_eq_true (by (with_reducible assumption))
               obtain ⟨ad259, e259, hx259_0⟩ := Kd.at_int HR3.out x14_2 p259 q259
               cases e259
               replace hx259_0 := (HB.out.cell (World.block_lt_of_cell? w _ hx259_0)).trans hx259_0
               replace p259 := eq_true p259
               replace q259 := eq_true q259
               have p260 : 0 ≤ (x14_2 : Int) := of_decide_eq_true (by (with_reducible assumption))
               have q260 : x14_2 < (l3.length : Int) := of_decide_eq_true (by (with_reducible assumption))
               obtain ⟨ad260, e260, hx260_0⟩ := Kd.at_int HR3.out x14_2 p260 q260
               obtain rfl : ad259 = ad260 := (by injection e260)
               replace hx260_0 := (HB.out.cell (World.block_lt_of_cell? w _ hx260_0)).trans hx260_0
               replace p260 := eq_true p260
               replace q260 := eq_true q260
               obtain ⟨Ao25, co25, eo25⟩ := Kd.R_slice HO_11.out
               subst eo25
               have p261 : 0 ≤ (x14_2 : Int) := of_decide_eq_true (by (with_reducible assumption))
               have q261 : x14_2 < (l3.length : Int) := of_decide_eq_true (by (with_reducible assumption))
               obtain ⟨ad261, e261, hx261_0⟩ := Kd.at_int HR3.out x14_2 p261 q261
               obtain rfl : ad259 = ad261 := (by injection e261)
               replace hx261_0 := (HB.out.cell (World.block_lt_of_cell? w _ hx261_0)).trans hx261_0
               replace p261 := eq_true p261
               replace q261 := eq_true q261
               have p24 : 0 ≤ ((rd l3 x14_2) : Int) := of_decide_eq_true (by (with_reducible assumption))
               have q24 : ((rd l3 x14_2) : Int) < ((x11_2.length : Int) : Int) := of_decide_eq_true (by (with_reducible assumption))
               obtain ⟨go24, co24, eo24, gb24, gl24, cl24, HG24⟩ := Kd.R_form HO_11.out (by omega)
               (cases eo24)
               have GB24 := sqM gb24
               have GG24 := sqM HG24
               clear gb24 gl24 HG24
               obtain ⟨hx24_0, hf24_0⟩ := Kd.R_celln false HO_11.out ((rd l3 x14_2) : Int) p24 q24
               replace p24 := eq_true p24
               replace q24 := eq_true q24
               have HP26 := Kd.R_putg HO_11.out ((rd l3 x14_2) : Int) true
               go_wp2_with (first | ((with_reducible refine q1j (t := 4) (p := 79) rfl ?_); refine q14 (t := 4) (p := 79) (v := ?vo_w27) (w1 := (wr.setCell ⟨go24, ((rd l3 x14_2) : Int).toNat, none⟩ (.bool true))) ?hg ?ho ?hn ?hr ?_; (case ho => rfl); (case hg => rfl); (case hn => rfl); (case hr => ((go_simp; done))); intro w27 hw; have hg : wr.grownBy w27 (some go24) := (by rw [hw]; exact HP26.2); have hp_ : Kd.R Kd.bool 4 w27 w.heap.size (fun _ => True) (.slice (some ⟨go24, 0, none⟩) x11_2.length co25) y262 := (by rw [hw, Ny262.out]; exact HP26.1); clear HP26; have n0_ := sqM (hp_); have n1_ := sqM ((by rw [hw]; exact q0m (HB.out) GB24.out : Below w.heap.size w w27)); clear HO_11; clear HB; have HO_11 := n0_; have HB := n1_; clear n0_ n1_; clear hg hw hp_))
               repeat (go_quiet (first | ((with_reducible refine q1j (t := 4) (p := 79) rfl ?_); (try (rw [drewN_self wr]; generalize hq_ : World.drewN wr _ = wr; have n0_ := sqM (Kd.R_at hq_ HO_11.out); have n1_ := sqM (below_at hq_ HB.out); clear hq_ HO_11 HB; have HO_11 := n0_; have HB := n1_; clear n0_ n1_; (try (have HP26 := Kd.R_putg HO_11.out ((rd l3 x14_2) : Int) true)))); refine q14 (t := 4) (p := 79) (v := ?vo_w27) (w1 := (wr.setCell ⟨go24, ((rd l3 x14_2) : Int).toNat, none⟩ (.bool true))) ?hg ?ho ?hn ?hr ?_; (case ho => rfl); (case hg => rfl); (case hn => rfl); (case hr => first | (go_simp; done) | (go_simp; rfl)); intro w27 hw; have hg : wr.grownBy w27 (some go24) := (by rw [hw]; exact HP26.2); have hp_ : Kd.R Kd.bool 4 w27 w.heap.size (fun _ => True) (.slice (some ⟨go24, 0, none⟩) x11_2.length co25) y262 := (by rw [hw, Ny262.out]; exact HP26.1); clear HP26; have n0_ := sqM (hp_); have n1_ := sqM ((by rw [hw]; exact q0m (HB.out) GB24.out : Below w.heap.size w w27)); clear HO_11; clear HB; have HO_11 := n0_; have HB := n1_; clear n0_ n1_; clear hg hw hp_)); try go_wp2_with (first | ((with_reducible refine q1j (t := 4) (p := 79) rfl ?_); (try (rw [drewN_self wr]; generalize hq_ : World.drewN wr _ = wr; have n0_ := sqM (Kd.R_at hq_ HO_11.out); have n1_ := sqM (below_at hq_ HB.out); clear hq_ HO_11 HB; have HO_11 := n0_; have HB := n1_; clear n0_ n1_; (try (have HP26 := Kd.R_putg HO_11.out ((rd l3 x14_2) : Int) true)))); refine q14 (t := 4) (p := 79) (v := ?vo_w27) (w1 := (wr.setCell ⟨go24, ((rd l3 x14_2) : Int).toNat, none⟩ (.bool true))) ?hg ?ho ?hn ?hr ?_; (case ho => rfl); (case hg => rfl); (case hn => rfl); (case hr => first | (go_simp; done) | (go_simp; rfl)); intro w27 hw; have hg : wr.grownBy w27 (some go24) := (by rw [hw]; exact HP26.2); have hp_ : Kd.R Kd.bool 4 w27 w.heap.size (fun _ => True) (.slice (some ⟨go24, 0, none⟩) x11_2.length co25) y262 := (by rw [hw, Ny262.out]; exact HP26.1); clear HP26; have n0_ := sqM (hp_); have n1_ := sqM ((by rw [hw]; exact q0m (HB.out) GB24.out : Below w.heap.size w w27)); clear HO_11; clear HB; have HO_11 := n0_; have HB := n1_; clear n0_ n1_; clear hg hw hp_)))
               go_roundg k2
               case measure => have := HK1.out; have := HK2.out; omega
               case rel => exact ⟨(y262), (wrap64 (x14_2 + 1)), (by rfl), H', ⟨by have := HK1.out; have := HK2.out; omega⟩, ⟨by (with_reducible repeat (first | apply Kd.R_alloc | apply Kd.R_drewN | apply Kd.R_drew)); exact HO_11.out⟩, ⟨by repeat ((with_reducible (exact HB.out)))⟩⟩
              · rw [if_neg c23] at H
                exact absurd H (by simp)
             · rw [if_neg c22] at H
               exact absurd H (by simp)
          · rw [if_neg c18] at H
            exact absurd H (by simp)
         ·
          rw [if_neg c17] at H
          have c17b0 : decide (x14_2 < (l3.length : Int)) = false := decide_eq_false c17
          clear c17
          have H' := sqM H
          clear H
          go_wp2
          repeat (go_quiet (fail); try go_wp2)
          go_loopg [15] k2 (fun kq v15 w' => ∃ (x15_3 : Int), v15 = .int .i64 x15_3 ∧ Aside0 (r5_fits.l2 kq l0 l1 l2 (l0.length : Int) x11_2 x12_1 x15_3 = some (r1, r2)) ∧ Aside0 (kq ≤ k2) ∧ Aside0 (Kd.R Kd.bool 4 w' w.heap.size (fun _ => True) v254 x11_2) ∧ Aside0 (Below w.heap.size w w'))
          case atStart => exact ⟨(0), (by rfl), H', ⟨Nat.le_refl _⟩, ⟨by (with_reducible repeat (first | apply Kd.R_alloc | apply Kd.R_drewN | apply Kd.R_drew)); exact HO_11.out⟩, ⟨by repeat ((with_reducible (exact HB.out)))⟩⟩
          case round =>
           clear H'
           try clear c17b0
           obtain ⟨x15_3, rfl, HA, HK3, HO_11, HB⟩ := hrel
           cases gk with
           | zero => exact absurd HA.out (by simp [r5_fits.l2])
           | succ k3 =>
            have H := HA.out
            clear HA
            simp only [r5_fits.l2] at H
            by_cases c28 : x15_3 < (l0.length : Int)
            ·
             rw [if_pos c28] at H
             have c28b0 : decide (x15_3 < (l0.length : Int)) = true := decide_eq_true c28
             clear c28
             by_cases c29 : 0 ≤ x15_3
             ·
              rw [if_pos c29] at H
              have c29b0 : decide (0 ≤ x15_3) = true := decide_eq_true c29
              clear c29
              by_cases c30 : x15_3 < (x11_2.length : Int)
              ·
               rw [if_pos c30] at H
               have c30b0 : decide (x15_3 < (x11_2.length : Int)) = true := decide_eq_true c30
               clear c30
               obtain ⟨bq31, hbq31⟩ : ∃ b_ : Bool, b_ = (rdOf false x11_2 x15_3) := ⟨_, rfl⟩
               replace H : (if bq31 = true then (r5_fits.l2 k3 l0 l1 l2 (l0.length : Int) x11_2 x12_1 (wrap64 (x15_3 + 1))) else (if x15_3 < (l0.length : Int) then (if x15_3 < (l1.length : Int) then (if ((rd_L2 l0 x15_3).length : Int) = (rd l1 x15_3) then (r5_fits.l2 k3 l0 l1 l2 (l0.length : Int) x11_2 x12_1 (wrap64 (x15_3 + 1))) else (some (x11_2, false))) else (none)) else (none))) = some (r1, r2) := by rw [← hbq31] at H; exact H
               have Nbq31 := sqM hbq31
               clear hbq31
               by_cases c32 : bq31 = true
               ·
                subst c32
                have H1 : (r5_fits.l2 k3 l0 l1 l2 (l0.length : Int) x11_2 x12_1 (wrap64 (x15_3 + 1))) = some (r1, r2) := by rw [if_pos rfl] at H; exact H
                clear H
                have H := H1
                clear H1
                have H' := sqM H
                clear H
                obtain ⟨Ao33, co33, eo33⟩ := Kd.R_slice HO_11.out
                subst eo33
                have p263 : 0 ≤ (x15_3 : Int) := of_decide_eq_true (by (with_reducible assumption))
                have q263 : x15_3 < (x11_2.length : Int) := of_decide_eq_true (by (with_reducible assumption))
                obtain ⟨ad263, e263, hx263_0⟩ := Kd.at_bool (Kd.R_reads' HO_11.out).2.2 x15_3 p263 q263
                (try rw [← Nbq31.out] at hx263_0)
                cases e263
                replace p263 := eq_true p263
                replace q263 := eq_true q263
                go_wp2
                repeat (go_quiet (fail); try go_wp2)
                go_roundg k3
                case measure => have := HK1.out; have := HK2.out; have := HK3.out; omega
                case rel => exact ⟨(wrap64 (x15_3 + 1)), (by rfl), H', ⟨by have := HK1.out; have := HK2.out; have := HK3.out; omega⟩, ⟨by (with_reducible repeat (apply Kd.R_drewN)); exact HO_11.out⟩, ⟨by repeat ((with_reducible first | exact HB.out | apply q00))⟩⟩
               ·
                replace c32 := Bool.eq_false_iff.mpr c32
                subst c32
                have H1 : (if x15_3 < (l0.length : Int) then (if x15_3 < (l1.length : Int) then (if ((rd_L2 l0 x15_3).length : Int) = (rd l1 x15_3) then (r5_fits.l2 k3 l0 l1 l2 (l0.length : Int) x11_2 x12_1 (wrap64 (x15_3 + 1))) else (some (x11_2, false))) else (none)) else (none)) = some (r1, r2) := by rw [if_neg (show ¬ (false = true) by decide)] at H; exact H
                clear H
                have H := H1
                clear H1
                by_cases c34 : x15_3 < (l0.length : Int)
                ·
                 rw [if_pos c34] at H
                 have c34b0 : decide (x15_3 < (l0.length : Int)) = true := decide_eq_true c34
                 clear c34
                 by_cases c35 : x15_3 < (l1.length : Int)
                 ·
                  rw [if_pos c35] at H
                  have c35b0 : decide (x15_3 < (l1.length : Int)) = true := decide_eq_true c35
                  clear c35
                  by_cases c36 : ((rd_L2 l0 x15_3).length : Int) = (rd l1 x15_3)
                  ·
                   rw [if_pos c36] at H
                   have c36b0 : (((rd_L2 l0 x15_3).length : Int) == (rd l1 x15_3)) = true := beq_iff_eq.mpr c36
                   have c36b1 : (((rd_L2 l0 x15_3).length : Int) != (rd l1 x15_3)) = false := bne_eq_false_iff_eq.mpr c36
                   clear c36
                   have H' := sqM H
                   clear H
                   obtain ⟨Ao37, co37, eo37⟩ := Kd.R_slice HO_11.out
                   subst eo37
                   have p263 : 0 ≤ (x15_3 : Int) := of_decide_eq_true (by (with_reducible assumption))
                   have q263 : x15_3 < (x11_2.length : Int) := of_decide_eq_true (by (with_reducible assumption))
                   obtain ⟨ad263, e263, hx263_0⟩ := Kd.at_bool (Kd.R_reads' HO_11.out).2.2 x15_3 p263 q263
                   (try rw [← Nbq31.out] at hx263_0)
                   cases e263
                   replace p263 := eq_true p263
                   replace q263 := eq_true q263
                   have p264 : 0 ≤ (x15_3 : Int) := of_decide_eq_true (by (with_reducible assumption))
                   have q264 : x15_3 < (l0.length : Int) := of_decide_eq_true (by (with_reducible assumption))
                   obtain ⟨ad264, A264_0, c264_0, e264, hx264_0, hl264_0, hi264_0⟩ := at_L2 HR0.out x15_3 p264 q264
                   cases e264
                   replace hx264_0 := (HB.out.cell (World.block_lt_of_cell? w _ hx264_0)).trans hx264_0
                   have HR264_0 := sqM hi264_0
                   have HC264_0 := sqM hl264_0
                   clear hi264_0 hl264_0
                   replace p264 := eq_true p264
                   replace q264 := eq_true q264
                   have p265 : 0 ≤ (x15_3 : Int) := of_decide_eq_true (by (with_reducible assumption))
                   have q265 : x15_3 < (l1.length : Int) := of_decide_eq_true (by (with_reducible assumption))
                   obtain ⟨ad265, e265, hx265_0⟩ := Kd.at_int HR1.out x15_3 p265 q265
                   cases e265
                   replace hx265_0 := (HB.out.cell (World.block_lt_of_cell? w _ hx265_0)).trans hx265_0
                   replace p265 := eq_true p265
                   replace q265 := eq_true q265
                   go_wp2
                   repeat (go_quiet (fail); try go_wp2)
                   go_roundg k3
                   case measure => have := HK1.out; have := HK2.out; have := HK3.out; omega
                   case rel => exact ⟨(wrap64 (x15_3 + 1)), (by rfl), H', ⟨by have := HK1.out; have := HK2.out; have := HK3.out; omega⟩, ⟨by (with_reducible repeat (apply Kd.R_drewN)); exact HO_11.out⟩, ⟨by repeat ((with_reducible first | exact HB.out | apply q00))⟩⟩
                  ·
                   rw [if_neg c36] at H
                   have c36b0 : (((rd_L2 l0 x15_3).length : Int) == (rd l1 x15_3)) = false := beq_eq_false_iff_ne.mpr c36
                   have c36b1 : (((rd_L2 l0 x15_3).length : Int) != (rd l1 x15_3)) = true := bne_iff_ne.mpr c36
                   simp only [Option.some.injEq, Prod.mk.injEq] at H
                   obtain ⟨rfl, rfl⟩ := H
                   obtain ⟨Ao38, co38, eo38⟩ := Kd.R_slice HO_11.out
                   subst eo38
                   have p263 : 0 ≤ (x15_3 : Int) := of_decide_eq_true (by (with_reducible assumption))
                   have q263 : x15_3 < (x11_2.length : Int) := of_decide_eq_true (by (with_reducible assumption))
                   obtain ⟨ad263, e263, hx263_0⟩ := Kd.at_bool (Kd.R_reads' HO_11.out).2.2 x15_3 p263 q263
                   (try rw [← Nbq31.out] at hx263_0)
                   cases e263
                   replace p263 := eq_true p263
                   replace q263 := eq_true q263
                   have p264 : 0 ≤ (x15_3 : Int) := of_decide_eq_true (by (with_reducible assumption))
                   have q264 : x15_3 < (l0.length : Int) := of_decide_eq_true (by (with_reducible assumption))
                   obtain ⟨ad264, A264_0, c264_0, e264, hx264_0, hl264_0, hi264_0⟩ := at_L2 HR0.out x15_3 p264 q264
                   cases e264
                   replace hx264_0 := (HB.out.cell (World.block_lt_of_cell? w _ hx264_0)).trans hx264_0
                   have HR264_0 := sqM hi264_0
                   have HC264_0 := sqM hl264_0
                   clear hi264_0 hl264_0
                   replace p264 := eq_true p264
                   replace q264 := eq_true q264
                   have p265 : 0 ≤ (x15_3 : Int) := of_decide_eq_true (by (with_reducible assumption))
                   have q265 : x15_3 < (l1.length : Int) := of_decide_eq_true (by (with_reducible assumption))
                   obtain ⟨ad265, e265, hx265_0⟩ := Kd.at_int HR1.out x15_3 p265 q265
                   cases e265
                   replace hx265_0 := (HB.out.cell (World.block_lt_of_cell? w _ hx265_0)).trans hx265_0
                   replace p265 := eq_true p265
                   replace q265 := eq_true q265
                   go_wp2
                   repeat (go_quiet (fail); try go_wp2)
                   go_ret2
                   exact ⟨_, by rfl, by (with_reducible repeat (apply Kd.R_drewN)); exact HO_11.out, by repeat ((with_reducible first | exact HB.out | apply q00))⟩
                 · rw [if_neg c35] at H
                   exact absurd H (by simp)
                · rw [if_neg c34] at H
                  exact absurd H (by simp)
              · rw [if_neg c30] at H
                exact absurd H (by simp)
             · rw [if_neg c29] at H
               exact absurd H (by simp)
            ·
             rw [if_neg c28] at H
             have c28b0 : decide (x15_3 < (l0.length : Int)) = false := decide_eq_false c28
             clear c28
             have H' := sqM H
             clear H
             go_wp2
             repeat (go_quiet (fail); try go_wp2)
             go_loopg [16] k3 (fun kq v16 w' => ∃ (x16_4 : Int), v16 = .int .i64 x16_4 ∧ Aside0 (r5_fits.l3 kq l2 (l0.length : Int) x11_2 x12_1 x16_4 = some (r1, r2)) ∧ Aside0 (kq ≤ k3) ∧ Aside0 (Kd.R Kd.bool 4 w' w.heap.size (fun _ => True) v254 x11_2) ∧ Aside0 (Below w.heap.size w w'))
             case atStart => exact ⟨(0), (by rfl), H', ⟨Nat.le_refl _⟩, ⟨by (with_reducible repeat (first | apply Kd.R_alloc | apply Kd.R_drewN | apply Kd.R_drew)); exact HO_11.out⟩, ⟨by repeat ((with_reducible (exact HB.out)))⟩⟩
             case round =>
              clear H'
              try clear c28b0
              obtain ⟨x16_4, rfl, HA, HK4, HO_11, HB⟩ := hrel
              cases gk with
              | zero => exact absurd HA.out (by simp [r5_fits.l3])
              | succ k4 =>
               have H := HA.out
               clear HA
               simp only [r5_fits.l3] at H
               by_cases c39 : x16_4 < (l2.length : Int)
               ·
                rw [if_pos c39] at H
                have c39b0 : decide (x16_4 < (l2.length : Int)) = true := decide_eq_true c39
                clear c39
                obtain ⟨ji40, hji40⟩ : ∃ j_ : Int, (wrap64 ((l0.length : Int) + x16_4)) = j_ := ⟨_, rfl⟩
                replace H : (if 0 ≤ (ji40) then (if (ji40) < (x11_2.length : Int) then (if (rdOf false x11_2 (ji40) = true) then (r5_fits.l3 k4 l2 (l0.length : Int) x11_2 x12_1 (wrap64 (x16_4 + 1))) else (if 0 ≤ x16_4 then (if ((rd_L2 l2 x16_4).length : Int) = x12_1 then (r5_fits.l3 k4 l2 (l0.length : Int) x11_2 x12_1 (wrap64 (x16_4 + 1))) else (some (x11_2, false))) else (none))) else (none)) else (none)) = some (r1, r2) := by (rw [hji40] at H; exact H)
                have hji40w : (IntKind.i64.wrap ((l0.length : Int) + x16_4)) = ji40 := (i64_w _).trans hji40
                by_cases c41 : 0 ≤ (ji40)
                ·
                 rw [if_pos c41] at H
                 have c41b0 : decide (0 ≤ (ji40)) = true := decide_eq_true c41
                 clear c41
                 by_cases c42 : (ji40) < (x11_2.length : Int)
                 ·
                  rw [if_pos c42] at H
                  have c42b0 : decide ((ji40) < (x11_2.length : Int)) = true := decide_eq_true c42
                  clear c42
                  obtain ⟨bq43, hbq43⟩ : ∃ b_ : Bool, b_ = (rdOf false x11_2 (ji40)) := ⟨_, rfl⟩
                  replace H : (if (bq43 = true) then (r5_fits.l3 k4 l2 (l0.length : Int) x11_2 x12_1 (wrap64 (x16_4 + 1))) else (if 0 ≤ x16_4 then (if ((rd_L2 l2 x16_4).length : Int) = x12_1 then (r5_fits.l3 k4 l2 (l0.length : Int) x11_2 x12_1 (wrap64 (x16_4 + 1))) else (some (x11_2, false))) else (none))) = some (r1, r2) := by rw [← hbq43] at H; exact H
                  have Nbq43 := sqM hbq43
                  clear hbq43
                  by_cases c44 : (bq43 = true)
                  · subst c44
                    have H1 : (r5_fits.l3 k4 l2 (l0.length : Int) x11_2 x12_1 (wrap64 (x16_4 + 1))) = some (r1, r2) := by rw [if_pos rfl] at H; exact H
                    clear H
                    have H := H1
                    clear H1
                    have H' := sqM H
                    clear H
                    obtain ⟨Ao45, co45, eo45⟩ := Kd.R_slice HO_11.out
                    subst eo45
                    have p266 : 0 ≤ ((ji40) : Int) := of_decide_eq_true (by (with_reducible assumption))
                    have q266 : (ji40) < (x11_2.length : Int) := of_decide_eq_true (by (with_reducible assumption))
                    obtain ⟨ad266, e266, hx266_0⟩ := Kd.at_bool (Kd.R_reads' HO_11.out).2.2 (ji40) p266 q266
                    (try rw [← Nbq43.out] at hx266_0)
                    cases e266
                    replace p266 := eq_true p266
                    replace q266 := eq_true q266
                    go_wp2
                    repeat (go_quiet (fail); try go_wp2)
                    go_roundg k4
                    case measure => have := HK1.out; have := HK2.out; have := HK3.out; have := HK4.out; omega
                    case rel => exact ⟨(wrap64 (x16_4 + 1)), (by rfl), H', ⟨by have := HK1.out; have := HK2.out; have := HK3.out; have := HK4.out; omega⟩, ⟨by (with_reducible repeat (first | apply Kd.R_alloc | apply Kd.R_drewN | apply Kd.R_drew)); exact HO_11.out⟩, ⟨by repeat ((with_reducible (exact HB.out)))⟩⟩
                  ·
                   replace c44 := Bool.eq_false_iff.mpr c44
                   subst c44
                   have H1 : (if 0 ≤ x16_4 then (if ((rd_L2 l2 x16_4).length : Int) = x12_1 then (r5_fits.l3 k4 l2 (l0.length : Int) x11_2 x12_1 (wrap64 (x16_4 + 1))) else (some (x11_2, false))) else (none)) = some (r1, r2) := by rw [if_neg (show ¬ (false = true) by decide)] at H; exact H
                   clear H
                   have H := H1
                   clear H1
                   by_cases c46 : 0 ≤ x16_4
                   ·
                    rw [if_pos c46] at H
                    have c46b0 : decide (0 ≤ x16_4) = true := decide_eq_true c46
                    clear c46
                    by_cases c47 : ((rd_L2 l2 x16_4).length : Int) = x12_1
                    ·
                     rw [if_pos c47] at H
                     have c47b0 : (((rd_L2 l2 x16_4).length : Int) == x12_1) = true := beq_iff_eq.mpr c47
                     have c47b1 : (((rd_L2 l2 x16_4).length : Int) != x12_1) = false := bne_eq_false_iff_eq.mpr c47
                     clear c47
                     have H' := sqM H
                     clear H
                     obtain ⟨Ao48, co48, eo48⟩ := Kd.R_slice HO_11.out
                     subst eo48
                     have p266 : 0 ≤ ((ji40) : Int) := of_decide_eq_true (by (with_reducible assumption))
                     have q266 : (ji40) < (x11_2.length : Int) := of_decide_eq_true (by (with_reducible assumption))
                     obtain ⟨ad266, e266, hx266_0⟩ := Kd.at_bool (Kd.R_reads' HO_11.out).2.2 (ji40) p266 q266
                     (try rw [← Nbq43.out] at hx266_0)
                     cases e266
                     replace p266 := eq_true p266
                     replace q266 := eq_true q266
                     have p267 : 0 ≤ (x16_4 : Int) := of_decide_eq_true (by (with_reducible assumption))
                     have q267 : x16_4 < (l2.length : Int) := of_decide_eq_true (by (with_reducible assumption))
                     obtain ⟨ad267, A267_0, c267_0, e267, hx267_0, hl267_0, hi267_0⟩ := at_L2 HR2.out x16_4 p267 q267
                     cases e267
                     replace hx267_0 := (HB.out.cell (World.block_lt_of_cell? w _ hx267_0)).trans hx267_0
                     have HR267_0 := sqM hi267_0
                     have HC267_0 := sqM hl267_0
                     clear hi267_0 hl267_0
                     replace p267 := eq_true p267
                     replace q267 := eq_true q267
                     go_wp2
                     repeat (go_quiet (fail); try go_wp2)
                     go_roundg k4
                     case measure => have := HK1.out; have := HK2.out; have := HK3.out; have := HK4.out; omega
                     case rel => exact ⟨(wrap64 (x16_4 + 1)), (by rfl), H', ⟨by have := HK1.out; have := HK2.out; have := HK3.out; have := HK4.out; omega⟩, ⟨by (with_reducible repeat (first | apply Kd.R_alloc | apply Kd.R_drewN | apply Kd.R_drew)); exact HO_11.out⟩, ⟨by repeat ((with_reducible (exact HB.out)))⟩⟩
                    ·
                     rw [if_neg c47] at H
                     have c47b0 : (((rd_L2 l2 x16_4).length : Int) == x12_1) = false := beq_eq_false_iff_ne.mpr c47
                     have c47b1 : (((rd_L2 l2 x16_4).length : Int) != x12_1) = true := bne_iff_ne.mpr c47
                     simp only [Option.some.injEq, Prod.mk.injEq] at H
                     obtain ⟨rfl, rfl⟩ := H
                     obtain ⟨Ao49, co49, eo49⟩ := Kd.R_slice HO_11.out
                     subst eo49
                     have p266 : 0 ≤ ((ji40) : Int) := of_decide_eq_true (by (with_reducible assumption))
                     have q266 : (ji40) < (x11_2.length : Int) := of_decide_eq_true (by (with_reducible assumption))
                     obtain ⟨ad266, e266, hx266_0⟩ := Kd.at_bool (Kd.R_reads' HO_11.out).2.2 (ji40) p266 q266
                     (try rw [← Nbq43.out] at hx266_0)
                     cases e266
                     replace p266 := eq_true p266
                     replace q266 := eq_true q266
                     have p267 : 0 ≤ (x16_4 : Int) := of_decide_eq_true (by (with_reducible assumption))
                     have q267 : x16_4 < (l2.length : Int) := of_decide_eq_true (by (with_reducible assumption))
                     obtain ⟨ad267, A267_0, c267_0, e267, hx267_0, hl267_0, hi267_0⟩ := at_L2 HR2.out x16_4 p267 q267
                     cases e267
                     replace hx267_0 := (HB.out.cell (World.block_lt_of_cell? w _ hx267_0)).trans hx267_0
                     have HR267_0 := sqM hi267_0
                     have HC267_0 := sqM hl267_0
                     clear hi267_0 hl267_0
                     replace p267 := eq_true p267
                     replace q267 := eq_true q267
                     go_wp2
                     repeat (go_quiet (fail); try go_wp2)
                     go_ret2
                     exact ⟨_, by rfl, by (with_reducible repeat (first | apply Kd.R_alloc | apply Kd.R_drewN | apply Kd.R_drew)); exact HO_11.out, by repeat ((with_reducible (exact HB.out)))⟩
                   · rw [if_neg c46] at H
                     exact absurd H (by simp)
                 · rw [if_neg c42] at H
                   exact absurd H (by simp)
                · rw [if_neg c41] at H
                  exact absurd H (by simp)
               · rw [if_neg c39] at H
                 have c39b0 : decide (x16_4 < (l2.length : Int)) = false := decide_eq_false c39
                 clear c39
                 simp only [Option.some.injEq, Prod.mk.injEq] at H
                 obtain ⟨rfl, rfl⟩ := H
                 go_wp2
                 repeat (go_quiet (fail); try go_wp2)
                 go_ret2
                 exact ⟨_, by rfl, by (with_reducible repeat (first | apply Kd.R_alloc | apply Kd.R_drewN | apply Kd.R_drew)); exact HO_11.out, by repeat ((with_reducible (exact HB.out)))⟩
   ·
    rw [if_neg c8] at H
    have c8b0 : ((l1.length : Int) == (l0.length : Int)) = false := beq_eq_false_iff_ne.mpr c8
    have c8b1 : ((l1.length : Int) != (l0.length : Int)) = true := bne_iff_ne.mpr c8
    have c8b2 : (l1.length == l0.length) = false := by (simp at c8 ⊢; omega)
    simp only [Option.some.injEq, Prod.mk.injEq] at H
    obtain ⟨rfl, rfl⟩ := H
    go_enter Try.func53, Try.ntmps53
    go_wp2_with (first | ((with_reducible refine q1t (N := 23) rfl ?_); (try (refine q0r (by rfl) ?_; dsimp only)); refine Kd.R_make Kd.bool _ 4 rfl (N := 23) rfl 66 _ _ rfl ji5 rfl rfl Try.underlying66 (.bool false) 1 info4 rfl (by decide) (by omega) false (ok := fun _ => True) (okp := fun _ => True) rfl (fun _ hk => hk) trivial (of_decide_eq_true (by (with_reducible assumption))) (Nat.le_trans (Nat.mul_le_mul_right _ (of_decide_eq_true (by (with_reducible assumption)) : ji5.toNat ≤ 281474976710656)) (by omega)) (Below.refl _ _) (Nat.le_refl _) ?_; intro v254 w50 ho51 hb hg_ hnew_; clear hg_ hnew_; (rw [← Ny253.out] at ho51); have n0_ := sqM (Kd.R_lower ho51 (q01 (by repeat ((with_reducible (exact HB.out)))))); have n1_ := sqM (q04 (by repeat ((with_reducible (exact HB.out)))) hb); clear HB; have HO255 := n0_; have HB := n1_; clear n0_ n1_; clear hb ho51))
    repeat (go_quiet (first | ((with_reducible refine q1t (N := 23) rfl ?_); (try (refine q0r (by rfl) ?_; dsimp only)); refine Kd.R_make Kd.bool _ 4 rfl (N := 23) rfl 66 _ _ rfl ji5 rfl rfl Try.underlying66 (.bool false) 1 info4 rfl (by decide) (by omega) false (ok := fun _ => True) (okp := fun _ => True) rfl (fun _ hk => hk) trivial (of_decide_eq_true (by first | (with_reducible assumption) | assumption)) (Nat.le_trans (Nat.mul_le_mul_right _ (of_decide_eq_true (by first | (with_reducible assumption) | assumption) : ji5.toNat ≤ 281474976710656)) (by omega)) (Below.refl _ _) (Nat.le_refl _) ?_; intro v254 w50 ho51 hb hg_ hnew_; clear hg_ hnew_; (first | rw [← Ny253.out] at ho51 | (simp only [Int.reduceToNat] at ho51; rw [← Ny253.out] at ho51)); have n0_ := sqM (Kd.R_lower ho51 (q01 (by repeat (first | (with_reducible first | exact HB.out | apply q02 | apply q00 | apply q06) | exact HB.out)))); have n1_ := sqM (q04 (by repeat (first | (with_reducible first | exact HB.out | apply q02 | apply q00 | apply q06) | exact HB.out)) hb); clear HB; have HO255 := n0_; have HB := n1_; clear n0_ n1_; clear hb ho51)); try go_wp2_with (first | ((with_reducible refine q1t (N := 23) rfl ?_); (try (refine q0r (by rfl) ?_; dsimp only)); refine Kd.R_make Kd.bool _ 4 rfl (N := 23) rfl 66 _ _ rfl ji5 rfl rfl Try.underlying66 (.bool false) 1 info4 rfl (by decide) (by omega) false (ok := fun _ => True) (okp := fun _ => True) rfl (fun _ hk => hk) trivial (of_decide_eq_true (by first | (with_reducible assumption) | assumption)) (Nat.le_trans (Nat.mul_le_mul_right _ (of_decide_eq_true (by first | (with_reducible assumption) | assumption) : ji5.toNat ≤ 281474976710656)) (by omega)) (Below.refl _ _) (Nat.le_refl _) ?_; intro v254 w50 ho51 hb hg_ hnew_; clear hg_ hnew_; (first | rw [← Ny253.out] at ho51 | (simp only [Int.reduceToNat] at ho51; rw [← Ny253.out] at ho51)); have n0_ := sqM (Kd.R_lower ho51 (q01 (by repeat (first | (with_reducible first | exact HB.out | apply q02 | apply q00 | apply q06) | exact HB.out)))); have n1_ := sqM (q04 (by repeat (first | (with_reducible first | exact HB.out | apply q02 | apply q00 | apply q06) | exact HB.out)) hb); clear HB; have HO255 := n0_; have HB := n1_; clear n0_ n1_; clear hb ho51)))
    go_ret2
    exact ⟨_, by rfl, by (with_reducible repeat (first | apply Kd.R_alloc | apply Kd.R_drewN | apply Kd.R_drew)); exact HO255.out, by repeat ((with_reducible (exact HB.out)))⟩
  · rw [if_neg c7] at H
    exact absurd H (by simp)
 · rw [if_neg c6] at H
   exact absurd H (by simp)
end Go.Proofs.Ytdhajlkiiphlfaa.QR
namespace Go.Proofs.Ytdhajlkiiphlfaa.Rv
open Go.RowKit Go.Proofs.Ytdhajlkiiphlfaa.QR Go.Proofs.YtdhajlkiiphlfaaW.PrintWords Go.Proofs.YtdhajlkiiphlfaaW.PrintLast
open Go.Proofs.Ytdhajlkiiphlfaa.Solve Go.Proofs.Ytdhajlkiiphlfaa.Par
theorem rdL2_nat (l : List (List Int)) (i : Nat) : QR.rd_L2 l (i : Int) = l.getD i [] := by unfold QR.rd_L2; rw [Int.toNat_natCast]
def fRw (rows : List (List Int)) (sizes : List Int) (g : List Bool) (i : Nat) : Bool := g.getD i false || decide (((rows.getD i []).length : Int) = sizes.getD i 0)
theorem rfits_l3 (more : List (List Int)) (n p : Nat) (hn : n ≤ 1000) (hp : p ≤ 1000) (hm : more.length = p) (g : List Bool) (hg : g.length = n + p) (W : Nat) : ∀ (d i k : Nat), i + d = p → d + 1 ≤ k →
    r5_fits.l3 k more (n : Int) g (W : Int) (i : Int) = some (g, q0y (fL2 more g n W) i d) := by
 intro d
 induction d with
 | zero =>
  intro i k hi hk
  obtain ⟨k, rfl⟩ : ∃ m, k = m + 1 := ⟨k - 1, by omega⟩
  rw [r5_fits.l3, if_neg (by omega)]; rfl
 | succ d ih =>
  intro i k hi hk
  obtain ⟨k, rfl⟩ : ∃ m, k = m + 1 := ⟨k - 1, by omega⟩
  have hw : wrap64 ((n : Int) + (i : Int)) = ((n + i : Nat) : Int) := by unfold wrap64; omega
  have hrec := ih (i + 1) k (by omega) (by omega)
  rw [r5_fits.l3, if_pos (by omega), hw, if_pos (by omega), if_pos (by omega), rdB_nat, q1i, Par.wr1 (n := 1000) (by omega) (by omega)]
  cases hgi : g.getD (n + i) false
  ·
   rw [if_neg (by decide), if_pos (by omega), rdL2_nat]
   by_cases hl : (more.getD i []).length = W
   · rw [if_pos (by omega), hrec]
     unfold fL2
     rw [hgi, decide_eq_true hl]; rfl
   · rw [if_neg (by omega)]
     have : fL2 more g n W i = false := by unfold fL2; rw [hgi, decide_eq_false hl]; rfl
     rw [this, Bool.false_and]
  · rw [if_pos rfl, hrec]
    have : fL2 more g n W i = true := by unfold fL2; rw [hgi]; rfl
    rw [this, Bool.true_and]
theorem rfits_l2 (rows : List (List Int)) (sizes : List Int) (more : List (List Int)) (n p : Nat) (hr : rows.length = n) (hs : sizes.length = n) (hn : n ≤ 1000) (hp : p ≤ 1000) (hm : more.length = p) (g : List Bool) (hg : g.length = n + p) (W : Nat) : ∀ (d i k : Nat), i + d = n → d + p + 2 ≤ k →
    r5_fits.l2 k rows sizes more (n : Int) g (W : Int) (i : Int) = some (g, q0y (fRw rows sizes g) i d && q0y (fL2 more g n W) 0 p) := by
 intro d
 induction d with
 | zero =>
  intro i k hi hk
  obtain ⟨k, rfl⟩ : ∃ m, k = m + 1 := ⟨k - 1, by omega⟩
  have := rfits_l3 more n p hn hp hm g hg W p 0 k (by omega) (by omega)
  rw [r5_fits.l2, if_neg (by omega)]
  exact this
 | succ d ih =>
  intro i k hi hk
  obtain ⟨k, rfl⟩ : ∃ m, k = m + 1 := ⟨k - 1, by omega⟩
  have hrec := ih (i + 1) k (by omega) (by omega)
  rw [r5_fits.l2, if_pos (by omega), if_pos (by omega), if_pos (by omega), rdB_nat, q1i, Par.wr1 (n := 1000) (by omega) (by omega)]
  cases hgi : g.getD i false
  ·
   rw [if_neg (by decide), if_pos (by omega), if_pos (by omega), rdL2_nat, rd_nat]
   by_cases hl : ((rows.getD i []).length : Int) = sizes.getD i 0
   · rw [if_pos hl, hrec]
     unfold fRw
     rw [hgi, decide_eq_true hl]; rfl
   · rw [if_neg hl]
     have : fRw rows sizes g i = false := by unfold fRw; rw [hgi, decide_eq_false hl]; rfl
     rw [this, Bool.false_and, Bool.false_and]
  · rw [if_pos rfl, hrec]
    have : fRw rows sizes g i = true := by unfold fRw; rw [hgi]; rfl
    rw [this, Bool.true_and]
theorem rfits_l1 (rows : List (List Int)) (sizes : List Int) (more : List (List Int)) (lost : List Int) (hlo : lost.length ≤ 140737488355328) (n p : Nat) (hr : rows.length = n) (hs : sizes.length = n) (hn : n ≤ 1000) (hp : p ≤ 1000) (hm : more.length = p) (W : Nat) : ∀ (d i k : Nat) (g : List Bool), g.length = n + p → i + d = lost.length → d + n + p + 3 ≤ k →
    ∃ is, r5_fits.l1 k rows sizes more lost (n : Int) g (W : Int) (i : Int) = some (is, q0y (fL0 (n + p) lost) i d && (q0y (fRw rows sizes (q0x lost g i d)) 0 n && q0y (fL2 more (q0x lost g i d) n W) 0 p)) ∧ (q0y (fL0 (n + p) lost) i d = true → is = q0x lost g i d) := by
 intro d
 induction d with
 | zero =>
  intro i k g hg hi hk
  obtain ⟨k, rfl⟩ : ∃ m, k = m + 1 := ⟨k - 1, by omega⟩
  have := rfits_l2 rows sizes more n p hr hs hn hp hm g hg W n 0 k (by omega) (by omega)
  exact ⟨g, by rw [r5_fits.l1, if_neg (by omega)]; exact this, fun _ => rfl⟩
 | succ d ih =>
  intro i k g hg hi hk
  obtain ⟨k, rfl⟩ : ∃ m, k = m + 1 := ⟨k - 1, by omega⟩
  have hrd : rd lost (i : Int) = lost.getD i 0 := rd_nat _ _
  rw [r5_fits.l1, if_pos (by omega), if_pos (by omega), q1i, marksFrom_succ]
  by_cases h1 : lost.getD i 0 < 0
  · rw [hrd, if_pos h1]
    have : fL0 (n + p) lost i = false := by unfold fL0; rw [decide_eq_false (by omega)]
    rw [this, Bool.false_and, Bool.false_and]
    exact ⟨g, rfl, fun h => absurd h (by decide)⟩
  ·
   by_cases h2 : lost.getD i 0 ≥ ((n + p : Nat) : Int)
   · rw [hrd, if_neg h1, hg, if_pos h2]
     have : fL0 (n + p) lost i = false := by unfold fL0; rw [decide_eq_false (by omega)]
     rw [this, Bool.false_and, Bool.false_and]
     exact ⟨g, rfl, fun h => absurd h (by decide)⟩
   · have : fL0 (n + p) lost i = true := by unfold fL0; rw [decide_eq_true (by omega)]
     rw [this, Bool.true_and, hrd, if_neg h1, hg, if_neg h2, if_pos (by omega), if_pos (by omega), Par.wr1 (n := lost.length) (by omega) hlo]
     exact ih (i + 1) k _ (by rw [List.length_set]; exact hg) (by omega) (by omega)
def fSz (sizes : List Int) (i : Nat) : Bool := decide (0 ≤ sizes.getD i 0 ∧ sizes.getD i 0 ≤ 16777216)
def rOK (rows : List (List Int)) (sizes : List Int) (more : List (List Int)) (lost : List Int) (n p : Nat) (g : List Bool) : Bool :=
 q0y (fL0 (n + p) lost) 0 lost.length && (q0y (fRw rows sizes (q0x lost g 0 lost.length)) 0 n && q0y (fL2 more (q0x lost g 0 lost.length) n (wideN (sizes.map Int.toNat))) 0 p)
theorem rfits_l0 (rows : List (List Int)) (sizes : List Int) (more : List (List Int)) (lost : List Int) (hlo : lost.length ≤ 140737488355328) (n p : Nat) (hr : rows.length = n) (hs : sizes.length = n) (hn : n ≤ 1000) (hp : p ≤ 1000) (hm : more.length = p) (g : List Bool) (hg : g.length = n + p) : ∀ (d i k : Nat), i + d = n → d + lost.length + n + p + 4 ≤ k →
    ∃ is, r5_fits.l0 k rows sizes more lost (n : Int) g ((wideN ((sizes.take i).map Int.toNat) : Nat) : Int) (i : Int) = some (is, q0y (fSz sizes) i d && rOK rows sizes more lost n p g) ∧ ((q0y (fSz sizes) i d && rOK rows sizes more lost n p g) = true → is = q0x lost g 0 lost.length) := by
 intro d
 induction d with
 | zero =>
  intro i k hi hk
  obtain ⟨k, rfl⟩ : ∃ m, k = m + 1 := ⟨k - 1, by omega⟩
  obtain ⟨is, h1, h2⟩ := rfits_l1 rows sizes more lost hlo n p hr hs hn hp hm (wideN (sizes.map Int.toNat)) lost.length 0 k g hg (by omega) (by omega)
  refine ⟨is, ?_, fun h => h2 ?_⟩
  · rw [r5_fits.l0, if_neg (by omega), List.take_of_length_le (by omega)]
    exact h1
  · have h3 : rOK rows sizes more lost n p g = true := h
    unfold rOK at h3
    exact (Bool.and_eq_true _ _ ▸ h3).1
 | succ d ih =>
  intro i k hi hk
  obtain ⟨k, rfl⟩ : ∃ m, k = m + 1 := ⟨k - 1, by omega⟩
  have hrd : rd sizes (i : Int) = sizes.getD i 0 := rd_nat _ _
  rw [r5_fits.l0, if_pos (by omega), if_pos (by omega), if_pos (by omega), q1i, hrd]
  by_cases h1 : sizes.getD i 0 < 0
  · rw [if_pos h1]
    have : fSz sizes i = false := by unfold fSz; rw [decide_eq_false (by omega)]
    rw [this, Bool.false_and, Bool.false_and]
    exact ⟨g, rfl, fun h => absurd h (by decide)⟩
  ·
   rw [if_neg h1]
   by_cases h2 : sizes.getD i 0 > 16777216
   · rw [if_pos h2]
     have : fSz sizes i = false := by unfold fSz; rw [decide_eq_false (by omega)]
     rw [this, Bool.false_and, Bool.false_and]
     exact ⟨g, rfl, fun h => absurd h (by decide)⟩
   ·
    rw [if_neg h2]
    have hf : fSz sizes i = true := by unfold fSz; rw [decide_eq_true (by omega)]
    have hil : i < sizes.length := by omega
    have hge : sizes.getD i 0 = sizes[i] := by rw [List.getD_eq_getElem?_getD, List.getElem?_eq_getElem hil]; rfl
    have hw : mx ((wideN ((sizes.take i).map Int.toNat) : Nat) : Int) (sizes.getD i 0) = ((wideN ((sizes.take (i + 1)).map Int.toNat) : Nat) : Int) := by
     have he : sizes.getD i 0 = ((sizes[i].toNat : Nat) : Int) := by rw [hge] at h1 ⊢; omega
     rw [he, mx_nat, List.take_succ_eq_append_getElem hil, List.map_append, List.map_cons, List.map_nil, wideN_snoc]
    rw [hf, Bool.true_and, hw, Par.wr1 (n := 1000) (by omega) (by omega)]
    exact ih (i + 1) k (by omega) (by omega)
theorem rfits_f (rows : List (List Int)) (sizes : List Int) (more : List (List Int)) (lost : List Int) (hlo : lost.length ≤ 140737488355328) (hn : rows.length ≤ 1000) (hp : more.length ≤ 1000) {k : Nat} (hk : lost.length + 5000 ≤ k) :
    ∃ is, r5_fits.f k rows sizes more lost = some (is, decide (sizes.length = rows.length) && (q0y (fSz sizes) 0 rows.length && rOK rows sizes more lost rows.length more.length (List.replicate (rows.length + more.length) false))) ∧ ((decide (sizes.length = rows.length) && (q0y (fSz sizes) 0 rows.length && rOK rows sizes more lost rows.length more.length (List.replicate (rows.length + more.length) false))) = true → is = q1u (rows.length + more.length) lost) := by
 have hw : wrap64 ((rows.length : Int) + (more.length : Int)) = ((rows.length + more.length : Nat) : Int) := by unfold wrap64; omega
 unfold r5_fits.f
 rw [hw, if_pos (by omega), Int.toNat_natCast, if_pos (by omega), Option.bind_some]
 by_cases hs : sizes.length = rows.length
 · rw [if_pos (by omega), decide_eq_true hs, Bool.true_and]
   exact rfits_l0 rows sizes more lost hlo rows.length more.length rfl hs hn hp rfl _ List.length_replicate rows.length 0 k (by omega) (by omega)
 · rw [if_neg (by omega), decide_eq_false hs, Bool.false_and]
   exact ⟨_, rfl, fun h => absurd h (by decide)⟩
theorem rmake_no (A0 : Option Addr) (c0 : Nat) (rows : List (List Int)) (p : Int) (w : World) (hr0 : Kd.C (Kd.slice 5 (Kd.int .u8)) w A0 rows.length rows) (hc0 : rows.length ≤ c0) (h : 200 < rows.length ∨ p < 0 ∨ 16 < p) :
    Calls Try.prog 39 #[.slice A0 rows.length c0, .int .i64 p] w fun e w' => ∃ v0_ : Value, e = .returned (.tuple #[v0_, .int .i64 51]) ∧ Kd.S (Kd.slice 5 (Kd.int .u8)) 41 w' w.heap.size (fun _ => True) v0_ [] ∧ Below w.heap.size w w' :=
 r5_Make.calls 1 A0 c0 rows p [] 51 w hr0 hc0 (rmake_51 rows p h)
def makeV (rows : List (List Int)) (p : Nat) : List (List Int) := if rowsFit rows = true then madeL rows p else []
def makeE (rows : List (List Int)) : Int := if rowsFit rows = true then 0 else 52
theorem rmake_yes (A0 : Option Addr) (c0 : Nat) (rows : List (List Int)) (p : Nat) (w : World) (hr0 : Kd.C (Kd.slice 5 (Kd.int .u8)) w A0 rows.length rows) (hc0 : rows.length ≤ c0) (hn : rows.length ≤ 200) (hp : p ≤ 16) (hin : ∀ r ∈ rows, ∀ y ∈ r, In8 y) :
    Calls Try.prog 39 #[.slice A0 rows.length c0, .int .i64 (p : Int)] w fun e w' => ∃ v0_ : Value, e = .returned (.tuple #[v0_, .int .i64 (makeE rows)]) ∧ Kd.S (Kd.slice 5 (Kd.int .u8)) 41 w' w.heap.size (fun _ => True) v0_ (makeV rows p) ∧ Below w.heap.size w w' := by
 obtain ⟨K, hK⟩ : ∃ K : Nat, 4000000000 ≤ K := ⟨_, Nat.le_refl _⟩
 refine r5_Make.calls K A0 c0 rows (p : Int) (makeV rows p) (makeE rows) w hr0 hc0 ?_
 rw [rmake_ok rows p hn hp hin hK]
 unfold makeV makeE
 split <;> rfl
theorem over_calls (A0 : Option Addr) (c0 : Nat) (l : List ByteArray) (w : World) (hr0 : Kd.C Kd.string w A0 l.length l) (hc0 : l.length ≤ c0) (hl : l.length ≤ 100000000000) (hs : ∀ s ∈ l, s.size ≤ 100000000000) :
    Calls Try.prog 41 #[.slice A0 l.length c0] w fun e w' => ∃ v0_ : Value, e = .returned (v0_) ∧ Kd.S (Kd.slice 5 (Kd.int .u8)) 41 w' w.heap.size (fun _ => True) v0_ (overL l) ∧ Below w.heap.size w w' := by
 obtain ⟨K, hK⟩ : ∃ K : Nat, (100000000000 + 5) * l.length + 1 ≤ K := ⟨_, Nat.le_refl _⟩
 exact l5_over.calls K A0 c0 l (overL l) w hr0 hc0 (over_f l 100000000000 hl hs (Nat.le_refl _) hK)
theorem overL_in (l : List ByteArray) : ∀ r ∈ overL l, ∀ y ∈ r, In8 y := fun r hr y hy => by
 obtain ⟨s, _, rfl⟩ := List.mem_map.1 hr
 rw [List.eq_of_mem_replicate hy]
 exact ⟨by decide, by decide⟩
theorem okFrom_and (f g : Nat → Bool) : ∀ (d i : Nat), q0y (fun t => f t && g t) i d = (q0y f i d && q0y g i d)
 | 0, _ => rfl
 | d + 1, i => by
  rw [q1i, q1i, q1i, okFrom_and f g d (i + 1)]
  cases f i <;> cases g i <;> simp
def fOK (rows : List (List Int)) (sizes : List Int) (more : List (List Int)) (lost : List Int) : Bool :=
 decide (sizes.length = rows.length) && (q0y (fSz sizes) 0 rows.length && rOK rows sizes more lost rows.length more.length (List.replicate (rows.length + more.length) false))
theorem fits_same (rows : List (List Int)) (sizes : List Int) (more : List (List Int)) (lost : List Int) (hn : rows.length ≤ 200) (hp : more.length ≤ 16) :
    fitsL rows sizes more lost = if fOK rows sizes more lost = true then (if more.length < cnt (q1u (rows.length + more.length) lost) then ([], 53) else (q1u (rows.length + more.length) lost, 0)) else ([], 52) := by
 unfold fitsL fOK rOK fitsQ fitsR
 have hu : ups sizes = sizes.map Int.toNat := rfl
 have hf : ∀ g, fL1 rows sizes g = fun t => fSz sizes t && fRw rows sizes g t := fun g => rfl
 have hm : q0x lost (List.replicate (rows.length + more.length) false) 0 lost.length = q1u (rows.length + more.length) lost := rfl
 rw [if_neg (by omega), hf, okFrom_and, hm, hu]
 by_cases h1 : sizes.length = rows.length
 · rw [if_neg (by omega), decide_eq_true h1, Bool.true_and]
   cases q0y (fL0 (rows.length + more.length) lost) 0 lost.length <;> cases q0y (fSz sizes) 0 rows.length <;> cases q0y (fRw rows sizes (q1u (rows.length + more.length) lost)) 0 rows.length <;> cases q0y (fL2 more (q1u (rows.length + more.length) lost) rows.length (wideN (sizes.map Int.toNat))) 0 more.length <;> simp
 · rw [if_pos (by omega), decide_eq_false h1, Bool.false_and, if_neg (by decide)]
end Go.Proofs.Ytdhajlkiiphlfaa.Rv
namespace Go.Proofs.Ytdhajlkiiphlfaa.Par
open Go.RowKit Go.Proofs.Ytdhajlkiiphlfaa.QB Go.Proofs.YtdhajlkiiphlfaaW.PrintWords Go.Proofs.YtdhajlkiiphlfaaW.PrintLast Go.Proofs.YtdhajlkiiphlfaaW.PrintMore Go.Proofs.Ytdhajlkiiphlfaa.Solve
theorem own_take {w : World} {base e n c m : Nat} {A : Option Addr} {xs : List Value} (h : w.ownsRow base e 1 (.slice A n c) n xs) (hm : m ≤ n) : w.ownsRow base e 1 (.slice A m c) m (xs.take m) := by
 obtain ⟨hl, hc⟩ := h
 refine ⟨by rw [List.length_take]; omega, ?_⟩
 rcases hc with ⟨hv, hn⟩ | ⟨g, cap, cur, hv, hg, hh, hnc, hcm, hcs, ht⟩
 · injection hv with h1 h2 h3
   subst h1; subst h3
   obtain rfl : m = 0 := by omega
   exact .inl ⟨rfl, rfl⟩
 ·
  injection hv with h1 h2 h3
  subst h1; subst h3
  refine .inr ⟨g, c, cur, rfl, hg, hh, by omega, hcm, hcs, ?_⟩
  rw [← ht, List.take_take]
  congr 1
  omega
structure LtHi (g : Nat) (Ao : Option Addr) (n co : Nat) (gs : List Gd) (hi : Nat) : Prop where
 g : g < hi
 o : ∀ k, (Value.slice Ao n co).ownBlock = some k → k < hi
 r : ∀ x ∈ gs, x.1 < hi
theorem Lt.hi {w0 w : World} {g c : Nat} {Ao : Option Addr} {co : Nat} {gs : List Gd} {hb : Hdr} {ls : List ByteArray} {cs : List (List Int)} (h : Lt w0 w g c Ao co gs hb ls cs) : LtHi g Ao ls.length co gs w.heap.size :=
 ⟨q0u h.hr g rfl, fun k e => q0u h.ho k e, fun x hx => by
  obtain ⟨i, hi, rfl⟩ := List.getElem_of_mem hx
  exact (h.rows.row i _ _ (List.getElem?_eq_getElem hi) (List.getElem?_eq_getElem (by rw [← h.rows.len]; exact hi))).lt⟩
theorem Lt.readsC {w0 w : World} {g c : Nat} {Ao : Option Addr} {co : Nat} {gs : List Gd} {hb : Hdr} {ls : List ByteArray} {cs : List (List Int)} (h : Lt w0 w g c Ao co gs hb ls cs) (f : ByteArray → List Int) (hf : ∀ s, (f s).length = s.size) (hs : ∀ s ∈ ls, s.size ≤ 100000000000)
    (hpre : ∀ (i : Nat) s r, ls[i]? = some s → cs[i]? = some r → ∃ ys, r = f s ++ ys) {hi : Nat} (hH : LtHi g Ao ls.length co gs hi) : ∀ W, q0d w W w0.heap.size hi → Kd.C (Kd.slice 5 (Kd.int .u8)) W (some ⟨g, 0, none⟩) ls.length (ls.map f) := by
 intro W hW
 have hgl := h.len
 have hcl := h.rows.len
 have ho := own_in h.hr (fun k e => by injection e with e; rw [← e]; exact hH.g) hW
 have e : (gs.map hR ++ [hb]).length = ls.length + 1 := by rw [List.length_append, List.length_map, hgl]; rfl
 rw [e] at ho
 have ho2 := own_take ho (m := ls.length) (by omega)
 have e2 : (encs hdV (gs.map hR ++ [hb])).take ls.length = encs hdV (gs.map hR) := by
  unfold encs
  rw [List.map_append, List.take_append_of_le_length (by simp [hgl]), List.take_of_length_le (by simp [hgl])]
 rw [e2] at ho2
 have hR5 : Rows5 W (gs.map hR) (ls.map f) := ⟨by simp [hgl], fun i hd r h1 h2 => by
  rw [List.getElem?_map] at h1 h2
  obtain ⟨x, hx, rfl⟩ := Option.map_eq_some_iff.1 h1
  obtain ⟨s, hsx, rfl⟩ := Option.map_eq_some_iff.1 h2
  have hil : i < cs.length := by rw [← hcl]; exact (List.getElem?_eq_some_iff.1 hx).1
  obtain ⟨ys, hy⟩ := hpre i s _ hsx (List.getElem?_eq_getElem hil)
  have hr := h.rows.row i x _ hx (List.getElem?_eq_getElem hil)
  have hlow := h.rows.low x (List.mem_of_getElem? hx)
  rw [hy] at hr
  have hr2 := (hr.front).blk (hW x.1 hlow (hH.r x (List.mem_of_getElem? hx)))
  have hsz := h.sz i x s hx hsx
  have := hr2.row5 (by rw [hf]; have := hs s (List.mem_of_getElem? hsx); omega)
  show Row5 W (some ⟨x.1, 0, none⟩, x.2.1, x.2.2) (f s)
  rw [hsz, ← hf s]
  exact this⟩
 have hl2 : (gs.map hR).length = ls.length := by simp [hgl]
 have ho3 : W.ownsRow w0.heap.size 41 1 (.slice (some ⟨g, 0, none⟩) ls.length c) (gs.map hR).length (encs hdV (gs.map hR)) := by rw [hl2]; exact ho2
 have := hR5.toC ho3
 exact this
theorem bytesOf_len (s : ByteArray) : (q0e s).length = s.size := by unfold q0e; simp
theorem Lt.readsFull {w0 w : World} {g c : Nat} {Ao : Option Addr} {co : Nat} {gs : List Gd} {hb : Hdr} {ls : List ByteArray} (h : Lt w0 w g c Ao co gs hb ls (ls.map fullB)) (hs : ∀ s ∈ ls, s.size ≤ 100000000000) : ∀ W, q0d w W w0.heap.size w.heap.size → Kd.C (Kd.slice 5 (Kd.int .u8)) W (some ⟨g, 0, none⟩) ls.length (ls.map q0e) :=
 h.readsC q0e bytesOf_len hs (fun i s r h1 h2 => by
  rw [List.getElem?_map, h1] at h2
  exact ⟨marks9, (Option.some.inj h2).symm⟩) h.hi
theorem Lt.readsOverH {w0 w : World} {g c : Nat} {Ao : Option Addr} {co : Nat} {gs : List Gd} {hb : Hdr} {ls : List ByteArray} (h : Lt w0 w g c Ao co gs hb ls (ls.map ovB)) (hs : ∀ s ∈ ls, s.size ≤ 100000000000) {hi : Nat} (hH : LtHi g Ao ls.length co gs hi) : ∀ W, q0d w W w0.heap.size hi → Kd.C (Kd.slice 5 (Kd.int .u8)) W (some ⟨g, 0, none⟩) ls.length (Rv.overL ls) :=
 h.readsC (fun s => List.replicate s.size 170) (fun s => by simp) hs (fun i s r h1 h2 => by
  rw [List.getElem?_map, h1] at h2
  exact ⟨List.replicate 9 170, by rw [← ovB_split]; exact (Option.some.inj h2).symm⟩) hH
theorem Lt.readsOver {w0 w : World} {g c : Nat} {Ao : Option Addr} {co : Nat} {gs : List Gd} {hb : Hdr} {ls : List ByteArray} (h : Lt w0 w g c Ao co gs hb ls (ls.map ovB)) (hs : ∀ s ∈ ls, s.size ≤ 100000000000) : ∀ W, q0d w W w0.heap.size w.heap.size → Kd.C (Kd.slice 5 (Kd.int .u8)) W (some ⟨g, 0, none⟩) ls.length (Rv.overL ls) := h.readsOverH hs h.hi
theorem own_nil (w : World) (base t : Nat) : w.ownsRow base t 1 (.slice none 0 0) 0 [] := ⟨rfl, .inl ⟨rfl, rfl⟩⟩
def HkR (w : World) (lo hi : Nat) (a : Hdr) (m : List (List Int)) : Prop := ∃ hs, w.ownsRow lo 41 1 (hdV a) hs.length (encs hdV hs) ∧ (∀ k, (hdV a).ownBlock = some k → k < hi) ∧ Sg w lo hi hs m
def HkW (w : World) (lo hi : Nat) (b : Hdr) (m : List (List Int)) : Prop := b.2.1 = m.length ∧ m.length ≤ b.2.2 ∧ ∀ W, q0d w W lo hi → Kd.C (Kd.slice 5 (Kd.int .u8)) W b.1 m.length m
theorem HkR.move {w w' : World} {lo hi : Nat} {a : Hdr} {m : List (List Int)} (h : HkR w lo hi a m) (hm : q0d w w' lo hi) : HkR w' lo hi a m := by
 obtain ⟨hs, h1, h2, h3⟩ := h
 exact ⟨hs, own_in h1 h2 hm, h2, h3.move hm⟩
theorem own_weak {w : World} {lo lo' t sz n : Nat} {v : Value} {xs : List Value} (h : w.ownsRow lo t sz v n xs) (hl : lo' ≤ lo) : w.ownsRow lo' t sz v n xs := by
 obtain ⟨a, b⟩ := h
 refine ⟨a, b.elim .inl fun ⟨g, cap, cur, e1, e2, e3⟩ => .inr ⟨g, cap, cur, e1, Nat.le_trans hl e2, e3⟩⟩
theorem HkR.widen {w : World} {lo hi lo' hi' : Nat} {a : Hdr} {m : List (List Int)} (h : HkR w lo hi a m) (h1 : lo' ≤ lo) (h2 : hi ≤ hi') : HkR w lo' hi' a m := by
 obtain ⟨hs, a1, a2, a3⟩ := h
 exact ⟨hs, own_weak a1 h1, fun k e => Nat.lt_of_lt_of_le (a2 k e) h2, a3.widen h1 h2⟩
theorem HkW.widen {w : World} {lo hi lo' hi' : Nat} {b : Hdr} {m : List (List Int)} (h : HkW w lo hi b m) (h1 : lo' ≤ lo) (h2 : hi ≤ hi') : HkW w lo' hi' b m := ⟨h.1, h.2.1, fun W hW => h.2.2 W (fun k a c => hW k (by omega) (by omega))⟩
theorem HkR.nil (w : World) (lo hi : Nat) : HkR w lo hi (none, 0, 0) [] := ⟨[], own_nil w lo 41, fun k e => (nomatch e), Sg.nil w lo hi⟩
theorem HkR.of_Cu {w : World} {base g b p : Nat} {m : List (List Int)} (h : Cu w base g b m) (hp : m.length = p) : HkR w base w.heap.size (some ⟨g, 0, none⟩, p, p) m := by
 obtain ⟨hs, h1, h2⟩ := h.toDt
 have hl := h2.len
 have hlt : b < w.heap.size := (Array.getElem?_eq_some_iff.1 h2.data).1
 have hgt : g < w.heap.size := (Array.getElem?_eq_some_iff.1 h1).1
 refine ⟨hs, ?_, fun k e => ?_, Sg.of_Dt h2 hlt⟩
 · have := own_heads h.hg h1 (by rw [hl]; exact h.few)
   rw [hl, hp] at this
   show w.ownsRow base 41 1 (.slice (some ⟨g, 0, none⟩) p p) hs.length (encs hdV hs)
   rw [hl, hp]
   exact this
 · injection e with e; rw [← e]; exact hgt
theorem HkW.of_N {w : World} {base : Nat} {v : Value} {m : List (List Int)} (h : Kd.N (Kd.slice 5 (Kd.int .u8)) 41 w base (fun k => base ≤ k) v m) : ∃ b : Hdr, v = hdV b ∧ HkW w base w.heap.size b m := by
 obtain ⟨A, c, rfl, hc, _⟩ := Kd.N_reads h
 refine ⟨(A, m.length, c), rfl, rfl, hc, fun W hW => ?_⟩
 have h2 := Kd.N_step (Kd.N_bound h) (w1 := W) (fun k hk hlt => hW k hk.1 hlt)
 obtain ⟨A', c', e, _, hC⟩ := Kd.N_reads h2
 injection e with e1
 subst e1
 exact hC
theorem HkW.of_S {w : World} {base : Nat} {v : Value} {m : List (List Int)} (h : Kd.S (Kd.slice 5 (Kd.int .u8)) 41 w base (fun _ => True) v m) : ∃ b : Hdr, v = hdV b ∧ HkW w base w.heap.size b m :=
 HkW.of_N (Kd.S_N (Kd.S_mono (Kd.S_bound h) (fun k hk => hk.2.1)))
theorem HkW.reads {w : World} {lo hi : Nat} {b : Hdr} {m : List (List Int)} (h : HkW w lo hi b m) : hdV b = .slice b.1 m.length b.2.2 ∧ Kd.C (Kd.slice 5 (Kd.int .u8)) w b.1 m.length m := by
 refine ⟨?_, h.2.2 w (fun _ _ _ => rfl)⟩
 unfold hdV
 rw [h.1]
def mV (rows : List (List Int)) (p : Int) : List (List Int) := if 200 < rows.length ∨ p < 0 ∨ 16 < p then [] else Rv.makeV rows p.toNat
def mE (rows : List (List Int)) (p : Int) : Int := if 200 < rows.length ∨ p < 0 ∨ 16 < p then 51 else Rv.makeE rows
theorem make_any (A0 : Option Addr) (c0 : Nat) (rows : List (List Int)) (p : Int) (w : World) (hr0 : Kd.C (Kd.slice 5 (Kd.int .u8)) w A0 rows.length rows) (hc0 : rows.length ≤ c0) (hin : ∀ r ∈ rows, ∀ y ∈ r, In8 y) :
    Calls Try.prog 15 #[.slice A0 rows.length c0, .int .i64 p] w fun e w' => ∃ a : Hdr, e = .returned (.tuple #[hdV a, .int .i64 (mE rows p)]) ∧ HkR w' w.heap.size w'.heap.size a (mV rows p) ∧ Below w.heap.size w w' := by
 by_cases h : 200 < rows.length ∨ p < 0 ∨ 16 < p
 · refine (make_51 A0 c0 rows p w h).mono ?_
   rintro e w' ⟨rfl, hb⟩
   exact ⟨(none, 0, 0), by unfold mE; rw [if_pos h]; rfl, by unfold mV; rw [if_pos h]; exact HkR.nil _ _ _, hb⟩
 ·
  obtain ⟨q, rfl⟩ : ∃ q : Nat, p = q := ⟨p.toNat, by omega⟩
  refine (make_ok A0 c0 rows q w hr0 hc0 (by omega) (by omega) hin).mono ?_
  intro e w' hm
  unfold MakePost at hm
  unfold mE mV Rv.makeE Rv.makeV
  rw [if_neg h, if_neg h, Int.toNat_natCast]
  by_cases hf : rowsFit rows = true
  · rw [if_pos hf] at hm
    obtain ⟨g, b, rfl, hC, hb⟩ := hm
    rw [if_pos hf, if_pos hf]
    exact ⟨(some ⟨g, 0, none⟩, q, q), rfl, HkR.of_Cu hC (by simp [madeL]), hb⟩
  · rw [if_neg hf] at hm
    obtain ⟨rfl, hb⟩ := hm
    rw [if_neg hf, if_neg hf]
    exact ⟨(none, 0, 0), rfl, HkR.nil _ _ _, hb⟩
theorem rmake_any (A0 : Option Addr) (c0 : Nat) (rows : List (List Int)) (p : Int) (w : World) (hr0 : Kd.C (Kd.slice 5 (Kd.int .u8)) w A0 rows.length rows) (hc0 : rows.length ≤ c0) (hin : ∀ r ∈ rows, ∀ y ∈ r, In8 y) :
    Calls Try.prog 39 #[.slice A0 rows.length c0, .int .i64 p] w fun e w' => ∃ b : Hdr, e = .returned (.tuple #[hdV b, .int .i64 (mE rows p)]) ∧ HkW w' w.heap.size w'.heap.size b (mV rows p) ∧ Below w.heap.size w w' := by
 by_cases h : 200 < rows.length ∨ p < 0 ∨ 16 < p
 · refine (Rv.rmake_no A0 c0 rows p w hr0 hc0 h).mono ?_
   rintro e w' ⟨v0, rfl, hs, hb⟩
   obtain ⟨b, rfl, hW⟩ := HkW.of_S hs
   exact ⟨b, by unfold mE; rw [if_pos h], by unfold mV; rw [if_pos h]; exact hW, hb⟩
 ·
  obtain ⟨q, rfl⟩ : ∃ q : Nat, p = q := ⟨p.toNat, by omega⟩
  refine (Rv.rmake_yes A0 c0 rows q w hr0 hc0 (by omega) (by omega) hin).mono ?_
  rintro e w' ⟨v0, rfl, hs, hb⟩
  obtain ⟨b, rfl, hW⟩ := HkW.of_S hs
  unfold mE mV
  rw [if_neg h, if_neg h, Int.toNat_natCast]
  exact ⟨b, rfl, hW, hb⟩
def q0a (w W : World) (gb : Nat) (o : Option Nat) : Prop := w.heap.size ≤ W.heap.size ∧ ∀ k, k < w.heap.size → k ≠ gb → some k ≠ o → W.heap[k]? = w.heap[k]?
theorem q0a.of_below {w W : World} (h : Below w.heap.size w W) (gb : Nat) (o : Option Nat) : q0a w W gb o := ⟨h.size, fun k hk _ _ => h.block k hk⟩
theorem q0a.of_Hx {w W : World} {gb : Nat} {vh vh' : Value} (h : Hx w W gb vh vh') : q0a w W gb vh.ownBlock := ⟨h.size, h.same⟩
theorem Hx.below {w w1 w2 : World} {gb : Nat} {vh vh' : Value} (h : Hx w w1 gb vh vh') (hb : Below w1.heap.size w1 w2) : Hx w w2 gb vh vh' := h.trans (Hx.of_below hb gb vh')
theorem below_hx {w w1 w2 : World} {gb : Nat} {vh vh' : Value} (hb : Below w.heap.size w w1) (h : Hx w1 w2 gb vh vh') : Hx w w2 gb vh vh' := (Hx.of_below hb gb vh).trans h
theorem Bq.vlt {w0 w : World} {gb : Nat} {vh : Value} {es : List He} {ms : List (List (List Int))} {bd : List (Nat × Nat)} (h : Bq w0 w gb vh es ms bd) : ∀ k, vh.ownBlock = some k → k < w.heap.size := fun k e => q0u h.bh.oh k e
theorem Bq.glt {w0 w : World} {gb : Nat} {vh : Value} {es : List He} {ms : List (List (List Int))} {bd : List (Nat × Nat)} (h : Bq w0 w gb vh es ms bd) : gb < w.heap.size := q0l h.bh.box
theorem bytes_in (l : List ByteArray) : ∀ r ∈ l.map q0e, ∀ y ∈ r, In8 y := fun r hr y hy => by
 obtain ⟨s, _, rfl⟩ := List.mem_map.1 hr
 unfold q0e at hy
 obtain ⟨b, _, rfl⟩ := List.mem_map.1 hy
 exact ⟨by omega, by have := b.toNat_lt; omega⟩
theorem field79 (W : World) (A A' : Option Addr) (n c n' c' : Nat) : (Instr.field 79 (.agg #[.slice A n c, .slice A' n' c']) 0).run Try.prog W = .ok (.slice A n c) W := by
 simp [Instr.field, run_underlying Try.underlying79, asAgg, Go.part, isAgg, run_underlying Try.underlying35]
set_option maxHeartbeats 1600000 in
set_option maxRecDepth 100000 in
theorem bmade_calls (w0 w : World) (gb : Nat) (vh : Value) (es : List He) (ms : List (List (List Int))) (bd : List (Nat × Nat)) (l : List ByteArray) (A1 : Option Addr) (c1 : Nat) (p : Int) (h : Bq w0 w gb vh es ms bd) (hes : es.length ≤ 999999990)
    (hr1 : ∀ W, q0a w W gb vh.ownBlock → Kd.C Kd.string W A1 l.length l) (hc1 : l.length ≤ c1) (hl : l.length ≤ 100000000000) (hs : ∀ s ∈ l, s.size ≤ 100000000000) :
    Calls Try.prog 21 #[.pointer (some ⟨gb, 0, none⟩), .slice A1 l.length c1, .int .i64 p] w fun e w' => ∃ vh' a1 b1 a2 b2 bd', e = .returned (.tuple #[hdV b1, .bool true]) ∧ Bq w0 w' gb vh' (es ++ [(a1, b1)] ++ [(a2, b2)]) (ms ++ [mV (l.map q0e) p] ++ [mV (Rv.overL l) p]) bd' ∧ Hx w w' gb vh vh' := by
 have HB := sqM h
 have HE := sqM hes
 have HR1 := sqM hr1
 have HC1 := sqM hc1
 have HL := sqM hl
 have HS := sqM hs
 clear h hes hr1 hc1 hl hs
 go_enter Try.func21, Try.ntmps21
 go_wp2_with (fail)
 refine (lent_calls A1 c1 l w (HR1.out w (q0a.of_below (Below.refl _ _) _ _)) HL.out HS.out).mono ?_
 rintro e wa ⟨g, c, Ao, co, gs, hb, rfl, hlt, hbe, _⟩
 have HLT := sqM hlt
 have HBE := sqM hbe
 have HCG := sqM (show l.length ≤ c by have := hlt.cap; omega)
 clear hlt hbe
 go_wp2_with (fail)
 obtain ⟨wb, hwb⟩ : ∃ wb, wb = wa.alloc (.cells #[.slice (some ⟨g, 0, none⟩) l.length c, .slice Ao l.length co] 79) := ⟨_, rfl⟩
 rw [← hwb]
 have hab : Below wa.heap.size wa wb := by rw [hwb]; exact q02 (Below.refl _ _) _
 have hbox : Box wb wa.heap.size (.slice (some ⟨g, 0, none⟩) l.length c) (.slice Ao l.length co) := by rw [hwb]; exact q0z wa _
 have hbsz : wb.heap.size = wa.heap.size + 1 := by rw [hwb]; exact World.size_alloc ..
 have hLTb := lt_moved HLT.out hab
 have hLb := Row5.move HBE.out (Same5.of_below hab)
 have hgsl : ∀ x ∈ gs, w.heap.size ≤ x.1 ∧ x.1 < wa.heap.size := fun x hx => by
  refine ⟨HLT.out.rows.low x hx, ?_⟩
  obtain ⟨i, hi, rfl⟩ := List.getElem_of_mem hx
  exact (HLT.out.rows.row i _ _ (List.getElem?_eq_getElem hi) (List.getElem?_eq_getElem (by rw [← HLT.out.rows.len]; exact hi))).lt
 have hwa := HLT.out.below.size
 have HWB := sqM hwb
 have HBX := sqM hbox
 have HSZ := sqM hbsz
 have HLTB := sqM hLTb
 have HLB := sqM hLb
 have HGS := sqM hgsl
 have HWA := sqM hwa
 clear hwb hab hbox hbsz hLTb hLb hgsl hwa HWB
 have hm1 := make_any (some ⟨g, 0, none⟩) c (l.map q0e) p wb (by rw [List.length_map]; exact HLTB.out.readsFull HS.out wb (fun _ _ _ => rfl)) (by rw [List.length_map]; have := HLT.out.cap; omega) (bytes_in l)
 rw [List.length_map] at hm1
 refine hm1.mono ?_
 clear hm1
 rintro e w1 ⟨a1, rfl, hk1, hb1⟩
 obtain ⟨Aa, na, ca⟩ := a1
 have HK1 := sqM hk1
 have HB1 := sqM hb1
 have hx0 : w1.cell? ⟨wa.heap.size, 0, none⟩ = some (.slice (some ⟨g, 0, none⟩) l.length c) := (HBX.out.below hb1).cell0
 have hx1 : w1.cell? ⟨wa.heap.size, 1, none⟩ = some (.slice Ao l.length co) := (HBX.out.below hb1).cell1
 clear hk1 hb1
 show _
 unfold hdV
 go_wp2_with (fail)
 have hsb1 : Below w.heap.size w w1 := q03 HLTB.out.below HLTB.out.below.size HB1.out
 have hwh := whole_calls g c Ao co gs hb A1 c1 l w w1 (lt_moved HLTB.out HB1.out) (Row5.move HLB.out (Same5.of_below HB1.out)) (fun W hW => HR1.out W ⟨Nat.le_trans hsb1.size hW.1, fun k hk h1 h2 => (hW.2 k (Nat.lt_of_lt_of_le hk hsb1.size) (fun ⟨x, hx, e⟩ => by have := (HGS.out x hx).1; omega)).trans (hsb1.block k hk)⟩) HL.out HS.out
 refine hwh.mono ?_
 clear hwh
 rintro e w2 ⟨rfl, hwh⟩
 have hk12 : ∀ k, k < w1.heap.size → (∀ x ∈ gs, k ≠ x.1) → w2.heap[k]? = w1.heap[k]? := fun k hk hn => hwh.kept.2 k hk (fun ⟨x, hx, e⟩ => hn x hx e)
 have hs12 : w1.heap.size ≤ w2.heap.size := hwh.kept.1
 have hK2 : HkR w2 wb.heap.size w1.heap.size (Aa, na, ca) (mV (l.map q0e) p) := HK1.out.move (fun k h1 h2 => hk12 k h2 (fun x hx e => by have := (HGS.out x hx).2; have := HSZ.out; omega))
 have hbx2 : Box w2 wa.heap.size (.slice (some ⟨g, 0, none⟩) l.length c) (.slice Ao l.length co) := (hk12 wa.heap.size (Nat.lt_of_lt_of_le (by have := HSZ.out; omega) HB1.out.size) (fun x hx e => by have := (HGS.out x hx).2; omega)).trans (HBX.out.below HB1.out)
 have hrd := hwh.lt.readsOver HS.out
 have hsb2 := hwh.lt.below
 have HK2 := sqM hK2
 have HBX2 := sqM hbx2
 have HRD := sqM hrd
 have HSB1 := sqM hsb1
 have HSB2 := sqM hsb2
 have HS12 := sqM hs12
 clear hwh hk12 hs12 hK2 hbx2 hrd hsb1 hsb2 hx0 hx1 HK1 HBX HLTB HLB HLT HBE
 go_wp2_with (fail)
 refine (lent_calls A1 c1 l w2 (HR1.out w2 (q0a.of_below HSB2.out _ _)) HL.out HS.out).mono ?_
 rintro e w3 ⟨g', c', Ao', co', gs', hb', rfl, hlt', _, _⟩
 have HLT' := sqM hlt'
 have hfl := fun W => field79 W (some ⟨g', 0, none⟩) Ao' l.length c' l.length co'
 clear hlt'
 go_wp2_with (fail)
 clear hfl
 have hm2 := rmake_any (some ⟨g', 0, none⟩) c' (l.map q0e) p w3 (by rw [List.length_map]; exact HLT'.out.readsFull HS.out w3 (fun _ _ _ => rfl)) (by rw [List.length_map]; have := HLT'.out.cap; omega) (bytes_in l)
 rw [List.length_map] at hm2
 refine hm2.mono ?_
 clear hm2
 rintro e w4 ⟨b1, rfl, hk4, hb4⟩
 obtain ⟨Ab, nb, cb⟩ := b1
 have HK4 := sqM hk4
 have HB4 := sqM hb4
 have hsb24 : Below w2.heap.size w2 w4 := q03 HLT'.out.below HLT'.out.below.size hb4
 have hsb4 : Below w.heap.size w w4 := q03 HSB2.out HSB2.out.size hsb24
 have HSB24 := sqM hsb24
 have HSB4 := sqM hsb4
 clear hk4 hb4 hsb24 hsb4
 show _
 unfold hdV
 go_wp2_with (fail)
 have hBQ4 := HB.out.moved HSB4.out
 refine (hold_calls w0 w4 gb vh es (Aa, na, ca) (Ab, nb, cb) hBQ4.bh (by have := HE.out; omega)).mono ?_
 rintro e w5 ⟨rfl, vh5, hbh5, _, hx5⟩
 have hsz : w.heap.size ≤ wa.heap.size := HWA.out
 have h23 := HLT'.out.below.size
 have h34 := HB4.out.size
 have hEnt : Hk w4 w.heap.size w4.heap.size (Aa, na, ca) (Ab, nb, cb) (mV (l.map q0e) p) := by
  obtain ⟨hs, a, b, d⟩ := (HK2.out.move (q0d.of_below HSB24.out HS12.out)).widen (lo' := w.heap.size) (hi' := w4.heap.size) (by have := HSZ.out; omega) (by have := HS12.out; omega)
  have hw4 := HK4.out.widen (lo' := w.heap.size) (hi' := w4.heap.size) (by have := HS12.out; have := HSB2.out.size; omega) (Nat.le_refl _)
  exact ⟨⟨hs, a, b, d⟩, hw4⟩
 have hBQ5 := hBQ4.snoc hEnt (fun i x e => (HB.out.bnd i x e).2.2.1) HSB4.out.size (Nat.le_refl _) HB.out.glt HB.out.vlt hbh5 hx5
 have hx05 : Hx w w5 gb vh vh5 := below_hx HSB4.out hx5
 have hsame5 : q0d w2 w5 w.heap.size w2.heap.size := fun k h1 h2 => (hx5.same k (by omega) (by have := HB.out.glt; omega) (fun e => by have := HB.out.vlt k e.symm; omega)).trans (HSB24.out.block k h2)
 have hbx5 : Box w5 wa.heap.size (.slice (some ⟨g, 0, none⟩) l.length c) (.slice Ao l.length co) := (hsame5 wa.heap.size hsz (q0l HBX2.out)).trans HBX2.out
 have hx0 : w5.cell? ⟨wa.heap.size, 0, none⟩ = some (.slice (some ⟨g, 0, none⟩) l.length c) := hbx5.cell0
 have HBQ5 := sqM hBQ5
 have HX05 := sqM hx05
 have HSAME5 := sqM hsame5
 have HSZ0 := sqM hsz
 clear hBQ4 hbh5 hx5 hEnt hBQ5 hx05 hsame5 hbx5 hsz h23 h34
 go_wp2_with (fail)
 have hm5 := make_any (some ⟨g, 0, none⟩) c (Rv.overL l) p w5 (by rw [show (Rv.overL l).length = l.length from List.length_map _]; exact HRD.out w5 HSAME5.out) (by rw [show (Rv.overL l).length = l.length from List.length_map _]; exact HCG.out) (Rv.overL_in l)
 rw [show (Rv.overL l).length = l.length from List.length_map _] at hm5
 refine hm5.mono ?_
 clear hm5 hx0
 rintro e w6 ⟨a2, rfl, hk6, hb6⟩
 obtain ⟨Aa2, na2, ca2⟩ := a2
 have HK6 := sqM hk6
 have HB6 := sqM hb6
 clear hk6 hb6
 show _
 unfold hdV
 go_wp2_with (fail)
 refine (Rv.over_calls A1 c1 l w6 (HR1.out w6 (q0a.of_Hx (HX05.out.below HB6.out))) HC1.out HL.out HS.out).mono ?_
 rintro e w7 ⟨v7, rfl, hs7, hb7⟩
 obtain ⟨b7, rfl, hk7⟩ := HkW.of_S hs7
 obtain ⟨e7, hC7⟩ := hk7.reads
 have hn7 := hk7.2.1
 rw [show (Rv.overL l).length = l.length from List.length_map _] at e7 hC7 hn7
 have HB7 := sqM hb7
 have HC7 := sqM hC7
 have HN7 := sqM hn7
 obtain ⟨A7, n7, c7⟩ := b7
 rw [e7]
 clear hs7 hb7 hk7 hC7 e7 hn7
 go_wp2_with (fail)
 have hm8 := rmake_any A7 c7 (Rv.overL l) p w7 (by rw [show (Rv.overL l).length = l.length from List.length_map _]; exact HC7.out) (by rw [show (Rv.overL l).length = l.length from List.length_map _]; exact HN7.out) (Rv.overL_in l)
 rw [show (Rv.overL l).length = l.length from List.length_map _] at hm8
 refine hm8.mono ?_
 clear hm8
 rintro e w8 ⟨b2, rfl, hk8, hb8⟩
 obtain ⟨Ab2, nb2, cb2⟩ := b2
 have HK8 := sqM hk8
 have HB8 := sqM hb8
 clear hk8 hb8
 show _
 unfold hdV
 go_wp2_with (fail)
 have hsb68 : Below w6.heap.size w6 w8 := q03 HB7.out HB7.out.size HB8.out
 have hsb58 : Below w5.heap.size w5 w8 := q03 HB6.out HB6.out.size hsb68
 have hBQ8 := HBQ5.out.moved hsb58
 refine (hold_calls w0 w8 gb vh5 _ (Aa2, na2, ca2) (Ab2, nb2, cb2) hBQ8.bh (by rw [List.length_append, List.length_singleton]; have := HE.out; omega)).mono ?_
 rintro e w9 ⟨rfl, vh9, hbh9, _, hx9⟩
 have hEnt2 : Hk w8 w5.heap.size w8.heap.size (Aa2, na2, ca2) (Ab2, nb2, cb2) (mV (Rv.overL l) p) := by
  obtain ⟨hs, a, b, d⟩ := (HK6.out.move (q0d.of_below hsb68 (Nat.le_refl _))).widen (lo' := w5.heap.size) (hi' := w8.heap.size) (Nat.le_refl _) hsb68.size
  have hw8 := HK8.out.widen (lo' := w5.heap.size) (hi' := w8.heap.size) (by have := HB6.out.size; have := HB7.out.size; omega) (Nat.le_refl _)
  exact ⟨⟨hs, a, b, d⟩, hw8⟩
 have hBQ9 := hBQ8.snoc hEnt2 (fun i x e => (HBQ5.out.bnd i x e).2.2.1) hsb58.size (Nat.le_refl _) HBQ5.out.glt HBQ5.out.vlt hbh9 hx9
 have hX9 : Hx w w9 gb vh vh9 := (HX05.out.below hsb58).trans hx9
 have HBQ9 := sqM hBQ9
 have HX9 := sqM hX9
 clear hsb68 hsb58 hBQ8 hbh9 hx9 hEnt2 hBQ9 hX9
 go_wp2
 go_ret2
 exact ⟨vh9, (Aa, na, ca), (Ab, nb, cb), (Aa2, na2, ca2), (Ab2, nb2, cb2), _, by simp [hdV], HBQ9.out, HX9.out⟩
end Go.Proofs.Ytdhajlkiiphlfaa.Par
namespace Go.Proofs.Ytdhajlkiiphlfaa.Par
open Go.RowKit Go.Proofs.Ytdhajlkiiphlfaa.QB Go.Proofs.YtdhajlkiiphlfaaW.PrintWords Go.Proofs.YtdhajlkiiphlfaaW.PrintLast Go.Proofs.YtdhajlkiiphlfaaW.PrintMore Go.Proofs.Ytdhajlkiiphlfaa.Solve Go.Proofs.Ytdhajlkiiphlfaa.Math
theorem ifc {p q : Prop} [Decidable p] [Decidable q] {α : Type} {a b : α} (h : p ↔ q) : (if p then a else b) = if q then a else b := by
 by_cases hp : p
 · rw [if_pos hp, if_pos (h.1 hp)]
 · rw [if_neg hp, if_neg (fun e => hp (h.2 e))]
theorem gpart_sh {g : List Bool} {n : Nat} (hn : n ≤ 200) (i : Nat) : Sh (usedL g n i).length (woL g n).length (partL g n i) := by
 refine ⟨by simp [partL], fun r hr => ?_, fun r hr y hy => ?_⟩
 · obtain ⟨t, _, rfl⟩ := List.mem_map.1 hr; simp [lineP]
 · obtain ⟨t, _, rfl⟩ := List.mem_map.1 hr
   obtain ⟨s, hs, rfl⟩ := List.mem_map.1 hy
   have := (mem_woL.1 hs).1
   exact cE_in (by omega)
theorem gv_sh {rows : List (List Int)} {ls : List Nat} {more : List (List Int)} {g : List Bool} {n p W : Nat} (h : Given rows ls more g n p W) {i : Nat} (hi : i ≤ p) : Sh (usedL g n i).length W (vL g n (outA rows ls g n) more i) := by
 refine ⟨by simp [vL], fun r hr => ?_, fun r hr y hy => ?_⟩
 · obtain ⟨t, ht, rfl⟩ := List.mem_map.1 hr
   obtain ⟨h1, h2⟩ := mem_usedL.1 ht
   rw [q1m, h.moreFit t (by omega) h2]
 · obtain ⟨t, ht, rfl⟩ := List.mem_map.1 hr
   exact leftP_in _ _ _ _ (getD_rows h.min t) n (by have := h.n200; omega) y hy
theorem given_sys {rows : List (List Int)} {ls : List Nat} {more : List (List Int)} {g : List Bool} {n p W q : Nat} (h : Given rows ls more g n p W) (hq : (woL g n).length = q) {i : Nat} (hi : i ≤ p) (hu : (usedL g n i).length = q) :
    ∃ X, cols q q 0 (partL g n i, vL g n (outA rows ls g n) more i) = some X ∧ Sh q W X := by
 have hP := gpart_sh (g := g) h.n200 i
 have hV := gv_sh h hi
 rw [hu, hq] at hP
 rw [hu] at hV
 have hn := h.n200
 have hp := h.p16
 have hU : ∀ a, a < q → (usedL g n i).getD a 0 < p ∧ g.getD (n + (usedL g n i).getD a 0) false = false := fun a ha => by
  have := mem_usedL.1 (getD_mem (d := 0) (show a < (usedL g n i).length by omega))
  exact ⟨by omega, this.2⟩
 have hW : ∀ c, c < q → (woL g n).getD c 0 < n := fun c hc => (mem_woL.1 (getD_mem (d := 0) (show c < (woL g n).length by omega))).1
 have hfn : ∀ a c, a < q → c < q → fn (partL g n i) a c = (elO ((255 - (usedL g n i).getD a 0 : Nat) : Int) + elO (((woL g n).getD c 0 : Nat) : Int)).inv := by
  intro a c ha hc
  rw [fn_at2]
  unfold at2 partL
  rw [map_getD _ _ (by omega)]
  unfold lineP
  have e : ((woL g n).map fun t => cE ((usedL g n i).getD a 0) t).getD c 0 = cE ((usedL g n i).getD a 0) ((woL g n).getD c 0) := by
   rw [List.getD_eq_getElem?_getD, List.getElem?_map, List.getElem?_eq_getElem (show c < (woL g n).length by omega), List.getD_eq_getElem?_getD (l := woL g n), List.getElem?_eq_getElem (show c < (woL g n).length by omega)]; rfl
  rw [e, cE_el (by have := hW c hc; omega)]
 obtain ⟨y, hy, hsy, _⟩ := Cau.solved q (fun a => elO ((255 - (usedL g n i).getD a 0 : Nat) : Int)) (fun c => elO (((woL g n).getD c 0 : Nat) : Int))
  (fun a c ha hc hac => elO_ne (by omega) (by omega) (by have h1 := (hU a ha).1; have h2 := (hU c hc).1; have h3 := nodup_ne (usedL_nodup g n i) (by omega) (by omega) hac; omega))
  (fun a c ha hc hac => elO_ne (by have := hW a ha; omega) (by have := hW c hc; omega) (nodup_ne (woL_nodup g n) (by omega) (by omega) hac))
  (fun a c ha hc => elO_ne (by omega) (by have := hW c hc; omega) (by have h1 := (hU a ha).1; have h2 := hW c hc; omega))
  (partL g n i) (vL g n (outA rows ls g n) more i) hP hV hfn
 exact ⟨y, hy, hsy⟩
theorem usedL_le (g : List Bool) (n : Nat) {i : Nat} : ∀ d, (usedL g n i).length ≤ (usedL g n (i + d)).length ∧ ((usedL g n (i + d)).length = (usedL g n i).length → usedL g n (i + d) = usedL g n i)
 | 0 => ⟨Nat.le_refl _, fun _ => rfl⟩
 | d + 1 => by
  obtain ⟨h1, h2⟩ := usedL_le g n (i := i) d
  rw [show i + (d + 1) = (i + d) + 1 by omega, usedL_succ]
  split
  · exact ⟨h1, h2⟩
  · rw [List.length_append]
    exact ⟨by omega, fun e => by simp at e; omega⟩
theorem usedL_same {g : List Bool} {n i j : Nat} (h : (usedL g n i).length = (usedL g n j).length) : usedL g n i = usedL g n j := by
 rcases Nat.le_total i j with hij | hij
 · obtain ⟨d, rfl⟩ := Nat.exists_eq_add_of_le hij
   exact ((usedL_le g n d).2 h.symm).symm
 · obtain ⟨d, rfl⟩ := Nat.exists_eq_add_of_le hij
   exact (usedL_le g n d).2 h
theorem usedL_hits (g : List Bool) (n q : Nat) : ∀ m, q ≤ (usedL g n m).length → ∃ i, i ≤ m ∧ (usedL g n i).length = q
 | 0, h => ⟨0, Nat.le_refl _, by have : (usedL g n 0).length = 0 := rfl; omega⟩
 | m + 1, h => by
  by_cases e : q = (usedL g n (m + 1)).length
  · exact ⟨m + 1, Nat.le_refl _, e.symm⟩
  · obtain ⟨i, hi, hu⟩ := usedL_hits g n q m (by rw [usedL_succ] at h e; split at h <;> simp_all <;> omega)
    exact ⟨i, by omega, hu⟩
theorem given_X {rows : List (List Int)} {ls : List Nat} {more : List (List Int)} {g : List Bool} {n p W q : Nat} (h : Given rows ls more g n p W) (hq : (woL g n).length = q) (hc : q ≤ (usedL g n p).length) :
    ∃ X, Sh q W X ∧ ∀ i, i ≤ p → (usedL g n i).length = q → cols q q 0 (partL g n i, vL g n (outA rows ls g n) more i) = some X ∧ Sh q q (partL g n i) ∧ Sh q W (vL g n (outA rows ls g n) more i) := by
 obtain ⟨i0, h0, hu0⟩ := usedL_hits g n q p hc
 obtain ⟨X, hX, hS⟩ := given_sys h hq h0 hu0
 refine ⟨X, hS, fun i hi hu => ?_⟩
 have e := usedL_same (hu.trans hu0.symm)
 have hP := gpart_sh (g := g) h.n200 i
 have hV := gv_sh h hi
 rw [hu, hq] at hP
 rw [hu] at hV
 refine ⟨?_, hP, hV⟩
 rw [← hX]
 unfold partL vL
 rw [e]
def knA (rows : List (List Int)) (g : List Bool) (n i : Nat) : List (List Int) := (List.range n).map fun t => if t < i ∧ g.getD t false = false then rows.getD t [] else []
theorem q1a (rows : List (List Int)) (g : List Bool) (n i : Nat) : (knA rows g n i).length = n := by simp [knA]
theorem knA_get (rows : List (List Int)) (g : List Bool) (n i : Nat) {t : Nat} (ht : t < n) : (knA rows g n i).getD t [] = if t < i ∧ g.getD t false = false then rows.getD t [] else [] := by
 unfold knA
 rw [List.getD_eq_getElem?_getD, List.getElem?_map, List.getElem?_range ht]; rfl
theorem getD_big {l : List (List Int)} {t : Nat} (h : l.length ≤ t) : l.getD t [] = [] := by rw [List.getD_eq_getElem?_getD, List.getElem?_eq_none h]; rfl
theorem knA_in {rows : List (List Int)} (h : ∀ r ∈ rows, ∀ y ∈ r, In8 y) (g : List Bool) (n i t : Nat) : ∀ y ∈ (knA rows g n i).getD t [], In8 y := by
 intro y hy
 by_cases ht : t < n
 · rw [knA_get rows g n i ht] at hy
   split at hy
   · exact getD_rows h t y hy
   · simp at hy
 · rw [getD_big (by rw [q1a]; omega)] at hy; simp at hy
theorem knA_zero (rows : List (List Int)) (g : List Bool) (n : Nat) : knA rows g n 0 = List.replicate n [] := by
 unfold knA
 apply List.ext_getElem?
 intro t
 rw [List.getElem?_map, List.getElem?_replicate]
 by_cases h : t < n
 · rw [List.getElem?_range h, if_pos h]; simp
 · rw [List.getElem?_eq_none (by simp; omega), if_neg h]; rfl
theorem knA_gone (rows : List (List Int)) {g : List Bool} {n i : Nat} (h : g.getD i false = true) : knA rows g n (i + 1) = knA rows g n i := by
 unfold knA
 refine List.map_congr_left fun t _ => ?_
 by_cases e : t = i
 · subst e; rw [if_neg (fun e => by rw [h] at e; cases e.2), if_neg (fun e => by rw [h] at e; cases e.2)]
 · exact ifc ⟨fun e2 => ⟨by omega, e2.2⟩, fun e2 => ⟨by omega, e2.2⟩⟩
theorem knA_kept (rows : List (List Int)) {g : List Bool} {n i : Nat} (hi : i < n) (h : g.getD i false = false) : (knA rows g n i).set i (rows.getD i []) = knA rows g n (i + 1) := by
 refine ext_getD (n := n) (by rw [List.length_set, q1a]) (q1a ..) fun t ht => ?_
 rw [knA_get _ _ _ _ ht]
 by_cases e : t = i
 · subst e
   rw [List.getD_eq_getElem?_getD, List.getElem?_set_self (by rw [q1a]; exact hi), if_pos ⟨by omega, h⟩]; rfl
 · rw [List.getD_eq_getElem?_getD, List.getElem?_set_ne (Ne.symm e), ← List.getD_eq_getElem?_getD, knA_get _ _ _ _ ht]
   exact ifc ⟨fun e2 => ⟨by omega, e2.2⟩, fun e2 => ⟨by omega, e2.2⟩⟩
theorem ref_left {rows : List (List Int)} {ls : List Nat} {more : List (List Int)} {g : List Bool} {n p W : Nat} (h : Given rows ls more g n p W) {i : Nat} (hi : i < p) (hg : g.getD (n + i) false = false) :
    (List.zipWith xorZ (part (cE i) (knA rows g n n) (zeros W) n) (more.getD i [])) = leftP g (outA rows ls g n) i (more.getD i []) n := by
 have hl : (more.getD i []).length = W := h.moreFit i hi hg
 have hn := h.n200
 have hpl : (part (cE i) (knA rows g n n) (zeros W) n).length = W := by rw [q0s]; simp [zeros]
 have hpin : ∀ y ∈ part (cE i) (knA rows g n n) (zeros W) n, In8 y := part_in _ _ _ (zeros_in _) _ (fun t ht => cE_in (by omega))
 have hmin := getD_rows h.min i
 have hlin := leftP_in g (outA rows ls g n) i (more.getD i []) hmin n (by omega)
 have hout : ∀ t, ∀ y ∈ (outA rows ls g n).getD t [], In8 y := fun t => by
  by_cases ht : t < n
  · exact (out_len h ht).2.2
  · rw [getD_big (by rw [q1o, h.ln]; omega)]; simp
 apply List.ext_getElem
 · rw [List.length_zipWith, hpl, hl, q1m, hl, Nat.min_self]
 ·
  intro x h1 h2
  rw [q1m, hl] at h2
  rw [List.getElem_zipWith]
  have e3 : ∀ (l : List Int) (hx : x < l.length), l[x] = l.getD x 0 := fun l hx => by rw [List.getD_eq_getElem?_getD, List.getElem?_eq_getElem hx]; rfl
  rw [e3, e3, e3]
  refine elO_inj (xorZ_in (getD_in hpin x) (getD_in hmin x)) (getD_in hlin x) ?_
  rw [elO_xor (getD_in hpin x) (getD_in hmin x), left_el g _ i _ hmin hout (by rw [hl]; exact h2) n (by omega), part_el _ _ _ (zeros_in W) (knA_in h.rin g n n) (by simp [zeros]; exact h2) n (fun t ht => cE_in (by omega))]
  have ez : elO ((zeros W).getD x 0) = 0 := by
   unfold zeros
   rw [List.getD_eq_getElem?_getD, List.getElem?_replicate, if_pos h2]; rfl
  rw [ez, El.add_comm _ (elO ((more.getD i []).getD x 0)), El.zero_add]
  congr 1
  refine El.sum_congr fun t ht => ?_
  unfold at2
  rw [knA_get rows g n n ht]
  by_cases hgt : g.getD t false = true
  · rw [if_neg (fun e => by rw [hgt] at e; cases e.2), if_pos hgt]
    show elO (cE i t) * elO 0 = 0
    rw [elO_zero, El.mul_zero]
  · have hgf : g.getD t false = false := by simpa using hgt
    rw [if_pos ⟨ht, hgf⟩, if_neg hgt]
    congr 2
    rw [List.getD_eq_getElem?_getD (l := outA rows ls g n), outA_get rows ls g n (by rw [h.ln]; exact ht), if_pos ⟨ht, hgf⟩]; rfl
end Go.Proofs.Ytdhajlkiiphlfaa.Par
namespace Go.Proofs.Ytdhajlkiiphlfaa.QR
open Go.RowKit Go.Proofs.YtdhajlkiiphlfaaW.PrintWords Go.Proofs.YtdhajlkiiphlfaaW.PrintLast Go.Proofs.YtdhajlkiiphlfaaW.PrintMore
attribute [local go_sem] q1c q1d q1y q1z q0v q0w q1e q1f
def r5_copied.f (l0 : List Int) : Option (List Int) := if ([] : List Int).length + l0.length < 140737488355328 then (some (([] : List Int) ++ l0)) else (none)
set_option maxHeartbeats 8000000 in
set_option maxRecDepth 100000 in
theorem r5_copied.calls (A0 : Option Addr) (c0 : Nat) (l0 : List Int) (r : List Int) (w : World) (hr0 : Kd.C (Kd.int .u8) w A0 l0.length l0) (hc0 : l0.length ≤ c0) (h : r5_copied.f l0 = some r) :
    Calls Try.prog 54 #[.slice A0 l0.length c0] w fun e w' => ∃ v0_ : Value, e = .returned (v0_) ∧ Kd.R (Kd.int .u8) 5 w' w.heap.size (fun _ => True) v0_ r ∧ Below w.heap.size w w' := by
 have HR0 := sqM hr0
 have HC0 := sqM hc0
 clear hr0 hc0
 have HB := sqM (Below.refl w.heap.size w)
 have H : (if ([] : List Int).length + l0.length < 140737488355328 then (some (([] : List Int) ++ l0)) else (none)) = some r := h
 clear h
 by_cases c2 : ([] : List Int).length + l0.length < 140737488355328
 ·
  rw [if_pos c2] at H
  have LMc2 := sqM c2
  clear c2
  obtain ⟨y268, hy268⟩ : ∃ y_ : List Int, y_ = (([] : List Int) ++ l0) := ⟨_, rfl⟩
  replace H : (some y268) = some r := by (rw [hy268]; with_reducible exact H)
  have Ny268 := sqM hy268
  clear hy268
  obtain rfl := Option.some.inj H
  go_enter Try.func54, Try.ntmps54
  go_wp2_with (first | ((with_reducible refine q05 (b := .append) (xs := #[.tmp 4, .tmp 5]) rfl ?_); at_builtin; refine Kd.R_append_rows (Kd.int .u8) (w0 := w) w.heap.size rfl (.tmp 4) (.tmp 5) 41 5 (.int .u8 0) 1 rfl Try.underlying41 info5 rfl (by decide) (by omega) (.slice none 0 0) ([] : List Int) l0 _ _ _ (fun _ => True) (fun _ => False) rfl rfl ?aO ?aR (fun _ _ h => h) (fun _ h => h.elim) ?aF ?aB ?aS ?aL ?_; (case aR => repeat (exact HR0.out)); (case aB => exact (by repeat ((with_reducible (exact HB.out))))); (case aF => exact (fun _ _ => trivial)); (case aO => exact ((Kd.R_nil _ _ _ _ (fun _ => True)))); (case aS => exact (q01 (by repeat ((with_reducible (exact HB.out)))))); (case aL => have := LMc2.out; omega); intro v269 w3 ho hb hg hat; rw [← Ny268.out] at ho; have n0_ := sqM (hb); have n1_ := sqM (ho); clear HB; have HB := n0_; have HO270 := n1_; clear n0_ n1_; clear ho hb hg hat))
  go_ret
  exact ⟨_, by rfl, by (with_reducible repeat (first | apply Kd.R_alloc | apply Kd.R_drewN | apply Kd.R_drew)); exact HO270.out, by repeat ((with_reducible (exact HB.out)))⟩
 · rw [if_neg c2] at H
   exact absurd H (by simp)
def r4_fits.l0 : Nat → List (List Int) → Int → Int → Option (Bool)
 | 0, _, _, _ => none
 | k + 1, x0, x1, x5 => if x5 < (x0.length : Int) then (if 0 ≤ x5 then (if ((rd_L2 x0 x5).length : Int) = x1 then (r4_fits.l0 k x0 x1 (wrap64 (x5 + 1))) else (some false)) else (none)) else (some true)
def r4_fits.f (k : Nat) (l0 : List (List Int)) (a1 : Int) : Option (Bool) := r4_fits.l0 k l0 a1 0
set_option maxHeartbeats 8000000 in
set_option maxRecDepth 100000 in
theorem r4_fits.calls (k : Nat) (A0 : Option Addr) (c0 : Nat) (l0 : List (List Int)) (a1 : Int) (r : Bool) (w : World) (hr0 : Kd.C (Kd.slice 5 (Kd.int .u8)) w A0 l0.length l0) (hc0 : l0.length ≤ c0) (h : r4_fits.f k l0 a1 = some r) :
    Calls Try.prog 61 #[.slice A0 l0.length c0, .int .i64 a1] w fun e w' => e = .returned (.bool r) ∧ Drawn0 w w' := by
 have HR0 := sqM hr0
 have HC0 := sqM hc0
 clear hr0 hc0
 have H : (r4_fits.l0 k l0 a1 0) = some r := h
 clear h
 have H' := sqM H
 clear H
 go_enter Try.func61, Try.ntmps61
 go_wp2
 go_loopg [5] k (fun kq v5 w' => ∃ (x5_1 : Int), v5 = .int .i64 x5_1 ∧ Aside0 (r4_fits.l0 kq l0 a1 x5_1 = some r) ∧ Aside0 (kq ≤ k) ∧ Drawn0 w w')
 case atStart => exact ⟨(0), (by rfl), H', ⟨Nat.le_refl _⟩, by repeat (exact Drawn0.refl _)⟩
 case round =>
  clear H'
  obtain ⟨x5_1, rfl, HA, HK1, ⟨m1, rfl⟩⟩ := hrel
  cases gk with
  | zero => exact absurd HA.out (by simp [r4_fits.l0])
  | succ k1 =>
   have H := HA.out
   clear HA
   simp only [r4_fits.l0] at H
   by_cases c3 : x5_1 < (l0.length : Int)
   ·
    rw [if_pos c3] at H
    have c3b0 : decide (x5_1 < (l0.length : Int)) = true := decide_eq_true c3
    clear c3
    by_cases c4 : 0 ≤ x5_1
    ·
     rw [if_pos c4] at H
     have c4b0 : decide (0 ≤ x5_1) = true := decide_eq_true c4
     clear c4
     by_cases c5 : ((rd_L2 l0 x5_1).length : Int) = a1
     ·
      rw [if_pos c5] at H
      have c5b0 : (((rd_L2 l0 x5_1).length : Int) == a1) = true := beq_iff_eq.mpr c5
      have c5b1 : (((rd_L2 l0 x5_1).length : Int) != a1) = false := bne_eq_false_iff_eq.mpr c5
      clear c5
      have H' := sqM H
      clear H
      have p271 : 0 ≤ (x5_1 : Int) := of_decide_eq_true (by (with_reducible assumption))
      have q271 : x5_1 < (l0.length : Int) := of_decide_eq_true (by (with_reducible assumption))
      obtain ⟨ad271, A271_0, c271_0, e271, hx271_0, hl271_0, hi271_0⟩ := at_L2 HR0.out x5_1 p271 q271
      cases e271
      have HR271_0 := sqM hi271_0
      have HC271_0 := sqM hl271_0
      clear hi271_0 hl271_0
      replace p271 := eq_true p271
      replace q271 := eq_true q271
      go_wp2
      go_roundg k1
      case measure => have := HK1.out; omega
      case rel => exact ⟨(wrap64 (x5_1 + 1)), (by rfl), H', ⟨by have := HK1.out; omega⟩, by repeat (first | exact Drawn0.refl _ | apply Drawn0.step)⟩
     ·
      rw [if_neg c5] at H
      have c5b0 : (((rd_L2 l0 x5_1).length : Int) == a1) = false := beq_eq_false_iff_ne.mpr c5
      have c5b1 : (((rd_L2 l0 x5_1).length : Int) != a1) = true := bne_iff_ne.mpr c5
      obtain rfl := Option.some.inj H
      have p271 : 0 ≤ (x5_1 : Int) := of_decide_eq_true (by (with_reducible assumption))
      have q271 : x5_1 < (l0.length : Int) := of_decide_eq_true (by (with_reducible assumption))
      obtain ⟨ad271, A271_0, c271_0, e271, hx271_0, hl271_0, hi271_0⟩ := at_L2 HR0.out x5_1 p271 q271
      cases e271
      have HR271_0 := sqM hi271_0
      have HC271_0 := sqM hl271_0
      clear hi271_0 hl271_0
      replace p271 := eq_true p271
      replace q271 := eq_true q271
      go_wp2
      go_ret
      exact ⟨by rfl, by repeat (first | exact Drawn0.refl _ | apply Drawn0.step)⟩
    · rw [if_neg c4] at H
      exact absurd H (by simp)
   · rw [if_neg c3] at H
     have c3b0 : decide (x5_1 < (l0.length : Int)) = false := decide_eq_false c3
     clear c3
     obtain rfl := Option.some.inj H
     go_wp2
     go_ret
     exact ⟨by rfl, by repeat (first | exact Drawn0.refl _ | apply Drawn0.step)⟩
def r4_alike.l0 : Nat → List (List Int) → Int → Option (Bool)
 | 0, _, _ => none
 | k + 1, x0, x3 => if x3 < (x0.length : Int) then (if 0 ≤ x3 then (if 0 < (x0.length : Int) then (if ((rd_L2 x0 x3).length : Int) = ((rd_L2 x0 0).length : Int) then (r4_alike.l0 k x0 (wrap64 (x3 + 1))) else (some false)) else (none)) else (none)) else (some true)
def r4_alike.f (k : Nat) (l0 : List (List Int)) : Option (Bool) := r4_alike.l0 k l0 1
set_option maxHeartbeats 8000000 in
set_option maxRecDepth 100000 in
theorem r4_alike.calls (k : Nat) (A0 : Option Addr) (c0 : Nat) (l0 : List (List Int)) (r : Bool) (w : World) (hr0 : Kd.C (Kd.slice 5 (Kd.int .u8)) w A0 l0.length l0) (hc0 : l0.length ≤ c0) (h : r4_alike.f k l0 = some r) :
    Calls Try.prog 62 #[.slice A0 l0.length c0] w fun e w' => e = .returned (.bool r) ∧ Drawn0 w w' := by
 have HR0 := sqM hr0
 have HC0 := sqM hc0
 clear hr0 hc0
 have H : (r4_alike.l0 k l0 1) = some r := h
 clear h
 have H' := sqM H
 clear H
 go_enter Try.func62, Try.ntmps62
 go_wp2
 repeat (go_quiet (fail); try go_wp2)
 go_loopg [3] k (fun kq v3 w' => ∃ (x3_1 : Int), v3 = .int .i64 x3_1 ∧ Aside0 (r4_alike.l0 kq l0 x3_1 = some r) ∧ Aside0 (kq ≤ k) ∧ Drawn0 w w')
 case atStart => exact ⟨(1), (by rfl), H', ⟨Nat.le_refl _⟩, by repeat (exact Drawn0.refl _)⟩
 case round =>
  clear H'
  obtain ⟨x3_1, rfl, HA, HK1, ⟨m1, rfl⟩⟩ := hrel
  cases gk with
  | zero => exact absurd HA.out (by simp [r4_alike.l0])
  | succ k1 =>
   have H := HA.out
   clear HA
   simp only [r4_alike.l0] at H
   by_cases c2 : x3_1 < (l0.length : Int)
   ·
    rw [if_pos c2] at H
    have c2b0 : decide (x3_1 < (l0.length : Int)) = true := decide_eq_true c2
    clear c2
    by_cases c3 : 0 ≤ x3_1
    ·
     rw [if_pos c3] at H
     have c3b0 : decide (0 ≤ x3_1) = true := decide_eq_true c3
     clear c3
     by_cases c4 : 0 < (l0.length : Int)
     ·
      rw [if_pos c4] at H
      have c4b0 : decide (0 < (l0.length : Int)) = true := decide_eq_true c4
      have c4b1 : decide (0 < l0.length) = true := decide_eq_true (by omega)
      clear c4
      by_cases c5 : ((rd_L2 l0 x3_1).length : Int) = ((rd_L2 l0 0).length : Int)
      ·
       rw [if_pos c5] at H
       have c5b0 : (((rd_L2 l0 x3_1).length : Int) == ((rd_L2 l0 0).length : Int)) = true := beq_iff_eq.mpr c5
       have c5b1 : (((rd_L2 l0 x3_1).length : Int) != ((rd_L2 l0 0).length : Int)) = false := bne_eq_false_iff_eq.mpr c5
       have c5b2 : ((rd_L2 l0 x3_1).length == (rd_L2 l0 0).length) = true := by (simp at c5 ⊢; omega)
       clear c5
       have H' := sqM H
       clear H
       have p272 : 0 ≤ (x3_1 : Int) := of_decide_eq_true (by (with_reducible assumption))
       have q272 : x3_1 < (l0.length : Int) := of_decide_eq_true (by (with_reducible assumption))
       obtain ⟨ad272, A272_0, c272_0, e272, hx272_0, hl272_0, hi272_0⟩ := at_L2 HR0.out x3_1 p272 q272
       cases e272
       have HR272_0 := sqM hi272_0
       have HC272_0 := sqM hl272_0
       clear hi272_0 hl272_0
       replace p272 := eq_true p272
       replace q272 := eq_true q272
       have p273 : 0 ≤ (0 : Int) := (by omega)
       have q273 : 0 < (l0.length : Int) := of_decide_eq_true (by (with_reducible assumption))
       obtain ⟨ad273, A273_0, c273_0, e273, hx273_0, hl273_0, hi273_0⟩ := at_L2 HR0.out 0 p273 q273
       obtain rfl : ad272 = ad273 := (by injection e273)
       have qi273 : (0 < l0.length) = True := eq_true (by omega)
       (try rw [show ((0 : Int)).toNat = 0 from rfl] at hx273_0)
       (try rw [Addr.add_zero'] at hx273_0)
       have HR273_0 := sqM hi273_0
       have HC273_0 := sqM hl273_0
       clear hi273_0 hl273_0
       replace p273 := eq_true p273
       replace q273 := eq_true q273
       go_wp2
       repeat (go_quiet (fail); try go_wp2)
       go_roundg k1
       case measure => have := HK1.out; omega
       case rel => exact ⟨(wrap64 (x3_1 + 1)), (by rfl), H', ⟨by have := HK1.out; omega⟩, by repeat (first | exact Drawn0.refl _ | apply Drawn0.step)⟩
      ·
       rw [if_neg c5] at H
       have c5b0 : (((rd_L2 l0 x3_1).length : Int) == ((rd_L2 l0 0).length : Int)) = false := beq_eq_false_iff_ne.mpr c5
       have c5b1 : (((rd_L2 l0 x3_1).length : Int) != ((rd_L2 l0 0).length : Int)) = true := bne_iff_ne.mpr c5
       have c5b2 : ((rd_L2 l0 x3_1).length == (rd_L2 l0 0).length) = false := by (simp at c5 ⊢; omega)
       obtain rfl := Option.some.inj H
       have p272 : 0 ≤ (x3_1 : Int) := of_decide_eq_true (by (with_reducible assumption))
       have q272 : x3_1 < (l0.length : Int) := of_decide_eq_true (by (with_reducible assumption))
       obtain ⟨ad272, A272_0, c272_0, e272, hx272_0, hl272_0, hi272_0⟩ := at_L2 HR0.out x3_1 p272 q272
       cases e272
       have HR272_0 := sqM hi272_0
       have HC272_0 := sqM hl272_0
       clear hi272_0 hl272_0
       replace p272 := eq_true p272
       replace q272 := eq_true q272
       have p273 : 0 ≤ (0 : Int) := (by omega)
       have q273 : 0 < (l0.length : Int) := of_decide_eq_true (by (with_reducible assumption))
       obtain ⟨ad273, A273_0, c273_0, e273, hx273_0, hl273_0, hi273_0⟩ := at_L2 HR0.out 0 p273 q273
       obtain rfl : ad272 = ad273 := (by injection e273)
       have qi273 : (0 < l0.length) = True := eq_true (by omega)
       (try rw [show ((0 : Int)).toNat = 0 from rfl] at hx273_0)
       (try rw [Addr.add_zero'] at hx273_0)
       have HR273_0 := sqM hi273_0
       have HC273_0 := sqM hl273_0
       clear hi273_0 hl273_0
       replace p273 := eq_true p273
       replace q273 := eq_true q273
       go_wp2
       repeat (go_quiet (fail); try go_wp2)
       go_ret
       exact ⟨by rfl, by repeat (first | exact Drawn0.refl _ | apply Drawn0.step)⟩
     · rw [if_neg c4] at H
       exact absurd H (by simp)
    · rw [if_neg c3] at H
      exact absurd H (by simp)
   ·
    rw [if_neg c2] at H
    have c2b0 : decide (x3_1 < (l0.length : Int)) = false := decide_eq_false c2
    clear c2
    obtain rfl := Option.some.inj H
    go_wp2
    repeat (go_quiet (fail); try go_wp2)
    go_ret
    exact ⟨by rfl, by repeat (first | exact Drawn0.refl _ | apply Drawn0.step)⟩
def r4_add.l0 : Nat → List Int → Int → List Int → Int → Option (List Int)
 | 0, _, _, _, _ => none
 | k + 1, x0, x1, x2, x6 => if x6 < (x0.length : Int) then (if 0 ≤ x6 then (if x6 < (x2.length : Int) then ((r4_Mul.f k x1 (rd x2 x6)).bind fun t280 => (r4_add.l0 k (x0.set (x6 : Int).toNat (Go.bits .xor .u8 (rd x0 x6) t280)) x1 x2 (wrap64 (x6 + 1)))) else (none)) else (none)) else (some x0)
def r4_add.f (k : Nat) (l0 : List Int) (a1 : Int) (l2 : List Int) : Option (List Int) := r4_add.l0 k l0 a1 l2 0
set_option maxHeartbeats 8000000 in
set_option maxRecDepth 100000 in
theorem r4_add.calls (k : Nat) (P0_ : Nat → Prop) (u9000_ : Value) (l0 : List Int) (a1 : Int) (A2 : Option Addr) (c2 : Nat) (l2 : List Int) (r : List Int) (w0 w : World) (hB : Below w0.heap.size w0 w) (ho0 : Kd.R (Kd.int .u8) 5 w w0.heap.size P0_ u9000_ l0) (hr2 : ∀ W_, Kept w W_ (fun k_ => P0_ k_) → Kd.C (Kd.int .u8) W_ A2 l2.length l2) (hc2 : l2.length ≤ c2) (h : r4_add.f k l0 a1 l2 = some r) :
    Calls Try.prog 64 #[u9000_, .int .u8 a1, .slice A2 l2.length c2] w fun e w' => e = .returned (.tuple #[]) ∧ Kd.R (Kd.int .u8) 5 w' w0.heap.size (fun k_ => (P0_ k_ ∨ w.heap.size ≤ k_)) u9000_ r ∧ Below w0.heap.size w0 w' ∧ Kept w w' (fun k_ => P0_ k_) := by
 have HO0 := sqM (show Kd.R (Kd.int .u8) 5 w w0.heap.size (fun k_ => (P0_ k_ ∨ w.heap.size ≤ k_)) u9000_ l0 from Kd.R_mono ho0 (fun k_ hk => (.inl hk)))
 have HR2 := sqM hr2
 have HC2 := sqM hc2
 clear hr2 hc2
 have HK := sqM (Kept.refl w (fun k_ => P0_ k_))
 have HW0 := sqM hB.size
 have HB := sqM hB
 clear hB
 have H : (r4_add.l0 k l0 a1 l2 0) = some r := h
 clear h
 have H' := sqM H
 clear H
 go_enter Try.func64, Try.ntmps64
 go_wp2
 go_loopg [6] k (fun kq v6 w' => ∃ (x0_1 : List Int) (x6_1 : Int), v6 = .int .i64 x6_1 ∧ Aside0 (r4_add.l0 kq x0_1 a1 l2 x6_1 = some r) ∧ Aside0 (kq ≤ k) ∧ Aside0 (Kd.R (Kd.int .u8) 5 w' w0.heap.size (fun k_ => (P0_ k_ ∨ w.heap.size ≤ k_)) u9000_ x0_1) ∧ Aside0 (Kept w w' (fun k_ => P0_ k_)) ∧ Aside0 (Below w0.heap.size w0 w'))
 case atStart => exact ⟨(l0), (0), (by rfl), H', ⟨Nat.le_refl _⟩, ⟨by (with_reducible repeat (first | apply Kd.R_alloc | apply Kd.R_drewN | apply Kd.R_drew)); exact HO0.out⟩, ⟨by repeat ((with_reducible (exact HK.out)))⟩, ⟨by repeat ((with_reducible (exact HB.out)))⟩⟩
 case round =>
  clear H'
  obtain ⟨x0_1, x6_1, rfl, HA, HK1, HO_0, HK, HB⟩ := hrel
  cases gk with
  | zero => exact absurd HA.out (by simp [r4_add.l0])
  | succ k1 =>
   have H := HA.out
   clear HA
   simp only [r4_add.l0] at H
   by_cases c4 : x6_1 < (x0_1.length : Int)
   ·
    rw [if_pos c4] at H
    have c4b0 : decide (x6_1 < (x0_1.length : Int)) = true := decide_eq_true c4
    clear c4
    by_cases c5 : 0 ≤ x6_1
    ·
     rw [if_pos c5] at H
     have c5b0 : decide (0 ≤ x6_1) = true := decide_eq_true c5
     clear c5
     by_cases c6 : x6_1 < (l2.length : Int)
     ·
      rw [if_pos c6] at H
      have c6b0 : decide (x6_1 < (l2.length : Int)) = true := decide_eq_true c6
      clear c6
      replace H := Option.bind_eq_some_iff.mp H
      obtain ⟨t280, A70, H⟩ := H
      replace H : (r4_add.l0 k1 (x0_1.set (x6_1 : Int).toNat (Go.bits .xor .u8 (rd x0_1 x6_1) t280)) a1 l2 (wrap64 (x6_1 + 1))) = some r := H
      have A7 := sqM A70
      clear A70
      obtain ⟨y282, hy282⟩ : ∃ y_ : List Int, y_ = (x0_1.set (x6_1 : Int).toNat (Go.bits .xor .u8 (rd x0_1 x6_1) t280)) := ⟨_, rfl⟩
      replace H : (r4_add.l0 k1 y282 a1 l2 (wrap64 (x6_1 + 1))) = some r := by (rw [hy282]; with_reducible exact H)
      have Ny282 := sqM hy282
      clear hy282
      have H' := sqM H
      clear H
      obtain ⟨Ao9, co9, eo9⟩ := Kd.R_slice HO_0.out
      subst eo9
      have p279 : 0 ≤ (x6_1 : Int) := of_decide_eq_true (by (with_reducible assumption))
      have q279 : x6_1 < (l2.length : Int) := of_decide_eq_true (by (with_reducible assumption))
      obtain ⟨ad279, e279, hx279_0⟩ := Kd.at_int (Kd.C_kept_now HR2.out HK.out) x6_1 p279 q279
      cases e279
      replace p279 := eq_true p279
      replace q279 := eq_true q279
      go_wp2_with (first | ((with_reducible refine q09 (f := 58) rfl ?_); refine q1p (some 19) rfl rfl Try.func58 (by kernel_rfl) rfl #[.int .u8 a1, .int .u8 (rd l2 x6_1)] rfl (by (try simp only [List.map_toArray, List.map_cons, List.map_nil]); (rfl)) ?_; (with_reducible refine (r4_Mul.calls k1 a1 (rd l2 x6_1) t280 _ A7.out).mono ?_); rintro e w' ⟨rfl, ⟨nd, rfl⟩⟩; refine ⟨_, rfl, ?_⟩; (try (rw [drewN_self wr]; generalize hq_ : World.drewN wr _ = wr; have n0_ : Aside0 (Kd.R (Kd.int .u8) 5 wr w0.heap.size (fun k_ => (P0_ k_ ∨ w.heap.size ≤ k_)) (.slice Ao9 x0_1.length co9) x0_1) := ⟨by rw [← hq_]; exact (by (with_reducible repeat (apply Kd.R_drewN)); exact HO_0.out)⟩; have n1_ : Aside0 (Kept w wr (fun k_ => P0_ k_)) := ⟨by rw [← hq_]; exact (by repeat ((with_reducible first | exact HK.out | apply Kept.drewN)))⟩; have n2_ : Aside0 (Below w0.heap.size w0 wr) := ⟨by rw [← hq_]; exact (by repeat ((with_reducible first | exact HB.out | apply q00)))⟩; clear HO_0 HK HB hq_; have HO_0 := n0_; have HK := n1_; have HB := n2_; clear n0_ n1_ n2_)); have p281 : 0 ≤ (x6_1 : Int) := of_decide_eq_true (by (with_reducible assumption)); have q281 : x6_1 < (x0_1.length : Int) := of_decide_eq_true (by (with_reducible assumption)); obtain ⟨ad281, e281, hx281_0⟩ := Kd.at_int (Kd.R_reads' HO_0.out).2.2 x6_1 p281 q281; cases e281; replace p281 := eq_true p281; replace q281 := eq_true q281; have p8 : 0 ≤ (x6_1 : Int) := of_decide_eq_true (by (with_reducible assumption)); have q8 : (x6_1 : Int) < ((x0_1.length : Int) : Int) := of_decide_eq_true (by (with_reducible assumption)); obtain ⟨go8, co8, eo8, gb8, gl8, cl8, HG8⟩ := Kd.R_form HO_0.out (by omega); (cases eo8); have GB8 := sqM gb8; have GG8 := sqM HG8; clear gb8 gl8 HG8; have HMgo8 := sqM (show (P0_ go8 ∨ w.heap.size ≤ go8) from (HO_0.out.1 _ rfl)); (simp only [add_plain] at hx281_0); obtain ⟨hx8_0, hf8_0⟩ := Kd.R_celln 0 HO_0.out (x6_1 : Int) p8 q8; replace p8 := eq_true p8; replace q8 := eq_true q8; obtain ⟨hy10_, hz10_⟩ := Kd.R_celln 0 HO_0.out (x6_1 : Int) (of_decide_eq_true (by (with_reducible assumption))) (of_decide_eq_true (by (with_reducible assumption))); have HP10 := Kd.R_putg HO_0.out (x6_1 : Int) (Go.bits .xor .u8 (rd x0_1 x6_1) t280)) | ((with_reducible refine q1j (t := 5) (p := 28) rfl ?_); refine q14 (t := 5) (p := 28) (v := ?vo_w11) (w1 := (wr.setCell ⟨go8, (x6_1 : Int).toNat, none⟩ (.int .u8 (Go.bits .xor .u8 (rd x0_1 x6_1) t280)))) ?hg ?ho ?hn ?hr ?_; (case ho => rfl); (case hg => rfl); (case hn => rfl); (case hr => ((go_simp; done))); intro w11 hw; have hg : wr.grownBy w11 (some go8) := (by rw [hw]; exact HP10.2); have hp_ : Kd.R (Kd.int .u8) 5 w11 w0.heap.size (fun k_ => (P0_ k_ ∨ w.heap.size ≤ k_)) (.slice (some ⟨go8, 0, none⟩) x0_1.length co9) y282 := (by rw [hw, Ny282.out]; exact HP10.1); clear HP10; have n0_ := sqM (hp_); have n1_ := sqM ((by rw [hw]; exact q0m (HB.out) GB8.out : Below w0.heap.size w0 w11)); have n2_ := sqM (Kept.of_grown (S := (fun k_ => P0_ k_)) hg (by repeat ((with_reducible (exact HK.out)))) (fun k_ e_ => (HO_0.out.1 k_ e_))); clear HO_0; clear HB; clear HK; have HO_0 := n0_; have HB := n1_; have HK := n2_; clear n0_ n1_ n2_; clear hg hw hp_))
      go_roundg k1
      case measure => have := HK1.out; omega
      case rel => exact ⟨(y282), (wrap64 (x6_1 + 1)), (by rfl), H', ⟨by have := HK1.out; omega⟩, ⟨by (with_reducible repeat (first | apply Kd.R_alloc | apply Kd.R_drewN | apply Kd.R_drew)); exact HO_0.out⟩, ⟨by repeat ((with_reducible (exact HK.out)))⟩, ⟨by repeat ((with_reducible (exact HB.out)))⟩⟩
     · rw [if_neg c6] at H
       exact absurd H (by simp)
    · rw [if_neg c5] at H
      exact absurd H (by simp)
   ·
    rw [if_neg c4] at H
    have c4b0 : decide (x6_1 < (x0_1.length : Int)) = false := decide_eq_false c4
    clear c4
    obtain rfl := Option.some.inj H
    obtain ⟨Ao12, co12, eo12⟩ := Kd.R_slice HO_0.out
    subst eo12
    go_wp2
    (go_end0)
    exact ⟨by rfl, by (with_reducible repeat (first | apply Kd.R_alloc | apply Kd.R_drewN | apply Kd.R_drew)); exact HO_0.out, by repeat ((with_reducible (exact HB.out))), by repeat ((with_reducible (exact HK.out)))⟩
def l5_texts.l0 : Nat → List (List Int) → List ByteArray → Int → Option (List ByteArray)
 | 0, _, _, _ => none
 | k + 1, x0, x3, x4 => if x4 < (x0.length : Int) then (if 0 ≤ x4 then (if x3.length < 8796093022208 then (l5_texts.l0 k x0 (x3 ++ [strOfNums (rd_L2 x0 x4)]) (wrap64 (x4 + 1))) else (none)) else (none)) else (some x3)
def l5_texts.f (k : Nat) (l0 : List (List Int)) : Option (List ByteArray) := l5_texts.l0 k l0 ([] : List ByteArray) 0
set_option maxHeartbeats 8000000 in
set_option maxRecDepth 100000 in
theorem l5_texts.calls (k : Nat) (A0 : Option Addr) (c0 : Nat) (l0 : List (List Int)) (r : List ByteArray) (w : World) (hr0 : Kd.C (Kd.slice 5 (Kd.int .u8)) w A0 l0.length l0) (hc0 : l0.length ≤ c0) (h : l5_texts.f k l0 = some r) :
    Calls Try.prog 23 #[.slice A0 l0.length c0] w fun e w' => ∃ v0_ : Value, e = .returned (v0_) ∧ Kd.R Kd.string 9 w' w.heap.size (fun _ => True) v0_ r ∧ Below w.heap.size w w' := by
 have HR0 := sqM hr0
 have HC0 := sqM hc0
 clear hr0 hc0
 have HB := sqM (Below.refl w.heap.size w)
 have H : (l5_texts.l0 k l0 ([] : List ByteArray) 0) = some r := h
 clear h
 have H' := sqM H
 clear H
 go_enter Try.func23, Try.ntmps23
 go_wp2
 go_loopg [3, 4] k (fun kq v3 v4 w' => ∃ (x3_1 : List ByteArray) (x4_1 : Int), v4 = .int .i64 x4_1 ∧ Aside0 (l5_texts.l0 kq l0 x3_1 x4_1 = some r) ∧ Aside0 (kq ≤ k) ∧ Aside0 (Kd.R Kd.string 9 w' w.heap.size (fun _ => True) v3 x3_1) ∧ Aside0 (Below w.heap.size w w'))
 case atStart => exact ⟨(([] : List ByteArray)), (0), (by rfl), H', ⟨Nat.le_refl _⟩, ⟨by exact Kd.R_nil _ _ _ _ _⟩, ⟨by repeat ((with_reducible (exact HB.out)))⟩⟩
 case round =>
  clear H'
  obtain ⟨x3_1, x4_1, rfl, HA, HK1, HO_3, HB⟩ := hrel
  cases gk with
  | zero => exact absurd HA.out (by simp [l5_texts.l0])
  | succ k1 =>
   have H := HA.out
   clear HA
   simp only [l5_texts.l0] at H
   by_cases c2 : x4_1 < (l0.length : Int)
   ·
    rw [if_pos c2] at H
    have c2b0 : decide (x4_1 < (l0.length : Int)) = true := decide_eq_true c2
    clear c2
    by_cases c3 : 0 ≤ x4_1
    ·
     rw [if_pos c3] at H
     have c3b0 : decide (0 ≤ x4_1) = true := decide_eq_true c3
     clear c3
     by_cases c4 : x3_1.length < 8796093022208
     ·
      rw [if_pos c4] at H
      have LMc4 := sqM c4
      clear c4
      obtain ⟨y304, hy304⟩ : ∃ y_ : List ByteArray, y_ = (x3_1 ++ [strOfNums (rd_L2 l0 x4_1)]) := ⟨_, rfl⟩
      replace H : (l5_texts.l0 k1 l0 y304 (wrap64 (x4_1 + 1))) = some r := by (rw [hy304]; with_reducible exact H)
      have Ny304 := sqM hy304
      clear hy304
      have H' := sqM H
      clear H
      have p303 : 0 ≤ (x4_1 : Int) := of_decide_eq_true (by (with_reducible assumption))
      have q303 : x4_1 < (l0.length : Int) := of_decide_eq_true (by (with_reducible assumption))
      obtain ⟨ad303, A303_0, c303_0, e303, hx303_0, hl303_0, hi303_0⟩ := at_L2 HR0.out x4_1 p303 q303
      cases e303
      replace hx303_0 := (HB.out.cell (World.block_lt_of_cell? w _ hx303_0)).trans hx303_0
      have HR303_0 := sqM hi303_0
      have HC303_0 := sqM hl303_0
      clear hi303_0 hl303_0
      replace p303 := eq_true p303
      replace q303 := eq_true q303
      have hcv5 := Kd.C_string (P := Try.prog) (A := A303_0) (c := c303_0) Try.underlying41 Try.underlying5 Try.underlying9 (Kd.C_below HR303_0.out HB.out)
      go_wp2_with (first | ((with_reducible refine q05 (b := .append) (xs := #[.tmp 11, .tmp 17]) rfl ?_); at_builtin; refine Kd.R_append Kd.string (w0 := w) w.heap.size rfl (.tmp 11) (.tmp 17) 29 9 (.string ⟨#[]⟩) 16 rfl Try.underlying29 info9 rfl (by decide) (by omega) u3 x3_1 (strOfNums (rd_L2 l0 x4_1)) [.string (strOfNums (rd_L2 l0 x4_1))] (fun _ => True) (fun _ => False) rfl rfl ?aP (fun _ hk => hk.elim) ?aF ?aO ?aB ?aS ?aL ?_; (case aP => exact rfl); (case aB => exact (by repeat ((with_reducible (exact HB.out))))); (case aF => exact (fun _ _ => trivial)); (case aO => exact (by (with_reducible repeat (first | apply Kd.R_alloc | apply Kd.R_drewN | apply Kd.R_drew)); exact HO_3.out)); (case aS => exact (q01 (by repeat ((with_reducible (exact HB.out)))))); (case aL => have := LMc4.out; omega); intro v305 w6 ho hb hg hat; rw [← Ny304.out] at ho; have n0_ := sqM (hb); have n1_ := sqM (ho); clear HB; clear HO_3; have HB := n0_; have HO306 := n1_; clear n0_ n1_; clear ho hb hg hat))
      go_roundg k1
      case measure => have := HK1.out; omega
      case rel => exact ⟨(y304), (wrap64 (x4_1 + 1)), (by rfl), H', ⟨by have := HK1.out; omega⟩, ⟨by (with_reducible repeat (first | apply Kd.R_alloc | apply Kd.R_drewN | apply Kd.R_drew)); exact HO306.out⟩, ⟨by repeat ((with_reducible (exact HB.out)))⟩⟩
     · rw [if_neg c4] at H
       exact absurd H (by simp)
    · rw [if_neg c3] at H
      exact absurd H (by simp)
   · rw [if_neg c2] at H
     have c2b0 : decide (x4_1 < (l0.length : Int)) = false := decide_eq_false c2
     clear c2
     obtain rfl := Option.some.inj H
     go_wp2
     go_ret
     exact ⟨_, by rfl, by (with_reducible repeat (first | apply Kd.R_alloc | apply Kd.R_drewN | apply Kd.R_drew)); exact HO_3.out, by repeat ((with_reducible (exact HB.out)))⟩
def l5_mark.f (a0 : Int) : Option (Int) := some ((wrap64 (1 + (Int.tmod a0 250))) % 256)
set_option maxHeartbeats 8000000 in
set_option maxRecDepth 100000 in
theorem l5_mark.calls (a0 : Int) (r : Int) (w : World) (h : l5_mark.f a0 = some r) :
    Calls Try.prog 25 #[.int .i64 a0] w fun e w' => e = .returned (.int .u8 r) ∧ Drawn0 w w' := by
 have H : (some ((wrap64 (1 + (Int.tmod a0 250))) % 256)) = some r := h
 clear h
 obtain rfl := Option.some.inj H
 go_enter Try.func25, Try.ntmps25
 go_wp2
 go_ret
 exact ⟨by rfl, by repeat (exact Drawn0.refl _)⟩
end Go.Proofs.Ytdhajlkiiphlfaa.QR
namespace Go.Proofs.Ytdhajlkiiphlfaa.Solve
open Go.RowKit Go.Proofs.YtdhajlkiiphlfaaW.PrintWords Go.Proofs.YtdhajlkiiphlfaaW.PrintLast Go.Proofs.YtdhajlkiiphlfaaW.PrintMore Go.Proofs.Ytdhajlkiiphlfaa.QB Go.Proofs.Ytdhajlkiiphlfaa.CopyR
set_option maxHeartbeats 400000 in
set_option maxRecDepth 100000 in
theorem rcopied_calls (A0 : Option Addr) (c0 : Nat) (l0 : List (List Int)) (w : World) (hr0 : Kd.C (Kd.slice 5 (Kd.int .u8)) w A0 l0.length l0) (hc0 : l0.length ≤ c0) (hn : l0.length ≤ 256) (hrow : ∀ r ∈ l0, r.length ≤ 281474976710656) :
    Calls Try.prog 63 #[.slice A0 l0.length c0] w fun e w' => ∃ v0_, e = .returned v0_ ∧ Kd.S (Kd.slice 5 (Kd.int .u8)) 41 w' w.heap.size (fun _ => True) v0_ l0 ∧ Below w.heap.size w w' := by
 have HR0 := sqM hr0
 have HC0 := sqM hc0
 have HN := sqM hn
 have HL := sqM hrow
 clear hr0 hc0 hn hrow
 go_enter Try.func63, Try.ntmps63
 go_wp2
 go_loopw [3, 4] (fun v3 v4 wr => ∃ i : Nat, i ≤ l0.length ∧ v4 = .int .i64 (i : Int) ∧ Aside0 (Kd.S (Kd.slice 5 (Kd.int .u8)) 41 wr w.heap.size (fun _ => True) v3 (l0.take i)) ∧ Aside0 (Below w.heap.size w wr)) (fun _ v4 _ => l0.length - (intOf v4).toNat)
 case atStart => exact ⟨0, Nat.zero_le _, rfl, ⟨Kd.S_nil _ _ _ _ _⟩, ⟨by repeat (first | (with_reducible (exact Below.refl _ _)))⟩⟩
 case round =>
  obtain ⟨i, hi, rfl, HS, HB⟩ := hrel
  by_cases hlt : i < l0.length
  ·
   obtain ⟨ad, A1, c1, e1, hx1, hl1, hi1⟩ := at_L2 HR0.out (i : Int) (by omega) (by omega)
   cases e1
   rw [Int.toNat_natCast] at hx1
   replace hx1 := (HB.out.cell (World.block_lt_of_cell? w _ hx1)).trans hx1
   obtain ⟨row, hrw⟩ : ∃ row, row = rd_L2 l0 (i : Int) := ⟨_, rfl⟩
   rw [← hrw] at hx1 hl1 hi1
   have HR1 := sqM hi1
   have HC1 := sqM hl1
   clear hi1 hl1
   have hgt : l0[i]? = some row := by
    rw [hrw]; unfold rd_L2
    rw [Int.toNat_natCast, List.getD_eq_getElem?_getD, List.getElem?_eq_getElem hlt]; rfl
   have hrl : row.length ≤ 281474976710656 := HL.out row (List.mem_of_getElem? hgt)
   have hap : l0.take (i + 1) = l0.take i ++ [row] := by rw [List.take_add_one, hgt]; rfl
   have HAP := sqM hap
   have HRL := sqM hrl
   have HLT := sqM hlt
   clear hap hrl hgt hrw
   have hd2 : (i < l0.length) = True := eq_true HLT.out
   go_wp2_with (first
    | (refine Kd.R_make (Kd.int .u8) _ 5 rfl (N := 17) rfl 41 _ _ rfl (row.length : Int) rfl rfl Try.underlying41 (.int .u8 0) 1 info5 rfl (by decide) (by omega) 0 (ok := fun _ => True) (okp := fun _ => True) rfl (fun _ hk => hk) trivial (by omega) (by have := HRL.out; omega) (Below.refl _ _) (Nat.le_refl _) ?_; intro v5 w5 ho5 hb hg_ hnew_; clear hg_ hnew_; obtain ⟨A5, c5, e5⟩ := Kd.R_slice ho5; rw [List.length_replicate, Int.toNat_natCast] at e5; subst e5; have HO5 := sqM ho5; have HB5 := sqM hb; have hx5 := (hb.cell (World.block_lt_of_cell? wr _ hx1)).trans hx1; clear ho5 hb)
    | (refine wpList_copy_R rfl (.tmp 18) (.tmp 22) 41 41 rfl Try.underlying41 size5 (v := .slice A5 row.length c5) rfl HO5.out rfl (Kd.C_below HR1.out (q04 HB.out HB5.out)) HB5.out (Nat.le_refl _) ?_; intro w6 ho6 hb6; have HS6 := sqM (Kd.S_elder' HS.out (Kd.R_base ho6.out) hb6); have HO6 := sqM (Kd.R_lower ho6.out (q01 HB.out)); have HB6 := sqM (q04 HB.out hb6); rw [copied_all] at HO6; clear hb6 ho6 HO5 HB5 HS HB)
    | (refine Kd.S_append (Kd.slice 5 (Kd.int .u8)) (w0 := w) w.heap.size rfl (.tmp 24) (.tmp 26) 35 41 (.slice none 0 0) 24 rfl Try.underlying35 info41 rfl (by decide) (by omega) u3 (l0.take i) row [.slice A5 row.length c5] (fun _ => True) (fun k_ => some k_ = (.slice A5 row.length c5 : Value).ownBlock) rfl rfl ?aP (fun k_ hk_ => ((Kd.R_mono (ok' := fun k_ => ((fun _ => True)) k_ ∧ some k_ ≠ (u3 : Value).ownBlock) (Kd.R_apart' (HO6.out) (Kd.S_typed HS6.out) (by decide)) (fun k_ hk => ⟨trivial, hk.2⟩))).1 k_ hk_.symm) ?aF ?aO ?aB ?aS ?aL ?_; (case aP => exact Kd.M_row (Kd.R_mono (Kd.R_tight rfl (Kd.R_mono (ok' := fun k_ => ((fun _ => True)) k_ ∧ some k_ ≠ (u3 : Value).ownBlock) (Kd.R_apart' (HO6.out) (Kd.S_typed HS6.out) (by decide)) (fun k_ hk => ⟨trivial, hk.2⟩))) (fun _ h_ => h_))); (case aB => exact HB6.out); (case aF => exact (fun _ _ => trivial)); (case aO => exact Kd.S_mono HS6.out (fun k_ hk => ⟨trivial, fun e_ => hk.2 e_⟩)); (case aS => exact (q01 HB6.out)); (case aL => have := HLT.out; have := HN.out; rw [List.length_take]; omega); intro v7 w7 ho hb hg hat; rw [← HAP.out] at ho; have HB7 := sqM hb; have HS7 := sqM ho; clear HB6 HO6 HS6; clear ho hb hg hat))
   have hw1 : wrap64 ((i : Int) + 1) = ((i + 1 : Nat) : Int) := by have := HN.out; have := HLT.out; unfold wrap64; omega
   go_roundw
   case rel => exact ⟨i + 1, HLT.out, by rw [hw1], HS7, HB7⟩
   case measure => have := HLT.out; exact meas hw1 this
  · obtain rfl : i = l0.length := by omega
    rw [List.take_length] at HS
    go_wp2
    go_ret
    exact ⟨_, rfl, by (with_reducible repeat (first | apply Kd.S_alloc | apply Kd.S_drewN | apply Kd.S_drew)); exact HS.out, by repeat ((with_reducible (exact HB.out)))⟩
end Go.Proofs.Ytdhajlkiiphlfaa.Solve
namespace Go.Proofs.Ytdhajlkiiphlfaa.Rv
open Go.RowKit Go.Proofs.Ytdhajlkiiphlfaa.QR Go.Proofs.YtdhajlkiiphlfaaW.PrintWords Go.Proofs.YtdhajlkiiphlfaaW.PrintLast
open Go.Proofs.Ytdhajlkiiphlfaa.Solve
theorem radd_l0 (row : List Int) (b : Int) (hb : In8 b) (hr : ∀ y ∈ row, In8 y) (hl : row.length ≤ 140737488355328) (tr : List Int) (ht : ∀ y ∈ tr, In8 y) (hlen : tr.length = row.length) : ∀ (d i k : Nat), i + d = row.length → d + 25 ≤ k →
    r4_add.l0 k (addTo tr row b i) b row (i : Int) = some (addR tr row b) := by
 have hlr : (addR tr row b).length = row.length := by rw [addR_length _ _ _ hlen, hlen]
 intro d
 induction d with
 | zero =>
  intro i k hi hk
  obtain ⟨k, rfl⟩ : ∃ m, k = m + 1 := ⟨k - 1, by omega⟩
  have e : addTo tr row b i = addR tr row b := by unfold addTo; rw [List.take_of_length_le (by omega), List.drop_eq_nil_of_le (by omega), List.append_nil]
  rw [r4_add.l0, e, if_neg (by omega)]
 | succ d ih =>
  intro i k hi hk
  obtain ⟨k, rfl⟩ : ∃ m, k = m + 1 := ⟨k - 1, by omega⟩
  have hil : i < row.length := by omega
  have hit : i < tr.length := by omega
  have hal : (addTo tr row b i).length = row.length := by unfold addTo; rw [List.length_append, List.length_take, List.length_drop]; omega
  have hg : rd (addTo tr row b i) (i : Int) = tr[i] := by
   rw [Par.rd_nat, List.getD_eq_getElem?_getD]
   unfold addTo
   rw [List.getElem?_append_right (by rw [List.length_take]; omega), List.length_take, Nat.min_eq_left (by omega), Nat.sub_self, List.getElem?_drop, Nat.add_zero, List.getElem?_eq_getElem hit]; rfl
  have hr2 : rd row (i : Int) = row[i] := by rw [Par.rd_nat, List.getD_eq_getElem?_getD, List.getElem?_eq_getElem hil]; rfl
  have hs : (addTo tr row b i).set i (xorZ tr[i] (mulZ b row[i])) = addTo tr row b (i + 1) := by
   unfold addTo
   rw [List.set_append_right _ _ (by rw [List.length_take]; omega), List.length_take, Nat.min_eq_left (by omega), Nat.sub_self, List.drop_eq_getElem_cons hit, List.set_cons_zero, List.take_succ_eq_append_getElem (by omega), List.append_assoc]
   unfold addR
   rw [List.getElem_zipWith]; rfl
  rw [r4_add.l0, if_pos (by omega), if_pos (by omega), if_pos (by omega), hr2, rMul_z hb (hr _ (List.getElem_mem hil)) (by omega), Option.bind_some, hg, xor_in (ht _ (List.getElem_mem hit)) (mulZ_in hb), Int.toNat_natCast, hs, Par.wr1 (n := row.length) hil hl]
  exact ih (i + 1) k (by omega) (by omega)
theorem radd_f (row : List Int) (b : Int) (hb : In8 b) (hr : ∀ y ∈ row, In8 y) (hl : row.length ≤ 140737488355328) (tr : List Int) (ht : ∀ y ∈ tr, In8 y) (hlen : tr.length = row.length) {k : Nat} (hk : row.length + 25 ≤ k) : r4_add.f k tr b row = some (addR tr row b) := by
 have := radd_l0 row b hb hr hl tr ht hlen row.length 0 k (by omega) hk
 have e : addTo tr row b 0 = tr := by unfold addTo; rw [List.take_zero, List.nil_append, List.drop_zero]
 rw [e] at this
 exact this
theorem raddA {w0 w : World} {okA okX : Nat → Prop} {ga ca : Nat} {ha : List Value} {a : List (List Int)} {gx cx : Nat} {hx : List Value} {x : List (List Int)} (h : Two w0 w okA okX ga ca ha a gx cx hx x) {k c : Nat} (hkc : k ≠ c) {r1 rc r' : List Int} (h1 : a[k]? = some r1) (h2 : a[c]? = some rc) {A1 A2 : Option Addr} {c1 c2 : Nat}
    (e1 : ha[k]? = some (.slice A1 r1.length c1)) (e2 : ha[c]? = some (.slice A2 rc.length c2)) (hc2 : rc.length ≤ c2) {K : Nat} {by_ : Int} (hf : r4_add.f K r1 by_ rc = some r') :
    Calls Try.prog 64 #[.slice A1 r1.length c1, .int .u8 by_, .slice A2 rc.length c2] w fun e w' => e = .returned (.tuple #[]) ∧ Two w0 w' okA okX ga ca ha (a.set k r') gx cx hx x := by
 have hR1 := Kd.R_tight rfl (h.A.row k _ _ e1 h1)
 have hR2 := Kd.R_tight rfl (h.A.row c _ _ e2 h2)
 refine (r4_add.calls K (fun j => some j = (Value.slice A1 r1.length c1).ownBlock) _ r1 by_ A2 c2 rc r' w0 w h.B hR1 (Kd.C_kept_own hR2 (fun j hj hj2 => hkc (h.A.apart k c _ _ j e1 e2 hj2.symm hj.symm))) hc2 hf).mono ?_
 rintro e w' ⟨rfl, hr, hb, hk⟩
 exact ⟨rfl, h.setA e1 hk hb (Kd.R_mono hr (fun _ _ => trivial))⟩
end Go.Proofs.Ytdhajlkiiphlfaa.Rv
namespace Go.Proofs.Ytdhajlkiiphlfaa.Rv
open Go.RowKit Go.Proofs.Ytdhajlkiiphlfaa.QR Go.Proofs.YtdhajlkiiphlfaaW.PrintWords Go.Proofs.YtdhajlkiiphlfaaW.PrintLast
open Go.Proofs.Ytdhajlkiiphlfaa.Solve Go.Proofs.Ytdhajlkiiphlfaa.Math
theorem rd2 (l : List (List Int)) (i : Nat) {r : List Int} (h : l[i]? = some r) : QR.rd_L2 l (i : Int) = r := by
 unfold QR.rd_L2; rw [Int.toNat_natCast, List.getD_eq_getElem?_getD, h]; rfl
theorem rfits4_l0 (l : List (List Int)) (m : Nat) (hl : l.length ≤ 140737488355328) (h : ∀ r ∈ l, r.length = m) : ∀ (d i k : Nat), i + d = l.length → d < k → r4_fits.l0 k l (m : Int) (i : Int) = some true
 | 0, i, k, hi, hk => by
  obtain ⟨k, rfl⟩ : ∃ k', k = k' + 1 := ⟨k - 1, by omega⟩
  unfold r4_fits.l0
  rw [if_neg (by omega)]
 | d + 1, i, k, hi, hk => by
  obtain ⟨k, rfl⟩ : ∃ k', k = k' + 1 := ⟨k - 1, by omega⟩
  have hlt : i < l.length := by omega
  unfold r4_fits.l0
  rw [if_pos (by omega), if_pos (by omega), rd2 l i (List.getElem?_eq_getElem hlt), if_pos (by rw [h _ (List.getElem_mem hlt)]), w64 (by omega) (by omega), show (i : Int) + 1 = ((i + 1 : Nat) : Int) by omega]
  exact rfits4_l0 l m hl h d (i + 1) k (by omega) (by omega)
theorem rfits4_f (k : Nat) (l : List (List Int)) (m : Nat) (hl : l.length ≤ 256) (h : ∀ r ∈ l, r.length = m) (hk : 256 < k) : r4_fits.f k l (m : Int) = some true :=
 rfits4_l0 l m (by omega) h l.length 0 k (by omega) (by omega)
theorem ralike_l0 (l : List (List Int)) (m : Nat) (hl : l.length ≤ 140737488355328) (h : ∀ r ∈ l, r.length = m) : ∀ (d i k : Nat), i + d = l.length + 1 → d ≤ k → 1 ≤ d → 1 ≤ i → r4_alike.l0 k l (i : Int) = some true
 | 0, i, k, hi, hk, h1, h0 => by omega
 | d + 1, i, k, hi, hk, h1, h0 => by
  obtain ⟨k, rfl⟩ : ∃ k', k = k' + 1 := ⟨k - 1, by omega⟩
  unfold r4_alike.l0
  by_cases hlt : i < l.length
  · rw [if_pos (by omega), if_pos (by omega), if_pos (by omega), rd2 l i (List.getElem?_eq_getElem hlt), show (0 : Int) = ((0 : Nat) : Int) from rfl, rd2 l 0 (List.getElem?_eq_getElem (by omega)), if_pos (by rw [h _ (List.getElem_mem _), h _ (List.getElem_mem _)]), w64 (by omega) (by omega), show (i : Int) + 1 = ((i + 1 : Nat) : Int) by omega]
    exact ralike_l0 l m hl h d (i + 1) k (by omega) (by omega) (by omega) (by omega)
  · rw [if_neg (by omega)]
theorem ralike_f (k : Nat) (l : List (List Int)) (m : Nat) (hl : l.length ≤ 256) (h : ∀ r ∈ l, r.length = m) (hk : 257 < k) : r4_alike.f k l = some true := by
 unfold r4_alike.f
 by_cases h0 : l.length = 0
 · obtain ⟨k, rfl⟩ : ∃ k', k = k' + 1 := ⟨k - 1, by omega⟩
   unfold r4_alike.l0
   rw [if_neg (by omega)]
 · exact ralike_l0 l m (by omega) h l.length 1 k (by omega) (by omega) (by omega) (by omega)
theorem mulZ_comm {a b : Int} (ha : In8 a) (hb : In8 b) : mulZ a b = mulZ b a := by
 obtain ⟨n, rfl, hn⟩ := ha.nat
 obtain ⟨m, rfl, hm⟩ := hb.nat
 unfold mulZ
 rw [Int.toNat_natCast, Int.toNat_natCast, Fq.mul_comm n m hn hm]
theorem mulZ_zero {a : Int} : mulZ 0 a = 0 := by show ((Fq.mul 0 a.toNat : Nat) : Int) = 0; rw [Fq.zero_mul]; rfl
theorem xorZ_zero {a : Int} (ha : In8 a) : xorZ a 0 = a := by
 obtain ⟨n, rfl, hn⟩ := ha.nat
 unfold xorZ; rw [Int.toNat_natCast]; simp
theorem addR_zero : ∀ (tr row : List Int), (∀ y ∈ tr, In8 y) → tr.length = row.length → addR tr row 0 = tr
 | [], [], _, _ => rfl
 | [], _ :: _, _, h => by simp at h
 | _ :: _, [], _, h => by simp at h
 | t :: tr, r :: row, ht, h => by
  have ih := addR_zero tr row (fun y hy => ht y (List.mem_cons_of_mem _ hy)) (by simpa using h)
  unfold addR at ih ⊢
  rw [List.zipWith_cons_cons, mulZ_zero, xorZ_zero (ht t (List.mem_cons_self ..)), ih]
theorem elim_ref {c k : Nat} {q : List (List Int) × List (List Int)} {n nx : Nat} (ha : Sh n n q.1) (hx : Sh n nx q.2) {r1 r2 s1 s2 : List Int} {y : Int} (f1 : q.1[k]? = some r1) (f2 : q.1[c]? = some r2) (g1 : q.2[k]? = some s1) (g2 : q.2[c]? = some s2) (hy : r1[c]? = some y) (hkc : k ≠ c) :
    q21 c k q = (q.1.set k (addR r1 r2 y), q.2.set k (addR s1 s2 y)) := by
 unfold q21
 rw [rowZ f1, rowZ f2, rowZ g1, rowZ g2, elZ hy]
 by_cases h0 : y = 0
 · subst h0
   rw [if_neg (by simp)]
   have e1 : addR r1 r2 0 = r1 := addR_zero _ _ (ha.el _ (List.mem_of_getElem? f1)) (by rw [ha.row _ (List.mem_of_getElem? f1), ha.row _ (List.mem_of_getElem? f2)])
   have e2 : addR s1 s2 0 = s1 := addR_zero _ _ (hx.el _ (List.mem_of_getElem? g1)) (by rw [hx.row _ (List.mem_of_getElem? g1), hx.row _ (List.mem_of_getElem? g2)])
   rw [e1, e2, Solve.set_same f1, Solve.set_same g1]
 · rw [if_pos ⟨hkc, h0⟩]
theorem modify_comm {α : Type} (xs : Array α) {a b : Nat} (h : a ≠ b) (f g : α → α) : (xs.modify a f).modify b g = (xs.modify b g).modify a f := by
 apply Array.ext_getElem?
 intro k
 rw [Array.getElem?_modify, Array.getElem?_modify, Array.getElem?_modify, Array.getElem?_modify]
 by_cases h1 : b = k <;> by_cases h2 : a = k <;> simp [h1, h2]
 exact absurd (h2.trans h1.symm) h
def setF (p : Addr) (v : Value) (o : Obj) : Obj := match o with
 | .cells c elem frozen => .cells (if p.spot.isSome then c else c.setIfInBounds p.off v) elem frozen
 | o => o
theorem set_heap (w : World) (p : Addr) (v : Value) : w.setCell p v = { w with heap := w.heap.modify p.block (setF p v) } := rfl
theorem set_comm (w : World) {a b i j : Nat} (h : a ≠ b) (u v : Value) : (w.setCell ⟨a, i, none⟩ u).setCell ⟨b, j, none⟩ v = (w.setCell ⟨b, j, none⟩ v).setCell ⟨a, i, none⟩ u := by
 rw [set_heap, set_heap, set_heap, set_heap]
 show ({ w with heap := (w.heap.modify a _).modify b _ } : World) = { w with heap := (w.heap.modify b _).modify a _ }
 rw [modify_comm w.heap h]
theorem swap_comm (l : List (List Int)) (c r : Nat) : (l.set r (QB.rd_L2 l c)).set c (QB.rd_L2 l r) = swapL l c r := by
 unfold swapL
 by_cases h : c = r
 · subst h; rfl
 · rw [List.set_comm _ _ h]
theorem cellB {w : World} {a b i j : Nat} (h : a ≠ b) (u : Value) : (w.setCell ⟨a, i, none⟩ u).cell? ⟨b, j, none⟩ = w.cell? ⟨b, j, none⟩ :=
 World.cell?_setCell_other _ _ _ _ (fun e => h (by injection e))
theorem swap4 {w0 w : World} {okA okX : Nat → Prop} {ga ca : Nat} {ha : List Value} {a : List (List Int)} {gx cx : Nat} {hx : List Value} {x : List (List Int)} (h : Two w0 w okA okX ga ca ha a gx cx hx x) {c r : Nat} {h1 h2 k1 k2 : Value} {r1 rc s1 s2 : List Int}
    (hi : ha[r]? = some h1) (hj : ha[c]? = some h2) (mi : a[r]? = some r1) (mj : a[c]? = some rc) (ki : hx[r]? = some k1) (kj : hx[c]? = some k2) (ni : x[r]? = some s1) (nj : x[c]? = some s2) :
    (∃ z, ((w.setCell ⟨ga, r, none⟩ h2).setCell ⟨gx, r, none⟩ k2).cell? ⟨ga, c, none⟩ = some z) ∧
    (∃ z, (((w.setCell ⟨ga, r, none⟩ h2).setCell ⟨gx, r, none⟩ k2).setCell ⟨ga, c, none⟩ h1).cell? ⟨gx, c, none⟩ = some z) ∧ ga ≠ gx ∧
    Two w0 ((((w.setCell ⟨ga, r, none⟩ h2).setCell ⟨gx, r, none⟩ k2).setCell ⟨ga, c, none⟩ h1).setCell ⟨gx, c, none⟩ k1) okA okX ga ca ((ha.set r h2).set c h1) (swapL a c r) gx cx ((hx.set r k2).set c k1) (swapL x c r) := by
 have hne : ga ≠ gx := fun e => h.D ga h.A.okg (by rw [e]; exact h.X.okg)
 have e1 : ((a.set r rc).set c r1) = swapL a c r := by rw [← swap_comm a c r, rowZ mi, rowZ mj]
 have e2 : ((x.set r s2).set c s1) = swapL x c r := by rw [← swap_comm x c r, rowZ ni, rowZ nj]
 have hA := h.A.swap hi hj mi mj
 rw [e1] at hA
 have cellsA : ∀ {w' : World} (u : Value), Mx w' w0.heap.size okA ga ca ha a → ∃ z, (w'.setCell ⟨ga, r, none⟩ u).cell? ⟨ga, c, none⟩ = some z := fun {w'} u hM => by
  obtain ⟨cur, hh, hcs, hlc, hcm, hcur⟩ := hM.outer
  have hl := hM.len
  have hlt : c < a.length := (List.getElem?_eq_some_iff.1 mj).1
  rw [q0h (q23 hh r u) c]
  exact ⟨_, Array.getElem?_eq_getElem (by rw [Array.size_setIfInBounds]; omega)⟩
 have cellsX : ∀ {w' : World} (u : Value), Mx w' w0.heap.size okX gx cx hx x → ∃ z, (w'.setCell ⟨gx, r, none⟩ u).cell? ⟨gx, c, none⟩ = some z := fun {w'} u hM => by
  obtain ⟨cur, hh, hcs, hlc, hcm, hcur⟩ := hM.outer
  have hl := hM.len
  have hlt : c < x.length := (List.getElem?_eq_some_iff.1 nj).1
  rw [q0h (q23 hh r u) c]
  exact ⟨_, Array.getElem?_eq_getElem (by rw [Array.size_setIfInBounds]; omega)⟩
 refine ⟨?_, ?_, hne, ?_⟩
 · rw [cellB (Ne.symm hne)]; exact cellsA h2 h.A
 · rw [cellB hne, set_comm w hne, cellB hne]; exact cellsX k2 h.X
 ·
  have eW : (((w.setCell ⟨ga, r, none⟩ h2).setCell ⟨gx, r, none⟩ k2).setCell ⟨ga, c, none⟩ h1).setCell ⟨gx, c, none⟩ k1 = (((w.setCell ⟨ga, r, none⟩ h2).setCell ⟨ga, c, none⟩ h1).setCell ⟨gx, r, none⟩ k2).setCell ⟨gx, c, none⟩ k1 := by
   rw [set_comm (w.setCell ⟨ga, r, none⟩ h2) (Ne.symm hne)]
  rw [eW]
  have hk1 : Kept w ((w.setCell ⟨ga, r, none⟩ h2).setCell ⟨ga, c, none⟩ h1) (fun k => k = ga) := Kept.setCell (S := fun k => k = ga) (p := ⟨ga, c, none⟩) (Kept.setCell (S := fun k => k = ga) (p := ⟨ga, r, none⟩) (Kept.refl w (fun k => k = ga)) (.inl rfl) _) (.inl rfl) _
  have hX1 : Mx ((w.setCell ⟨ga, r, none⟩ h2).setCell ⟨ga, c, none⟩ h1) w0.heap.size okX gx cx hx x := h.X.kept hk1 (fun k hk2 e => h.D k (by rw [e]; exact h.A.okg) hk2)
  have hX := hX1.swap ki kj ni nj
  rw [e2] at hX
  have hB : Below w0.heap.size w0 (((((w.setCell ⟨ga, r, none⟩ h2).setCell ⟨ga, c, none⟩ h1)).setCell ⟨gx, r, none⟩ k2).setCell ⟨gx, c, none⟩ k1) := (((h.B.setCell h.A.base_le _).setCell h.A.base_le _).setCell h.X.base_le _).setCell h.X.base_le _
  generalize (w.setCell ⟨ga, r, none⟩ h2).setCell ⟨ga, c, none⟩ h1 = w3 at hA hX hX1 hk1 hB
  have hk2 : Kept w3 ((w3.setCell ⟨gx, r, none⟩ k2).setCell ⟨gx, c, none⟩ k1) (fun k => k = gx) := Kept.setCell (S := fun k => k = gx) (p := ⟨gx, c, none⟩) (Kept.setCell (S := fun k => k = gx) (p := ⟨gx, r, none⟩) (Kept.refl w3 (fun k => k = gx)) (.inl rfl) _) (.inl rfl) _
  refine ⟨hA.kept hk2 (fun k h1 e => h.D k h1 (by rw [e]; exact h.X.okg)), hX, hB, h.D⟩
end Go.Proofs.Ytdhajlkiiphlfaa.Rv
namespace Go.Proofs.Ytdhajlkiiphlfaa.Rv
open Go.RowKit Go.Proofs.Ytdhajlkiiphlfaa.QR Go.Proofs.YtdhajlkiiphlfaaW.PrintWords Go.Proofs.YtdhajlkiiphlfaaW.PrintLast Go.Proofs.YtdhajlkiiphlfaaW.PrintMore
open Go.Proofs.Ytdhajlkiiphlfaa.Solve
set_option maxHeartbeats 3200000 in
set_option maxRecDepth 100000 in
theorem rsolve_pos (n nx : Nat) (m v : List (List Int)) (A0 A1 : Option Addr) (c0 c1 : Nat) (w : World) (hr0 : Kd.C (Kd.slice 5 (Kd.int .u8)) w A0 m.length m) (hc0 : m.length ≤ c0) (hr1 : Kd.C (Kd.slice 5 (Kd.int .u8)) w A1 v.length v) (hc1 : v.length ≤ c1) (hn0 : 0 < n) (hn : n ≤ 256) (hnx : nx ≤ 140737488355328) (sm : Sh n n m) (sv : Sh n nx v) (R : Option (List (List Int))) (hR : cols n n 0 (m, v) = R) :
    Calls Try.prog 59 #[.slice A0 m.length c0, .slice A1 v.length c1] w fun e w' => (match (generalizing := false) R with
     | none => e = .returned (.tuple #[.slice none 0 0, .int .i64 43])
     | some l => ∃ v0_, e = .returned (.tuple #[v0_, .int .i64 0]) ∧ Kd.S (Kd.slice 5 (Kd.int .u8)) 41 w' w.heap.size (fun _ => True) v0_ l) ∧ Below w.heap.size w w' := by
 have hfit := rfits4_f 1000 m n (by rw [sm.len]; exact hn) sm.row (by omega)
 rw [← sm.len] at hfit
 have hali := ralike_f 1000 v nx (by rw [sv.len]; exact hn) sv.row (by omega)
 have HW := sqM hfit
 have HALL := sqM hali
 have HR0 := sqM hr0
 have HC0 := sqM hc0
 have HR1 := sqM hr1
 have HC1 := sqM hc1
 have HSM := sqM sm
 have HSV := sqM sv
 have HNN := sqM hn0
 have HN := sqM (show n ≤ 256 ∧ nx ≤ 140737488355328 from ⟨hn, hnx⟩)
 have HCO := sqM hR
 have hm1 : decide (256 < (m.length : Int)) = false := decide_eq_false (by rw [sm.len]; omega)
 have hm1' : decide (256 < m.length) = false := decide_eq_false (by rw [sm.len]; omega)
 have hm2 : ((v.length : Int) != (m.length : Int)) = false := bne_eq_false_iff_eq.mpr (by rw [sm.len, sv.len])
 clear hr0 hc0 hr1 hc1 sm sv hn hnx hfit hali hn0 hR
 go_enter Try.func59, Try.ntmps59
 go_wp2_with (first
  | (go_at_call 61; (with_reducible refine (r4_fits.calls 1000 _ _ m (m.length : Int) true _ ?side1 HC0.out HW.out).mono ?_); (case side1 => repeat (exact HR0.out)); rintro e w' ⟨rfl, ⟨nd1, rfl⟩⟩)
  | (go_at_call 62; (with_reducible refine (r4_alike.calls 1000 _ _ v true _ ?side1 HC1.out HALL.out).mono ?_); (case side1 => repeat (exact HR1.out)); rintro e w' ⟨rfl, ⟨nd2, rfl⟩⟩))
 refine (rcopied_calls A0 c0 m _ (by repeat (exact HR0.out)) HC0.out (by rw [HSM.out.len]; exact HN.out.1) (fun r hr => by rw [HSM.out.row r hr]; have := HN.out; omega)).mono ?_
 rintro e w1 ⟨v0, rfl, hs0, hb0⟩
 have hS0 : Kd.S (Kd.slice 5 (Kd.int .u8)) 41 w1 w.heap.size (fun _ => True) v0 m := hs0
 have hB0 : Below w.heap.size w w1 := q04 (by repeat (first | exact Below.refl _ _ | apply q00)) hb0
 obtain ⟨g0, k0, hv0, _, _, _⟩ := Kd.R_form (Kd.S_R hS0) (by rw [HSM.out.len]; exact HNN.out)
 subst hv0
 have HS0 := sqM hS0
 have HB0 := sqM hB0
 clear hs0 hb0 hS0 hB0
 go_wp2_with (fail)
 refine (rcopied_calls A1 c1 v _ (Kd.C_below HR1.out HB0.out) HC1.out (by rw [HSV.out.len]; exact HN.out.1) (fun r hr => by rw [HSV.out.row r hr]; have := HN.out; omega)).mono ?_
 rintro e w2 ⟨v1, rfl, hs1, hb1⟩
 obtain ⟨g1, k1, hv1, _, _, _⟩ := Kd.R_form (Kd.S_R hs1) (by rw [HSV.out.len]; exact HNN.out)
 subst hv1
 have HT : ∃ ha hx, Aside0 (Two w w2 (fun k => k < w1.heap.size) (fun k => w1.heap.size ≤ k) g0 k0 ha m g1 k1 hx v) := by
  obtain ⟨_, ha, hA⟩ := Mx.of_S (Kd.S_mono (ok' := fun k => k < w1.heap.size) (Kd.S_bound HS0.out) (fun k hk => hk.2.2.1))
  obtain ⟨_, hx, hX⟩ := Mx.of_S (Kd.S_mono (ok' := fun k => w1.heap.size ≤ k) (Kd.S_bound hs1) (fun k hk => hk.2.1))
  exact ⟨ha, hx, ⟨⟨hA.below hb1, hX.base_down HB0.out.size, q04 HB0.out hb1, fun k h1 h2 => by omega⟩⟩⟩
 obtain ⟨ha, hx, HT⟩ := HT
 have hmn : m.length = n := HSM.out.len
 have hvn : v.length = n := HSV.out.len
 rw [hmn, hvn]
 generalize w1.heap.size = N1 at HT
 clear hs1 hb1 HS0 HB0 hm1 hm1' hm2 hmn hvn
 obtain ⟨okA, hokA⟩ : ∃ p : Nat → Prop, p = (fun k => k < N1) := ⟨_, rfl⟩
 obtain ⟨okX, hokX⟩ : ∃ p : Nat → Prop, p = (fun k => N1 ≤ k) := ⟨_, rfl⟩
 rw [← hokA, ← hokX] at HT
 clear hokA hokX
 go_wp2
 go_loopw [11] (fun vi w' => ∃ c : Nat, c ≤ n ∧ vi = .int .i64 (c : Int) ∧ ∃ ha hx q, Aside0 (Two w w' okA okX g0 k0 ha q.1 g1 k1 hx q.2) ∧ Aside0 (Sh n n q.1 ∧ Sh n nx q.2) ∧ Aside0 (cols n (n - c) c q = R)) (fun vi _ => n - (intOf vi).toNat)
 case atStart => exact ⟨0, Nat.zero_le _, rfl, ha, hx, (m, v), HT, ⟨HSM.out, HSV.out⟩, HCO⟩
 case round =>
  clear HT HCO ha hx
  obtain ⟨c, hc, rfl, ha, hx, q, HT, HS, HCO⟩ := hrel
  by_cases hcn : c < n
  ·
   have HCN := sqM hcn
   have hc2 : (c : Int) < (n : Int) := by omega
   have hc3 : (0 : Int) ≤ (c : Int) := by omega
   have hwc := sqM (wr1 hcn (by have := HN.out; omega))
   clear hc hcn
   go_wp2
   go_loopw [12] (fun vr w' => ∃ r : Nat, c ≤ r ∧ r ≤ n ∧ vr = .int .i64 (r : Int) ∧ Aside0 (Two w w' okA okX g0 k0 ha q.1 g1 k1 hx q.2) ∧ Aside0 (findP q.1 c (n - r) r = findP q.1 c (n - c) c)) (fun vr _ => n - (intOf vr).toNat)
   case atStart => exact ⟨c, Nat.le_refl _, by have := HCN.out; omega, rfl, HT, ⟨rfl⟩⟩
   case round =>
    clear HT
    obtain ⟨r, hcr, hr, rfl, HT, HF⟩ := hrel
    by_cases hrn : r < n
    ·
     obtain ⟨r1, f1, l1, i1⟩ := HS.out.1.at_ hrn
     obtain ⟨y, hy⟩ : ∃ y, r1[c]? = some y := ⟨_, List.getElem?_eq_getElem (by have := HCN.out; omega)⟩
     have hyin := i1 y (List.mem_of_getElem? hy)
     have hr2 : (r : Int) < (n : Int) := by omega
     have hr3 : (0 : Int) ≤ (r : Int) := by omega
     have hr4 : (c : Int) < (r1.length : Int) := by have := HCN.out; omega
     have hwr := sqM (wr1 hrn (by have := HN.out; omega))
     have hstep : findP q.1 c (n - r) r = if y = 0 then findP q.1 c (n - (r + 1)) (r + 1) else some r := by
      rw [show n - r = (n - (r + 1)) + 1 by omega]
      show (if rd (QB.rd_L2 q.1 (r : Int)) (c : Int) = 0 then _ else _) = _
      rw [rowZ f1, elZ hy]
     rw [hstep] at HF
     obtain ⟨b1, d1, e1, _, ch1, ce1, _, _⟩ := HT.out.cellA' f1 hy
     have HF1 := sqM f1
     have HY := sqM hy
     have HRN := sqM hrn
     have HCR := sqM hcr
     have HA_ := sqM i1
     have HAL_ := sqM l1
     have HYI := sqM hyin
     clear hstep f1 hy l1 i1 hrn hcr hr hyin
     by_cases hy0 : y = 0
     ·
      subst hy0
      rw [if_pos rfl] at HF
      go_wp2
      go_roundw
      case rel => exact ⟨r + 1, by have := HCR.out; omega, HRN.out, by rw [hwr.out], ⟨by exact HT.out⟩, HF⟩
      case measure => exact meas hwr.out HRN.out
     ·
      rw [if_neg hy0] at HF
      have hy1 : (y == 0) = false := beq_eq_false_iff_ne.mpr hy0
      have hrn1 : ((r : Int) == (n : Int)) = false := beq_eq_false_iff_ne.mpr (by omega)
      clear hy0
      obtain ⟨rc, f2, l2, i2⟩ := HS.out.1.at_ HCN.out
      obtain ⟨s1, f3, l3, i3⟩ := HS.out.2.at_ HRN.out
      obtain ⟨s2, f4, l4, i4⟩ := HS.out.2.at_ HCN.out
      have HF2 := sqM f2
      have HF3 := sqM f3
      have HF4 := sqM f4
      have HX_ := sqM i3
      have HXL_ := sqM l3
      clear f2 f3 f4 l2 l3 l4 i2 i3 i4
      obtain ⟨A2, c2, e2, _, hh2, hf2, _⟩ := HT.out.headA' HF1.out
      obtain ⟨ea, ec⟩ : some (⟨b1, 0, none⟩ : Addr) = A2 ∧ d1 = c2 := by
       have := Option.some.inj (e1.symm.trans e2)
       injection this with ea _ ec
       exact ⟨ea, ec⟩
      subst ea
      subst ec
      clear hh2
      obtain ⟨A3, c3, e3, _, hh3, hf3, _⟩ := HT.out.headA' HF2.out
      obtain ⟨A4, c4, e4, _, hh4, hf4, _⟩ := HT.out.symm.headA' HF3.out
      obtain ⟨A5, c5, e5, _, hh5, hf5, _⟩ := HT.out.symm.headA' HF4.out
      obtain ⟨⟨z1, hz1⟩, ⟨z2, hz2⟩, hne, hsw⟩ := swap4 HT.out e2 e3 HF1.out HF2.out e4 e5 HF3.out HF4.out
      have hne' := Ne.symm hne
      have hu1 : (wr.setCell ⟨g0, r, none⟩ (.slice A3 rc.length c3)).cell? ⟨g1, r, none⟩ = some (.slice A4 s1.length c4) := by rw [cellB hne]; exact hh4
      have hu2 : (wr.setCell ⟨g0, r, none⟩ (.slice A3 rc.length c3)).cell? ⟨g1, c, none⟩ = some (.slice A5 s2.length c5) := by rw [cellB hne]; exact hh5
      have HZ1 := sqM hz1
      have HZ2 := sqM hz2
      have HSW := sqM hsw
      have HU1 := sqM hu1
      have HU2 := sqM hu2
      clear hz1 hz2 hsw hu1 hu2 hne hne' HT
      go_upto_region 21 with (fail)
      have hu1 := HU1.out
      have hu2 := HU2.out
      clear HU1 HU2
      generalize hW1 : wr.setCell ⟨g0, r, none⟩ (.slice A3 rc.length c3) = w1 at hu1 hu2 HZ1 HZ2 HSW ⊢
      have hq5 : w1.frozen? ⟨g1, r, none⟩ = false := by rw [← hW1, World.frozen?_setCell]; exact hf4
      have hq6 : w1.frozen? ⟨g0, c, none⟩ = false := by rw [← hW1, World.frozen?_setCell]; exact hf3
      have hq7 : w1.frozen? ⟨g1, c, none⟩ = false := by rw [← hW1, World.frozen?_setCell]; exact hf5
      clear hW1 hh3 hh4 hh5 hf2 hf3 hf4 hf5 ch1 ce1
      go_upto_region 22 with (fail)
      have hz1 := HZ1.out
      clear HZ1 hu1 hu2
      generalize hW2 : w1.setCell ⟨g1, r, none⟩ (.slice A5 s2.length c5) = w2' at hz1 HZ2 HSW ⊢
      have hq8 : w2'.frozen? ⟨g0, c, none⟩ = false := by rw [← hW2, World.frozen?_setCell]; exact hq6
      have hq9 : w2'.frozen? ⟨g1, c, none⟩ = false := by rw [← hW2, World.frozen?_setCell]; exact hq7
      clear hW2 hq5 hq6 hq7
      go_upto_region 23 with (fail)
      have hz2 := HZ2.out
      clear HZ2 hz1
      generalize hW3 : w2'.setCell ⟨g0, c, none⟩ (.slice (some ⟨b1, 0, none⟩) r1.length d1) = w3' at hz2 HSW ⊢
      have hq10 : w3'.frozen? ⟨g1, c, none⟩ = false := by rw [← hW3, World.frozen?_setCell]; exact hq9
      clear hW3 hq8 hq9
      go_upto_region 24 with (fail)
      generalize w3'.setCell ⟨g1, c, none⟩ (.slice A4 s1.length c4) = w4' at HSW ⊢
      clear hz2 hq10
      obtain ⟨qa, hqa⟩ : ∃ qa, qa = swapL q.1 c r := ⟨_, rfl⟩
      obtain ⟨qx, hqx⟩ : ∃ qx, qx = swapL q.2 c r := ⟨_, rfl⟩
      have hSA : Sh n n qa := by rw [hqa]; exact HS.out.1.swap HCN.out HRN.out
      have hSX : Sh n nx qx := by rw [hqx]; exact HS.out.2.swap HCN.out HRN.out
      have hA1 : qa[c]? = some r1 := by
       rw [hqa, ← swap_comm, rowZ HF1.out]
       exact List.getElem?_set_self (by rw [List.length_set, HS.out.1.len]; exact HCN.out)
      have hX1 : qx[c]? = some s1 := by
       rw [hqx, ← swap_comm, rowZ HF3.out]
       exact List.getElem?_set_self (by rw [List.length_set, HS.out.2.len]; exact HCN.out)
      have HC6 := sqM (show cols n (n - (c + 1)) (c + 1) (q0p n c qa qx) = R by
       rw [← HCO.out, show n - c = (n - (c + 1)) + 1 by have := HCN.out; omega, hqa, hqx]
       exact (cols_some (by rw [show n - c = n - c from rfl]; exact HF.out.symm)).symm)
      rw [← hqa, ← hqx] at HSW
      generalize ((ha.set r (.slice A3 rc.length c3)).set c (.slice (some ⟨b1, 0, none⟩) r1.length d1)) = ha2 at HSW
      generalize ((hx.set r (.slice A5 s2.length c5)).set c (.slice A4 s1.length c4)) = hx2 at HSW
      have HT := HSW
      clear HSW HS HCO HF hqa hqx HF1 HF2 HF3 HF4
      have HA1 := sqM hA1
      have HX1 := sqM hX1
      have HSA := sqM hSA
      have HSX := sqM hSX
      obtain ⟨by_, hby⟩ : ∃ b, b = invZ y := ⟨_, rfl⟩
      have HBY := sqM (show In8 by_ from hby ▸ invZ_in HYI.out)
      have HBE := sqM hby
      have HI : ∃ er, Aside0 (r4_Inv.f 1000 y = some (by_, er)) := by
       obtain ⟨er, her⟩ := rInv_z (k := 1000) HYI.out (by omega)
       exact ⟨er, ⟨by rw [her, hby]⟩⟩
      obtain ⟨er, HI⟩ := HI
      obtain ⟨b2, d2, _, _, hp1, hp2, _, _⟩ := HT.out.cellA' HA1.out HY.out
      have hr4 : (c : Int) < (r1.length : Int) := by have := HAL_.out; omega
      clear hby hSA hSX hA1 hX1 hy1 hrn1 hr2 hr3 e1 e2 e3 e4 e5
      have HAL := sqM (show c < qa.length by rw [HSA.out.len]; exact HCN.out)
      have HXL := sqM (show c < qx.length by rw [HSX.out.len]; exact HCN.out)
      have HAR := HAL_
      have HXR := HXL_
      have HAE := HA_
      have HXE := HX_
      go_wp2_with (first
       | (go_at_call 60; (with_reducible refine (r4_Inv.calls 1000 y by_ er _ HI.out).mono ?_); rintro e w' ⟨rfl, ⟨nd3, rfl⟩⟩))
      have HT := sqM (HT.out.drewN nd3)
      clear hp1 hp2
      go_loopw [17] (fun vi w' => ∃ i : Nat, i ≤ n ∧ vi = .int .i64 (i : Int) ∧ Aside0 (Two w w' okA okX g0 k0 ha2 (qa.set c (q0n r1 by_ i)) g1 k1 hx2 qx)) (fun vi _ => n - (intOf vi).toNat)
      case atStart => exact ⟨0, Nat.zero_le _, rfl, ⟨by rw [scaleTo_zero, Solve.set_same HA1.out]; exact HT.out⟩⟩
      case round =>
       clear HT
       obtain ⟨i, hi, rfl, HT⟩ := hrel
       have hrow : (qa.set c (q0n r1 by_ i))[c]? = some (q0n r1 by_ i) := List.getElem?_set_self (by have := HAL.out; omega)
       have hir : i ≤ r1.length := by have := HAR.out; omega
       by_cases hlt : i < n
       ·
        have hlr : i < r1.length := by have := HAR.out; omega
        have hyy : (q0n r1 by_ i)[i]? = some r1[i] := scaleTo_get r1 by_ i hlr
        have hset := scaleTo_set r1 by_ i hlr
        have hin : In8 r1[i] := HAE.out _ (List.getElem_mem hlr)
        obtain ⟨y1, hy1⟩ : ∃ y, y = r1[i] := ⟨_, rfl⟩
        rw [← hy1] at hyy hset hin
        have HM := sqM (show r4_Mul.f 1000 by_ y1 = some (mulZ y1 by_) by rw [rMul_z HBY.out hin (by omega), mulZ_comm HBY.out hin])
        have HSET := sqM hset
        have HLT := sqM hlt
        have HLR := sqM hlr
        have HROW := sqM hrow
        have HYY := sqM hyy
        have hqn : (i : Int) < (n : Int) := by omega
        have hq0 : (0 : Int) ≤ (i : Int) := by omega
        have hq : (i : Int) < ((r1.length : Int)) := by omega
        clear hset hin hy1 hi hlt hlr hrow hyy hir
        go_wp2_with (fail)
        obtain ⟨g, cp, h1, h2, hcellh, hcelle, hfr, hput⟩ := (HT.out.drew).cellA' HROW.out HYY.out
        rw [q26 r1 by_ i (by have := HLR.out; omega)] at hcellh h1 h2
        have hput2 := hput (mulZ y1 by_)
        rw [HSET.out, List.set_set] at hput2
        clear hput h1 h2
        have HP := sqM hput2
        clear hput2
        refine q1x (n := 16) (S := fun w' => w'.cell? ⟨g0, c, none⟩ = some (.slice (some ⟨g, 0, none⟩) r1.length cp) ∧ w'.cell? ⟨g, i, none⟩ = some (.int .u8 y1)) (ds := [15]) #[fF,fF,fF,fF,fF,fF,fF,fF,fF,fF,fF,fF,fF,fF,fF,fF] (by kernel_rfl) rfl rfl ⟨hcellh, hcelle⟩ (fun hHeld => ?_)
        generalize wr.drew = w11 at hcellh hcelle hfr HP hHeld ⊢
        refine pU 0 116 #[tT,fF,fF,fF,fF,fF,fF,fF,fF,fF,fF,fF,fF,fF,fF,fF] ?_
        refine pU 1 117 #[tT,tT,fF,fF,fF,fF,fF,fF,fF,fF,fF,fF,fF,fF,fF,fF] ?_
        refine pU 2 118 #[tT,tT,tT,fF,fF,fF,fF,fF,fF,fF,fF,fF,fF,fF,fF,fF] ?_
        refine pU 4 120 #[tT,tT,tT,fF,tT,fF,fF,fF,fF,fF,fF,fF,fF,fF,fF,fF] ?_
        refine pU 5 121 #[tT,tT,tT,fF,tT,tT,fF,fF,fF,fF,fF,fF,fF,fF,fF,fF] ?_
        refine pU 6 122 #[tT,tT,tT,fF,tT,tT,tT,fF,fF,fF,fF,fF,fF,fF,fF,fF] ?_
        refine pU 7 123 #[tT,tT,tT,fF,tT,tT,tT,tT,fF,fF,fF,fF,fF,fF,fF,fF] ?_
        refine pU 8 124 #[tT,tT,tT,fF,tT,tT,tT,tT,tT,fF,fF,fF,fF,fF,fF,fF] ?_
        refine pU 10 126 #[tT,tT,tT,fF,tT,tT,tT,tT,tT,fF,tT,fF,fF,fF,fF,fF] ?_
        refine tK 3 119 #[tT,tT,tT,tT,tT,tT,tT,tT,tT,fF,tT,fF,fF,fF,fF,fF] hHeld ?_ (hy := by
         intro w' s0
         obtain ⟨s1, s2⟩ := s0
         go_simp
         with_reducible rfl)
        refine tK 9 125 #[tT,tT,tT,tT,tT,tT,tT,tT,tT,tT,tT,fF,fF,fF,fF,fF] hHeld ?_ (hy := by
         intro w' s0
         obtain ⟨s1, s2⟩ := s0
         go_simp
         with_reducible rfl)
        refine pU 11 127 #[tT,tT,tT,tT,tT,tT,tT,tT,tT,tT,tT,tT,fF,fF,fF,fF] ?_
        refine tK 12 128 #[tT,tT,tT,tT,tT,tT,tT,tT,tT,tT,tT,tT,tT,fF,fF,fF] hHeld ?_ (hy := by
         intro w' s0
         obtain ⟨s1, s2⟩ := s0
         go_simp
         with_reducible rfl)
        refine one_ (i := 13) (N := some 129) #[tT,tT,tT,tT,tT,tT,tT,tT,tT,tT,tT,tT,tT,tT,fF,fF] rfl rfl (by kernel_rfl) (by decide) (fun K hK => ?_)
        refine goes_ Try.func58 (by kernel_rfl) rfl #[.int .u8 by_, .int .u8 y1] (by rfl) rfl rfl (by (try simp only [List.map_toArray, List.map_cons, List.map_nil]); (rfl)) ?_
        with_reducible refine (r4_Mul.calls 1000 by_ y1 _ _ HM.out).mono ?_
        rintro e w' ⟨rfl, ⟨nd, rfl⟩⟩
        refine ⟨_, rfl, ?_⟩
        refine hK.out _ _ hHeld (fun hHeld => ?_)
        clear hK K
        refine norm_ (a' := ?_) ?_ ?_
        rotate_left
        · show Act.put _ (some 129) _ = _
          simp only [Act.put, sqA, sqB, sqC, i64_w, i32_w]
          rfl
        refine pU 14 130 #[tT,tT,tT,tT,tT,tT,tT,tT,tT,tT,tT,tT,tT,tT,tT,fF] ?_
        refine last_ (i := 15) (N := none) #[tT,tT,tT,tT,tT,tT,tT,tT,tT,tT,tT,tT,tT,tT,tT,tT] rfl rfl (by kernel_rfl) (by decide) (fun K hK => ?_)
        refine skip_ (w1 := ?_) (by rfl) rfl ?_ ?_
        rotate_left
        · go_simp
          rfl
        refine hK.out _ _ ?_
        clear hK K
        refine done_ (by kernel_rfl) ?_
        go_wp2
        have hw1 := wr1 HLT.out (by have := HAR.out; have := HN.out; omega)
        go_roundw
        case rel => exact ⟨i + 1, HLT.out, by rw [hw1], ⟨HP.out.drewN nd⟩⟩
        case measure => exact meas hw1 HLT.out
       ·
        obtain rfl : n = i := by omega
        have HTE := sqM HT.out
        rw [show q0n r1 by_ n = q16 r1 by_ from by rw [← HAR.out]; exact scaleTo_all _ _] at HTE
        have HT := HTE
        clear HTE hrow hi hlt hir
        go_wp2
        go_loopw [18] (fun vi w' => ∃ i : Nat, i ≤ s1.length ∧ vi = .int .i64 (i : Int) ∧ Aside0 (Two w w' okA okX g0 k0 ha2 (qa.set c (q16 r1 by_)) g1 k1 hx2 (qx.set c (q0n s1 by_ i)))) (fun vi _ => s1.length - (intOf vi).toNat)
        case atStart => exact ⟨0, Nat.zero_le _, rfl, ⟨by rw [scaleTo_zero, Solve.set_same HX1.out]; exact HT.out⟩⟩
        case round =>
         clear HT
         obtain ⟨i, hi, rfl, HT⟩ := hrel
         have hrow : (qx.set c (q0n s1 by_ i))[c]? = some (q0n s1 by_ i) := List.getElem?_set_self (by have := HXL.out; omega)
         have hir : i ≤ s1.length := by have := HXR.out; omega
         obtain ⟨A9, c9, _, _, hh9, _, _⟩ := HT.out.symm.headA' hrow
         rw [q26 s1 by_ i hir] at hh9
         by_cases hlt : i < s1.length
         ·
          have hlr : i < s1.length := by have := HXR.out; omega
          have hyy : (q0n s1 by_ i)[i]? = some s1[i] := scaleTo_get s1 by_ i hlr
          have hset := scaleTo_set s1 by_ i hlr
          have hin : In8 s1[i] := HXE.out _ (List.getElem_mem hlr)
          obtain ⟨y1, hy1⟩ : ∃ y, y = s1[i] := ⟨_, rfl⟩
          rw [← hy1] at hyy hset hin
          have HM := sqM (show r4_Mul.f 1000 by_ y1 = some (mulZ y1 by_) by rw [rMul_z HBY.out hin (by omega), mulZ_comm HBY.out hin])
          have HSET := sqM hset
          have HLT := sqM hlt
          have HLR := sqM hlr
          have HROW := sqM hrow
          have HYY := sqM hyy
          have hqn : (i : Int) < (s1.length : Int) := by omega
          have hq0 : (0 : Int) ≤ (i : Int) := by omega
          have hq : (i : Int) < ((s1.length : Int)) := by omega
          clear hset hin hy1 hi hlt hlr hrow hyy hir
          go_wp2_with (fail)
          clear hh9
          obtain ⟨g, cp, h1, h2, hcellh, hcelle, hfr, hput⟩ := (HT.out.drew.symm).cellA' HROW.out HYY.out
          rw [q26 s1 by_ i (by have := HLR.out; omega)] at hcellh h1 h2
          have hput2 := hput (mulZ y1 by_)
          rw [HSET.out, List.set_set] at hput2
          clear hput h1 h2
          have HP := sqM hput2.symm
          clear hput2
          refine q1x (n := 16) (S := fun w' => w'.cell? ⟨g1, c, none⟩ = some (.slice (some ⟨g, 0, none⟩) s1.length cp) ∧ w'.cell? ⟨g, i, none⟩ = some (.int .u8 y1)) (ds := [15]) #[fF,fF,fF,fF,fF,fF,fF,fF,fF,fF,fF,fF,fF,fF,fF,fF] (by kernel_rfl) rfl rfl ⟨hcellh, hcelle⟩ (fun hHeld => ?_)
          generalize wr.drew = w11 at hcellh hcelle hfr HP hHeld ⊢
          refine pU 0 140 #[tT,fF,fF,fF,fF,fF,fF,fF,fF,fF,fF,fF,fF,fF,fF,fF] ?_
          refine pU 1 141 #[tT,tT,fF,fF,fF,fF,fF,fF,fF,fF,fF,fF,fF,fF,fF,fF] ?_
          refine pU 2 142 #[tT,tT,tT,fF,fF,fF,fF,fF,fF,fF,fF,fF,fF,fF,fF,fF] ?_
          refine pU 4 144 #[tT,tT,tT,fF,tT,fF,fF,fF,fF,fF,fF,fF,fF,fF,fF,fF] ?_
          refine pU 5 145 #[tT,tT,tT,fF,tT,tT,fF,fF,fF,fF,fF,fF,fF,fF,fF,fF] ?_
          refine pU 6 146 #[tT,tT,tT,fF,tT,tT,tT,fF,fF,fF,fF,fF,fF,fF,fF,fF] ?_
          refine pU 7 147 #[tT,tT,tT,fF,tT,tT,tT,tT,fF,fF,fF,fF,fF,fF,fF,fF] ?_
          refine pU 8 148 #[tT,tT,tT,fF,tT,tT,tT,tT,tT,fF,fF,fF,fF,fF,fF,fF] ?_
          refine pU 10 150 #[tT,tT,tT,fF,tT,tT,tT,tT,tT,fF,tT,fF,fF,fF,fF,fF] ?_
          refine tK 3 143 #[tT,tT,tT,tT,tT,tT,tT,tT,tT,fF,tT,fF,fF,fF,fF,fF] hHeld ?_ (hy := by
           intro w' s0
           obtain ⟨s1, s2⟩ := s0
           go_simp
           with_reducible rfl)
          refine tK 9 149 #[tT,tT,tT,tT,tT,tT,tT,tT,tT,tT,tT,fF,fF,fF,fF,fF] hHeld ?_ (hy := by
           intro w' s0
           obtain ⟨s1, s2⟩ := s0
           go_simp
           with_reducible rfl)
          refine pU 11 151 #[tT,tT,tT,tT,tT,tT,tT,tT,tT,tT,tT,tT,fF,fF,fF,fF] ?_
          refine tK 12 152 #[tT,tT,tT,tT,tT,tT,tT,tT,tT,tT,tT,tT,tT,fF,fF,fF] hHeld ?_ (hy := by
           intro w' s0
           obtain ⟨s1, s2⟩ := s0
           go_simp
           with_reducible rfl)
          refine one_ (i := 13) (N := some 153) #[tT,tT,tT,tT,tT,tT,tT,tT,tT,tT,tT,tT,tT,tT,fF,fF] rfl rfl (by kernel_rfl) (by decide) (fun K hK => ?_)
          refine goes_ Try.func58 (by kernel_rfl) rfl #[.int .u8 by_, .int .u8 y1] (by rfl) rfl rfl (by (try simp only [List.map_toArray, List.map_cons, List.map_nil]); (rfl)) ?_
          with_reducible refine (r4_Mul.calls 1000 by_ y1 _ _ HM.out).mono ?_
          rintro e w' ⟨rfl, ⟨nd, rfl⟩⟩
          refine ⟨_, rfl, ?_⟩
          refine hK.out _ _ hHeld (fun hHeld => ?_)
          clear hK K
          refine norm_ (a' := ?_) ?_ ?_
          rotate_left
          · show Act.put _ (some 153) _ = _
            simp only [Act.put, sqA, sqB, sqC, i64_w, i32_w]
            rfl
          refine pU 14 154 #[tT,tT,tT,tT,tT,tT,tT,tT,tT,tT,tT,tT,tT,tT,tT,fF] ?_
          refine last_ (i := 15) (N := none) #[tT,tT,tT,tT,tT,tT,tT,tT,tT,tT,tT,tT,tT,tT,tT,tT] rfl rfl (by kernel_rfl) (by decide) (fun K hK => ?_)
          refine skip_ (w1 := ?_) (by rfl) rfl ?_ ?_
          rotate_left
          · go_simp
            rfl
          refine hK.out _ _ ?_
          clear hK K
          refine done_ (by kernel_rfl) ?_
          go_wp2
          have hw1 := wr1 HLT.out (by have := HXR.out; have := HN.out; omega)
          go_roundw
          case rel => exact ⟨i + 1, HLT.out, by rw [hw1], ⟨HP.out.drewN nd⟩⟩
          case measure => exact meas hw1 HLT.out
         ·
          obtain rfl : i = s1.length := by omega
          have HTE := sqM HT.out
          rw [show q0n s1 by_ s1.length = q16 s1 by_ from by exact scaleTo_all _ _] at HTE
          have HT := HTE
          clear HTE hrow hi hlt hir
          go_wp2
          obtain ⟨q0, hq0⟩ : ∃ q0, q0 = (qa.set c (q16 r1 by_), qx.set c (q16 s1 by_)) := ⟨_, rfl⟩
          have SQ := sqM (show Sh n n q0.1 ∧ Sh n nx q0.2 by
           rw [hq0]
           exact ⟨HSA.out.set c (by rw [q1g]; exact HAR.out) (scaleR_in _ _ HAE.out), HSX.out.set c (by rw [q1g]; exact HXR.out) (scaleR_in _ _ HXE.out)⟩)
          have HT2 := sqM (show Two w wr okA okX g0 k0 ha2 q0.1 g1 k1 hx2 q0.2 by rw [hq0]; exact HT.out)
          have HQ0 := sqM hq0
          clear hq0 HT
          go_loopw [19] (fun vi w' => ∃ k : Nat, k ≤ n ∧ vi = .int .i64 (k : Int) ∧ Aside0 (Two w w' okA okX g0 k0 ha2 (elim c k q0).1 g1 k1 hx2 (elim c k q0).2)) (fun vi _ => n - (intOf vi).toNat)
          case atStart => exact ⟨0, Nat.zero_le _, rfl, HT2⟩
          case round =>
           obtain ⟨k, hk, rfl, HT3⟩ := hrel
           by_cases hlt : k < n
           ·
            obtain ⟨hsa, hsx⟩ := elim_sh SQ.out.1 SQ.out.2 HCN.out k hk
            obtain ⟨r1', f1, l1, i1⟩ := hsa.at_ hlt
            obtain ⟨r2', f2, l2, i2⟩ := hsa.at_ HCN.out
            obtain ⟨s1', g1', m1, j1⟩ := hsx.at_ hlt
            obtain ⟨s2', g2', m2, j2⟩ := hsx.at_ HCN.out
            obtain ⟨y1, hy⟩ : ∃ y, r1'[c]? = some y := ⟨_, List.getElem?_eq_getElem (by have := HCN.out; omega)⟩
            have hy8 := i1 y1 (List.mem_of_getElem? hy)
            have hw1 := sqM (wr1 hlt (by have := HN.out; omega))
            have HLT := sqM hlt
            have hq2 : (k : Int) < (n : Int) := by omega
            have hq1 : (0 : Int) ≤ (k : Int) := by omega
            by_cases hkc : k = c
            · subst hkc
              have hst : elim k (k + 1) q0 = elim k k q0 := by
               show q21 k k (elim k k q0) = _
               unfold q21
               rw [if_neg (fun h => h.1 rfl)]
              have HST := sqM hst
              clear hst hsa hsx f1 f2 g1' g2' l1 l2 m1 m2 i1 i2 j1 j2 hy8 hy hlt hk
              go_wp2
              go_roundw
              case rel => exact ⟨k + 1, HLT.out, by rw [hw1.out], ⟨by rw [HST.out]; exact HT3.out⟩⟩
              case measure => exact meas hw1.out HLT.out
            ·
             have hstep : elim c (k + 1) q0 = ((elim c k q0).1.set k (addR r1' r2' y1), (elim c k q0).2.set k (addR s1' s2' y1)) := elim_ref hsa hsx f1 f2 g1' g2' hy hkc
             generalize elim c k q0 = q2 at HT3 f1 f2 g1' g2' hstep hsa hsx
             clear hsa hsx
             have HA3 := sqM (show r4_add.f 1000000000000000 r1' y1 r2' = some (addR r1' r2' y1) from radd_f r2' y1 hy8 i2 (by have := HN.out; omega) r1' i1 (by omega) (by have := HN.out; omega))
             have HA4 := sqM (show r4_add.f 1000000000000000 s1' y1 s2' = some (addR s1' s2' y1) from radd_f s2' y1 hy8 j2 (by have := HN.out; omega) s1' j1 (by omega) (by have := HN.out; omega))
             have HST := sqM hstep
             have HF1 := sqM f1
             have HF2 := sqM f2
             have HG1 := sqM g1'
             have HG2 := sqM g2'
             have hq3 : (c : Int) < (r1'.length : Int) := by have := HCN.out; omega
             have hq4 : (c : Int) < (n : Int) := by have := HCN.out; omega
             obtain ⟨b1, d1, e1, _, ch1, ce1, _, _⟩ := HT3.out.cellA' f1 hy
             have hb1 : ((k : Int) != (c : Int)) = true := bne_iff_ne.mpr (by omega)
             have HKC := sqM hkc
             clear hstep f1 f2 g1' g2' l1 l2 m1 m2 i1 i2 j1 j2 hy8 hy hlt hk hkc
             obtain ⟨A6, c6, e1, _, hh6, _, _⟩ := HT3.out.headA' HF1.out
             obtain ⟨A7, c7, e2, hl7, hh7, _, _⟩ := HT3.out.headA' HF2.out
             go_wp2_with (fail)
             clear ch1 ce1
             refine q1x (n := 10) (S := fun w' => w'.cell? ⟨g0, k, none⟩ = some (.slice A6 r1'.length c6) ∧ w'.cell? ⟨g0, c, none⟩ = some (.slice A7 r2'.length c7)) (ds := [9]) #[fF,fF,fF,fF,fF,fF,fF,fF,fF,fF] (by kernel_rfl) rfl rfl ⟨hh6, hh7⟩ (fun hHeld => ?_)
             refine pU 0 170 #[tT,fF,fF,fF,fF,fF,fF,fF,fF,fF] ?_
             refine pU 1 171 #[tT,tT,fF,fF,fF,fF,fF,fF,fF,fF] ?_
             refine pU 2 172 #[tT,tT,tT,fF,fF,fF,fF,fF,fF,fF] ?_
             refine pU 4 174 #[tT,tT,tT,fF,tT,fF,fF,fF,fF,fF] ?_
             refine pU 5 175 #[tT,tT,tT,fF,tT,tT,fF,fF,fF,fF] ?_
             refine pU 6 176 #[tT,tT,tT,fF,tT,tT,tT,fF,fF,fF] ?_
             refine pU 7 177 #[tT,tT,tT,fF,tT,tT,tT,tT,fF,fF] ?_
             refine tK 3 173 #[tT,tT,tT,tT,tT,tT,tT,tT,fF,fF] hHeld ?_ (hy := by
              intro w' s0
              obtain ⟨s1, s2⟩ := s0
              go_simp
              with_reducible rfl)
             refine tK 8 178 #[tT,tT,tT,tT,tT,tT,tT,tT,tT,fF] hHeld ?_ (hy := by
              intro w' s0
              obtain ⟨s1, s2⟩ := s0
              go_simp
              with_reducible rfl)
             refine last_ (i := 9) (N := some 179) #[tT,tT,tT,tT,tT,tT,tT,tT,tT,tT] rfl rfl (by kernel_rfl) (by decide) (fun K hK => ?_)
             refine goes_ Try.func64 (by kernel_rfl) rfl #[.slice A6 r1'.length c6, .int .u8 y1, .slice A7 r2'.length c7] (by rfl) rfl rfl (by (try simp only [List.map_toArray, List.map_cons, List.map_nil]); (rfl)) ?_
             refine (raddA (HT3.out.drew) HKC.out HF1.out HF2.out e1 e2 hl7 (HA3.out)).mono ?_
             rintro e w2' ⟨rfl, hT2⟩
             refine ⟨_, rfl, ?_⟩
             refine hK.out _ _ ?_
             clear hK K hHeld
             have HT4 := sqM (hT2)
             clear hT2
             refine done_ (by kernel_rfl) ?_
             obtain ⟨A8, c8, e3, _, hh8, _, _⟩ := HT4.out.symm.headA' HG1.out
             obtain ⟨A9, c9, e4, hl9, hh9, _, _⟩ := HT4.out.symm.headA' HG2.out
             clear hh6 hh7
             go_wp2_with (fail)
             refine q1x (n := 10) (S := fun w' => w'.cell? ⟨g1, k, none⟩ = some (.slice A8 s1'.length c8) ∧ w'.cell? ⟨g1, c, none⟩ = some (.slice A9 s2'.length c9)) (ds := [9]) #[fF,fF,fF,fF,fF,fF,fF,fF,fF,fF] (by kernel_rfl) rfl rfl ⟨hh8, hh9⟩ (fun hHeld => ?_)
             refine pU 0 180 #[tT,fF,fF,fF,fF,fF,fF,fF,fF,fF] ?_
             refine pU 1 181 #[tT,tT,fF,fF,fF,fF,fF,fF,fF,fF] ?_
             refine pU 2 182 #[tT,tT,tT,fF,fF,fF,fF,fF,fF,fF] ?_
             refine pU 4 184 #[tT,tT,tT,fF,tT,fF,fF,fF,fF,fF] ?_
             refine pU 5 185 #[tT,tT,tT,fF,tT,tT,fF,fF,fF,fF] ?_
             refine pU 6 186 #[tT,tT,tT,fF,tT,tT,tT,fF,fF,fF] ?_
             refine pU 7 187 #[tT,tT,tT,fF,tT,tT,tT,tT,fF,fF] ?_
             refine tK 3 183 #[tT,tT,tT,tT,tT,tT,tT,tT,fF,fF] hHeld ?_ (hy := by
              intro w' s0
              obtain ⟨s1, s2⟩ := s0
              go_simp
              with_reducible rfl)
             refine tK 8 188 #[tT,tT,tT,tT,tT,tT,tT,tT,tT,fF] hHeld ?_ (hy := by
              intro w' s0
              obtain ⟨s1, s2⟩ := s0
              go_simp
              with_reducible rfl)
             refine last_ (i := 9) (N := some 189) #[tT,tT,tT,tT,tT,tT,tT,tT,tT,tT] rfl rfl (by kernel_rfl) (by decide) (fun K hK => ?_)
             refine goes_ Try.func64 (by kernel_rfl) rfl #[.slice A8 s1'.length c8, .int .u8 y1, .slice A9 s2'.length c9] (by rfl) rfl rfl (by (try simp only [List.map_toArray, List.map_cons, List.map_nil]); (rfl)) ?_
             refine (raddA (HT4.out.symm.drew) HKC.out HG1.out HG2.out e3 e4 hl9 (HA4.out)).mono ?_
             rintro e w2' ⟨rfl, hT2⟩
             refine ⟨_, rfl, ?_⟩
             refine hK.out _ _ ?_
             clear hK K hHeld
             have HT5 := sqM (hT2.symm)
             clear hT2
             refine done_ (by kernel_rfl) ?_
             go_wp2
             go_roundw
             case rel => exact ⟨k + 1, HLT.out, by rw [hw1.out], ⟨by rw [HST.out]; exact HT5.out⟩⟩
             case measure => exact meas hw1.out HLT.out
           · obtain rfl : n = k := by omega
             have hfin : elim c n q0 = q0p n c qa qx := by
              unfold q0p
              rw [rowZ HA1.out, rowZ HX1.out, elZ HY.out, ← HBE.out, HQ0.out]
             have HT6 := sqM (show Two w wr okA okX g0 k0 ha2 (q0p n c qa qx).1 g1 k1 hx2 (q0p n c qa qx).2 by rw [← hfin]; exact HT3.out)
             clear hfin HT3
             go_wp2
             go_roundw
             case rel => exact ⟨c + 1, HCN.out, by rw [hwc.out], _, _, q0p n c qa qx, HT6, ⟨clearsF_sh HSA.out HSX.out HCN.out⟩, HC6⟩
             case measure => exact meas hwc.out HCN.out
    ·
     obtain rfl : r = n := by omega
     have hnone : R = none := by
      have h1 := HF.out
      rw [Nat.sub_self] at h1
      rw [← HCO.out, show r - c = (r - c - 1) + 1 by have := HCN.out; omega]
      exact cols_none h1.symm
     subst hnone
     go_wp2
     go_ret2
     exact ⟨rfl, HT.out.B⟩
  ·
   obtain rfl : c = n := by omega
   have hsome : R = some q.2 := by
    rw [← HCO.out, Nat.sub_self]; rfl
   subst hsome
   have HX := sqM (Mx.to_S (Mx.mono (ok' := fun _ => True) HT.out.X (fun _ _ => trivial)))
   rw [HS.out.2.len] at HX
   have HB := sqM HT.out.B
   go_wp2
   go_ret2
   exact ⟨⟨_, rfl, HX.out⟩, HB.out⟩
def rsolveF (l0 l1 : List (List Int)) : Option (List (List Int) × Int) := if l0.length = 0 ∧ l1.length = 0 then some ([], 0) else solveF l0 l1
set_option maxHeartbeats 800000 in
set_option maxRecDepth 100000 in
theorem rsolve_zero (A0 A1 : Option Addr) (c0 c1 : Nat) (w : World) (hr0 : Kd.C (Kd.slice 5 (Kd.int .u8)) w A0 0 []) (hr1 : Kd.C (Kd.slice 5 (Kd.int .u8)) w A1 0 []) :
    Calls Try.prog 59 #[.slice A0 0 c0, .slice A1 0 c1] w fun e w' => ∃ v0_ : Value, e = .returned (.tuple #[v0_, .int .i64 0]) ∧ Kd.S (Kd.slice 5 (Kd.int .u8)) 41 w' w.heap.size (fun _ => True) v0_ [] ∧ Below w.heap.size w w' := by
 have hfit : r4_fits.f 1000 [] 0 = some true := rfits4_f 1000 [] 0 (by simp) (by simp) (by omega)
 have hali : r4_alike.f 1000 [] = some true := ralike_f 1000 [] 0 (by simp) (by simp) (by omega)
 have HW := sqM hfit
 have HALL := sqM hali
 have HR0 := sqM hr0
 have HR1 := sqM hr1
 clear hfit hali hr0 hr1
 go_enter Try.func59, Try.ntmps59
 go_wp2_with (fail)
 refine (r4_fits.calls 1000 A0 c0 [] 0 true _ (by repeat (exact HR0.out)) (Nat.zero_le _) HW.out).mono ?_
 rintro e w' ⟨rfl, ⟨nd1, rfl⟩⟩
 go_wp2_with (fail)
 refine (r4_alike.calls 1000 A1 c1 [] true _ (by repeat (exact HR1.out)) (Nat.zero_le _) HALL.out).mono ?_
 rintro e w' ⟨rfl, ⟨nd2, rfl⟩⟩
 go_wp2_with (fail)
 refine (rcopied_calls A0 c0 [] _ (by repeat (exact HR0.out)) (Nat.zero_le _) (by simp) (by simp)).mono ?_
 rintro e w1 ⟨v0, rfl, hs0, hb0⟩
 have hB0 : Below w.heap.size w w1 := q04 (by repeat (first | exact Below.refl _ _ | apply q00)) hb0
 have HB0 := sqM hB0
 clear hs0 hb0 hB0
 go_wp2_with (fail)
 refine (rcopied_calls A1 c1 [] _ (Kd.C_below HR1.out HB0.out) (Nat.zero_le _) (by simp) (by simp)).mono ?_
 rintro e w2 ⟨v1, rfl, hs1, hb1⟩
 have hB1 : Below w.heap.size w w2 := q04 HB0.out hb1
 have HB1 := sqM hB1
 have HS1 := sqM (Kd.S_lower hs1 (q01 HB0.out))
 clear hs1 hb1 hB1
 go_wp2
 go_loopw [11] (fun vi w' => vi = .int .i64 0 ∧ Aside0 (w' = w2)) (fun _ _ => 0)
 case atStart => exact ⟨rfl, ⟨rfl⟩⟩
 case round =>
  obtain ⟨rfl, HE⟩ := hrel
  obtain rfl := HE.out
  go_wp2
  go_ret2
  exact ⟨_, rfl, HS1.out, HB1.out⟩
theorem rsolveF_calls (A0 : Option Addr) (c0 : Nat) (l0 : List (List Int)) (A1 : Option Addr) (c1 : Nat) (l1 : List (List Int)) (r1 : List (List Int)) (r2 : Int) (w : World) (hr0 : Kd.C (Kd.slice 5 (Kd.int .u8)) w A0 l0.length l0) (hc0 : l0.length ≤ c0) (hr1 : Kd.C (Kd.slice 5 (Kd.int .u8)) w A1 l1.length l1) (hc1 : l1.length ≤ c1) (h : rsolveF l0 l1 = some (r1, r2)) :
    Calls Try.prog 59 #[.slice A0 l0.length c0, .slice A1 l1.length c1] w fun e w' => ∃ v0_ : Value, e = .returned (.tuple #[v0_, .int .i64 r2]) ∧ Kd.S (Kd.slice 5 (Kd.int .u8)) 41 w' w.heap.size (fun _ => True) v0_ r1 ∧ Below w.heap.size w w' := by
 unfold rsolveF at h
 by_cases h0 : l0.length = 0 ∧ l1.length = 0
 ·
  rw [if_pos h0] at h
  obtain rfl := List.eq_nil_of_length_eq_zero h0.1
  obtain rfl := List.eq_nil_of_length_eq_zero h0.2
  simp only [Option.some.injEq, Prod.mk.injEq] at h
  obtain ⟨rfl, rfl⟩ := h
  exact rsolve_zero A0 A1 c0 c1 w hr0 hr1
 ·
  rw [if_neg h0] at h
  by_cases hf : Fit l0 l1
  ·
   rw [solveF_fit hf] at h
   obtain ⟨n, nx, hn0, hn, hnx, s0, s1⟩ := hf
   have hl := s0.len
   rw [hl] at h
   refine (rsolve_pos n nx l0 l1 A0 A1 c0 c1 w hr0 hc0 hr1 hc1 hn0 hn hnx s0 s1 _ rfl).mono ?_
   intro e w' hp
   generalize cols n n 0 (l0, l1) = R at h hp
   cases R with
   | none =>
    obtain ⟨rfl, hb⟩ := hp
    simp only [Option.some.injEq, Prod.mk.injEq] at h
    obtain ⟨rfl, rfl⟩ := h
    exact ⟨_, rfl, Kd.S_nil _ _ _ _ _, hb⟩
   | some l =>
    obtain ⟨⟨v0, rfl, hs⟩, hb⟩ := hp
    simp only [Option.some.injEq, Prod.mk.injEq] at h
    obtain ⟨rfl, rfl⟩ := h
    exact ⟨v0, rfl, hs, hb⟩
  · unfold solveF at h
    rw [if_neg (fun e => hf (fitB_iff.1 e))] at h
    cases h
end Go.Proofs.Ytdhajlkiiphlfaa.Rv
namespace Go.Proofs.Ytdhajlkiiphlfaa.QP
open Go.RowKit Go.Proofs.YtdhajlkiiphlfaaW.PrintWords Go.Proofs.YtdhajlkiiphlfaaW.PrintLast Go.Proofs.YtdhajlkiiphlfaaW.PrintMore
attribute [local go_sem] q1c q1d q1y q1z q0v q0w q1e q1f
theorem info3 : (Try.prog.info? 3).map (fun i => (i.zero, i.size, i.bytes)) = some (some (.int .i64 0), 1, 8) := by kernel_rfl
theorem info5 : (Try.prog.info? 5).map (fun i => (i.zero, i.size, i.bytes)) = some (some (.int .u8 0), 1, 1) := by kernel_rfl
theorem info41 : (Try.prog.info? 41).map (fun i => (i.zero, i.size, i.bytes)) = some (some (.slice none 0 0), 1, 24) := by kernel_rfl
def rd_L1 (xs : List (List Int)) (i : Int) : (List Int) := xs.getD i.toNat ([] : List Int)
theorem at_L1 {w : World} {A : Option Addr} {n : Nat} {xs : List (List Int)} (h : Kd.C (Kd.slice 5 (Kd.int .u8)) w A n xs) (i : Int) (h0 : 0 ≤ i) (h1 : i < n) : ∃ ad A0 c0, A = some ad ∧ w.cell? (ad.add i.toNat) = some (.slice A0 (rd_L1 xs i).length c0) ∧ (rd_L1 xs i).length ≤ c0 ∧ (Kd.int .u8).C w A0 (rd_L1 xs i).length (rd_L1 xs i) := by
 obtain ⟨ad, c, e, _, hK, hc0⟩ := Kd.C_get h ([] : List Int) i h0 h1
 have hc : ∀ j u, c[j]? = some u → w.cell? (ad.add (i.toNat * 1 + j)) = some u := hc0
 obtain ⟨A0, c0, rfl, l0, g0⟩ := hK
 exact ⟨ad, A0, c0, e, by have hq := hc 0 _ rfl; rwa [Nat.mul_one, Nat.add_zero] at hq, l0, g0⟩
end Go.Proofs.Ytdhajlkiiphlfaa.QP
