/- A part of a proof: see the text's own remark. No conditions beyond its theorems' own. -/
import Derived.Test.YtdleoljbnjjdgaaEndsw04
import Derived.Test.YtdleoljbnjjdgaaCs04
/-! dailieslaw04.same, walked -/
namespace Go.Proofs.Ytdleoljbnjjdgaa.Bok
open Go.RowKit Go.Proofs.Ytdleoljbnjjdgaa.QCFieldCauchys Go.Proofs.YtdleoljbnjjdgaaW.PrintWords Go.Proofs.YtdleoljbnjjdgaaW.PrintLast Go.Proofs.YtdleoljbnjjdgaaW.PrintMore
set_option linter.unusedVariables false
set_option linter.unusedSimpArgs false
def sameB (l0 l1 : List (List Int)) (i : Nat) : Bool := (List.range (l0.length - i)).all fun j => decide ((strOfNums (rd_L1 l0 ((i + j : Nat) : Int))).toList = (strOfNums (rd_L1 l1 ((i + j : Nat) : Int))).toList)
def sameL (l0 l1 : List (List Int)) : Bool := if l0.length = l1.length then sameB l0 l1 0 else false
theorem sameB_end (l0 l1 : List (List Int)) : sameB l0 l1 l0.length = true := by unfold sameB; rw [Nat.sub_self]; rfl
theorem sameB_step (l0 l1 : List (List Int)) {i : Nat} (hi : i < l0.length) : sameB l0 l1 i = (decide ((strOfNums (rd_L1 l0 (i : Int))).toList = (strOfNums (rd_L1 l1 (i : Int))).toList) && sameB l0 l1 (i + 1)) := by
  unfold sameB
  rw [show l0.length - i = (l0.length - (i + 1)) + 1 by omega, List.range_succ_eq_map, List.all_cons, List.all_map]
  congr 1
  apply congrArg (fun f => List.all (List.range (l0.length - (i + 1))) f)
  funext j
  show decide (_ = _) = decide (_ = _)
  rw [show i + (j + 1) = i + 1 + j by omega]
set_option maxHeartbeats 800000 in
set_option maxRecDepth 100000 in
theorem same_calls (A0 : Option Addr) (c0 : Nat) (l0 : List (List Int)) (A1 : Option Addr) (c1 : Nat) (l1 : List (List Int)) (w : World) (hr0 : Kd.C (Kd.slice 5 (Kd.int .u8)) w A0 l0.length l0) (hc0 : l0.length ≤ c0) (hr1 : Kd.C (Kd.slice 5 (Kd.int .u8)) w A1 l1.length l1) (hc1 : l1.length ≤ c1) (hl : l0.length ≤ 140737488355328) :
    Calls Try.prog 23 #[.slice A0 l0.length c0, .slice A1 l1.length c1] w fun e w' => e = .returned (.bool (sameL l0 l1)) ∧ Drawn0 w w' := by
  have HR0 := Aside0.mk hr0
  have HR1 := Aside0.mk hr1
  have HL := Aside0.mk hl
  clear hr0 hr1 hl hc0 hc1
  by_cases hle : l0.length = l1.length
  · have HE := Aside0.mk hle
    have hb0 : ((l0.length : Int) != (l1.length : Int)) = false := bne_eq_false_iff_eq.mpr (by omega)
    have HS : Aside0 (sameL l0 l1 = sameB l0 l1 0) := ⟨by unfold sameL; rw [if_pos hle]⟩
    clear hle
    go_enter Try.func23, Try.ntmps23
    go_wp2
    go_loopw [5] (fun vi wr => ∃ i : Nat, i ≤ l0.length ∧ vi = .int .i64 (i : Int) ∧ Aside0 (sameL l0 l1 = sameB l0 l1 i) ∧ Drawn0 w wr) (fun vi _ => l0.length - (intOf vi).toNat)
    case atStart => exact ⟨0, Nat.zero_le _, rfl, HS, by repeat (first | exact Drawn0.refl _ | apply Drawn0.step)⟩
    case round =>
      clear HS
      obtain ⟨i, hi, rfl, HS, ⟨m1, rfl⟩⟩ := hrel
      by_cases hlt : i < l0.length
      · obtain ⟨ad, B0, d0, e0, hx0, hl0, hi0⟩ := at_L1 HR0.out (i : Int) (by omega) (by omega)
        obtain ⟨ae, B1, d1, e1, hx1, hl1, hi1⟩ := at_L1 HR1.out (i : Int) (by omega) (by have := HE.out; omega)
        cases e0
        cases e1
        rw [Int.toNat_natCast] at hx0 hx1
        have hst := sameB_step l0 l1 hlt
        obtain ⟨r0, hr0⟩ : ∃ r, r = rd_L1 l0 (i : Int) := ⟨_, rfl⟩
        obtain ⟨r1, hr1⟩ : ∃ r, r = rd_L1 l1 (i : Int) := ⟨_, rfl⟩
        rw [← hr0, ← hr1] at hst
        rw [← hr0] at hx0 hi0
        rw [← hr1] at hx1 hi1
        have HI0 := Aside0.mk (show Kd.C (Kd.int .u8) (w.drewN m1).drew B0 r0.length r0 from Kd.C_below hi0 (by repeat (first | (with_reducible first | exact Below.refl _ _ | apply below_alloc | apply pw_below_drewN | apply below_drew1))))
        have HI1 := Aside0.mk (show Kd.C (Kd.int .u8) (w.drewN m1).drew B1 r1.length r1 from Kd.C_below hi1 (by repeat (first | (with_reducible first | exact Below.refl _ _ | apply below_alloc | apply pw_below_drewN | apply below_drew1))))
        have hy0 : (w.drewN m1).drew.cell? (ad.add i) = some (.slice B0 r0.length d0) := hx0
        have hy1 : (w.drewN m1).drew.cell? (ae.add i) = some (.slice B1 r1.length d1) := hx1
        have HST := Aside0.mk hst
        have HLT := Aside0.mk hlt
        have hw1 := Aside0.mk (wr1 hlt HL.out)
        have hq0 : (i : Int) < (l0.length : Int) := by omega
        have hq1 : (i : Int) < (l1.length : Int) := by have := HE.out; omega
        have hq2 : (0 : Int) ≤ (i : Int) := by omega
        clear hst hr0 hr1 hi0 hi1 hl0 hl1 hx0 hx1 hlt hi
        try go_wp2
        refine start_ (n := 11) (S := fun w' => w'.cell? (ad.add i) = some (.slice B0 r0.length d0) ∧ w'.cell? (ae.add i) = some (.slice B1 r1.length d1) ∧ Kd.C (Kd.int .u8) w' B0 r0.length r0 ∧ Kd.C (Kd.int .u8) w' B1 r1.length r1) (ds := []) #[false, false, false, false, false, false, false, false, false, false, false] (by kernel_rfl) rfl rfl ⟨hy0, hy1, HI0.out, HI1.out⟩ (fun hHeld => ?_)
        refine pure_ (i := 0) (N := some 17) (v := ?_) (a' := ?_) #[true, false, false, false, false, false, false, false, false, false, false] rfl rfl (by kernel_rfl) (fun _ _ _ h => h) (Or.inl ⟨by rfl, ?_⟩) ?_ ?_
        rotate_left
        · intro w'
          go_simp
          with_reducible rfl
        rotate_left
        · simp only [Act.put, List.setIfInBounds_toArray, List.set_cons_zero, List.set_cons_succ, i64_w, i32_w]
          rfl
        refine pure_ (i := 1) (N := some 18) (v := ?_) (a' := ?_) #[true, true, false, false, false, false, false, false, false, false, false] rfl rfl (by kernel_rfl) (fun _ _ _ h => h) (Or.inl ⟨by rfl, ?_⟩) ?_ ?_
        rotate_left
        · intro w'
          go_simp
          with_reducible rfl
        rotate_left
        · simp only [Act.put, List.setIfInBounds_toArray, List.set_cons_zero, List.set_cons_succ, i64_w, i32_w]
          rfl
        refine pure_ (i := 2) (N := some 19) (v := ?_) (a' := ?_) #[true, true, true, false, false, false, false, false, false, false, false] rfl rfl (by kernel_rfl) (fun _ _ _ h => h) (Or.inl ⟨by rfl, ?_⟩) ?_ ?_
        rotate_left
        · intro w'
          go_simp
          with_reducible rfl
        rotate_left
        · simp only [Act.put, List.setIfInBounds_toArray, List.set_cons_zero, List.set_cons_succ, i64_w, i32_w]
          rfl
        refine take_ (i := 3) (N := some 20) (v := ?_) (a' := ?_) #[true, true, true, true, false, false, false, false, false, false, false] rfl rfl (by kernel_rfl) (fun _ _ _ h => h) (Or.inl ⟨by rfl, ?_⟩) hHeld ?_ ?_
        rotate_left
        · intro w' s0
          obtain ⟨s1, s2, s3, s4⟩ := s0
          go_simp
          with_reducible rfl
        rotate_left
        · simp only [Act.put, List.setIfInBounds_toArray, List.set_cons_zero, List.set_cons_succ, i64_w, i32_w]
          rfl
        refine pure_ (i := 5) (N := some 22) (v := ?_) (a' := ?_) #[true, true, true, true, false, true, false, false, false, false, false] rfl rfl (by kernel_rfl) (fun _ _ _ h => h) (Or.inl ⟨by rfl, ?_⟩) ?_ ?_
        rotate_left
        · intro w'
          go_simp
          with_reducible rfl
        rotate_left
        · simp only [Act.put, List.setIfInBounds_toArray, List.set_cons_zero, List.set_cons_succ, i64_w, i32_w]
          rfl
        refine pure_ (i := 6) (N := some 23) (v := ?_) (a' := ?_) #[true, true, true, true, false, true, true, false, false, false, false] rfl rfl (by kernel_rfl) (fun _ _ _ h => h) (Or.inl ⟨by rfl, ?_⟩) ?_ ?_
        rotate_left
        · intro w'
          go_simp
          with_reducible rfl
        rotate_left
        · simp only [Act.put, List.setIfInBounds_toArray, List.set_cons_zero, List.set_cons_succ, i64_w, i32_w]
          rfl
        refine pure_ (i := 7) (N := some 24) (v := ?_) (a' := ?_) #[true, true, true, true, false, true, true, true, false, false, false] rfl rfl (by kernel_rfl) (fun _ _ _ h => h) (Or.inl ⟨by rfl, ?_⟩) ?_ ?_
        rotate_left
        · intro w'
          go_simp
          with_reducible rfl
        rotate_left
        · simp only [Act.put, List.setIfInBounds_toArray, List.set_cons_zero, List.set_cons_succ, i64_w, i32_w]
          rfl
        refine take_ (i := 8) (N := some 25) (v := ?_) (a' := ?_) #[true, true, true, true, false, true, true, true, true, false, false] rfl rfl (by kernel_rfl) (fun _ _ _ h => h) (Or.inl ⟨by rfl, ?_⟩) hHeld ?_ ?_
        rotate_left
        · intro w' s0
          obtain ⟨s1, s2, s3, s4⟩ := s0
          go_simp
          with_reducible rfl
        rotate_left
        · simp only [Act.put, List.setIfInBounds_toArray, List.set_cons_zero, List.set_cons_succ, i64_w, i32_w]
          rfl
        refine take_ (i := 4) (N := some 21) (v := ?_) (a' := ?_) #[true, true, true, true, true, true, true, true, true, false, false] rfl rfl (by kernel_rfl) (fun _ _ _ h => h) (Or.inl ⟨by rfl, ?_⟩) hHeld ?_ ?_
        rotate_left
        · intro w' s0
          obtain ⟨s1, s2, s3, s4⟩ := s0
          have hcv := Kd.C_string (P := Try.prog) (A := B0) (c := d0) Try.underlying29 Try.underlying5 Try.underlying9 s3
          go_simp
          with_reducible rfl
        rotate_left
        · simp only [Act.put, List.setIfInBounds_toArray, List.set_cons_zero, List.set_cons_succ, i64_w, i32_w]
          rfl
        refine take_ (i := 9) (N := some 26) (v := ?_) (a' := ?_) #[true, true, true, true, true, true, true, true, true, true, false] rfl rfl (by kernel_rfl) (fun _ _ _ h => h) (Or.inl ⟨by rfl, ?_⟩) hHeld ?_ ?_
        rotate_left
        · intro w' s0
          obtain ⟨s1, s2, s3, s4⟩ := s0
          have hcv := Kd.C_string (P := Try.prog) (A := B1) (c := d1) Try.underlying29 Try.underlying5 Try.underlying9 s4
          go_simp
          with_reducible rfl
        rotate_left
        · simp only [Act.put, List.setIfInBounds_toArray, List.set_cons_zero, List.set_cons_succ, i64_w, i32_w]
          rfl
        refine pure_ (i := 10) (N := some 27) (v := ?_) (a' := ?_) #[true, true, true, true, true, true, true, true, true, true, true] rfl rfl (by kernel_rfl) (fun _ _ _ h => h) (Or.inl ⟨by rfl, ?_⟩) ?_ ?_
        rotate_left
        · intro w'
          go_simp
          with_reducible rfl
        rotate_left
        · simp only [Act.put, List.setIfInBounds_toArray, List.set_cons_zero, List.set_cons_succ, i64_w, i32_w]
          rfl
        refine done_ (by kernel_rfl) ?_
        by_cases he : (strOfNums r0).toList = (strOfNums r1).toList
        · have hbe : ((strOfNums r0).toList == (strOfNums r1).toList) = true := beq_iff_eq.mpr he
          have HS2 : Aside0 (sameL l0 l1 = sameB l0 l1 (i + 1)) := ⟨by rw [HS.out, HST.out, decide_eq_true he, Bool.true_and]⟩
          rw [hbe]
          clear he HS HST
          go_wp2
          go_roundw
          case rel => exact ⟨i + 1, HLT.out, by rw [hw1.out], HS2, by repeat (first | exact Drawn0.refl _ | apply Drawn0.step)⟩
          case measure => exact meas hw1.out HLT.out
        · have hbe : ((strOfNums r0).toList == (strOfNums r1).toList) = false := beq_eq_false_iff_ne.mpr he
          have HS2 : Aside0 (sameL l0 l1 = false) := ⟨by rw [HS.out, HST.out, decide_eq_false he, Bool.false_and]⟩
          rw [hbe]
          clear he HS HST
          go_wp2
          go_ret
          exact ⟨by rw [HS2.out]; rfl, by repeat (first | exact Drawn0.refl _ | apply Drawn0.step)⟩
      · obtain rfl : i = l0.length := by omega
        rw [sameB_end] at HS
        go_wp2
        go_ret
        exact ⟨by rw [HS.out]; rfl, by repeat (first | exact Drawn0.refl _ | apply Drawn0.step)⟩
  · have hb0 : ((l0.length : Int) != (l1.length : Int)) = true := bne_iff_ne.mpr (by omega)
    have HS : Aside0 (sameL l0 l1 = false) := ⟨by unfold sameL; rw [if_neg hle]⟩
    clear hle
    go_enter Try.func23, Try.ntmps23
    go_wp2
    go_ret
    exact ⟨by rw [HS.out]; rfl, by repeat (first | exact Drawn0.refl _ | apply Drawn0.step)⟩
end Go.Proofs.Ytdleoljbnjjdgaa.Bok
