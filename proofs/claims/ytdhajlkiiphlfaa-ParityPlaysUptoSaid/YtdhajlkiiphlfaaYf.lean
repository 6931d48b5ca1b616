/- A part of the proof of ParityPlays: see the text's theorems. No conditions beyond their own. -/
import Derived.Test.YtdhajlkiiphlfaaYe
import Derived.ArgAppend
import Derived.Test.YtdhajlkiiphlfaaYd
import Derived.Laws.BytesArg
import Derived.Test.YtdhajlkiiphlfaaYc
import Derived.SizedLaws
import Derived.ChangeSlices
set_option linter.unusedVariables false
set_option linter.unusedSimpArgs false
namespace Go.Proofs.Ytdhajlkiiphlfaa.Solve
open Go.RowKit Go.Proofs.Ytdhajlkiiphlfaa.QB Go.Proofs.YtdhajlkiiphlfaaW.PrintWords Go.Proofs.YtdhajlkiiphlfaaW.PrintLast Go.Proofs.YtdhajlkiiphlfaaW.PrintMore
def sameB (l0 l1 : List (List Int)) (i : Nat) : Bool := (List.range (l0.length - i)).all fun j => decide ((strOfNums (rd_L2 l0 ((i + j : Nat) : Int))).toList = (strOfNums (rd_L2 l1 ((i + j : Nat) : Int))).toList)
def sameL (l0 l1 : List (List Int)) : Bool := if l0.length = l1.length then sameB l0 l1 0 else false
theorem sameB_end (l0 l1 : List (List Int)) : sameB l0 l1 l0.length = true := by unfold sameB; rw [Nat.sub_self]; rfl
theorem sameB_step (l0 l1 : List (List Int)) {i : Nat} (hi : i < l0.length) : sameB l0 l1 i = (decide ((strOfNums (rd_L2 l0 (i : Int))).toList = (strOfNums (rd_L2 l1 (i : Int))).toList) && sameB l0 l1 (i + 1)) := by
 unfold sameB
 rw [show l0.length - i = (l0.length - (i + 1)) + 1 by omega, List.range_succ_eq_map, List.all_cons, List.all_map]
 congr 1
 apply congrArg (fun f => List.all (List.range (l0.length - (i + 1))) f)
 funext j
 show decide (_ = _) = decide (_ = _)
 rw [show i + (j + 1) = i + 1 + j by omega]
set_option maxHeartbeats 800000 in
set_option maxRecDepth 100000 in
theorem same_calls (A0 : Option Addr) (c0 : Nat) (l0 : List (List Int)) (A1 : Option Addr) (c1 : Nat) (l1 : List (List Int)) (w : World) (hr0 : Kd.C (Kd.slice 5 (Kd.int .u8)) w A0 l0.length l0) (hc0 : l0.length ≤ c0) (hr1 : Kd.C (Kd.slice 5 (Kd.int .u8)) w A1 l1.length l1) (hc1 : l1.length ≤ c1) (hl : l0.length ≤ 140737488355328) :
    Calls Try.prog 24 #[.slice A0 l0.length c0, .slice A1 l1.length c1] w fun e w' => e = .returned (.bool (sameL l0 l1)) ∧ Drawn0 w w' := by
 have HR0 := sqM hr0
 have HR1 := sqM hr1
 have HL := sqM hl
 clear hr0 hr1 hl hc0 hc1
 by_cases hle : l0.length = l1.length
 ·
  have HE := sqM hle
  have hb0 : ((l0.length : Int) != (l1.length : Int)) = false := bne_eq_false_iff_eq.mpr (by omega)
  have HS : Aside0 (sameL l0 l1 = sameB l0 l1 0) := ⟨by unfold sameL; rw [if_pos hle]⟩
  clear hle
  go_enter Try.func24, Try.ntmps24
  go_wp2
  go_loopw [5] (fun vi wr => ∃ i : Nat, i ≤ l0.length ∧ vi = .int .i64 (i : Int) ∧ Aside0 (sameL l0 l1 = sameB l0 l1 i) ∧ Drawn0 w wr) (fun vi _ => l0.length - (intOf vi).toNat)
  case atStart => exact ⟨0, Nat.zero_le _, rfl, HS, by repeat (exact Drawn0.refl _)⟩
  case round =>
   clear HS
   obtain ⟨i, hi, rfl, HS, ⟨m1, rfl⟩⟩ := hrel
   by_cases hlt : i < l0.length
   ·
    obtain ⟨ad, B0, d0, e0, hx0, hl0, hi0⟩ := at_L2 HR0.out (i : Int) (by omega) (by omega)
    obtain ⟨ae, B1, d1, e1, hx1, hl1, hi1⟩ := at_L2 HR1.out (i : Int) (by omega) (by have := HE.out; omega)
    cases e0
    cases e1
    rw [Int.toNat_natCast] at hx0 hx1
    have hst := sameB_step l0 l1 hlt
    obtain ⟨r0, hr0⟩ : ∃ r, r = rd_L2 l0 (i : Int) := ⟨_, rfl⟩
    obtain ⟨r1, hr1⟩ : ∃ r, r = rd_L2 l1 (i : Int) := ⟨_, rfl⟩
    rw [← hr0, ← hr1] at hst
    rw [← hr0] at hx0 hi0
    rw [← hr1] at hx1 hi1
    have HI0 := sqM (show Kd.C (Kd.int .u8) (w.drewN m1).drew B0 r0.length r0 from Kd.C_below hi0 (by repeat (first | (with_reducible first | exact Below.refl _ _ | apply q00 | apply q06))))
    have HI1 := sqM (show Kd.C (Kd.int .u8) (w.drewN m1).drew B1 r1.length r1 from Kd.C_below hi1 (by repeat (first | (with_reducible first | exact Below.refl _ _ | apply q00 | apply q06))))
    have hy0 : (w.drewN m1).drew.cell? (ad.add i) = some (.slice B0 r0.length d0) := hx0
    have hy1 : (w.drewN m1).drew.cell? (ae.add i) = some (.slice B1 r1.length d1) := hx1
    have HST := sqM hst
    have HLT := sqM hlt
    have hw1 := sqM (wr1 hlt HL.out)
    have hq0 : (i : Int) < (l0.length : Int) := by omega
    have hq1 : (i : Int) < (l1.length : Int) := by have := HE.out; omega
    have hq2 : (0 : Int) ≤ (i : Int) := by omega
    clear hst hr0 hr1 hi0 hi1 hl0 hl1 hx0 hx1 hlt hi
    try go_wp2
    refine q1x (n := 11) (S := fun w' => w'.cell? (ad.add i) = some (.slice B0 r0.length d0) ∧ w'.cell? (ae.add i) = some (.slice B1 r1.length d1) ∧ Kd.C (Kd.int .u8) w' B0 r0.length r0 ∧ Kd.C (Kd.int .u8) w' B1 r1.length r1) (ds := []) #[fF,fF,fF,fF,fF,fF,fF,fF,fF,fF,fF] (by kernel_rfl) rfl rfl ⟨hy0, hy1, HI0.out, HI1.out⟩ (fun hHeld => ?_)
    refine pU 0 17 #[tT,fF,fF,fF,fF,fF,fF,fF,fF,fF,fF] ?_
    refine pU 1 18 #[tT,tT,fF,fF,fF,fF,fF,fF,fF,fF,fF] ?_
    refine pU 2 19 #[tT,tT,tT,fF,fF,fF,fF,fF,fF,fF,fF] ?_
    refine tK 3 20 #[tT,tT,tT,tT,fF,fF,fF,fF,fF,fF,fF] hHeld ?_ (hy := by
     intro w' s0
     obtain ⟨s1, s2, s3, s4⟩ := s0
     go_simp
     with_reducible rfl)
    refine pU 5 22 #[tT,tT,tT,tT,fF,tT,fF,fF,fF,fF,fF] ?_
    refine pU 6 23 #[tT,tT,tT,tT,fF,tT,tT,fF,fF,fF,fF] ?_
    refine pU 7 24 #[tT,tT,tT,tT,fF,tT,tT,tT,fF,fF,fF] ?_
    refine tK 8 25 #[tT,tT,tT,tT,fF,tT,tT,tT,tT,fF,fF] hHeld ?_ (hy := by
     intro w' s0
     obtain ⟨s1, s2, s3, s4⟩ := s0
     go_simp
     with_reducible rfl)
    refine tK 4 21 #[tT,tT,tT,tT,tT,tT,tT,tT,tT,fF,fF] hHeld ?_ (hy := by
     intro w' s0
     obtain ⟨s1, s2, s3, s4⟩ := s0
     have hcv := Kd.C_string (P := Try.prog) (A := B0) (c := d0) Try.underlying41 Try.underlying5 Try.underlying9 s3
     go_simp
     with_reducible rfl)
    refine tK 9 26 #[tT,tT,tT,tT,tT,tT,tT,tT,tT,tT,fF] hHeld ?_ (hy := by
     intro w' s0
     obtain ⟨s1, s2, s3, s4⟩ := s0
     have hcv := Kd.C_string (P := Try.prog) (A := B1) (c := d1) Try.underlying41 Try.underlying5 Try.underlying9 s4
     go_simp
     with_reducible rfl)
    refine pU 10 27 #[tT,tT,tT,tT,tT,tT,tT,tT,tT,tT,tT] ?_
    refine done_ (by kernel_rfl) ?_
    by_cases he : (strOfNums r0).toList = (strOfNums r1).toList
    · have hbe : ((strOfNums r0).toList == (strOfNums r1).toList) = true := beq_iff_eq.mpr he
      have HS2 : Aside0 (sameL l0 l1 = sameB l0 l1 (i + 1)) := ⟨by rw [HS.out, HST.out, decide_eq_true he, Bool.true_and]⟩
      rw [hbe]
      clear he HS HST
      go_wp2
      go_roundw
      case rel => exact ⟨i + 1, HLT.out, by rw [hw1.out], HS2, by repeat (first | exact Drawn0.refl _ | apply Drawn0.step)⟩
      case measure => exact meas hw1.out HLT.out
    · have hbe : ((strOfNums r0).toList == (strOfNums r1).toList) = false := beq_eq_false_iff_ne.mpr he
      have HS2 : Aside0 (sameL l0 l1 = false) := ⟨by rw [HS.out, HST.out, decide_eq_false he, Bool.false_and]⟩
      rw [hbe]
      clear he HS HST
      go_wp2
      go_ret
      exact ⟨by rw [HS2.out]; rfl, by repeat (first | exact Drawn0.refl _ | apply Drawn0.step)⟩
   · obtain rfl : i = l0.length := by omega
     rw [sameB_end] at HS
     go_wp2
     go_ret
     exact ⟨by rw [HS.out]; rfl, by repeat (first | exact Drawn0.refl _ | apply Drawn0.step)⟩
 ·
  have hb0 : ((l0.length : Int) != (l1.length : Int)) = true := bne_iff_ne.mpr (by omega)
  have HS : Aside0 (sameL l0 l1 = false) := ⟨by unfold sameL; rw [if_neg hle]⟩
  clear hle
  go_enter Try.func24, Try.ntmps24
  go_wp2
  go_ret
  exact ⟨by rw [HS.out]; rfl, by repeat (exact Drawn0.refl _)⟩
end Go.Proofs.Ytdhajlkiiphlfaa.Solve
namespace Go.Proofs.Ytdhajlkiiphlfaa.Par
open Go.RowKit Go.Proofs.Ytdhajlkiiphlfaa.QB Go.Proofs.YtdhajlkiiphlfaaW.PrintWords Go.Proofs.YtdhajlkiiphlfaaW.PrintLast Go.Proofs.YtdhajlkiiphlfaaW.PrintMore Go.Proofs.Ytdhajlkiiphlfaa.Solve
def reps (n : Nat) (m : Int) : List Value := nums .u8 (List.replicate n m)
theorem reps_len (n : Nat) (m : Int) : (reps n m).length = n := by unfold reps nums; simp
theorem reps_snoc (n : Nat) (m : Int) : List.replicate n m ++ [m] = List.replicate (n + 1) m := (List.replicate_succ' (n := n) (a := m)).symm
theorem reps_app (n k : Nat) (m : Int) : reps n m ++ reps k m = reps (n + k) m := by
 unfold reps nums
 rw [← List.map_append, List.replicate_append_replicate]
theorem cells_C {w : World} {A : Option Addr} {n : Nat} {m : Int} (hC : Kd.C (Kd.int .u8) w A n (List.replicate n m)) : (A = none → n = 0 ∧ n = 0) ∧ ∀ b, A = some b → ∀ j u, (reps n m)[j]? = some u → w.cell? (b.add j) = some u := by
 refine ⟨fun e => ?_, fun b e j u hu => ?_⟩
 · by_cases h : n = 0
   · exact ⟨h, h⟩
   · obtain ⟨ad, ha, _⟩ := Kd.at_int hC 0 (by omega) (by omega)
     rw [e] at ha; cases ha
 ·
  have hj : j < n := by have := (List.getElem?_eq_some_iff.1 hu).1; rw [reps_len] at this; exact this
  obtain ⟨ad, ha, hc⟩ := Kd.at_int hC (j : Int) (by omega) (by omega)
  rw [e] at ha; injection ha with ha; subst ha
  rw [Int.toNat_natCast] at hc
  rw [hc]
  have : u = .int .u8 m := by
   unfold reps nums at hu
   rw [List.getElem?_map, List.getElem?_replicate, if_pos hj] at hu
   exact (Option.some.inj hu).symm
  rw [this, rd_nat, List.getD_eq_getElem?_getD, List.getElem?_replicate, if_pos hj]; rfl
def Gro (w wr : World) (A : Option Addr) (n i : Nat) (m : Int) (v : Value) : Prop := (i = 0 ∧ v = .slice A n n) ∨ (0 < i ∧ wr.ownsRow w.heap.size 5 1 v (List.replicate (n + i) m).length (nums .u8 (List.replicate (n + i) m)))
def fillM (i : Nat) (m : Int) : List Int := List.replicate i m ++ List.replicate (70 - i) 0
theorem fillM_set (i : Nat) (m : Int) (h : i < 70) : (fillM i m).set i m = fillM (i + 1) m := by
 unfold fillM
 rw [List.set_append_right _ _ (by simp), List.length_replicate, Nat.sub_self, show 70 - i = (70 - (i + 1)) + 1 by omega, List.replicate_succ, List.set_cons_zero, ← reps_snoc, List.append_assoc]; rfl
structure Gm (w wr : World) (n : Nat) (m : Int) (v : Value) (gm i : Nat) : Prop where
 below : Below w.heap.size w wr
 one : wr.ownsRow w.heap.size 5 1 v (List.replicate (n + 20) m).length (nums .u8 (List.replicate (n + 20) m))
 more : wr.ownsRow w.heap.size 5 1 (.slice (some ⟨gm, 0, none⟩) 70 70) 70 (nums .u8 (fillM i m))
 ne : v.ownBlock ≠ some gm
theorem Gm.set {w wr : World} {n : Nat} {m : Int} {v : Value} {gm i : Nat} (h : Gm w wr n m v gm i) (hi : i < 70) : Gm w (wr.setCell ⟨gm, i, none⟩ (.int .u8 m)) n m v gm (i + 1) := by
 have h1 := (own_store h.more (i : Int) m).1
 rw [Int.toNat_natCast, fillM_set i m hi] at h1
 exact ⟨h.below.setCell (q0k h.more gm rfl) _, q1h h.one (p := ⟨gm, i, none⟩) (fun e => h.ne e.symm) _, h1, h.ne⟩
set_option maxHeartbeats 800000 in
set_option maxRecDepth 100000 in
theorem grown_calls (w : World) (A : Option Addr) (n : Nat) (m : Int) (hC : Kd.C (Kd.int .u8) w A n (List.replicate n m)) (hn : n ≤ 100000000000) :
    Calls Try.prog 26 #[.slice A n n, .int .u8 m] w fun e w' => ∃ x y : Value, e = .returned (.tuple #[x, y]) ∧ w'.ownsRow w.heap.size 5 1 x (List.replicate (n + 20) m).length (nums .u8 (List.replicate (n + 20) m)) ∧ w'.ownsRow w.heap.size 5 1 y (List.replicate (n + 70) m).length (nums .u8 (List.replicate (n + 70) m)) ∧ Below w.heap.size w w' := by
 obtain ⟨i5, hi5, hz5⟩ := Option.map_eq_some_iff.1 Solve.info5
 simp only [Prod.mk.injEq] at hz5
 obtain ⟨hz0, hz1, hz2⟩ := hz5
 have HI := sqM (show Try.prog.info? 5 = some i5 ∧ i5.zero = some (.int .u8 0) ∧ i5.size = 1 ∧ i5.bytes = 1 from ⟨hi5, hz0, hz1, hz2⟩)
 have HC := sqM hC
 have HN := sqM hn
 have hm70 := print_make (P := Try.prog) 41 5 .u8 1 Try.underlying41 Solve.info5 (by decide) 70 (by decide)
 have HM70 := sqM hm70
 clear hi5 hz0 hz1 hz2 hC hn hm70
 go_enter Try.func26, Try.ntmps26
 go_wp2
 go_loopw [6, 7] (fun v6 v7 wr => ∃ i : Nat, i ≤ 20 ∧ v7 = .int .i64 (i : Int) ∧ Aside0 (Below w.heap.size w wr) ∧ Aside0 (Gro w wr A n i m v6)) (fun _ v7 _ => 20 - (intOf v7).toNat)
 case atStart => exact ⟨0, Nat.zero_le _, rfl, ⟨Below.refl _ _⟩, ⟨.inl ⟨rfl, rfl⟩⟩⟩
 case round =>
  obtain ⟨i, hi, rfl, HB, HG⟩ := hrel
  by_cases hlt : i < 20
  ·
   have HLT := sqM hlt
   have hd1 : decide ((i : Int) < 20) = true := decide_eq_true (by omega)
   have hw1 : wrap64 ((i : Int) + 1) = ((i + 1 : Nat) : Int) := by unfold wrap64; omega
   have HW1 := sqM hw1
   clear hw1 hlt hi
   by_cases h0 : i = 0
   ·
    have hv : u6 = .slice A n n := by
     rcases HG.out with ⟨_, e⟩ | ⟨e, _⟩
     · exact e
     · omega
    subst hv
    subst h0
    clear HG
    go_wp2_with (first
     | ((with_reducible refine q05 (b := .append) (xs := #[.tmp 15, .tmp 17]) rfl ?_); at_builtin; refine wpList_append_grows _ rfl (.tmp 15) (.tmp 17) 41 rfl 5 i5 (.int .u8 0) 1 1 Try.underlying41 HI.out.1 HI.out.2.1 HI.out.2.2.1 HI.out.2.2.2 rfl (by decide) A n n (reps n m) rfl ?q5 (by rw [reps_len, Nat.mul_one]) ?q6 ⟨wr.heap.size, 0, none⟩ 1 1 [.int .u8 m] rfl rfl ?q1 ?q2 (by omega) ?q3 ?q4 ?_; (case q5 => exact (cells_C HC.out).1); (case q6 => exact (cells_C (Kd.C_below HC.out (q03 HB.out HB.out.size (q02 (Below.refl _ _) _)))).2); (case q1 => intro j u hj; have hjl := (List.getElem?_eq_some_iff.1 hj).1; obtain rfl : j = 0 := (by simp at hjl; omega); obtain rfl := Option.some.inj hj; exact (q0h (heap_alloc_new _ _) 0)); (case q2 => intro u hu; rw [List.mem_singleton.1 hu]; rfl); (case q3 => have := HN.out; unfold maxLen; omega); (case q4 => have := HN.out; omega); intro v1 w1 ho1 hg1; have HO1 := sqM ho1; have HG1 := sqM hg1; clear ho1 hg1))
    have hsz : wr.heap.size ≤ (wr.alloc (.cells #[.int .u8 m] 5)).heap.size := by rw [World.size_alloc]; omega
    have hbw : Below wr.heap.size wr w1 := q03 (q02 (Below.refl _ _) (.cells #[.int .u8 m] 5)) hsz (pw_below_grown (Below.refl _ _) none (Nat.le_refl _) HG1.out (fun k e => by cases e))
    have HB1 := sqM (q03 HB.out HB.out.size hbw)
    have HO2 := sqM (own_weak HO1.out (Nat.le_trans HB.out.size hsz))
    clear hsz hbw
    go_roundw
    case rel => exact ⟨0 + 1, by omega, rfl, HB1, ⟨.inr ⟨by omega, by
     have := HO2.out
     rw [List.length_replicate]
     rw [show reps n m ++ [Value.int .u8 m] = nums .u8 (List.replicate (n + (0 + 1)) m) from by unfold reps nums; rw [Nat.zero_add, ← reps_snoc, List.map_append]; rfl] at this
     exact this⟩⟩⟩
    case measure => exact meas (i := 0) rfl HLT.out
   ·
    have ho : wr.ownsRow w.heap.size 5 1 u6 (List.replicate (n + i) m).length (nums .u8 (List.replicate (n + i) m)) := by
     rcases HG.out with ⟨e, _⟩ | ⟨_, e⟩
     · exact absurd e h0
     · exact e
    have HO := sqM ho
    clear ho h0 HG
    go_wp2_with (first
     | ((with_reducible refine q05 (b := .append) (xs := #[.tmp 15, .tmp 17]) rfl ?_); at_builtin; refine q0o (w0 := w) w.heap.size rfl (.tmp 15) (.tmp 17) 41 5 .u8 1 rfl Try.underlying41 Solve.info5 (by decide) u6 (List.replicate (n + i) m) m rfl rfl HO.out HB.out HB.out.size ?q1 ?_; (case q1 => have := HN.out; have := HLT.out; rw [List.length_replicate]; omega); intro v1 w1 ho1 hb1 _ _; have HO1 := sqM ho1; have HB1 := sqM hb1; clear ho1 hb1))
    go_roundw
    case rel => exact ⟨i + 1, HLT.out, by rw [HW1.out], HB1, ⟨.inr ⟨by omega, by
     have := HO1.out
     rw [reps_snoc] at this
     exact this⟩⟩⟩
    case measure => exact meas HW1.out HLT.out
  ·
   obtain rfl : i = 20 := by omega
   have ho : wr.ownsRow w.heap.size 5 1 u6 (List.replicate (n + 20) m).length (nums .u8 (List.replicate (n + 20) m)) := by
    rcases HG.out with ⟨e, _⟩ | ⟨_, e⟩
    · omega
    · exact e
   have HO := sqM ho
   have hk : ∀ W : World, (Instr.makeSlice 41 (.int .i64 70) (.int .i64 70)).run Try.prog W = .ok (.slice (some ⟨W.heap.size, 0, none⟩) 70 70) (W.alloc (.cells (madeCells #[.int .u8 0] 70) 5)) := HM70.out
   have hbase := HB.out.size
   have HBASE := sqM hbase
   clear ho hi HG hbase
   go_wp2
   have HM : Aside0 (Gm w (wr.alloc (.cells (madeCells #[.int .u8 0] 70) 5)) n m u6 wr.heap.size 0) := ⟨⟨q03 HB.out HB.out.size (q02 (Below.refl _ _) _), q07 HO.out (q02 (Below.refl _ _) _), own_made wr w.heap.size 5 .u8 70 HBASE.out (by decide), fun e => by have := q0u HO.out _ e; omega⟩⟩
   clear HO
   obtain ⟨gm, hgm⟩ : ∃ gm, gm = wr.heap.size := ⟨_, rfl⟩
   rw [← hgm] at HM ⊢
   clear hgm hk
   generalize (wr.alloc (.cells (madeCells #[.int .u8 0] 70) 5)) = w2 at HM ⊢
   go_loopw [9] (fun v9 w' => ∃ i : Nat, i ≤ 70 ∧ v9 = .int .i64 (i : Int) ∧ Aside0 (Gm w w' n m u6 gm i)) (fun v9 _ => 70 - (intOf v9).toNat)
   case atStart => exact ⟨0, Nat.zero_le _, rfl, HM⟩
   case round =>
    clear HM
    obtain ⟨i, hi, rfl, HM⟩ := hrel
    by_cases hlt : i < 70
    ·
     have HLT := sqM hlt
     have hd1 : decide ((i : Int) < 70) = true := decide_eq_true (by omega)
     have hw1 : wrap64 ((i : Int) + 1) = ((i + 1 : Nat) : Int) := by unfold wrap64; omega
     have HW1 := sqM hw1
     obtain ⟨hc, hf⟩ := own_at HM.out.more (i : Int) (by omega) (by omega)
     rw [Int.toNat_natCast] at hc hf
     have h0 : (0 : Int) ≤ (i : Int) := by omega
     have h1 : (i : Int) < 70 := by omega
     clear hw1 hlt hi
     go_wp2
     go_roundw
     case rel => exact ⟨i + 1, HLT.out, by rfl, ⟨HM.out.set HLT.out⟩⟩
     case measure => exact meas (by rfl) HLT.out
    ·
     obtain rfl : i = 70 := by omega
     have hmore : wr.ownsRow w.heap.size 5 1 (.slice (some ⟨gm, 0, none⟩) 70 70) 70 (reps 70 m) := by
      have := HM.out.more
      rw [show fillM 70 m = List.replicate 70 m from by simp [fillM]] at this
      exact this
     have HMO := sqM hmore
     clear hmore hi
     go_wp2_with (first
      | ((with_reducible refine q05 (b := .append) (xs := #[.tmp 29, .tmp 30]) rfl ?_); at_builtin; refine wpList_append_grows _ rfl (.tmp 29) (.tmp 30) 41 rfl 5 i5 (.int .u8 0) 1 1 Try.underlying41 HI.out.1 HI.out.2.1 HI.out.2.2.1 HI.out.2.2.2 rfl (by decide) A n n (reps n m) rfl ?q5 (by rw [reps_len, Nat.mul_one]) ?q6 ⟨gm, 0, none⟩ 70 70 (reps 70 m) rfl (by rw [reps_len]) ?q1 ?q2 (by omega) ?q3 ?q4 ?_; (case q5 => exact (cells_C HC.out).1); (case q6 => exact (cells_C (Kd.C_below HC.out HM.out.below)).2); (case q1 => intro j u hj; exact HMO.out.cells rfl j u hj); (case q2 => intro u hu; unfold reps nums at hu; obtain ⟨_, _, rfl⟩ := List.mem_map.1 hu; rfl); (case q3 => have := HN.out; unfold maxLen; omega); (case q4 => have := HN.out; omega); intro v1 w1 ho1 hg1; have HO1 := sqM ho1; have HG1 := sqM hg1; clear ho1 hg1))
     have hbw : Below wr.heap.size wr w1 := pw_below_grown (Below.refl _ _) none (Nat.le_refl _) HG1.out (fun k e => by cases e)
     have HB1 := sqM (q03 HM.out.below HM.out.below.size hbw)
     have HX1 := sqM (q07 HM.out.one hbw)
     have HY1 : Aside0 (w1.ownsRow w.heap.size 5 1 v1 (List.replicate (n + 70) m).length (nums .u8 (List.replicate (n + 70) m))) := ⟨by
      have := own_weak HO1.out HM.out.below.size
      rw [reps_app] at this
      rw [List.length_replicate]
      exact this⟩
     clear hbw
     go_wp2
     go_ret2
     exact ⟨_, _, rfl, HX1.out, HY1.out, HB1.out⟩
def mk5 (i : Nat) : Int := (wrap64 (1 + (Int.tmod (i : Int) 250))) % 256
theorem mk5_f (i : Nat) : QR.l5_mark.f (i : Int) = some (mk5 i) := rfl
theorem sameL_self (m : List (List Int)) : sameL m m = true := by
 unfold sameL sameB
 rw [if_pos rfl, List.all_eq_true]
 intro j _
 exact decide_eq_true rfl
structure Be5 (w0 w : World) (gb : Nat) (vh : Value) (es : List He) (HH : List (List Hdr)) : Prop where
 bh : Bh w0 w gb vh es
 len : HH.length = es.length
 hd : ∀ (i : Nat) e hh, es[i]? = some e → HH[i]? = some hh → w.ownsRow w0.heap.size 41 1 (hdV e.1) hh.length (encs hdV hh)
 ap : ∀ (i j : Nat) e1 e2 k, es[i]? = some e1 → es[j]? = some e2 → (hdV e1.1).ownBlock = some k → (hdV e2.1).ownBlock = some k → i = j
section
variable {w0 w w' : World} {gb : Nat} {vh : Value} {es : List He} {HH : List (List Hdr)}
theorem Be5.moved (h : Be5 w0 w gb vh es HH) (hb : Below w.heap.size w w') : Be5 w0 w' gb vh es HH := ⟨h.bh.moved hb, h.len, fun i e hh a b => q07 (h.hd i e hh a b) hb, h.ap⟩
theorem Be5.set5 (h : Be5 w0 w gb vh es HH) {b : Nat} {cells : Array Value} (hb : w.heap[b]? = some (.cells cells 5 (0, 0))) (hl : w0.heap.size ≤ b) (i : Nat) (u : Value) : Be5 w0 (w.setCell ⟨b, i, none⟩ u) gb vh es HH := by
 have hgb : gb ≠ b := fun e => by
  have := h.bh.box
  rw [e, hb] at this
  injection this with this; injection this with _ this; exact absurd this (by decide)
 refine ⟨⟨h.bh.below.setCell hl _, h.bh.gbl, (Below.heap_setCell w ⟨b, i, none⟩ u gb hgb).trans h.bh.box, q1h h.bh.oh (p := ⟨b, i, none⟩) (own_ne h.bh.oh hb (by decide)) _⟩, h.len, fun j e hh a c => q1h (h.hd j e hh a c) (p := ⟨b, i, none⟩) (own_ne (h.hd j e hh a c) hb (by decide)) _, h.ap⟩
theorem cells2_get : ∀ (es : List He) (i : Nat) e, es[i]? = some e → (cells2 es)[2 * i]? = some (hdV e.1) ∧ (cells2 es)[2 * i + 1]? = some (hdV e.2)
 | [], i, e, h => by simp at h
 | x :: es, 0, e, h => by
  obtain rfl := Option.some.inj h
  exact ⟨rfl, rfl⟩
 | x :: es, i + 1, e, h => by
  have := cells2_get es i e h
  exact this
theorem Bh.entry (h : Bh w0 w gb vh es) {i : Nat} {e : He} (he : es[i]? = some e) : ∃ gv c, vh = .slice (some ⟨gv, 0, none⟩) es.length c ∧ w.cell? ⟨gv, i * 2, none⟩ = some (hdV e.1) ∧ w.cell? ⟨gv, i * 2 + 1, none⟩ = some (hdV e.2) := by
 have hi := (List.getElem?_eq_some_iff.1 he).1
 obtain ⟨A, c, hv⟩ := q0q h.oh
 subst hv
 have ho := h.oh
 obtain ⟨h1, h2⟩ := cells2_get es i e he
 rcases ho.2 with ⟨e1, hz⟩ | ⟨g, cap, cur, e1, _⟩
 · omega
 ·
  injection e1 with e1 e2 e3
  subst e1
  refine ⟨g, c, rfl, ?_, ?_⟩
  · have := ho.cells rfl (2 * i) _ h1
    rw [show (⟨g, 0, none⟩ : Addr).add (2 * i) = ⟨g, i * 2, none⟩ from by rw [q1r]; congr 1; omega] at this
    exact this
  · have := ho.cells rfl (2 * i + 1) _ h2
    rw [show (⟨g, 0, none⟩ : Addr).add (2 * i + 1) = ⟨g, i * 2 + 1, none⟩ from by rw [q1r]; congr 1; omega] at this
    exact this
theorem Bh.cell (h : Bh w0 w gb vh es) : w.cell? ⟨gb, 0, none⟩ = some vh := by rw [q0h h.box]; rfl
theorem Bh.shape (h : Bh w0 w gb vh es) : ∃ A c, vh = .slice A es.length c := q0q h.oh
end
theorem Bq.heads {w0 w : World} {gb : Nat} {vh : Value} {es : List He} {ms : List (List (List Int))} {bd : List (Nat × Nat)} (h : Bq w0 w gb vh es ms bd) :
    ∃ HH : List (List Hdr), Be5 w0 w gb vh es HH ∧ ∀ (i : Nat) hh m x, HH[i]? = some hh → ms[i]? = some m → bd[i]? = some x → Sg w x.1 x.2 hh m := by
 have l1 := h.l1
 have l2 := h.l2
 have ex : ∀ i : Nat, ∃ hh : List Hdr, ∀ e m x, es[i]? = some e → ms[i]? = some m → bd[i]? = some x → w.ownsRow x.1 41 1 (hdV e.1) hh.length (encs hdV hh) ∧ (∀ k, (hdV e.1).ownBlock = some k → k < x.2) ∧ Sg w x.1 x.2 hh m := fun i => by
  by_cases hi : i < es.length
  ·
   have hk := h.held i es[i] (ms[i]'(by omega)) (bd[i]'(by omega)) (List.getElem?_eq_getElem hi) (List.getElem?_eq_getElem (by omega)) (List.getElem?_eq_getElem (by omega))
   obtain ⟨hh, a, b, c⟩ := hk.rows
   refine ⟨hh, fun e m x e1 e2 e3 => ?_⟩
   rw [List.getElem?_eq_getElem hi] at e1
   rw [List.getElem?_eq_getElem (show i < ms.length by omega)] at e2
   rw [List.getElem?_eq_getElem (show i < bd.length by omega)] at e3
   obtain rfl := Option.some.inj e1
   obtain rfl := Option.some.inj e2
   obtain rfl := Option.some.inj e3
   exact ⟨a, b, c⟩
  · exact ⟨[], fun e m x e1 => by rw [List.getElem?_eq_none (by omega)] at e1; cases e1⟩
 obtain ⟨f, hf⟩ := Classical.skolem.1 ex
 have hget : ∀ (i : Nat) hh, ((List.range es.length).map f)[i]? = some hh → i < es.length ∧ hh = f i := fun i hh e => by
  have hi := (List.getElem?_eq_some_iff.1 e).1
  simp at hi
  rw [List.getElem?_map, List.getElem?_range hi] at e
  exact ⟨hi, (Option.some.inj e).symm⟩
 refine ⟨(List.range es.length).map f, ⟨h.bh, by simp, fun i e hh e1 e2 => ?_, fun i j e1 e2 k a b k1 k2 => ?_⟩, fun i hh m x e1 e2 e3 => ?_⟩
 · obtain ⟨hi, rfl⟩ := hget i hh e2
   have := (hf i e (ms[i]'(by omega)) (bd[i]'(by omega)) e1 (List.getElem?_eq_getElem (by omega)) (List.getElem?_eq_getElem (by omega))).1
   have hb := h.bnd i _ (List.getElem?_eq_getElem (show i < bd.length by omega))
   exact own_weak this (by have := h.bh.gbl; omega)
 ·
  have hi := (List.getElem?_eq_some_iff.1 a).1
  have hj := (List.getElem?_eq_some_iff.1 b).1
  have hxi := List.getElem?_eq_getElem (show i < bd.length by omega)
  have hxj := List.getElem?_eq_getElem (show j < bd.length by omega)
  have oi := hf i e1 (ms[i]'(by omega)) _ a (List.getElem?_eq_getElem (by omega)) hxi
  have oj := hf j e2 (ms[j]'(by omega)) _ b (List.getElem?_eq_getElem (by omega)) hxj
  have b1 := q0k oi.1 k k1
  have b2 := oi.2.1 k k1
  have b3 := q0k oj.1 k k2
  have b4 := oj.2.1 k k2
  rcases Nat.lt_trichotomy i j with hlt | he | hlt
  · have := h.ord i j _ _ hlt hxi hxj; omega
  · exact he
  · have := h.ord j i _ _ hlt hxj hxi; omega
 · obtain ⟨hi, rfl⟩ := hget i hh e1
   exact (hf i es[i] m x (List.getElem?_eq_getElem hi) e2 e3).2.2
theorem flat_snoc {α : Type} (l : List (List α)) {i : Nat} (hi : i < l.length) : (l.take (i + 1)).flatten = (l.take i).flatten ++ l[i] := by
 rw [List.take_succ_eq_append_getElem hi, List.flatten_append]; simp
theorem Bq.all {w0 w : World} {gb : Nat} {vh : Value} {es : List He} {ms : List (List (List Int))} {bd : List (Nat × Nat)} (h : Bq w0 w gb vh es ms bd) {HH : List (List Hdr)} (hl : HH.length = es.length) (hs : ∀ (i : Nat) hh m x, HH[i]? = some hh → ms[i]? = some m → bd[i]? = some x → Sg w x.1 x.2 hh m) :
    Sg w w0.heap.size w.heap.size HH.flatten ms.flatten := by
 have l1 := h.l1
 have l2 := h.l2
 have key : ∀ i, i ≤ es.length → ∃ hi, (∀ x, bd[i]? = some x → hi ≤ x.1) ∧ hi ≤ w.heap.size ∧ w0.heap.size ≤ hi ∧ Sg w w0.heap.size hi (HH.take i).flatten (ms.take i).flatten := by
  intro i
  induction i with
  | zero => intro _; exact ⟨w0.heap.size, fun x e => by have := (h.bnd 0 x e).1; have := h.bh.gbl; omega, h.bh.below.size, Nat.le_refl _, Sg.nil _ _ _⟩
  | succ i ih =>
   intro hi
   obtain ⟨hi', a, b, c, d⟩ := ih (by omega)
   have hx := List.getElem?_eq_getElem (show i < bd.length by omega)
   have hsg := hs i (HH[i]'(by omega)) (ms[i]'(by omega)) _ (List.getElem?_eq_getElem (by omega)) (List.getElem?_eq_getElem (by omega)) hx
   obtain ⟨b1, b2, b3, _⟩ := h.bnd i _ hx
   have a1 := a _ hx
   refine ⟨(bd[i]'(by omega)).2, fun x e => ?_, b3, by omega, ?_⟩
   · have := h.ord i (i + 1) _ x (by omega) hx e; exact this
   · rw [flat_snoc HH (by omega), flat_snoc ms (by omega)]
     exact d.app hsg a1 (by omega) (by omega)
 obtain ⟨hi, _, b, _, d⟩ := key es.length (Nat.le_refl _)
 rw [List.take_of_length_le (by omega), List.take_of_length_le (by omega)] at d
 exact d.widen (Nat.le_refl _) b
theorem Sg.set {w : World} {lo hi : Nat} {hs : List Hdr} {cs : List (List Int)} (h : Sg w lo hi hs cs) {i b o n c x : Nat} {r : List Int} (hi_ : hs[i]? = some (some ⟨b, o, none⟩, n, c)) (hr : cs[i]? = some r) (hx : x < r.length) (v : Int) : Sg (w.setCell ⟨b, o + x, none⟩ (.int .u8 v)) lo hi hs (cs.set i (r.set x v)) := by
 obtain ⟨a1, a2, a3, a4⟩ := h.row i _ r hi_ hr
 have a1' : n = r.length := a1
 refine ⟨by rw [List.length_set]; exact h.len, fun j hd r' e1 e2 => ?_, h.ap⟩
 have hil : i < cs.length := (List.getElem?_eq_some_iff.1 hr).1
 have upd : ∀ (k : Nat) cells, w.heap[k]? = some (.cells cells 5 (0, 0)) → (w.setCell ⟨b, o + x, none⟩ (.int .u8 v)).heap[k]? = some (.cells (if k = b then cells.setIfInBounds (o + x) (.int .u8 v) else cells) 5 (0, 0)) := fun k cells hk => by
  by_cases e : k = b
  · subst e; rw [if_pos rfl]; exact q23 hk (o + x) _
  · rw [if_neg e]; exact (Below.heap_setCell w ⟨b, o + x, none⟩ _ k e).trans hk
 by_cases hij : i = j
 ·
  subst hij
  rw [hi_] at e1
  obtain rfl := Option.some.inj e1
  rw [List.getElem?_set_self hil] at e2
  obtain rfl := Option.some.inj e2
  refine ⟨by rw [List.length_set]; exact a1, by rw [List.length_set]; exact a2, by rw [List.length_set]; exact a3, fun hp => ?_⟩
  obtain ⟨b', o', cells, e1, e2, e3, e4, e5⟩ := a4 (by omega)
  have e1' : (some (⟨b, o, none⟩ : Addr)) = some ⟨b', o', none⟩ := e1
  injection e1' with e1'; injection e1' with f1 f2
  subst f1; subst f2
  refine ⟨b, o, _, rfl, e2, e3, upd b cells e4, fun y u hy => ?_⟩
  rw [if_pos rfl, Array.getElem?_setIfInBounds]
  by_cases hxy : x = y
  · subst hxy
    rw [List.getElem?_set_self (by omega)] at hy
    obtain rfl := Option.some.inj hy
    have : cells[o + x]? = some (.int .u8 r[x]) := e5 x _ (List.getElem?_eq_getElem hx)
    rw [if_pos rfl, if_pos (Array.getElem?_eq_some_iff.1 this).1]
  · rw [List.getElem?_set_ne hxy] at hy
    rw [if_neg (by omega)]
    exact e5 y u hy
 ·
  rw [List.getElem?_set_ne hij] at e2
  obtain ⟨c1, c2, c3, c4⟩ := h.row j hd r' e1 e2
  refine ⟨c1, c2, c3, fun hp => ?_⟩
  obtain ⟨b', o', cells, f1, f2, f3, f4, f5⟩ := c4 hp
  refine ⟨b', o', _, f1, f2, f3, upd b' cells f4, fun y u hy => ?_⟩
  by_cases e : b' = b
  ·
   subst e
   rw [if_pos rfl, Array.getElem?_setIfInBounds]
   have hyl := (List.getElem?_eq_some_iff.1 hy).1
   have := h.ap i j _ hd b' o o' hi_ e1 hij rfl f1 (by show 0 < n; omega) (by omega)
   have this' : o + n ≤ o' ∨ o' + hd.2.1 ≤ o := this
   rw [if_neg (by omega)]
   exact f5 y u hy
  · rw [if_neg e]; exact f5 y u hy
def contI5 (cs : List (List Int)) (i : Nat) : List (List Int) := (List.range cs.length).map fun t => if t < i then List.replicate (cs.getD t []).length (mk5 t) else cs.getD t []
def contK5 (cs : List (List Int)) (i k : Nat) : List (List Int) := (contI5 cs i).set i (List.replicate k (mk5 i) ++ (cs.getD i []).drop k)
theorem contI5_len (cs : List (List Int)) (i : Nat) : (contI5 cs i).length = cs.length := by simp [contI5]
theorem contI5_get (cs : List (List Int)) (i : Nat) {t : Nat} (ht : t < cs.length) : (contI5 cs i)[t]? = some (if t < i then List.replicate (cs.getD t []).length (mk5 t) else cs.getD t []) := by
 unfold contI5
 rw [List.getElem?_map, List.getElem?_range ht]; rfl
theorem contI5_zero (cs : List (List Int)) : contI5 cs 0 = cs := by
 apply List.ext_getElem?
 intro t
 by_cases ht : t < cs.length
 · rw [contI5_get cs 0 ht, if_neg (by omega), getD_get ht]
 · rw [List.getElem?_eq_none (by rw [contI5_len]; omega), List.getElem?_eq_none (by omega)]
theorem contK5_zero (cs : List (List Int)) {i : Nat} (hi : i < cs.length) : contK5 cs i 0 = contI5 cs i := by
 unfold contK5
 rw [List.replicate_zero, List.nil_append, List.drop_zero]
 exact set_same (by rw [contI5_get cs i hi, if_neg (by omega)])
theorem contK5_get (cs : List (List Int)) {i : Nat} (k : Nat) (hi : i < cs.length) : (contK5 cs i k)[i]? = some (List.replicate k (mk5 i) ++ (cs.getD i []).drop k) := List.getElem?_set_self (by rw [contI5_len]; exact hi)
theorem contK5_set (cs : List (List Int)) {i k : Nat} (hk : k < (cs.getD i []).length) : (contK5 cs i k).set i ((List.replicate k (mk5 i) ++ (cs.getD i []).drop k).set k (mk5 i)) = contK5 cs i (k + 1) := by
 unfold contK5
 rw [List.set_set]
 congr 1
 rw [List.set_append_right _ _ (by simp), List.length_replicate, Nat.sub_self, List.drop_eq_getElem_cons hk, List.set_cons_zero, ← reps_snoc, List.append_assoc]; rfl
theorem contK5_end (cs : List (List Int)) {i : Nat} (hi : i < cs.length) : contK5 cs i (cs.getD i []).length = contI5 cs (i + 1) := by
 unfold contK5
 rw [List.drop_eq_nil_of_le (Nat.le_refl _), List.append_nil]
 apply List.ext_getElem?
 intro t
 by_cases ht : t < cs.length
 ·
  rw [contI5_get cs _ ht]
  by_cases e : i = t
  · subst e; rw [List.getElem?_set_self (by rw [contI5_len]; exact hi), if_pos (by omega)]
  · rw [List.getElem?_set_ne e, contI5_get cs _ ht]
    congr 1
    exact ifc ⟨fun h => by omega, fun h => by omega⟩
 · rw [List.getElem?_eq_none (by rw [List.length_set, contI5_len]; omega), List.getElem?_eq_none (by rw [contI5_len]; omega)]
structure Fl (w0 w wr : World) (gb : Nat) (vh : Value) (es : List He) (HH : List (List Hdr)) (r3 : Option Addr) (c3 : Nat) (R : List Hdr) (cs : List (List Int)) : Prop where
 be : Be5 w0 wr gb vh es HH
 rows : wr.ownsRow w.heap.size 41 1 (.slice r3 R.length c3) R.length (encs hdV R)
 sg : Sg wr w0.heap.size w.heap.size R cs
section
variable {w0 w wr w' : World} {gb : Nat} {vh : Value} {es : List He} {HH : List (List Hdr)} {r3 : Option Addr} {c3 : Nat} {R : List Hdr} {cs : List (List Int)}
theorem Fl.drewN (h : Fl w0 w wr gb vh es HH r3 c3 R cs) (hw : w.heap.size ≤ wr.heap.size) (n : Nat) : Fl w0 w (wr.drewN n) gb vh es HH r3 c3 R cs :=
 ⟨h.be.moved (q00 (Below.refl _ _) n), q07 h.rows (q00 (Below.refl _ _) n), h.sg.move (q0d.of_below (q00 (Below.refl _ _) n) hw)⟩
theorem Fl.put (h : Fl w0 w wr gb vh es HH r3 c3 R cs) {i b o n c x : Nat} {r : List Int} (hi : R[i]? = some (some ⟨b, o, none⟩, n, c)) (hr : cs[i]? = some r) (hx : x < r.length) (v : Int) : Fl w0 w (wr.setCell ⟨b, o + x, none⟩ (.int .u8 v)) gb vh es HH r3 c3 R (cs.set i (r.set x v)) := by
 obtain ⟨a1, a2, a3, a4⟩ := h.sg.row i _ r hi hr
 obtain ⟨b', o', cells, e1, e2, e3, e4, e5⟩ := a4 (by omega)
 have e1' : (some (⟨b, o, none⟩ : Addr)) = some ⟨b', o', none⟩ := e1
 injection e1' with e1'; injection e1' with f1 f2
 subst f1
 exact ⟨h.be.set5 e4 e2 _ _, q1h h.rows (p := ⟨b, o + x, none⟩) (own_ne h.rows e4 (by decide)) _, h.sg.set hi hr hx v⟩
theorem Fl.head (h : Fl w0 w wr gb vh es HH r3 c3 R cs) {i : Nat} {r : List Int} (hr : cs[i]? = some r) : ∃ g A, r3 = some ⟨g, 0, none⟩ ∧ R[i]? = some (A, r.length, r.length) ∧ wr.cell? ⟨g, i, none⟩ = some (.slice A r.length r.length) := by
 have hl := h.sg.len
 have hi : i < R.length := by rw [hl]; exact (List.getElem?_eq_some_iff.1 hr).1
 obtain ⟨g, rfl⟩ := own_some h.rows (by omega)
 have hg := List.getElem?_eq_getElem hi
 obtain ⟨a1, a2, _⟩ := h.sg.row i _ r hg hr
 refine ⟨g, R[i].1, rfl, ?_, ?_⟩
 · rw [hg]
   congr 1
   exact Prod.ext rfl (Prod.ext a1 a2)
 ·
  have := (own_at_of (d := ((none, 0, 0) : Hdr)) h.rows (i : Int) (by omega) (by omega)).1
  rw [Int.toNat_natCast, rdOf, Int.toNat_natCast, List.getD_eq_getElem?_getD, hg] at this
  rw [this]
  show some (hdV R[i]) = _
  unfold hdV
  rw [a1, a2]
theorem Fl.byte (h : Fl w0 w wr gb vh es HH r3 c3 R cs) {i x : Nat} {A : Option Addr} {r : List Int} (hi : R[i]? = some (A, r.length, r.length)) (hr : cs[i]? = some r) (hx : x < r.length) : ∃ b o u, A = some ⟨b, o, none⟩ ∧ wr.cell? ⟨b, o + x, none⟩ = some u ∧ wr.frozen? ⟨b, o + x, none⟩ = false := by
 obtain ⟨a1, a2, a3, a4⟩ := h.sg.row i _ r hi hr
 obtain ⟨b, o, cells, e1, e2, e3, e4, e5⟩ := a4 (by omega)
 refine ⟨b, o, .int .u8 r[x], e1, ?_, q1q e4 _⟩
 rw [q0h e4]
 exact e5 x _ (List.getElem?_eq_getElem hx)
end
theorem reads_heads5 {w : World} {g : Nat} {hs : List Hdr} (hh : w.heap[g]? = some (.cells (encs hdV hs).toArray 41 (0, 0))) (hl : hs.length ≤ 1000) : q0j hdV ((none, 0, 0) : Hdr) w (some ⟨g, 0, none⟩) hs.length hs :=
 own_reads_of' (own_heads (Nat.zero_le g) hh hl)
structure Mo (w2 wr : World) (v8 : Value) (MR : List Hdr) (i : Nat) : Prop where
 below : Below w2.heap.size w2 wr
 own : wr.ownsRow w2.heap.size 41 1 v8 MR.length (encs hdV MR)
 len : MR.length = 2 * i
 row : ∀ (s : Nat) hd, MR[s]? = some hd → wr.ownsRow w2.heap.size 5 1 (hdV hd) hd.2.1 (nums .u8 (List.replicate hd.2.1 (mk5 (s / 2)))) ∧ hd.2.1 ≤ 100000000
theorem Mo.moved {w2 wr w' : World} {v8 : Value} {MR : List Hdr} {i : Nat} (h : Mo w2 wr v8 MR i) (hb : Below wr.heap.size wr w') : Mo w2 w' v8 MR i :=
 ⟨q03 h.below h.below.size hb, q07 h.own hb, h.len, fun s hd e => ⟨q07 (h.row s hd e).1 hb, (h.row s hd e).2⟩⟩
theorem Mo.add {w2 wr w' : World} {v8 v' : Value} {MR : List Hdr} {i : Nat} (h : Mo w2 wr v8 MR i) {x y : Hdr} (hx : wr.ownsRow w2.heap.size 5 1 (hdV x) x.2.1 (nums .u8 (List.replicate x.2.1 (mk5 i)))) (hy : wr.ownsRow w2.heap.size 5 1 (hdV y) y.2.1 (nums .u8 (List.replicate y.2.1 (mk5 i)))) (bx : x.2.1 ≤ 100000000) (by_ : y.2.1 ≤ 100000000)
    (ho : w'.ownsRow w2.heap.size 41 1 v' (MR ++ [x, y]).length (encs hdV (MR ++ [x, y]))) (hb : Below w2.heap.size w2 w') (hg : wr.grownBy w' v8.ownBlock) : Mo w2 w' v' (MR ++ [x, y]) (i + 1) := by
 have five : ∀ {u : Value} {n : Nat} {xs : List Value}, wr.ownsRow w2.heap.size 5 1 u n xs → w'.ownsRow w2.heap.size 5 1 u n xs := fun {u n xs} ho' => q0t ho' fun k e => hg.block k (q0u ho' k e) (fun e2 => by
  obtain ⟨c1, hc1⟩ := q0b ho' k e
  obtain ⟨c2, hc2⟩ := q0b h.own k e2.symm
  rw [hc1] at hc2
  injection hc2 with hc2; injection hc2 with _ hc2; exact absurd hc2 (by decide))
 refine ⟨hb, ho, by rw [List.length_append, h.len]; simp; omega, fun s hd e => ?_⟩
 by_cases hs : s < MR.length
 · rw [List.getElem?_append_left hs] at e
   exact ⟨five (h.row s hd e).1, (h.row s hd e).2⟩
 ·
  rw [List.getElem?_append_right (by omega), h.len] at e
  have hl := (List.getElem?_eq_some_iff.1 e).1
  have hlen := h.len
  simp at hl
  by_cases h0 : s - 2 * i = 0
  · rw [h0] at e
    obtain rfl := Option.some.inj e
    rw [show s / 2 = i by omega]
    exact ⟨five hx, bx⟩
  · have h1 : s - 2 * i = 1 := by omega
    rw [h1] at e
    obtain rfl := Option.some.inj e
    rw [show s / 2 = i by omega]
    exact ⟨five hy, by_⟩
structure Kp (w w' : World) (e : TypeId) (n : Nat) (row : Option Nat) : Prop where
 grown : w.grownBy w' row
 cells : ∀ k cur, row = some k → w.heap[k]? = some (.cells cur e (0, 0)) → ∃ cur', w'.heap[k]? = some (.cells cur' e (0, 0)) ∧ cur'.size = cur.size ∧ ∀ j, j < n → cur'[j]? = cur[j]?
theorem Kp.of_below {w w' : World} (hb : Below w.heap.size w w') (e : TypeId) (n : Nat) (row : Option Nat) : Kp w w' e n row :=
 ⟨⟨hb.os, hb.tape, hb.output, hb.size, fun k hk _ => hb.block k hk⟩, fun k cur _ h => ⟨cur, (hb.block k (q0l h)).trans h, rfl, fun j _ => rfl⟩⟩
theorem Kp.after {w w1 w' : World} {e : TypeId} {n : Nat} {row : Option Nat} (hb : Below w.heap.size w w1) (h : Kp w1 w' e n row) : Kp w w' e n row :=
 ⟨⟨h.grown.os.trans hb.os, h.grown.tape.trans hb.tape, h.grown.output.trans hb.output, Nat.le_trans hb.size h.grown.size, fun k hk hn => (h.grown.block k (Nat.lt_of_lt_of_le hk hb.size) hn).trans (hb.block k hk)⟩,
  fun k cur hr hc => h.cells k cur hr ((hb.block k (q0l hc)).trans hc)⟩
theorem own_kp {w w' : World} {base m n : Nat} {e : TypeId} {a : Value} {xs : List Value} {row : Option Nat} (ho : w.ownsRow base e 1 a m xs) (h : Kp w w' e n row) (hm : a.ownBlock = row → m ≤ n) : w'.ownsRow base e 1 a m xs := by
 by_cases hr : a.ownBlock = row
 ·
  have hmn := hm hr
  refine ⟨ho.1, ?_⟩
  rcases ho.2 with h0 | ⟨g, cap, cur, rfl, hbg, hg, hnc, hcm, hcs, ht⟩
  · exact .inl h0
  ·
   obtain ⟨cur', e1, e2, e3⟩ := h.cells g cur hr.symm hg
   refine .inr ⟨g, cap, cur', rfl, hbg, e1, hnc, hcm, by rw [e2, hcs], ?_⟩
   rw [← ht]
   apply List.ext_getElem?
   intro j
   rw [List.getElem?_take, List.getElem?_take]
   split
   · rw [Array.getElem?_toList, Array.getElem?_toList, e3 j (by omega)]
   · rfl
 · exact q0t ho fun k hk => h.grown.block k (q0u ho k hk) (fun e2 => hr (hk.trans e2))
section
variable {P : Program} (w : World)
theorem run_append_keep (base : Nat) (t ty e : TypeId) (i : TypeInfo) (z : Value) (bytes : Nat) (ht : P.underlying t = some (.slice e)) (hi : P.info? e = some i) (hz : i.zero = some z)
    (hsize : i.size = 1) (hby : i.bytes = bytes) (hzs : z.cells.size = 1) (v : Value) (xs : List Value) (u : Value) (hown : w.ownsRow base e 1 v xs.length xs)
    (a : Addr) (c : Nat) (hu : w.cell? a = some u) (h1 : u.oneCell' = true) (h63 : xs.length + 1 ≤ maxLen) (hbytes : (xs.length + 1) * bytes ≤ 140737488355328) (hbase : base ≤ w.heap.size) :
    ∃ v' w', (Builtin.append_ #[t, t] ty #[v, .slice (some a) 1 c]).run P w = .ok v' w' ∧ w'.ownsRow base e 1 v' (xs.length + 1) (xs ++ [u]) ∧ Kp w w' e xs.length v.ownBlock ∧ (v'.ownBlock = v.ownBlock ∨ v'.ownBlock = some w.heap.size) := by
 subst hby
 generalize hn : xs.length = n at *
 have hsmall : n + 1 ≤ 9223372036854775807 := by simp only [maxLen] at h63; omega
 have hnews : ∀ j x, [u][j]? = some x → w.cell? (a.add j) = some x := fun j x hx => by
  match j, hx with
  | 0, hx => obtain rfl := Option.some.inj hx; exact hu
  | j + 1, hx => simp at hx
 have h1' : ∀ x ∈ [u], x.oneCell' = true := fun x hx => by rw [List.mem_singleton.1 hx]; exact h1
 have grown : ∀ (old : Nat), old < n + 1 → ∀ (row : Option Nat),
     (w.drew.alloc (.cells (xs.toArray ++ [u].toArray ++ Builtin.zeroCells z.cells (grownCap w (n + 1) old e - (n + 1))) e)).ownsRow base e 1
      (.slice (some ⟨w.heap.size, 0, none⟩) (n + 1) (grownCap w (n + 1) old e)) (n + 1) (xs ++ [u]) ∧
     Kp w (w.drew.alloc (.cells (xs.toArray ++ [u].toArray ++ Builtin.zeroCells z.cells (grownCap w (n + 1) old e - (n + 1))) e)) e n row := by
  intro old ho row
  have hge := grownCap_ge w (n + 1) old e
  have hcm : grownCap w (n + 1) old e ≤ maxLen := grownCap_le_maxLen w (n + 1) old e h63
  refine ⟨⟨by simp [hn], .inr ⟨w.heap.size, _, _, rfl, hbase, heap_alloc_new w.drew _, hge, hcm, ?_, ?_⟩⟩, Kp.of_below (q02 (q06 (Below.refl w.heap.size w)) _) e n row⟩
  · simp only [Array.size_append, List.size_toArray, size_zeroCells, hzs, hn, List.length_singleton]
    omega
  · simp only [Array.toList_append, List.append_assoc]
    rw [← List.append_assoc, Nat.mul_one]
    rw [List.take_append_of_le_length (by simp [hn]), List.take_of_length_le (by simp [hn])]
 rcases hown.2 with ⟨rfl, hn0⟩ | ⟨g, cap, cur, rfl, hbg, hg, hnc, hcm, hcs, htake⟩
 ·
  have hr := run_append_nil (P := P) w t ty e i z ht hi hz a 1 c [u] (by rw [hsize]; rfl) hnews (by omega) (by omega) (by have hb := hbytes; rw [hn0] at hb; simp only [Nat.zero_add] at hb; omega)
  have hgr := grown 0 (by omega) (Value.ownBlock (.slice none 0 0))
  obtain rfl : xs = [] := List.eq_nil_of_length_eq_zero (by omega)
  subst hn0
  simp only [Nat.zero_add, List.nil_append, Array.empty_append] at hgr ⊢
  exact ⟨_, _, hr, hgr.1, hgr.2, .inr rfl⟩
 ·
  by_cases hroom : n + 1 ≤ cap
  ·
   have hfit : n * i.size + [u].length ≤ cur.size := by rw [hsize, hcs, Nat.mul_one, Nat.mul_one]; exact hroom
   have hr := run_append_room (P := P) w t ty e i ht hi g n cap cur hg a 1 c [u] (by rw [hsize]; rfl) hnews h1' hroom hfit
   rw [hsize, Nat.mul_one, List.length_singleton] at hr
   have hcl : cur.toList.length = cap := by rw [Array.length_toList, hcs, Nat.mul_one]
   have hnew : (List.take n cur.toList ++ [u] ++ List.drop (n + 1) cur.toList).length = cap := by
    rw [List.length_append, List.length_append, List.length_take, List.length_drop, List.length_singleton, hcl]; omega
   have htn : List.take n cur.toList = xs := by rw [← htake, Nat.mul_one]
   refine ⟨_, _, hr, ⟨by simp [hn], .inr ⟨g, cap, _, rfl, hbg, setRow_heap w g cur _ e _ hg, hroom, hcm, ?_, ?_⟩⟩, ⟨⟨rfl, rfl, rfl, by simp, fun k _ hk => setRow_other w g k _ (fun e => hk (by simp [Value.ownBlock, e]))⟩, fun k cur0 hk hc0 => ?_⟩, .inl rfl⟩
   · rw [List.size_toArray, hnew, Nat.mul_one]
   · rw [List.toList_toArray, Nat.mul_one, htn]
     rw [List.take_append_of_le_length (by simp [hn]), List.take_of_length_le (by simp [hn])]
   ·
    have hk2 : some g = some k := hk
    obtain rfl := Option.some.inj hk2
    rw [hg] at hc0
    injection hc0 with hc0
    injection hc0 with hc0
    subst hc0
    refine ⟨_, setRow_heap w g cur _ e _ hg, by rw [List.size_toArray, hnew, hcs, Nat.mul_one], fun j hj => ?_⟩
    rw [List.getElem?_toArray, List.append_assoc, List.getElem?_append_left (by rw [List.length_take, hcl]; omega), List.getElem?_take, if_pos hj, Array.getElem?_toList]
  · have holds : ∀ j x, xs[j]? = some x → w.cell? ((⟨g, 0, none⟩ : Addr).add j) = some x := hown.cells (g := g) rfl
    have hr := run_append_grow (P := P) w t ty e i z ht hi hz ⟨g, 0, none⟩ n cap xs (by rw [hsize, hn, Nat.mul_one]) holds a 1 c [u] (by rw [hsize]; rfl) hnews (by omega) (by omega) (growslice_fits (by omega) hbytes)
    have hgr := grown cap (by omega) (Value.ownBlock (.slice (some ⟨g, 0, none⟩) n cap))
    exact ⟨_, _, hr, hgr.1, hgr.2, .inr rfl⟩
end
theorem print_append_keep {α : Type} {P : Program} {ops : Array Oper} {rest : List Oper} {o : Oper} {a : Act} {Q : Exit → Act → World → Prop} {w0 W : World} (enc : α → Value) (base : Nat) (hgd : o.guard = none) (s x : Operand) (t e : TypeId) (z : Value) (bytes : Nat)
    (ho : o.op = .call { callee := .builtin .append, args := #[s, x], argTypes := #[t, t] })
    (ht : P.underlying t = some (.slice e)) (hinfo : (P.info? e).map (fun i => (i.zero, i.size, i.bytes)) = some (some z, 1, bytes)) (hz : z.cells.size = 1) (hb0 : 0 < bytes)
    (v : Value) (xs : List α) (y : α) (hs : a.eval s = v) (hx : a.eval x = .slice (some ⟨W.heap.size, 0, none⟩) 1 1) (h1 : (enc y).oneCell' = true)
    (HO : W.ownsRow base e 1 v xs.length (encs enc xs)) (HB : Below base w0 W) (hbase : base ≤ W.heap.size) (hl : (xs.length + 1) * bytes ≤ 140737488355328)
    (h : ∀ v1 w1, w1.ownsRow base e 1 v1 (xs ++ [y]).length (encs enc (xs ++ [y])) → Below base w0 w1 → Kp W w1 e xs.length v.ownBlock → (v1.ownBlock = v.ownBlock ∨ ∃ b, v1.ownBlock = some b ∧ W.heap.size ≤ b) → wpList P ops Q rest (a.put o.dst v1) w1) :
    wpList P ops Q (o :: rest) a (W.alloc (.cells #[enc y] e)) := by
 obtain ⟨i0, hi, hzz⟩ := Option.map_eq_some_iff.1 hinfo
 simp only [Prod.mk.injEq] at hzz
 obtain ⟨hz0, hz1, hz2⟩ := hzz
 have hlen : xs.length + 1 ≤ 140737488355328 := Nat.le_trans (Nat.le_mul_of_pos_right _ hb0) hl
 have hcell : (W.alloc (.cells #[enc y] e)).cell? ⟨W.heap.size, 0, none⟩ = some (enc y) := by rw [q0h (q0z W _)]; rfl
 have hel : (encs enc xs).length = xs.length := by simp [encs]
 refine wpList_plain hgd fun K hK => ?_
 obtain ⟨v', w', hr, h2, h3, h4⟩ := run_append_keep (P := P) (W.alloc (.cells #[enc y] e)) base t o.type e i0 z bytes ht hi hz0 hz1 hz2 hz v (encs enc xs) (enc y) (by rw [hel]; exact HO.alloc _) ⟨W.heap.size, 0, none⟩ 1 hcell h1 (by rw [hel]; simp only [maxLen]; omega) (by rw [hel]; exact hl) (by simp; omega)
 rw [hel] at h2 h3
 unfold Oper.wp execOp
 simp only [ho, resolve, invoke, builtin, Sem.run_bind, Sem.run_pure, Result.andThen_ok, List.map_toArray, List.map_cons, List.map_nil, hs, hx, hr]
 refine hK _ _ (h v' w' (by rw [List.length_append, List.length_singleton]; have e2 : encs enc (xs ++ [y]) = encs enc xs ++ [enc y] := by simp [encs]
                            rw [e2]; exact h2) ((HB.alloc hbase _).grown h3.grown (by simp; omega) (q0k HO)) (h3.after (q02 (Below.refl _ _) _)) ?_)
 rcases h4 with h4 | h4
 · exact .inl h4
 · exact .inr ⟨_, h4, by simp⟩
theorem mk5_eq (i : Nat) : 1 + (i : Int) % 250 = mk5 i := by
 unfold mk5 wrap64
 rw [Int.tmod_eq_emod_of_nonneg (by omega)]; omega
theorem info35' : (Try.prog.info? 35).map (fun i => (i.zero, i.size, i.bytes)) = some (some (.slice none 0 0), 1, 24) := by kernel_rfl
theorem own_noneL {w : World} {base t n : Nat} {v : Value} {xs : List Value} (h : w.ownsRow base t 1 v n xs) (hn : v.ownBlock = none) : n = 0 := by
 rcases h.2 with ⟨_, hz⟩ | ⟨g, cap, cur, e, _⟩
 · exact hz
 · rw [e] at hn; cases hn
section
variable {w0 w w' : World} {gb : Nat} {vh : Value} {es : List He} {YY : List (List Hdr)}
theorem Be5.other (h : Be5 w0 w gb vh es YY) (hb : Below w0.heap.size w0 w') (hs : ∀ (k : Nat) cells t, w.heap[k]? = some (.cells cells t (0, 0)) → (t = 27 ∨ t = 60 ∨ t = 41) → w'.heap[k]? = w.heap[k]?) : Be5 w0 w' gb vh es YY := by
 have mv : ∀ {v : Value} {t sz n : Nat} {xs : List Value}, (t = 27 ∨ t = 60 ∨ t = 41) → w.ownsRow w0.heap.size t sz v n xs → w'.ownsRow w0.heap.size t sz v n xs := fun {v t sz n xs} ht ho => q0t ho fun k e => by
  obtain ⟨c, hc⟩ := q0b ho k e
  exact hs k c t hc ht
 exact ⟨⟨hb, h.bh.gbl, (hs gb _ 27 h.bh.box (.inl rfl)).trans h.bh.box, mv (.inr (.inl rfl)) h.bh.oh⟩, h.len, fun i e hh a b => mv (.inr (.inr rfl)) (h.hd i e hh a b), h.ap⟩
theorem encs_set (hh : List Hdr) (k : Nat) (hd : Hdr) : (encs hdV hh).set k (hdV hd) = encs hdV (hh.set k hd) := by unfold encs; rw [List.map_set]
theorem Be5.put (h : Be5 w0 w gb vh es YY) {i g n c : Nat} {e : He} {hh : List Hdr} (he : es[i]? = some e) (hy : YY[i]? = some hh) (eg : hdV e.1 = .slice (some ⟨g, 0, none⟩) n c) (k : Nat) (hd : Hdr) : Be5 w0 (w.setCell ⟨g, k, none⟩ (hdV hd)) gb vh es (YY.set i (hh.set k hd)) := by
 have ho := h.hd i e hh he hy
 rw [eg] at ho
 obtain ⟨A', c', hv⟩ := q0q ho
 injection hv with _ hn _
 subst hn
 have hg : w0.heap.size ≤ g := q0k ho g rfl
 obtain ⟨cells, hc⟩ := q0b ho g rfl
 have hil : i < YY.length := (List.getElem?_eq_some_iff.1 hy).1
 refine ⟨⟨h.bh.below.setCell hg _, h.bh.gbl, ?_, q1h h.bh.oh (p := ⟨g, k, none⟩) (own_ne h.bh.oh hc (by decide)) _⟩, by rw [List.length_set]; exact h.len, fun j e' hh' a b => ?_, h.ap⟩
 · refine (Below.heap_setCell w ⟨g, k, none⟩ _ gb fun e2 => ?_).trans h.bh.box
   have e3 : gb = g := e2
   have := h.bh.box
   rw [e3, hc] at this
   injection this with this; injection this with _ this; exact absurd this (by decide)
 ·
  by_cases hij : i = j
  ·
   subst hij
   rw [he] at a
   obtain rfl := Option.some.inj a
   rw [List.getElem?_set_self hil] at b
   obtain rfl := Option.some.inj b
   have := (ho.stored k (hdV hd)).1
   rw [encs_set] at this
   rw [List.length_set, eg]
   exact this
  · rw [List.getElem?_set_ne hij] at b
    exact q1h (h.hd j e' hh' a b) (p := ⟨g, k, none⟩) (fun e2 => hij (h.ap i j e e' g he a (by rw [eg]; rfl) e2.symm)) _
theorem Be5.kp (h : Be5 w0 w gb vh es YY) {n : Nat} {v8 : Value} {m8 : Nat} {xs8 : List Value} (hb : Below w0.heap.size w0 w') (hk : Kp w w' 41 n v8.ownBlock) (h8 : w.ownsRow w0.heap.size 41 1 v8 m8 xs8) (hm : ∀ (j : Nat) e hh, es[j]? = some e → YY[j]? = some hh → (hdV e.1).ownBlock = v8.ownBlock → hh.length ≤ n) : Be5 w0 w' gb vh es YY := by
 have ne : ∀ (k : Nat) cells t, w.heap[k]? = some (.cells cells t (0, 0)) → t ≠ 41 → some k ≠ v8.ownBlock := fun k cells t hc ht e => by
  obtain ⟨c2, hc2⟩ := q0b h8 k e.symm
  rw [hc] at hc2
  injection hc2 with hc2; injection hc2 with _ hc2; exact ht hc2
 refine ⟨⟨hb, h.bh.gbl, (hk.grown.block gb (q0l h.bh.box) (ne gb _ 27 h.bh.box (by decide))).trans h.bh.box, q0t h.bh.oh fun k e => hk.grown.block k (q0u h.bh.oh k e) ?_⟩, h.len, fun j e hh a b => own_kp (h.hd j e hh a b) hk (hm j e hh a b), h.ap⟩
 obtain ⟨c, hc⟩ := q0b h.bh.oh k e
 exact ne k c 60 hc (by decide)
end
structure La (w0 w wr : World) (gb : Nat) (vh : Value) (es : List He) (HH YY : List (List Hdr)) (v3 : Value) (i : Nat) : Prop where
 be : Be5 w0 wr gb vh es YY
 lens : ∀ j : Nat, (YY.getD j []).length = (HH.getD j []).length
 done : ∀ (j : Nat) hh, j < i → YY[j]? = some hh → ∀ hd ∈ hh, Row5 wr hd [mk5 j]
 all : wr.ownsRow w.heap.size 35 1 v3 ((es.take i).map (·.1)).length (encs hdV ((es.take i).map (·.1)))
 base : w.heap.size ≤ wr.heap.size
 be0 : w0.heap.size ≤ w.heap.size
section
variable {w0 w wr w' : World} {gb i : Nat} {vh v3 v' : Value} {es : List He} {HH YY : List (List Hdr)}
theorem La.moved (h : La w0 w wr gb vh es HH YY v3 i) (hb : Below wr.heap.size wr w') : La w0 w w' gb vh es HH YY v3 i :=
 ⟨h.be.moved hb, h.lens, fun j hh a b hd c => (h.done j hh a b hd c).move (Same5.of_below hb), q07 h.all hb, Nat.le_trans h.base hb.size, h.be0⟩
theorem La.put (h : La w0 w wr gb vh es HH YY v3 i) {g n c : Nat} {e : He} {hh : List Hdr} (he : es[i]? = some e) (hy : YY[i]? = some hh) (eg : hdV e.1 = .slice (some ⟨g, 0, none⟩) n c) (k : Nat) (hd : Hdr) : La w0 w (wr.setCell ⟨g, k, none⟩ (hdV hd)) gb vh es HH (YY.set i (hh.set k hd)) v3 i ∧ Same5 wr (wr.setCell ⟨g, k, none⟩ (hdV hd)) := by
 have ho := h.be.hd i e hh he hy
 rw [eg] at ho
 obtain ⟨cells, hc⟩ := q0b ho g rfl
 have s5 : Same5 wr (wr.setCell ⟨g, k, none⟩ (hdV hd)) := Same5.set hc (by decide) k _
 refine ⟨⟨h.be.put he hy eg k hd, fun j => ?_, fun j hh' a b hd' c => ?_, q1h h.all (p := ⟨g, k, none⟩) (own_ne h.all hc (by decide)) _, (by rw [World.size_setCell]; exact h.base), h.be0⟩, s5⟩
 ·
  rw [← h.lens j, List.getD_eq_getElem?_getD, List.getD_eq_getElem?_getD]
  by_cases hij : i = j
  · subst hij
    rw [List.getElem?_set_self (List.getElem?_eq_some_iff.1 hy).1, hy]
    show (hh.set k hd).length = hh.length
    rw [List.length_set]
  · rw [List.getElem?_set_ne hij]
 · rw [List.getElem?_set_ne (by omega)] at b
   exact (h.done j hh' a b hd' c).move s5
theorem La.next (h : La w0 w wr gb vh es HH YY v3 i) {e : He} (he : es[i]? = some e) (hd : ∀ hh, YY[i]? = some hh → ∀ hd ∈ hh, Row5 wr hd [mk5 i])
    (ho : w'.ownsRow w.heap.size 35 1 v' ((es.take i).map (·.1) ++ [e.1]).length (encs hdV ((es.take i).map (·.1) ++ [e.1]))) (hb : w.heap.size ≤ w'.heap.size) (hb0 : Below w0.heap.size w0 w') (hg : wr.grownBy w' v3.ownBlock) : La w0 w w' gb vh es HH YY v' (i + 1) := by
 have ne : ∀ (k : Nat) cells t, wr.heap[k]? = some (.cells cells t (0, 0)) → t ≠ 35 → some k ≠ v3.ownBlock := fun k cells t hc ht e => by
  obtain ⟨c2, hc2⟩ := q0b h.all k e.symm
  rw [hc] at hc2
  injection hc2 with hc2; injection hc2 with _ hc2; exact ht hc2
 have s5 : Same5 wr w' := Same5.of_grown hg fun k cells fz hc e => by
  obtain ⟨c2, hc2⟩ := q0b h.all k e.symm
  rw [hc] at hc2
  injection hc2 with hc2; injection hc2 with _ hc2; exact absurd hc2 (by decide)
 refine ⟨h.be.other hb0 fun k cells t hc ht => hg.block k (q0l hc) (ne k cells t hc (by rcases ht with rfl | rfl | rfl <;> decide)), h.lens, fun j hh a b x c => ?_, ?_, hb, h.be0⟩
 · by_cases hj : j = i
   · subst hj; exact (hd hh b x c).move s5
   · exact (h.done j hh (by omega) b x c).move s5
 ·
  have hi := (List.getElem?_eq_some_iff.1 he).1
  have : (es.take (i + 1)).map (·.1) = (es.take i).map (·.1) ++ [e.1] := by
   rw [List.take_succ_eq_append_getElem hi, List.map_append]
   obtain ⟨_, rfl⟩ := List.getElem?_eq_some_iff.1 he
   rfl
  rw [this]
  exact ho
end
structure Lb (w0 w wr : World) (gb : Nat) (vh : Value) (es : List He) (YY : List (List Hdr)) (v3 : Value) (XS : List Hdr) (i : Nat) : Prop where
 be : Be5 w0 wr gb vh es YY
 done : ∀ (j : Nat) hh, YY[j]? = some hh → ∀ hd ∈ hh, Row5 wr hd [mk5 j]
 all : wr.ownsRow w.heap.size 35 1 v3 (es.map (·.1) ++ XS).length (encs hdV (es.map (·.1) ++ XS))
 xl : XS.length = i
 xs : ∀ (j : Nat) x, XS[j]? = some x → ∃ hh : List Hdr, wr.ownsRow w0.heap.size 41 1 (hdV x) hh.length (encs hdV hh) ∧ (∀ hd ∈ hh, Row5 wr hd [mk5 j]) ∧ hh.length ≤ 1000 ∧ ∀ k, (hdV x).ownBlock = some k → w.heap.size ≤ k ∨ ∃ e, es[j]? = some e ∧ (hdV e.1).ownBlock = some k
 base : w.heap.size ≤ wr.heap.size
 be0 : w0.heap.size ≤ w.heap.size
 hi : ∀ (j : Nat) e k, es[j]? = some e → (hdV e.1).ownBlock = some k → k < w.heap.size
structure Lc (w0 w wr : World) (es : List He) (XS : List Hdr) (i : Nat) (v8 : Value) (h8 : List Hdr) : Prop where
 own : wr.ownsRow w0.heap.size 41 1 v8 h8.length (encs hdV h8)
 mks : ∀ hd ∈ h8, Row5 wr hd [mk5 i]
 at_ : ∀ k, v8.ownBlock = some k → w.heap.size ≤ k ∨ ∃ e, es[i]? = some e ∧ (hdV e.1).ownBlock = some k
 ax : ∀ (j : Nat) x k, XS[j]? = some x → (hdV x).ownBlock = some k → v8.ownBlock ≠ some k
section
variable {w0 w wr w' : World} {gb i : Nat} {vh v3 v8 v' : Value} {es : List He} {YY : List (List Hdr)} {XS h8 : List Hdr}
theorem Lb.moved (h : Lb w0 w wr gb vh es YY v3 XS i) (hb : Below wr.heap.size wr w') : Lb w0 w w' gb vh es YY v3 XS i :=
 ⟨h.be.moved hb, fun j hh a hd c => (h.done j hh a hd c).move (Same5.of_below hb), q07 h.all hb, h.xl, fun j x e => by
  obtain ⟨hh, a, b, c, d⟩ := h.xs j x e
  exact ⟨hh, q07 a hb, fun hd m => (b hd m).move (Same5.of_below hb), c, d⟩, Nat.le_trans h.base hb.size, h.be0, h.hi⟩
theorem Lc.moved (h : Lc w0 w wr es XS i v8 h8) (hb : Below wr.heap.size wr w') : Lc w0 w w' es XS i v8 h8 := ⟨q07 h.own hb, fun hd m => (h.mks hd m).move (Same5.of_below hb), h.at_, h.ax⟩
theorem Lb.start (h : Lb w0 w wr gb vh es YY v3 XS i) {e : He} {hh : List Hdr} (he : es[i]? = some e) (hy : YY[i]? = some hh) : Lc w0 w wr es XS i (hdV e.1) hh :=
 ⟨h.be.hd i e hh he hy, h.done i hh hy, fun k hk => .inr ⟨e, he, hk⟩, fun j x k hx hk e2 => by
  obtain ⟨_, _, _, _, d⟩ := h.xs j x hx
  rcases d k hk with f | ⟨e', f1, f2⟩
  · have := h.hi i e k he e2; omega
  · have := h.be.ap j i e' e k f1 he f2 e2
    have hl := (List.getElem?_eq_some_iff.1 hx).1
    have := h.xl
    omega⟩
theorem Lb.grow (h : Lb w0 w wr gb vh es YY v3 XS i) (hc : Lc w0 w wr es XS i v8 h8) {hd : Hdr} (hn : ∀ e hh, es[i]? = some e → YY[i]? = some hh → hh.length ≤ h8.length) (hmk : Row5 wr hd [mk5 i])
    (ho : w'.ownsRow w0.heap.size 41 1 v' (h8 ++ [hd]).length (encs hdV (h8 ++ [hd]))) (hb : Below w0.heap.size w0 w') (hk : Kp wr w' 41 h8.length v8.ownBlock) (hat : v'.ownBlock = v8.ownBlock ∨ ∃ b, v'.ownBlock = some b ∧ wr.heap.size ≤ b) :
    Lb w0 w w' gb vh es YY v3 XS i ∧ Lc w0 w w' es XS i v' (h8 ++ [hd]) := by
 have ne : ∀ (k : Nat) cells t fz, wr.heap[k]? = some (.cells cells t fz) → t ≠ 41 → some k ≠ v8.ownBlock := fun k cells t fz hcc ht e => by
  obtain ⟨c2, hc2⟩ := q0b hc.own k e.symm
  rw [hcc] at hc2
  injection hc2 with hc2; injection hc2 with _ hc2; exact ht hc2
 have s5 : Same5 wr w' := Same5.of_grown hk.grown fun k cells fz hcc => ne k cells 5 fz hcc (by decide)
 refine ⟨⟨h.be.kp hb hk hc.own fun j e hh a b e2 => ?_, fun j hh a x c => (h.done j hh a x c).move s5, q0t h.all fun k e => ?_, h.xl, fun j x e => ?_, Nat.le_trans h.base hk.grown.size, h.be0, h.hi⟩, ⟨ho, fun x m => ?_, fun k e => ?_, fun j x k a b e => ?_⟩⟩
 ·
  by_cases hnone : (hdV e.1).ownBlock = none
  · rw [own_noneL (h.be.hd j e hh a b) hnone]; exact Nat.zero_le _
  · obtain ⟨k, hk'⟩ := Option.ne_none_iff_exists'.1 hnone
    rcases hc.at_ k (by rw [← e2]; exact hk') with f | ⟨e', f1, f2⟩
    · have := h.hi j e k a hk'; omega
    · obtain rfl := h.be.ap i j e' e k f1 a f2 hk'
      exact hn e hh a b
 · obtain ⟨c, hcc⟩ := q0b h.all k e
   exact hk.grown.block k (q0u h.all k e) (ne k c 35 (0, 0) hcc (by decide))
 ·
  obtain ⟨hh, a, b, c, d⟩ := h.xs j x e
  refine ⟨hh, own_kp a hk fun e2 => ?_, fun hd m => (b hd m).move s5, c, d⟩
  by_cases hnone : (hdV x).ownBlock = none
  · rw [own_noneL a hnone]; exact Nat.zero_le _
  · obtain ⟨k, hk'⟩ := Option.ne_none_iff_exists'.1 hnone
    exact absurd (e2.symm.trans hk') (hc.ax j x k e hk')
 · rcases List.mem_append.1 m with m | m
   · exact (hc.mks x m).move s5
   · rw [List.mem_singleton.1 m]; exact hmk.move s5
 · rcases hat with f | ⟨b, f, hb'⟩
   · exact hc.at_ k (by rw [← f]; exact e)
   · rw [f] at e; injection e with e; left; have := h.base; omega
 ·
  rcases hat with f | ⟨b', f, hb'⟩
  · exact hc.ax j x k a b (by rw [← f]; exact e)
  · rw [f] at e; injection e with e
    obtain ⟨hh, o, _⟩ := h.xs j x a
    have := q0u o k b
    omega
theorem Lb.next (h : Lb w0 w wr gb vh es YY v3 XS i) {x : Hdr} (hc : Lc w0 w wr es XS i (hdV x) h8) (hl : h8.length ≤ 1000)
    (ho : w'.ownsRow w.heap.size 35 1 v' (es.map (·.1) ++ XS ++ [x]).length (encs hdV (es.map (·.1) ++ XS ++ [x]))) (hb0 : Below w0.heap.size w0 w') (hg : wr.grownBy w' v3.ownBlock) : Lb w0 w w' gb vh es YY v' (XS ++ [x]) (i + 1) := by
 have ne : ∀ (k : Nat) cells t fz, wr.heap[k]? = some (.cells cells t fz) → t ≠ 35 → some k ≠ v3.ownBlock := fun k cells t fz hcc ht e => by
  obtain ⟨c2, hc2⟩ := q0b h.all k e.symm
  rw [hcc] at hc2
  injection hc2 with hc2; injection hc2 with _ hc2; exact ht hc2
 have s5 : Same5 wr w' := Same5.of_grown hg fun k cells fz hcc => ne k cells 5 fz hcc (by decide)
 have mv : ∀ {v : Value} {n : Nat} {xs : List Value}, wr.ownsRow w0.heap.size 41 1 v n xs → w'.ownsRow w0.heap.size 41 1 v n xs := fun {v n xs} o => q0t o fun k e => by
  obtain ⟨c, hcc⟩ := q0b o k e
  exact hg.block k (q0u o k e) (ne k c 41 (0, 0) hcc (by decide))
 refine ⟨h.be.other hb0 fun k cells t hcc ht => hg.block k (q0l hcc) (ne k cells t (0, 0) hcc (by rcases ht with rfl | rfl | rfl <;> decide)), fun j hh a y c => (h.done j hh a y c).move s5, by rw [← List.append_assoc]; exact ho, by rw [List.length_append, h.xl]; rfl, fun j y e => ?_, Nat.le_trans h.base hg.size, h.be0, h.hi⟩
 by_cases hj : j < XS.length
 · rw [List.getElem?_append_left hj] at e
   obtain ⟨hh, a, b, c, d⟩ := h.xs j y e
   exact ⟨hh, mv a, fun hd m => (b hd m).move s5, c, d⟩
 ·
  rw [List.getElem?_append_right (by omega)] at e
  have hl' := (List.getElem?_eq_some_iff.1 e).1
  simp at hl'
  have hji : j = i := by have := h.xl; omega
  subst hji
  have : j - XS.length = 0 := by have := h.xl; omega
  rw [this] at e
  obtain rfl := Option.some.inj e
  exact ⟨h8, mv hc.own, fun hd m => (hc.mks hd m).move s5, hl, hc.at_⟩
end
theorem La.toLb {w0 w wr : World} {gb : Nat} {vh v3 : Value} {es : List He} {HH YY : List (List Hdr)} (h : La w0 w wr gb vh es HH YY v3 es.length) (hi : ∀ (j : Nat) e k, es[j]? = some e → (hdV e.1).ownBlock = some k → k < w.heap.size) : Lb w0 w wr gb vh es YY v3 [] 0 :=
 ⟨h.be, fun j hh a => h.done j hh (by have := (List.getElem?_eq_some_iff.1 a).1; have := h.be.len; omega) a, by have := h.all; rw [List.take_length] at this; rw [List.append_nil]; exact this, rfl, fun j x e => by simp at e, h.base, h.be0, hi⟩
theorem Lb.ends {w0 w wr : World} {gb : Nat} {vh v3 : Value} {es : List He} {YY : List (List Hdr)} {XS : List Hdr} (h : Lb w0 w wr gb vh es YY v3 XS es.length) (hY : ∀ j : Nat, (YY.getD j []).length ≤ 1000) {i : Nat} (hi : i < 2 * es.length) :
    ∃ (x : Hdr) (hh : List Hdr), (es.map (·.1) ++ XS)[i]? = some x ∧ wr.ownsRow w0.heap.size 41 1 (hdV x) hh.length (encs hdV hh) ∧ (∀ hd ∈ hh, Row5 wr hd [mk5 (i % es.length)]) ∧ hh.length ≤ 1000 := by
 by_cases hlt : i < es.length
 ·
  have he := List.getElem?_eq_getElem hlt
  have hy := List.getElem?_eq_getElem (show i < YY.length by rw [h.be.len]; exact hlt)
  refine ⟨es[i].1, YY[i]'(by rw [h.be.len]; exact hlt), by rw [List.getElem?_append_left (by simpa using hlt), List.getElem?_map, he]; rfl, h.be.hd i _ _ he hy, by rw [Nat.mod_eq_of_lt hlt]; exact h.done i _ hy, ?_⟩
  have := hY i
  rw [List.getD_eq_getElem?_getD, hy] at this
  exact this
 · have hx := List.getElem?_eq_getElem (show i - es.length < XS.length by rw [h.xl]; omega)
   obtain ⟨hh, a, b, c, _⟩ := h.xs _ _ hx
   refine ⟨_, hh, by rw [List.getElem?_append_right (by simp; omega), List.length_map]; exact hx, a, ?_, c⟩
   rw [show i % es.length = i - es.length by rw [Nat.mod_eq_sub_mod (by omega), Nat.mod_eq_of_lt (by omega)]]
   exact b
theorem conv1 (w : World) (bk o c : Nat) (x : Int) (h : w.cell? ⟨bk, o, none⟩ = some (.int .u8 x)) : (convert 41 9 (.slice (some ⟨bk, o, none⟩) 1 c)).run Try.prog w = .ok (.string (strOfNums [x])) w :=
 run_convert_bytes_arg (P := Try.prog) w 41 5 Try.underlying41 Try.underlying5 bk o 1 c [x] rfl (fun i hi => by
  obtain rfl : i = 0 := by omega
  exact h) 9 Try.underlying9
theorem alloc_cell0 (w : World) (x : Int) : (w.alloc (.cells #[.int .u8 x] 5)).cell? ⟨w.heap.size, 0, none⟩ = some (.int .u8 x) := by rw [q0h (q0z w _)]; rfl
theorem tmod_natL (a b : Nat) : Int.tmod (a : Int) (b : Int) = ((a % b : Nat) : Int) := by
 rw [Int.tmod_eq_emod_of_nonneg (by omega)]; rfl
set_option maxHeartbeats 3200000 in
set_option maxRecDepth 100000 in
theorem lists_calls (w0 w : World) (gb : Nat) (vh : Value) (es : List He) (HH : List (List Hdr)) (h : Be5 w0 w gb vh es HH) (hes : es.length ≤ 10000000) (hb : ∀ hh ∈ HH, hh.length ≤ 300) :
    Calls Try.prog 28 #[.pointer (some ⟨gb, 0, none⟩)] w fun e w' => e = .returned (.bool true) ∧ Below w0.heap.size w0 w' := by
 have hl300 : ∀ j : Nat, (HH.getD j []).length ≤ 300 := fun j => by
  by_cases hj : j < HH.length
  · rw [List.getD_eq_getElem?_getD, List.getElem?_eq_getElem hj]; exact hb _ (List.getElem_mem hj)
  · rw [List.getD_eq_getElem?_getD, List.getElem?_eq_none (by omega)]; exact Nat.zero_le _
 have hhi : ∀ (j : Nat) e k, es[j]? = some e → (hdV e.1).ownBlock = some k → k < w.heap.size := fun j e k he hk => by
  have hj := (List.getElem?_eq_some_iff.1 he).1
  exact q0u (h.hd j e _ he (List.getElem?_eq_getElem (show j < HH.length by rw [h.len]; exact hj))) k hk
 obtain ⟨vA, vc, hvh⟩ := h.bh.shape
 subst hvh
 have hstart : La w0 w w gb (.slice vA es.length vc) es HH HH (.slice none 0 0) 0 := ⟨h, fun _ => rfl, fun j hh hj => by omega, own_nil w _ 35, Nat.le_refl _, h.bh.below.size⟩
 have HS := sqM hstart
 have HE := sqM hes
 have HL3 := sqM hl300
 have HHI := sqM hhi
 clear h hes hb hstart hl300 hhi
 go_enter Try.func28, Try.ntmps28
 go_wp2
 go_loopw [3, 4] (fun v3 v4 wr => ∃ (i : Nat) (YY : List (List Hdr)), i ≤ es.length ∧ v4 = .int .i64 (i : Int) ∧ Aside0 (La w0 w wr gb (.slice vA es.length vc) es HH YY v3 i)) (fun _ v4 _ => es.length - (intOf v4).toNat)
 case atStart => exact ⟨0, HH, Nat.zero_le _, rfl, HS⟩
 case round =>
  clear HS
  obtain ⟨i, YY, hi, rfl, HA⟩ := hrel
  have hc0 := HA.out.be.bh.cell
  by_cases hlt : i < es.length
  ·
   have HLT := sqM hlt
   have HW1 := sqM (wr1 (i := i) hlt (by have := HE.out; omega))
   obtain ⟨e, he⟩ : ∃ e, es[i]? = some e := ⟨_, List.getElem?_eq_getElem hlt⟩
   obtain ⟨hh, hhh⟩ : ∃ hh, YY[i]? = some hh := ⟨_, List.getElem?_eq_getElem (by have := HA.out.be.len; omega)⟩
   obtain ⟨gv, c', ev, x1, _⟩ := HA.out.be.bh.entry he
   injection ev with ev1 _ ev2
   subst ev1
   subst ev2
   obtain ⟨n, hn⟩ : ∃ n, n = (HH.getD i []).length := ⟨_, rfl⟩
   have hhl : hh.length = n := by
    have := HA.out.lens i
    rw [List.getD_eq_getElem?_getD, hhh] at this
    rw [hn]; exact this
   have hn3 : n ≤ 300 := by rw [hn]; exact HL3.out i
   obtain ⟨A, c, y1⟩ := q0q (HA.out.be.hd i e hh he hhh)
   rw [hhl] at y1
   rw [y1] at x1
   have HEI := sqM he
   have HY1 := sqM y1
   have HEE : Aside0 (e.1 = (A, n, c)) := ⟨by
    have y := y1
    unfold hdV at y
    injection y with a b d
    rw [← a, ← b, ← d]⟩
   have HNI := sqM hn
   have HN3 := sqM hn3
   have hii : (i : Int) < (es.length : Int) := by omega
   clear hlt hi he hhh y1 hn hn3 hhl hh
   go_wp2
   clear x1 hc0
   have HIN : Aside0 (La w0 w wr gb (.slice (some ⟨gv, 0, none⟩) es.length vc) es HH YY u3 i ∧ ∀ hh, YY[i]? = some hh → ∀ (j : Nat) hd, j < 0 → hh[j]? = some hd → Row5 wr hd [mk5 i]) := ⟨HA.out, fun hh _ j hd hj => by omega⟩
   clear HA
   go_loopw [6] (fun v6 w' => ∃ (k : Nat) (YY : List (List Hdr)), k ≤ n ∧ v6 = .int .i64 (k : Int) ∧ Aside0 (La w0 w w' gb (.slice (some ⟨gv, 0, none⟩) es.length vc) es HH YY u3 i ∧ ∀ hh, YY[i]? = some hh → ∀ (j : Nat) hd, j < k → hh[j]? = some hd → Row5 w' hd [mk5 i])) (fun v6 _ => n - (intOf v6).toNat)
   case atStart => exact ⟨0, YY, Nat.zero_le _, rfl, HIN⟩
   case round =>
    clear HIN
    obtain ⟨k, YY, hk, rfl, HIN⟩ := hrel
    by_cases hlt : k < n
    ·
     have HKL := sqM hlt
     have HWK := sqM (wr1 (i := k) hlt (by have := HN3.out; omega))
     obtain ⟨hh, hhh⟩ : ∃ hh, YY[i]? = some hh := ⟨_, List.getElem?_eq_getElem (by have := HIN.out.1.be.len; have := HLT.out; omega)⟩
     have hhl : hh.length = n := by
      have := HIN.out.1.lens i
      rw [List.getD_eq_getElem?_getD, hhh] at this
      rw [HNI.out]; exact this
     have ho := HIN.out.1.be.hd i e hh HEI.out hhh
     rw [HY1.out, hhl] at ho
     obtain ⟨g, eg⟩ := own_some ho (by omega)
     subst eg
     have HHH := sqM hhh
     have HHL := sqM hhl
     obtain ⟨hd0, z1⟩ : ∃ hd, hh[k]? = some hd := ⟨_, List.getElem?_eq_getElem (by omega)⟩
     have z2 : wr.cell? ⟨g, k, none⟩ = some (hdV hd0) := by
      have := ho.cells rfl k (hdV hd0) (by unfold encs; rw [List.getElem?_map, z1]; rfl)
      rw [q1r, Nat.zero_add] at this
      exact this
     have hki : (k : Int) < (n : Int) := by omega
     clear hlt hk hhh hhl z1
     obtain ⟨_, _, z3, zl⟩ := head_cell (hs := hh) (by rw [HHL.out]; exact ho) k (by rw [HHL.out]; exact HKL.out)
     have z2' : ∀ V, (wr.alloc V).cell? ⟨g, k, none⟩ = some (hdV hd0) := fun V => q0c (q02 (Below.refl _ _) V) z2
     have z3' : ∀ V, (wr.alloc V).frozen? ⟨g, k, none⟩ = false := fun V => by rw [World.frozen?_alloc_old _ _ _ (Nat.ne_of_lt zl)]; exact z3
     obtain ⟨w6, ew6⟩ : ∃ w6, w6 = wr.alloc (.cells #[.int .u8 (mk5 i)] 5) := ⟨_, rfl⟩
     have HR6 : Aside0 (Row5 w6 (some ⟨wr.heap.size, 0, none⟩, 1, 1) [mk5 i]) := ⟨by rw [ew6]; exact row5_lit wr [mk5 i] (0, 0) (by simp)⟩
     have HB6 : Aside0 (Below wr.heap.size wr w6) := ⟨by rw [ew6]; exact q02 (Below.refl _ _) _⟩
     have HA6 := sqM (HIN.out.1.moved HB6.out)
     have EW6 := sqM ew6
     clear z2 z3 ho zl ew6
     have hput := HA6.out.put HEI.out HHH.out HY1.out k (some ⟨wr.heap.size, 0, none⟩, 1, 1)
     have hil : i < YY.length := by have := HIN.out.1.be.len; have := HLT.out; omega
     have hs6 : Same5 wr w6 := Same5.of_below HB6.out
     have HIN2 : Aside0 (La w0 w (w6.setCell ⟨g, k, none⟩ (hdV (some ⟨wr.heap.size, 0, none⟩, 1, 1))) gb (.slice (some ⟨gv, 0, none⟩) es.length vc) es HH (YY.set i (hh.set k (some ⟨wr.heap.size, 0, none⟩, 1, 1))) u3 i ∧ ∀ hh', (YY.set i (hh.set k (some ⟨wr.heap.size, 0, none⟩, 1, 1)))[i]? = some hh' → ∀ (j : Nat) hd, j < k + 1 → hh'[j]? = some hd → Row5 (w6.setCell ⟨g, k, none⟩ (hdV (some ⟨wr.heap.size, 0, none⟩, 1, 1))) hd [mk5 i]) := ⟨hput.1, fun hh' e1 j hd hj e2 => by
      rw [List.getElem?_set_self hil] at e1
      obtain rfl := Option.some.inj e1
      by_cases hjk : k = j
      · subst hjk
        rw [List.getElem?_set_self (by rw [HHL.out]; exact HKL.out)] at e2
        obtain rfl := Option.some.inj e2
        exact HR6.out.move hput.2
      · rw [List.getElem?_set_ne hjk] at e2
        exact ((HIN.out.2 hh HHH.out j hd (by omega) e2).move hs6).move hput.2⟩
     clear hput hil hs6 HIN HA6 HB6 HR6
     go_wp2
     go_roundw
     case rel => exact ⟨k + 1, _, HKL.out, by rw [HWK.out], by rw [mk5_eq]; have := HIN2; rw [EW6.out] at this; exact this⟩
     case measure => exact meas HWK.out HKL.out
    ·
     obtain rfl : n = k := by omega
     clear hlt hk
     have hlast : ∀ hh, YY[i]? = some hh → ∀ hd ∈ hh, Row5 wr hd [mk5 i] := fun hh e hd hm => by
      obtain ⟨j, hj, rfl⟩ := List.getElem_of_mem hm
      have hl := HIN.out.1.lens i
      rw [List.getD_eq_getElem?_getD, e, ← HNI.out] at hl
      have hl' : hh.length = n := hl
      exact HIN.out.2 hh e j _ (by omega) (List.getElem?_eq_getElem hj)
     have HLA := sqM hlast
     have HA := sqM HIN.out.1
     have HOB : Aside0 ((es.take i).length ≤ 10000000) := ⟨by rw [List.length_take]; have := HE.out; omega⟩
     clear hlast HIN
     go_wp2_with (first
      | ((with_reducible refine q05 (b := .append) (xs := #[.tmp 41, .tmp 43]) rfl ?_); at_builtin; refine q12 (w0 := wr) hdV w.heap.size rfl (.tmp 41) (.tmp 43) 85 35 (.slice none 0 0) 24 rfl Try.underlying85 info35' rfl (by decide) u3 ((es.take i).map (·.1)) (A, n, c) ?q1 ?q2 ?q3 HA.out.all (Below.refl _ _) HA.out.base ?q4 ?_; (case q3 => exact rfl); (case q4 => have := HOB.out; rw [List.length_map]; omega); (case q1 => rfl); (case q2 => rfl); intro v1 w1 ho1 hb1 hg1 _; have HA1 := sqM (HA.out.next HEI.out HLA.out (by rw [HEE.out]; exact ho1) (Nat.le_trans HA.out.base hb1.size) (HA.out.be.bh.below.trans (hb1.mono HA.out.be0)) hg1); clear ho1 hb1 hg1))
     go_roundw
     case rel => exact ⟨i + 1, _, HLT.out, by rw [HW1.out], HA1⟩
     case measure => exact meas HW1.out HLT.out
  ·
   obtain rfl : i = es.length := by omega
   have hy3 : ∀ j : Nat, (YY.getD j []).length ≤ 300 := fun j => by rw [HA.out.lens j]; exact HL3.out j
   have HY3 := sqM hy3
   have HBB := sqM (HA.out.toLb HHI.out)
   clear hlt hi hy3 HA
   go_wp2
   clear hc0
   go_loopw [3, 7] (fun v3 v7 wr => ∃ (i : Nat) (XS : List Hdr), i ≤ es.length ∧ v7 = .int .i64 (i : Int) ∧ Aside0 (Lb w0 w wr gb (.slice vA es.length vc) es YY v3 XS i)) (fun _ v7 _ => es.length - (intOf v7).toNat)
   case atStart => exact ⟨0, [], Nat.zero_le _, rfl, HBB⟩
   case round =>
    clear HBB
    obtain ⟨i, XS, hi, rfl, HB⟩ := hrel
    have hc0 := HB.out.be.bh.cell
    by_cases hlt : i < es.length
    ·
     have HLT := sqM hlt
     have HW1 := sqM (wr1 (i := i) hlt (by have := HE.out; omega))
     obtain ⟨e, he⟩ : ∃ e, es[i]? = some e := ⟨_, List.getElem?_eq_getElem hlt⟩
     obtain ⟨hh, hhh⟩ : ∃ hh, YY[i]? = some hh := ⟨_, List.getElem?_eq_getElem (by have := HB.out.be.len; omega)⟩
     obtain ⟨gv, c', ev, x1, _⟩ := HB.out.be.bh.entry he
     injection ev with ev1 _ ev2
     subst ev1
     subst ev2
     have hn3 : hh.length ≤ 300 := by
      have := HY3.out i
      rw [List.getD_eq_getElem?_getD, hhh] at this
      exact this
     obtain ⟨A, c, y1⟩ := q0q (HB.out.be.hd i e hh he hhh)
     have hst := HB.out.start he hhh
     rw [y1] at x1 hst
     have HEI := sqM he
     have HHH := sqM hhh
     have HN3 := sqM hn3
     have HIN : Aside0 (Lb w0 w wr gb (.slice (some ⟨gv, 0, none⟩) es.length vc) es YY u3 XS i ∧ Lc w0 w wr es XS i (.slice A hh.length c) hh ∧ hh.length = hh.length + 0) := ⟨HB.out, hst, rfl⟩
     have hii : (i : Int) < (es.length : Int) := by omega
     clear hlt hi he hhh y1 hn3 hst HB
     go_wp2
     clear x1 hc0
     go_loopw [8, 9] (fun v8 v9 w' => ∃ (k : Nat) (h8 : List Hdr), k ≤ 20 ∧ v9 = .int .i64 (k : Int) ∧ Aside0 (Lb w0 w w' gb (.slice (some ⟨gv, 0, none⟩) es.length vc) es YY u3 XS i ∧ Lc w0 w w' es XS i v8 h8 ∧ h8.length = hh.length + k)) (fun _ v9 _ => 20 - (intOf v9).toNat)
     case atStart => exact ⟨0, hh, Nat.zero_le _, rfl, HIN⟩
     case round =>
      clear HIN
      obtain ⟨k, h8, hk, rfl, HIN⟩ := hrel
      by_cases hlt : k < 20
      ·
       have HKL := sqM hlt
       have HWK := sqM (wr1 (i := k) hlt (by decide))
       have HIN6 := HIN
       have HN8 := sqM HIN.out.2.2
       have hki : (k : Int) < 20 := by omega
       clear hlt hk HIN
       go_wp2_with (first
        | (go_at_call 25; (with_reducible refine (QR.l5_mark.calls (i : Int) (mk5 i) _ (mk5_f i)).mono ?_); rintro e w' ⟨rfl, ⟨nd, rfl⟩⟩; have hb6 : Below wr.heap.size wr ((wr.drewN nd).alloc (.cells #[.int .u8 (mk5 i)] 5)) := q02 (q00 (Below.refl _ _) nd) _; have HR6 : Aside0 (Row5 ((wr.drewN nd).alloc (.cells #[.int .u8 (mk5 i)] 5)) (some ⟨wr.heap.size, 0, none⟩, 1, 1) [mk5 i]) := ⟨row5_lit (wr.drewN nd) [mk5 i] (0, 0) (by simp)⟩; have HL6 := sqM (HIN6.out.1.moved hb6); have HC6 := sqM (HIN6.out.2.1.moved hb6); clear hb6)
        | ((with_reducible refine q05 (b := .append) (xs := #[.tmp 66, .tmp 70]) rfl ?_); at_builtin; refine print_append_keep (w0 := w0) hdV w0.heap.size rfl (.tmp 66) (.tmp 70) 35 41 (.slice none 0 0) 24 rfl Try.underlying35 info41' rfl (by decide) u8 h8 (some ⟨wr.heap.size, 0, none⟩, 1, 1) ?q1 ?q2 ?q3 HC6.out.own HL6.out.be.bh.below (Nat.le_trans HL6.out.be0 HL6.out.base) ?q4 ?_; (case q3 => exact rfl); (case q4 => have := HN8.out; have := HN3.out; have := HKL.out; omega); (case q1 => rfl); (case q2 => rw [show ((wr.drewN nd).alloc (.cells #[.int .u8 (mk5 i)] 5)).heap.size = wr.heap.size + 1 by simp]; rfl); intro v1 w1 ho1 hb1 hk1 ha1; have HG := sqM (HL6.out.grow HC6.out (fun e' hh' a b => by rw [HHH.out] at b; obtain rfl := Option.some.inj b; rw [HN8.out]; exact Nat.le_add_right _ _) HR6.out ho1 hb1 hk1 ha1); clear ho1 hb1 hk1 ha1))
       go_roundw
       case rel => exact ⟨k + 1, _, HKL.out, rfl, ⟨HG.out.1, HG.out.2, by rw [List.length_append, HN8.out]; rfl⟩⟩
       case measure => exact meas rfl HKL.out
      ·
       obtain ⟨HB, HC, HN8⟩ : Aside0 (Lb w0 w wr gb (.slice (some ⟨gv, 0, none⟩) es.length vc) es YY u3 XS i) ∧ Aside0 (Lc w0 w wr es XS i u8 h8) ∧ Aside0 (h8.length ≤ 1000) := ⟨⟨HIN.out.1⟩, ⟨HIN.out.2.1⟩, ⟨by have := HIN.out.2.2; have := HN3.out; omega⟩⟩
       obtain ⟨A8, c8, e8⟩ := q0q HC.out.own
       subst e8
       have HXL : Aside0 ((es.map (·.1) ++ XS).length ≤ 20000000) := ⟨by rw [List.length_append, List.length_map, HB.out.xl]; have := HE.out; have := HLT.out; omega⟩
       have hki : ¬ ((k : Int) < 20) := by omega
       clear hlt hk HIN
       go_wp2_with (first
        | ((with_reducible refine q05 (b := .append) (xs := #[.tmp 72, .tmp 74]) rfl ?_); at_builtin; refine q12 (w0 := wr) hdV w.heap.size rfl (.tmp 72) (.tmp 74) 85 35 (.slice none 0 0) 24 rfl Try.underlying85 info35' rfl (by decide) u3 (es.map (·.1) ++ XS) (A8, h8.length, c8) ?q1 ?q2 ?q3 HB.out.all (Below.refl _ _) HB.out.base ?q4 ?_; (case q3 => exact rfl); (case q4 => have := HXL.out; omega); (case q1 => rfl); (case q2 => rfl); intro v1 w1 ho1 hb1 hg1 _; have HB1 := sqM (HB.out.next (x := (A8, h8.length, c8)) HC.out HN8.out ho1 (HB.out.be.bh.below.trans (hb1.mono HB.out.be0)) hg1); clear ho1 hb1 hg1))
       go_roundw
       case rel => exact ⟨i + 1, _, HLT.out, by rw [HW1.out], HB1⟩
       case measure => exact meas HW1.out HLT.out
    ·
     obtain rfl : i = es.length := by omega
     obtain ⟨n3, hn3⟩ : ∃ n3, n3 = (es.map (·.1) ++ XS).length := ⟨_, rfl⟩
     have hN3 : n3 = 2 * es.length := by rw [hn3, List.length_append, List.length_map, HB.out.xl]; omega
     have hend := fun (t : Nat) (ht : t < 2 * es.length) => HB.out.ends (fun j => Nat.le_trans (HY3.out j) (by decide)) ht
     obtain ⟨A3, c3, e3⟩ := q0q HB.out.all
     subst e3
     have hoa := HB.out.all
     rw [← hn3] at hoa
     rw [← hn3]
     have HEND := sqM hend
     have HOA := sqM hoa
     have HBE := sqM HB.out.be
     have HN3 := sqM hN3
     clear hlt hi hn3 hN3 hend hoa HB
     go_wp2
     obtain ⟨w3, hw3⟩ : ∃ w3, w3 = wr := ⟨_, rfl⟩
     rw [← hw3] at HEND HOA HBE ⊢
     clear hw3 hc0
     go_loopw [10] (fun v10 w' => ∃ t : Nat, t ≤ n3 ∧ v10 = .int .i64 (t : Int) ∧ Aside0 (Below w3.heap.size w3 w')) (fun v10 _ => n3 - (intOf v10).toNat)
     case atStart => exact ⟨0, Nat.zero_le _, rfl, ⟨Below.refl _ _⟩⟩
     case round =>
      obtain ⟨t, ht, rfl, HBT⟩ := hrel
      by_cases hlt : t < n3
      ·
       obtain ⟨x, hh, e1, ho, hrow, hl⟩ := HEND.out t (by rw [← HN3.out]; exact hlt)
       obtain ⟨A, n, c⟩ := x
       obtain ⟨A', c', ev⟩ := q0q ho
       injection ev with ea eb ec
       have eb' : n = hh.length := eb
       subst eb'
       clear ea eb ec A' c'
       obtain ⟨g3, eg3⟩ := own_some HOA.out (by omega)
       subst eg3
       have x1 : w3.cell? ⟨g3, t, none⟩ = some (.slice A hh.length c) := by
        have := HOA.out.cells rfl t (hdV (A, hh.length, c)) (by unfold encs; rw [List.getElem?_map, e1]; rfl)
        rw [q1r, Nat.zero_add] at this
        exact this
       have HX1 := sqM x1
       have HO := sqM ho
       have HROW := sqM hrow
       have HL := sqM hl
       have HLT := sqM hlt
       have HW1 := sqM (wr1 (i := t) hlt (by have := HN3.out; have := HE.out; omega))
       have hti : (t : Int) < (n3 : Int) := by omega
       clear ht e1 ho hrow hl x1
       go_wp2
       go_loopw [11] (fun v11 w' => ∃ k : Nat, k ≤ hh.length ∧ v11 = .int .i64 (k : Int) ∧ Aside0 (Below w3.heap.size w3 w')) (fun v11 _ => hh.length - (intOf v11).toNat)
       case atStart => exact ⟨0, Nat.zero_le _, rfl, HBT⟩
       case round =>
        clear HBT
        obtain ⟨k, hk, rfl, HBT⟩ := hrel
        have x1 := q0c HBT.out HX1.out
        by_cases hkl : k < hh.length
        ·
         have HKL := sqM hkl
         have HWK := sqM (wr1 (i := k) hkl (by have := HL.out; omega))
         have ho : w3.ownsRow w0.heap.size 41 1 (.slice A hh.length c) hh.length (encs hdV hh) := HO.out
         obtain ⟨gA, eA⟩ := own_some ho (by omega)
         obtain ⟨hd, z0⟩ : ∃ hd, hh[k]? = some hd := ⟨_, List.getElem?_eq_getElem hkl⟩
         have eA' : A = some ⟨gA, 0, none⟩ := eA
         subst eA'
         have z1 : w3.cell? ⟨gA, k, none⟩ = some (hdV hd) := by
          have := ho.cells rfl k (hdV hd) (by unfold encs; rw [List.getElem?_map, z0]; rfl)
          rw [q1r, Nat.zero_add] at this
          exact this
         have hr := HROW.out hd (List.mem_of_getElem? z0)
         obtain ⟨Ad, nd, cd⟩ := hd
         obtain ⟨r1, r2, r3, r4⟩ := hr
         obtain ⟨bk, o, cells, fz, f1, f2, f3⟩ := r4 (Nat.zero_lt_one)
         have r1' : nd = 1 := r1
         have f1' : Ad = some ⟨bk, o, none⟩ := f1
         subst r1'
         subst f1'
         have f4 : w3.cell? ⟨bk, o, none⟩ = some (.int .u8 (mk5 (t % es.length))) := by
          rw [cell_of_row w3 bk o cells 5 fz f2]
          exact f3 0 _ rfl
         have x2 : wr.cell? ⟨gA, k, none⟩ = some (.slice (some ⟨bk, o, none⟩) 1 cd) := q0c HBT.out z1
         have x3 : wr.cell? ⟨bk, o, none⟩ = some (.int .u8 (mk5 (t % es.length))) := q0c HBT.out f4
         obtain ⟨q, hq⟩ : ∃ q, q = t % es.length := ⟨_, rfl⟩
         rw [← hq] at x3
         have x0 := q0c HBT.out HBE.out.bh.cell
         have hki : (k : Int) < (hh.length : Int) := by omega
         have hnz : es ≠ [] := fun e => by
          have h1 := HN3.out
          have h2 := HLT.out
          rw [e] at h1
          have h3 : n3 = 2 * 0 := h1
          omega
         have hrem : Int.tmod (t : Int) (es.length : Int) = (q : Int) := by rw [hq]; exact tmod_natL t es.length
         clear hk ho z0 z1 r1 r2 r3 r4 f1 f2 f3 f4 eA hq
         go_wp2
         refine q1x (n := 19) (S := fun w' => Below wr.heap.size wr w') (ds := []) #[fF,fF,fF,fF,fF,fF,fF,fF,fF,fF,fF,fF,fF,fF,fF,fF,fF,fF,fF] (by kernel_rfl) rfl rfl (q06 (Below.refl _ _)) (fun hHeld => ?_)
         refine pU 0 91 #[tT,fF,fF,fF,fF,fF,fF,fF,fF,fF,fF,fF,fF,fF,fF,fF,fF,fF,fF] ?_
         refine pU 1 92 #[tT,tT,fF,fF,fF,fF,fF,fF,fF,fF,fF,fF,fF,fF,fF,fF,fF,fF,fF] ?_
         refine pU 2 93 #[tT,tT,tT,fF,fF,fF,fF,fF,fF,fF,fF,fF,fF,fF,fF,fF,fF,fF,fF] ?_
         refine tK 3 94 #[tT,tT,tT,tT,fF,fF,fF,fF,fF,fF,fF,fF,fF,fF,fF,fF,fF,fF,fF] hHeld ?_ (hy := by
          intro w' hS
          have hy := q0c hS x1
          go_simp
          with_reducible rfl)
         refine pU 4 95 #[tT,tT,tT,tT,tT,fF,fF,fF,fF,fF,fF,fF,fF,fF,fF,fF,fF,fF,fF] ?_
         refine pU 5 96 #[tT,tT,tT,tT,tT,tT,fF,fF,fF,fF,fF,fF,fF,fF,fF,fF,fF,fF,fF] ?_
         refine tK 6 97 #[tT,tT,tT,tT,tT,tT,tT,fF,fF,fF,fF,fF,fF,fF,fF,fF,fF,fF,fF] hHeld ?_ (hy := by
          intro w' hS
          have hy := q0c hS x2
          go_simp
          with_reducible rfl)
         refine tK 7 98 #[tT,tT,tT,tT,tT,tT,tT,tT,fF,fF,fF,fF,fF,fF,fF,fF,fF,fF,fF] hHeld ?_ (hy := by
          intro w' hS
          have hy := q0c hS x3
          have kc := conv1 w' bk o cd (mk5 q) hy
          go_simp
          with_reducible rfl)
         refine pU 8 99 #[tT,tT,tT,tT,tT,tT,tT,tT,tT,fF,fF,fF,fF,fF,fF,fF,fF,fF,fF] ?_
         refine pU 9 100 #[tT,tT,tT,tT,tT,tT,tT,tT,tT,tT,fF,fF,fF,fF,fF,fF,fF,fF,fF] ?_
         refine pU 10 101 #[tT,tT,tT,tT,tT,tT,tT,tT,tT,tT,tT,fF,fF,fF,fF,fF,fF,fF,fF] ?_
         refine pU 11 102 #[tT,tT,tT,tT,tT,tT,tT,tT,tT,tT,tT,tT,fF,fF,fF,fF,fF,fF,fF] ?_
         refine tK 12 103 #[tT,tT,tT,tT,tT,tT,tT,tT,tT,tT,tT,tT,tT,fF,fF,fF,fF,fF,fF] hHeld ?_ (hy := by
          intro w' hS
          have hy := q0c hS x0
          go_simp
          with_reducible rfl)
         refine pU 13 104 #[tT,tT,tT,tT,tT,tT,tT,tT,tT,tT,tT,tT,tT,tT,fF,fF,fF,fF,fF] ?_
         refine pU 14 105 #[tT,tT,tT,tT,tT,tT,tT,tT,tT,tT,tT,tT,tT,tT,tT,fF,fF,fF,fF] ?_
         refine one_ (i := 15) (N := some 106) #[tT,tT,tT,tT,tT,tT,tT,tT,tT,tT,tT,tT,tT,tT,tT,tT,fF,fF,fF] rfl rfl (by kernel_rfl) (by decide) (fun K hK => ?_)
         refine goes_ Try.func25 (by kernel_rfl) rfl #[.int .i64 (q : Int)] (by rfl) rfl rfl (by simp only [List.map_toArray, List.map_cons, List.map_nil]; rfl) ?_
         refine (QR.l5_mark.calls (q : Int) (mk5 q) _ (mk5_f q)).mono ?_
         rintro e w4 ⟨rfl, ⟨nd, rfl⟩⟩
         refine ⟨_, rfl, ?_⟩
         refine hK.out _ _ (q03 (q06 (Below.refl _ _)) (Nat.le_refl _) (q00 (Below.refl _ _) nd)) (fun hHeld => ?_)
         clear hK K
         refine norm_ (a' := ?_) ?_ ?_
         rotate_left
         · show Act.put _ (some 106) _ = _
           simp only [Act.put, sqA, sqB, sqC, i64_w, i32_w]
           rfl
         refine one_ (i := 16) (N := some 107) #[tT,tT,tT,tT,tT,tT,tT,tT,tT,tT,tT,tT,tT,tT,tT,tT,tT,fF,fF] rfl rfl (by kernel_rfl) (by decide) (fun K hK => ?_)
         go_simp
         refine hK.out _ _ (q02 (q00 (Below.refl _ _) (1 + nd)) _) (fun hHeld => ?_)
         clear hK K
         have z6 : ((wr.drewN (1 + nd)).alloc (.cells #[.int .u8 (mk5 q)] 5)).cell? ⟨wr.heap.size, 0, none⟩ = some (.int .u8 (mk5 q)) := alloc_cell0 (wr.drewN (1 + nd)) (mk5 q)
         refine one_ (i := 17) (N := some 108) #[tT,tT,tT,tT,tT,tT,tT,tT,tT,tT,tT,tT,tT,tT,tT,tT,tT,tT,fF] rfl rfl (by kernel_rfl) (by decide) (fun K hK => ?_)
         have kc := conv1 _ _ 0 1 (mk5 q) z6
         go_simp
         refine hK.out _ _ (q02 (q00 (Below.refl _ _) (1 + nd)) _) (fun hHeld => ?_)
         clear hK K
         refine pU 18 109 #[tT,tT,tT,tT,tT,tT,tT,tT,tT,tT,tT,tT,tT,tT,tT,tT,tT,tT,tT] ?_
         refine done_ (by kernel_rfl) ?_
         have HBX : Aside0 (Below w3.heap.size w3 ((wr.drewN (1 + nd)).alloc (.cells #[.int .u8 (mk5 q)] 5))) := ⟨q02 (q00 HBT.out (1 + nd)) _⟩
         clear hHeld x0 x1 x2 x3 hrem z6
         go_wp2
         go_roundw
         case rel => exact ⟨k + 1, HKL.out, by rw [HWK.out], HBX⟩
         case measure => exact meas HWK.out HKL.out
        ·
         obtain rfl : hh.length = k := by omega
         clear hk hkl
         go_wp2
         clear x1
         go_roundw
         case rel => exact ⟨t + 1, HLT.out, by rw [HW1.out], HBT⟩
         case measure => exact meas HW1.out HLT.out
      ·
       obtain rfl : n3 = t := by omega
       have HBF := sqM (HBE.out.bh.below.trans (HBT.out.mono HBE.out.bh.below.size))
       clear hlt ht HBT HOA HBE
       go_wp2
       go_ret
       exact ⟨rfl, HBF.out⟩
theorem below_drew1d {w : World} (nd : Nat) : Below w.heap.size w (w.drew.drewN nd) := q03 (q06 (Below.refl _ _)) (Nat.le_refl _) (q00 (Below.refl _ _) nd)
theorem fullo_calls (w : World) (base : Nat) (A : Option Addr) (n c : Nat) (m : Int) (ho : w.ownsRow base 5 1 (hdV (A, n, c)) n (nums .u8 (List.replicate n m))) (hn : n ≤ 100000000) : ∀ (W : World) (k : Nat), W = w.drewN k → Calls Try.prog 27 #[.slice A n c, .int .u8 m] W fun e w' => e = .returned (.bool true) ∧ Drawn0 W w' := fun W k hW => by
 have ho' : w.ownsRow base 5 1 (.slice A n c) (List.replicate n m).length (nums .u8 (List.replicate n m)) := by rw [List.length_replicate]; exact ho
 have h1 := (Kd.R_reads' (R_of_own ho'))
 obtain ⟨_, h2, h3⟩ := h1
 rw [List.length_replicate] at h3
 exact full_calls W A n c m (by rw [hW]; exact Kd.C_drewN h3 k) h2 (by omega)
theorem flat_snoc' {α : Type} (l : List (List α)) {i : Nat} {x : List α} (h : l[i]? = some x) : (l.take (i + 1)).flatten = (l.take i).flatten ++ x := by
 obtain ⟨hi, rfl⟩ := List.getElem?_eq_some_iff.1 h
 exact flat_snoc l hi
theorem flat_le {α : Type} (l : List (List α)) (B : Nat) (h : ∀ x ∈ l, x.length ≤ B) : l.flatten.length ≤ l.length * B := by
 induction l with
 | nil => simp
 | cons x l ih =>
  have h1 := h x (List.mem_cons_self ..)
  have h2 := ih (fun y hy => h y (List.mem_cons_of_mem _ hy))
  rw [List.flatten_cons, List.length_append, List.length_cons, Nat.add_mul, Nat.one_mul]
  omega
set_option maxHeartbeats 3200000 in
set_option maxRecDepth 100000 in
theorem ends_calls (w0 w : World) (gb : Nat) (vh : Value) (es : List He) (ms : List (List (List Int))) (bd : List (Nat × Nat)) (h : Bq w0 w gb vh es ms bd) (hes : es.length ≤ 10000000) (hsm : ∀ m ∈ ms, Smal m) :
    Calls Try.prog 12 #[.pointer (some ⟨gb, 0, none⟩)] w fun e w' => e = .returned (.bool true) ∧ Below w0.heap.size w0 w' := by
 obtain ⟨HH, hbe, hsgs⟩ := h.heads
 have hall := h.all hbe.len hsgs
 have hHl := hbe.len
 have hml := h.l1
 have hRl : HH.flatten.length = ms.flatten.length := hall.len
 have hT : ms.flatten.length ≤ 3000000000 := by
  have := flat_le ms 300 (fun m hm => (hsm m hm).1)
  omega
 have hrow : ∀ t, (ms.flatten.getD t []).length ≤ 16777216 := fun t => by
  by_cases ht : t < ms.flatten.length
  · rw [List.getD_eq_getElem?_getD, List.getElem?_eq_getElem ht]
    obtain ⟨m, hm, hr⟩ := List.mem_flatten.1 (List.getElem_mem ht)
    exact (hsm m hm).2 _ hr
  · rw [List.getD_eq_getElem?_getD, List.getElem?_eq_none (by omega)]; exact Nat.zero_le _
 obtain ⟨R, hR⟩ : ∃ R, R = HH.flatten := ⟨_, rfl⟩
 obtain ⟨CS, hCS⟩ : ∃ CS, CS = ms.flatten := ⟨_, rfl⟩
 rw [← hR, ← hCS] at hall hRl
 rw [← hCS] at hT hrow
 obtain ⟨vA, vc, hvh⟩ := h.bh.shape
 subst hvh
 have HB := sqM h
 have HBE := sqM hbe
 have HALL := sqM hall
 have HE := sqM hes
 have HHL := sqM hHl
 have HML := sqM hml
 have HRL := sqM hRl
 have HT := sqM hT
 have HROW := sqM hrow
 have HRE := sqM hR
 have HHB : Aside0 (∀ i hh, HH[i]? = some hh → (HH.take i).flatten.length + hh.length ≤ 3000000000) := ⟨fun i hh e => by
  have hi := (List.getElem?_eq_some_iff.1 e).1
  have e2 := flat_snoc' HH e
  have : (HH.take (i + 1)).flatten.length ≤ HH.flatten.length := by
   conv => rhs; rw [← List.take_append_drop (i + 1) HH, List.flatten_append, List.length_append]
   omega
  rw [e2, List.length_append] at this
  rw [← hR] at this
  omega⟩
 have HSAME : Aside0 (∀ (i : Nat) e m, es[i]? = some e → ms[i]? = some m → ∃ A c1 B c2, hdV e.1 = .slice A m.length c1 ∧ hdV e.2 = .slice B m.length c2 ∧ m.length ≤ c1 ∧ m.length ≤ c2 ∧ Kd.C (Kd.slice 5 (Kd.int .u8)) w A m.length m ∧ Kd.C (Kd.slice 5 (Kd.int .u8)) w B m.length m ∧ m.length ≤ 300) := ⟨fun i e m e1 e2 => by
  have l2 := h.l2
  have hi := (List.getElem?_eq_some_iff.1 e1).1
  have hk := h.held i e m _ e1 e2 (List.getElem?_eq_getElem (show i < bd.length by omega))
  obtain ⟨hs, o1, o2, o3⟩ := hk.rows
  obtain ⟨A, c, hv⟩ := q0q o1
  have hl := o3.len
  have hC := o3.rows.toC (A := A) (n := hs.length) (c := c) (base := (bd[i]'(by omega)).1) (by rw [← hv]; exact o1)
  rw [hl] at hC hv
  have hle : m.length ≤ c := by
   have o1' := o1
   rw [hv] at o1'
   rw [← hl] at *
   rcases o1'.2 with ⟨f, hz⟩ | ⟨g, cap, cur, f, _, _, hnc, _⟩
   · omega
   · injection f with f1 f2 f3; omega
  obtain ⟨k1, k2, k3⟩ := hk.want
  refine ⟨A, c, e.2.1, e.2.2.2, hv, ?_, hle, k2, hC, k3 w (fun _ _ _ => rfl), (hsm m (List.mem_of_getElem? e2)).1⟩
  unfold hdV
  rw [k1]⟩
 clear h hbe hsgs hall hes hHl hml hRl hT hrow hsm hR hCS
 go_enter Try.func12, Try.ntmps12
 go_wp2
 go_loopw [3, 4] (fun v3 v4 wr => ∃ i : Nat, i ≤ es.length ∧ v4 = .int .i64 (i : Int) ∧ Aside0 (Below w.heap.size w wr) ∧ Aside0 (wr.ownsRow w.heap.size 41 1 v3 (HH.take i).flatten.length (encs hdV (HH.take i).flatten))) (fun _ v4 _ => es.length - (intOf v4).toNat)
 case atStart => exact ⟨0, Nat.zero_le _, rfl, ⟨Below.refl _ _⟩, ⟨own_nil w _ 41⟩⟩
 case round =>
  obtain ⟨i, hi, rfl, HBW, HO⟩ := hrel
  have hbh := HBE.out.bh.moved HBW.out
  have hc0 := hbh.cell
  by_cases hlt : i < es.length
  ·
   have HLT := sqM hlt
   have HW1 := sqM (wr1 (i := i) hlt (by have := HE.out; omega))
   obtain ⟨e, he⟩ : ∃ e, es[i]? = some e := ⟨_, List.getElem?_eq_getElem hlt⟩
   obtain ⟨hh, hhh⟩ : ∃ hh, HH[i]? = some hh := ⟨_, List.getElem?_eq_getElem (by have := HHL.out; omega)⟩
   obtain ⟨m, hm⟩ : ∃ m, ms[i]? = some m := ⟨_, List.getElem?_eq_getElem (by have := HML.out; omega)⟩
   obtain ⟨gv, c', ev, x1, x2⟩ := hbh.entry he
   injection ev with ev1 _ ev2
   subst ev1
   subst ev2
   obtain ⟨A, c1, B, c2, y1, y2, y3, y4, y5, y6, y7⟩ := HSAME.out i e m he hm
   have hown := q07 (HBE.out.hd i e hh he hhh) HBW.out
   rw [y1] at x1 hown
   rw [y2] at x2
   have hhl : hh.length = m.length := by
    obtain ⟨A', c', e'⟩ := q0q hown
    injection e' with _ e' _
    exact e'.symm
   rw [hhl] at hown
   have RD : Aside0 (q0j hdV ((none, 0, 0) : Hdr) wr A m.length hh) := ⟨own_reads_of' hown⟩
   have hbd : (HH.take i).flatten.length + hh.length ≤ 3000000000 := HHB.out i hh hhh
   rw [hhl] at hbd
   have HBD := sqM hbd
   have HFL : Aside0 ((HH.take (i + 1)).flatten = (HH.take i).flatten ++ hh) := ⟨flat_snoc' HH hhh⟩
   have HHLN := sqM hhl
   have F1 : Aside0 (∀ k : Nat, Calls Try.prog 24 #[.slice A m.length c1, .slice B m.length c2] (wr.drewN k) fun e w' => e = .returned (.bool true) ∧ Drawn0 (wr.drewN k) w') := ⟨fun k => by
    have cc := same_calls A c1 m B c2 m (wr.drewN k) (Kd.C_drewN (Kd.C_below y5 HBW.out) k) y3 (Kd.C_drewN (Kd.C_below y6 HBW.out) k) y4 (by omega)
    rw [sameL_self] at cc
    exact cc⟩
   have hii : (i : Int) < (es.length : Int) := by omega
   clear hlt hi he hhh hm y1 y2 y3 y4 y5 y6 y7 hown hhl hbd hbh
   go_wp2
   go_quiet (first
    | (go_at_call 24; (with_reducible refine (F1.out _).mono ?_); rintro e w' ⟨rfl, ⟨nd3, rfl⟩⟩; exact ⟨rfl, _, World.drewN_drewN _ _ _⟩))
   obtain ⟨wq, ewq⟩ : ∃ wq : World, wq = wr.drewN nq := ⟨_, rfl⟩
   rw [← ewq]
   have hbq : Below wr.heap.size wr wq := by rw [ewq]; exact q00 (Below.refl _ _) nq
   have x1' : wq.cell? ⟨gv, i * 2, none⟩ = some (.slice A m.length c1) := q0c hbq x1
   have hc0' : wq.cell? ⟨gb, 0, none⟩ = some (.slice (some ⟨gv, 0, none⟩) es.length vc) := q0c hbq hc0
   have HBQ := sqM (q03 HBW.out HBW.out.size hbq)
   have HOQ := sqM (q07 HO.out hbq)
   have RDQ := sqM (RD.out.below hbq)
   clear x1 x2 hc0 ewq hbq F1
   go_wp2_with (first
    | ((with_reducible refine q05 (b := .append) (xs := #[.tmp 44, .tmp 52]) rfl ?_); at_builtin; refine q13 (w0 := w) hdV ((none, 0, 0) : Hdr) w.heap.size rfl (.tmp 44) (.tmp 52) 35 41 (.slice none 0 0) 24 rfl Try.underlying35 info41' rfl (by decide) (fun _ => rfl) u3 (HH.take i).flatten hh A m.length c1 ?q1 ?q2 HOQ.out RDQ.out HBQ.out HBQ.out.size ?q4 ?_; (case q4 => have := HBD.out; omega); (case q1 => rfl); (case q2 => rfl); intro v1 w1 ho1 hb1 _ _; have HO1 := sqM ho1; have HB1 := sqM hb1; clear ho1 hb1))
   go_roundw
   case rel => exact ⟨i + 1, HLT.out, by rw [HW1.out], HB1, ⟨by rw [HFL.out]; exact HO1.out⟩⟩
   case measure => exact meas HW1.out HLT.out
  ·
   have hfull : (HH.take i).flatten = R := by rw [HRE.out, List.take_of_length_le (by have := HHL.out; omega)]
   rw [hfull] at HO
   obtain rfl : i = es.length := by omega
   obtain ⟨r3, c3, er3⟩ := q0q HO.out
   subst er3
   have HBE1 := sqM (HBE.out.moved HBW.out)
   have HSG1 := sqM (HALL.out.move (q0d.of_below HBW.out (Nat.le_refl _)))
   have hgbl := HBE1.out.bh.box
   clear hfull hlt hi hbh
   go_wp2
   have HFL : Aside0 (Fl w0 w wr gb (.slice vA es.length vc) es HH r3 c3 R (contI5 CS 0)) := ⟨by rw [contI5_zero]; exact ⟨HBE1.out, HO.out, HSG1.out⟩⟩
   have HWZ : Aside0 (w.heap.size ≤ wr.heap.size) := ⟨HBW.out.size⟩
   clear HBE1 HO HSG1 hgbl hc0
   go_loopw [6] (fun v6 w' => ∃ i : Nat, i ≤ R.length ∧ v6 = .int .i64 (i : Int) ∧ Aside0 (w.heap.size ≤ w'.heap.size) ∧ Aside0 (Fl w0 w w' gb (.slice vA es.length vc) es HH r3 c3 R (contI5 CS i))) (fun v6 _ => R.length - (intOf v6).toNat)
   case atStart => exact ⟨0, Nat.zero_le _, rfl, HWZ, HFL⟩
   case round =>
    clear HFL HWZ HBW
    obtain ⟨i, hi, rfl, HWZ, HFL⟩ := hrel
    by_cases hlt : i < R.length
    ·
     have HLT := sqM hlt
     have hli : (i : Int) < (R.length : Int) := by omega
     have hil : i < CS.length := by have := HRL.out; omega
     have HIL := sqM hil
     have HW1 := sqM (wr1 (i := i) hlt (by have := HT.out; have := HRL.out; omega))
     obtain ⟨n, hn⟩ : ∃ n, n = (CS.getD i []).length := ⟨_, rfl⟩
     have HNI := sqM hn
     have HRI : Aside0 (n ≤ 16777216) := ⟨by rw [hn]; exact HROW.out i⟩
     clear hlt hi hn hil
     go_wp2
     have HF2 : Aside0 (Fl w0 w wr gb (.slice vA es.length vc) es HH r3 c3 R (contK5 CS i 0)) := ⟨by rw [contK5_zero _ HIL.out]; exact HFL.out⟩
     clear HFL
     go_loopw [7] (fun v7 w' => ∃ k : Nat, k ≤ n ∧ v7 = .int .i64 (k : Int) ∧ Aside0 (w.heap.size ≤ w'.heap.size) ∧ Aside0 (Fl w0 w w' gb (.slice vA es.length vc) es HH r3 c3 R (contK5 CS i k))) (fun v7 _ => n - (intOf v7).toNat)
     case atStart => exact ⟨0, Nat.zero_le _, rfl, HWZ, HF2⟩
     case round =>
      clear HF2 HWZ
      obtain ⟨k, hk, rfl, HWZ, HF2⟩ := hrel
      have hck := contK5_get CS k HIL.out
      have hlen : (List.replicate k (mk5 i) ++ (CS.getD i []).drop k).length = n := by
       rw [List.length_append, List.length_replicate, List.length_drop, ← HNI.out]; omega
      obtain ⟨g3, A3, er3, hRi, y1⟩ := HF2.out.head hck
      subst er3
      rw [hlen] at hRi y1
      by_cases hkl : k < n
      ·
       have HKL := sqM hkl
       have HWK := sqM (wr1 (i := k) hkl (by have := HRI.out; omega))
       obtain ⟨b, o, u, eA, y2, y3⟩ := HF2.out.byte (x := k) (by rw [hlen]; exact hRi) hck (by rw [hlen]; exact hkl)
       subst eA
       have hput := HF2.out.put hRi hck (x := k) (by rw [hlen]; exact hkl) (mk5 i)
       rw [contK5_set CS (by rw [← HNI.out]; exact hkl)] at hput
       have HPUT := sqM hput
       have hki : (k : Int) < (n : Int) := by omega
       clear hkl hk hck hlen hRi hput
       go_wp2
       refine q1x (n := 9) (S := fun w' => ∃ n, w' = wr.drewN n) (ds := [8]) #[fF,fF,fF,fF,fF,fF,fF,fF,fF] (by kernel_rfl) rfl rfl ⟨1, rfl⟩ (fun hHeld => ?_)
       refine pU 0 69 #[tT,fF,fF,fF,fF,fF,fF,fF,fF] ?_
       refine pU 1 70 #[tT,tT,fF,fF,fF,fF,fF,fF,fF] ?_
       refine pU 2 71 #[tT,tT,tT,fF,fF,fF,fF,fF,fF] ?_
       refine tK 3 72 #[tT,tT,tT,tT,fF,fF,fF,fF,fF] hHeld ?_ (hy := by
        intro w' hS
        obtain ⟨z, rfl⟩ := hS
        go_simp
        with_reducible rfl)
       refine pU 4 73 #[tT,tT,tT,tT,tT,fF,fF,fF,fF] ?_
       refine pU 5 74 #[tT,tT,tT,tT,tT,tT,fF,fF,fF] ?_
       refine one_ (i := 6) (N := some 75) #[tT,tT,tT,tT,tT,tT,tT,fF,fF] rfl rfl (by kernel_rfl) (by decide) (fun K hK => ?_)
       refine goes_ Try.func25 (by kernel_rfl) rfl #[.int .i64 (i : Int)] (by rfl) rfl rfl (by simp only [List.map_toArray, List.map_cons, List.map_nil]; rfl) ?_
       refine (QR.l5_mark.calls (i : Int) (mk5 i) _ (mk5_f i)).mono ?_
       rintro e w4 ⟨rfl, ⟨nd, rfl⟩⟩
       refine ⟨_, rfl, ?_⟩
       refine hK.out _ _ ⟨1 + nd, World.drewN_drewN wr 1 nd⟩ (fun hHeld => ?_)
       clear hK K
       refine norm_ (a' := ?_) ?_ ?_
       rotate_left
       · show Act.put _ (some 75) _ = _
         simp only [Act.put, sqA, sqB, sqC, i64_w, i32_w]
         rfl
       refine pU 7 76 #[tT,tT,tT,tT,tT,tT,tT,tT,fF] ?_
       refine last_ (i := 8) (N := none) #[tT,tT,tT,tT,tT,tT,tT,tT,tT] rfl rfl (by kernel_rfl) (by decide) (fun K hK => ?_)
       refine skip_ (w1 := ?_) (by rfl) rfl ?_ ?_
       rotate_left
       · go_simp
         rfl
       refine hK.out _ _ ?_
       clear hK K
       refine done_ (by kernel_rfl) ?_
       have HPUT2 : Aside0 (Fl w0 w ((wr.drewN (1 + nd)).setCell ⟨b, o + k, none⟩ (.int .u8 (mk5 i))) gb (.slice vA es.length vc) es HH (some ⟨g3, 0, none⟩) c3 R (contK5 CS i (k + 1))) := ⟨HPUT.out.drewN (by rw [World.size_setCell]; exact HWZ.out) (1 + nd)⟩
       have HWZ2 : Aside0 (w.heap.size ≤ ((wr.drewN (1 + nd)).setCell ⟨b, o + k, none⟩ (.int .u8 (mk5 i))).heap.size) := ⟨by rw [World.size_setCell]; exact HWZ.out⟩
       clear y1 y2 y3 HPUT HF2
       go_wp2
       go_roundw
       case rel => exact ⟨k + 1, HKL.out, by rw [HWK.out], HWZ2, HPUT2⟩
       case measure => exact meas HWK.out HKL.out
      ·
       obtain rfl : n = k := by omega
       have HF3 : Aside0 (Fl w0 w wr gb (.slice vA es.length vc) es HH (some ⟨g3, 0, none⟩) c3 R (contI5 CS (i + 1))) := ⟨by rw [← contK5_end CS HIL.out, ← HNI.out]; exact HF2.out⟩
       clear hkl hk hck hlen hRi HF2
       go_wp2
       clear y1
       go_roundw
       case rel => exact ⟨i + 1, HLT.out, by rw [HW1.out], HWZ, HF3⟩
       case measure => exact meas HW1.out HLT.out
    ·
     obtain rfl : R.length = i := by omega
     clear hlt hi
     go_wp2
     obtain ⟨w2, hw2⟩ : ∃ w2, w2 = wr := ⟨_, rfl⟩
     rw [← hw2] at HFL HWZ ⊢
     clear hw2
     have HMO : Aside0 (Mo w2 w2 (.slice none 0 0) [] 0) := ⟨⟨Below.refl _ _, own_nil w2 _ 41, rfl, fun s hd e => by simp at e⟩⟩
     go_loopw [8, 9] (fun v8 v9 w' => ∃ (i : Nat) (MR : List Hdr), i ≤ R.length ∧ v9 = .int .i64 (i : Int) ∧ Aside0 (Mo w2 w' v8 MR i)) (fun _ v9 _ => R.length - (intOf v9).toNat)
     case atStart => exact ⟨0, [], Nat.zero_le _, rfl, HMO⟩
     case round =>
      clear HMO
      obtain ⟨i, MR, hi, rfl, HMO⟩ := hrel
      by_cases hlt : i < R.length
      ·
       have HLT := sqM hlt
       have hli : (i : Int) < (R.length : Int) := by omega
       have hil : i < CS.length := by have := HRL.out; omega
       have HW1 := sqM (wr1 (i := i) hlt (by have := HT.out; have := HRL.out; omega))
       obtain ⟨n, hn⟩ : ∃ n, n = (CS.getD i []).length := ⟨_, rfl⟩
       have HRI : Aside0 (n ≤ 16777216) := ⟨by rw [hn]; exact HROW.out i⟩
       have hci := contI5_get CS R.length hil
       rw [if_pos hlt, ← hn] at hci
       obtain ⟨g3, A3, er3, hRi, y1⟩ := HFL.out.head hci
       have hRow : Row5 w2 (A3, (List.replicate n (mk5 i)).length, (List.replicate n (mk5 i)).length) (List.replicate n (mk5 i)) := HFL.out.sg.rows.row i _ _ hRi hci
       rw [List.length_replicate] at y1
       have hCi := hRow.toC
       rw [List.length_replicate] at hCi
       subst er3
       have y1' : wr.cell? ⟨g3, i, none⟩ = some (.slice A3 n n) := q0c HMO.out.below y1
       have HCI := sqM hCi
       have HMS := sqM HMO.out.below.size
       clear hlt hi hil hn hci hRi y1 hRow hCi
       go_wp2
       refine q1x (n := 12) (S := fun w' => Below wr.heap.size wr w') (ds := []) #[fF,fF,fF,fF,fF,fF,fF,fF,fF,fF,fF,fF] (by kernel_rfl) rfl rfl (q06 (Below.refl _ _)) (fun hHeld => ?_)
       refine pU 0 84 #[tT,fF,fF,fF,fF,fF,fF,fF,fF,fF,fF,fF] ?_
       refine pU 1 85 #[tT,tT,fF,fF,fF,fF,fF,fF,fF,fF,fF,fF] ?_
       refine pU 2 86 #[tT,tT,tT,fF,fF,fF,fF,fF,fF,fF,fF,fF] ?_
       refine pU 4 88 #[tT,tT,tT,fF,tT,fF,fF,fF,fF,fF,fF,fF] ?_
       refine tK 3 87 #[tT,tT,tT,tT,tT,fF,fF,fF,fF,fF,fF,fF] hHeld ?_ (hy := by
        intro w' hS
        have hy := q0c hS y1'
        go_simp
        with_reducible rfl)
       refine one_ (i := 5) (N := some 89) #[tT,tT,tT,tT,tT,tT,fF,fF,fF,fF,fF,fF] rfl rfl (by kernel_rfl) (by decide) (fun K hK => ?_)
       refine goes_ Try.func25 (by kernel_rfl) rfl #[.int .i64 (i : Int)] (by rfl) rfl rfl (by simp only [List.map_toArray, List.map_cons, List.map_nil]; rfl) ?_
       refine (QR.l5_mark.calls (i : Int) (mk5 i) _ (mk5_f i)).mono ?_
       rintro e w4 ⟨rfl, ⟨nd, rfl⟩⟩
       refine ⟨_, rfl, ?_⟩
       refine hK.out _ _ (below_drew1d nd) (fun hHeld => ?_)
       clear hK K
       refine norm_ (a' := ?_) ?_ ?_
       rotate_left
       · show Act.put _ (some 89) _ = _
         simp only [Act.put, sqA, sqB, sqC, i64_w, i32_w]
         rfl
       refine one_ (i := 6) (N := some 90) #[tT,tT,tT,tT,tT,tT,tT,fF,fF,fF,fF,fF] rfl rfl (by kernel_rfl) (by decide) (fun K hK => ?_)
       refine goes_ Try.func26 (by kernel_rfl) rfl #[.slice A3 n n, .int .u8 (mk5 i)] (by rfl) rfl rfl (by simp only [List.map_toArray, List.map_cons, List.map_nil]; rfl) ?_
       refine (grown_calls _ A3 n (mk5 i) (Kd.C_below HCI.out (q03 HMO.out.below HMS.out (below_drew1d nd))) (by have := HRI.out; omega)).mono ?_
       rintro e w5 ⟨x5, y5, rfl, hx5, hy5, hb5⟩
       have HX5 := sqM hx5
       have HY5 := sqM hy5
       have B5 := sqM (q03 (below_drew1d nd) (Nat.le_refl _) hb5)
       clear hx5 hy5 hb5
       refine ⟨_, rfl, ?_⟩
       refine hK.out _ _ B5.out (fun hHeld => ?_)
       clear hK K
       refine norm_ (a' := ?_) ?_ ?_
       rotate_left
       · show Act.put _ (some 90) _ = _
         simp only [Act.put, sqA, sqB, sqC, i64_w, i32_w]
         rfl
       refine pU 7 83 #[tT,tT,tT,tT,tT,tT,tT,tT,fF,fF,fF,fF] ?_
       refine pU 8 91 #[tT,tT,tT,tT,tT,tT,tT,tT,tT,fF,fF,fF] ?_
       refine pU 9 92 #[tT,tT,tT,tT,tT,tT,tT,tT,tT,tT,fF,fF] ?_
       refine pU 10 10 #[tT,tT,tT,tT,tT,tT,tT,tT,tT,tT,tT,fF] ?_
       refine pU 11 11 #[tT,tT,tT,tT,tT,tT,tT,tT,tT,tT,tT,tT] ?_
       refine done_ (by kernel_rfl) ?_
       obtain ⟨Ax, cx, exx⟩ := q0q HX5.out
       obtain ⟨Ay, cy, eyy⟩ := q0q HY5.out
       subst exx
       subst eyy
       rw [List.length_replicate] at HX5 HY5
       have hx5 : w5.ownsRow w2.heap.size 5 1 (hdV (Ax, n + 20, cx)) (n + 20) (nums .u8 (List.replicate (n + 20) (mk5 i))) := own_weak HX5.out HMS.out
       have hy5 : w5.ownsRow w2.heap.size 5 1 (hdV (Ay, n + 70, cy)) (n + 70) (nums .u8 (List.replicate (n + 70) (mk5 i))) := own_weak HY5.out HMS.out
       have hbw5 : Below w5.heap.size w5 (w5.alloc (.cells #[hdV (Ax, n + 20, cx), hdV (Ay, n + 70, cy)] 41)) := q02 (Below.refl _ _) _
       have HMO5 : Aside0 (Mo w2 (w5.alloc (.cells #[hdV (Ax, n + 20, cx), hdV (Ay, n + 70, cy)] 41)) u8 MR i) := ⟨(HMO.out.moved B5.out).moved hbw5⟩
       have HX6 := sqM (q07 hx5 hbw5)
       have HY6 := sqM (q07 hy5 hbw5)
       have HRH : Aside0 (q0j hdV ((none, 0, 0) : Hdr) (w5.alloc (.cells #[hdV (Ax, n + 20, cx), hdV (Ay, n + 70, cy)] 41)) (some ⟨w5.heap.size, 0, none⟩) 2 [(Ax, n + 20, cx), (Ay, n + 70, cy)]) := ⟨reads_heads5 (hs := [(Ax, n + 20, cx), (Ay, n + 70, cy)]) (heap_alloc_new _ _) (by simp)⟩
       have HTT : Aside0 (MR.length ≤ 6000000000) := ⟨by have := HMO.out.len; have := HLT.out; have := HT.out; have := HRL.out; omega⟩
       clear hx5 hy5 hbw5 HX5 HY5 y1'
       have eX : Value.slice Ax (List.replicate (n + 20) (mk5 i)).length cx = .slice Ax (n + 20) cx := by rw [List.length_replicate]
       have eY : Value.slice Ay (List.replicate (n + 70) (mk5 i)).length cy = .slice Ay (n + 70) cy := by rw [List.length_replicate]
       rw [eX, eY]
       clear eX eY
       go_wp2_with (first
        | ((with_reducible refine q05 (b := .append) (xs := #[.tmp 93, .tmp 96]) rfl ?_); at_builtin; refine q13 (w0 := w2) hdV ((none, 0, 0) : Hdr) w2.heap.size rfl (.tmp 93) (.tmp 96) 35 41 (.slice none 0 0) 24 rfl Try.underlying35 info41' rfl (by decide) (fun _ => rfl) u8 MR [(Ax, n + 20, cx), (Ay, n + 70, cy)] (some ⟨w5.heap.size, 0, none⟩) 2 2 ?q1 ?q2 HMO5.out.own HRH.out HMO5.out.below HMO5.out.below.size ?q4 ?_; (case q4 => have := HTT.out; omega); (case q1 => rfl); (case q2 => rfl); intro v1 w1 ho1 hb1 hg1 _; have HMO6 := sqM (HMO5.out.add (x := (Ax, n + 20, cx)) (y := (Ay, n + 70, cy)) HX6.out HY6.out (by show n + 20 ≤ 100000000; have := HRI.out; omega) (by show n + 70 ≤ 100000000; have := HRI.out; omega) ho1 hb1 hg1); clear ho1 hb1 hg1))
       go_roundw
       case rel => exact ⟨i + 1, _, HLT.out, by rw [HW1.out], HMO6⟩
       case measure => exact meas HW1.out HLT.out
      ·
       obtain rfl : R.length = i := by omega
       obtain ⟨r8, c8, er8⟩ := q0q HMO.out.own
       subst er8
       have hM2 := HMO.out.len
       rw [hM2]
       clear hlt hi hM2
       go_wp2
       obtain ⟨w3, hw3⟩ : ∃ w3, w3 = wr := ⟨_, rfl⟩
       rw [← hw3] at HMO ⊢
       clear hw3
       go_loopw [12] (fun v12 w' => ∃ t : Nat, t ≤ R.length ∧ v12 = .int .i64 (t : Int) ∧ Aside0 (Below w3.heap.size w3 w')) (fun v12 _ => R.length - (intOf v12).toNat)
       case atStart => exact ⟨0, Nat.zero_le _, rfl, ⟨Below.refl _ _⟩⟩
       case round =>
        obtain ⟨t, ht, rfl, HBT⟩ := hrel
        by_cases hlt : t < R.length
        ·
         have hil : t < CS.length := by have := HRL.out; omega
         obtain ⟨n, hn⟩ : ∃ n, n = (CS.getD t []).length := ⟨_, rfl⟩
         have hni : n ≤ 16777216 := by rw [hn]; exact HROW.out t
         have hci := contI5_get CS R.length hil
         rw [if_pos hlt, ← hn] at hci
         obtain ⟨g3, A3, er3, hRi, y1⟩ := HFL.out.head hci
         have hRow : Row5 w2 (A3, (List.replicate n (mk5 t)).length, (List.replicate n (mk5 t)).length) (List.replicate n (mk5 t)) := HFL.out.sg.rows.row t _ _ hRi hci
         rw [List.length_replicate] at y1
         have hCi := hRow.toC
         rw [List.length_replicate] at hCi
         have hb23 : Below w2.heap.size w2 wr := q03 HMO.out.below HMO.out.below.size HBT.out
         have y1' : wr.cell? ⟨g3, t, none⟩ = some (.slice A3 n n) := q0c hb23 y1
         have hM := HMO.out.moved HBT.out
         have hxl := hM.len
         obtain ⟨gx, ex⟩ := own_some hM.own (by omega)
         have hox := hM.own
         rw [hxl] at hox
         subst ex
         have z1 := (own_at_of (d := ((none, 0, 0) : Hdr)) hox ((2 * t : Nat) : Int) (by omega) (by omega)).1
         have z2 := (own_at_of (d := ((none, 0, 0) : Hdr)) hox ((2 * t + 1 : Nat) : Int) (by omega) (by omega)).1
         rw [Int.toNat_natCast, rdOf, Int.toNat_natCast] at z1 z2
         have hm1 := hM.row (2 * t) _ (getD_get (d := ((none, 0, 0) : Hdr)) (by omega))
         have hm2 := hM.row (2 * t + 1) _ (getD_get (d := ((none, 0, 0) : Hdr)) (by omega))
         rw [show 2 * t / 2 = t by omega] at hm1
         rw [show (2 * t + 1) / 2 = t by omega] at hm2
         generalize MR.getD (2 * t) (none, 0, 0) = hd1 at *
         generalize MR.getD (2 * t + 1) (none, 0, 0) = hd2 at *
         obtain ⟨A2, n2, c2⟩ := hd1
         obtain ⟨A4, n4, c4⟩ := hd2
         have y2 : wr.cell? ⟨gx, 2 * t, none⟩ = some (.slice A2 n2 c2) := z1
         have y3 : wr.cell? ⟨gx, 2 * t + 1, none⟩ = some (.slice A4 n4 c4) := z2
         have F1 : Aside0 (∀ W : World, (∃ k, W = wr.drewN k) → Calls Try.prog 27 #[.slice A3 n n, .int .u8 (mk5 t)] W fun e w' => e = .returned (.bool true) ∧ Drawn0 W w') := ⟨fun W ⟨k, hW⟩ => full_calls W A3 n n (mk5 t) (by rw [hW]; exact Kd.C_drewN (Kd.C_below hCi hb23) k) (Nat.le_refl _) (by omega)⟩
         have F2 : Aside0 (∀ W : World, (∃ k, W = wr.drewN k) → Calls Try.prog 27 #[.slice A2 n2 c2, .int .u8 (mk5 t)] W fun e w' => e = .returned (.bool true) ∧ Drawn0 W w') := ⟨fun W ⟨k, hW⟩ => fullo_calls wr w2.heap.size A2 n2 c2 (mk5 t) hm1.1 hm1.2 W k hW⟩
         have F3 : Aside0 (∀ W : World, (∃ k, W = wr.drewN k) → Calls Try.prog 27 #[.slice A4 n4 c4, .int .u8 (mk5 t)] W fun e w' => e = .returned (.bool true) ∧ Drawn0 W w') := ⟨fun W ⟨k, hW⟩ => fullo_calls wr w2.heap.size A4 n4 c4 (mk5 t) hm2.1 hm2.2 W k hW⟩
         have hw2 : wrap64 (2 * (t : Int)) = ((2 * t : Nat) : Int) := by have := HT.out; have := HRL.out; unfold wrap64; omega
         obtain ⟨s3, hs3⟩ : ∃ s3, s3 = 2 * t + 1 := ⟨_, rfl⟩
         have hw3 : wrap64 (((2 * t : Nat) : Int) + 1) = (s3 : Int) := by have := HT.out; have := HRL.out; unfold wrap64; omega
         have hw4 : wrap64 (2 * (t : Int) + 1) = (s3 : Int) := by have := HT.out; have := HRL.out; unfold wrap64; omega
         rw [← hs3] at y3
         have HLT := sqM hlt
         have HW1 := sqM (wr1 (i := t) hlt (by have := HT.out; have := HRL.out; omega))
         have b1 : (t : Int) < (R.length : Int) := by omega
         have b2 : ((2 * t : Nat) : Int) < ((2 * R.length : Nat) : Int) := by omega
         have b3 : (s3 : Int) < ((2 * R.length : Nat) : Int) := by omega
         have b4 : 2 * t < 2 * R.length := by omega
         have b5 : s3 < 2 * R.length := by omega
         subst er3
         clear hlt ht hil hn hni hci hRi y1 hRow hCi hb23 hM hxl hox z1 z2 hm1 hm2 hs3
         go_wp2
         go_quiet (first
          | (go_at_call 25; (with_reducible refine (QR.l5_mark.calls (t : Int) (mk5 t) _ (mk5_f t)).mono ?_); rintro e w' ⟨rfl, ⟨nd3, rfl⟩⟩; exact ⟨rfl, _, World.drewN_drewN _ _ _⟩)
          | (go_at_call 27; (with_reducible refine (F1.out _ ?hh).mono ?_); (case hh => exact ⟨_, rfl⟩); rintro e w' ⟨rfl, ⟨nd3, rfl⟩⟩; exact ⟨rfl, _, World.drewN_drewN _ _ _⟩))
         obtain ⟨wq, ewq⟩ : ∃ wq : World, wq = wr.drewN nq := ⟨_, rfl⟩
         rw [← ewq]
         have y2' : wq.cell? ⟨gx, 2 * t, none⟩ = some (.slice A2 n2 c2) := by rw [ewq]; exact y2
         have y3' : wq.cell? ⟨gx, s3, none⟩ = some (.slice A4 n4 c4) := by rw [ewq]; exact y3
         have HBq : Aside0 (Below _ _ wq) := ⟨by rw [ewq]; exact q00 HBT.out nq⟩
         have F2q : Aside0 (∀ W : World, (∃ k, W = wq.drewN k) → Calls Try.prog 27 #[.slice A2 n2 c2, .int .u8 (mk5 t)] W fun e w' => e = .returned (.bool true) ∧ Drawn0 W w') := ⟨fun W ⟨k, hW⟩ => F2.out W ⟨nq + k, by rw [hW, ewq, World.drewN_drewN]⟩⟩
         have F3q : Aside0 (∀ W : World, (∃ k, W = wq.drewN k) → Calls Try.prog 27 #[.slice A4 n4 c4, .int .u8 (mk5 t)] W fun e w' => e = .returned (.bool true) ∧ Drawn0 W w') := ⟨fun W ⟨k, hW⟩ => F3.out W ⟨nq + k, by rw [hW, ewq, World.drewN_drewN]⟩⟩
         clear y1' y2 y3 ewq F1 F2 F3
         go_wp2
         go_quiet (first
          | (go_at_call 25; (with_reducible refine (QR.l5_mark.calls (t : Int) (mk5 t) _ (mk5_f t)).mono ?_); rintro e w' ⟨rfl, ⟨nd3, rfl⟩⟩; exact ⟨rfl, _, World.drewN_drewN _ _ _⟩)
          | (go_at_call 27; (with_reducible refine (F2q.out _ ?hh).mono ?_); (case hh => exact ⟨_, rfl⟩); rintro e w' ⟨rfl, ⟨nd3, rfl⟩⟩; exact ⟨rfl, _, World.drewN_drewN _ _ _⟩))
         clear y2'
         obtain ⟨wp, ewp⟩ : ∃ wp : World, wp = wq.drewN nq := ⟨_, rfl⟩
         rw [← ewp]
         have y3q : wp.cell? ⟨gx, s3, none⟩ = some (.slice A4 n4 c4) := by rw [ewp]; exact y3'
         have HBp : Aside0 (Below _ _ wp) := ⟨by rw [ewp]; exact q00 HBq.out nq⟩
         have F3p : Aside0 (∀ W : World, (∃ k, W = wp.drewN k) → Calls Try.prog 27 #[.slice A4 n4 c4, .int .u8 (mk5 t)] W fun e w' => e = .returned (.bool true) ∧ Drawn0 W w') := ⟨fun W ⟨k, hW⟩ => F3q.out W ⟨nq + k, by rw [hW, ewp, World.drewN_drewN]⟩⟩
         clear y3' ewp F2q F3q
         go_wp2
         go_quiet (first
          | (go_at_call 25; (with_reducible refine (QR.l5_mark.calls (t : Int) (mk5 t) _ (mk5_f t)).mono ?_); rintro e w' ⟨rfl, ⟨nd3, rfl⟩⟩; exact ⟨rfl, _, World.drewN_drewN _ _ _⟩)
          | (go_at_call 27; (with_reducible refine (F3p.out _ ?hh).mono ?_); (case hh => exact ⟨_, rfl⟩); rintro e w' ⟨rfl, ⟨nd3, rfl⟩⟩; exact ⟨rfl, _, World.drewN_drewN _ _ _⟩))
         clear y3q hw2 hw3 hw4 F3p
         go_wp2
         go_roundw
         case rel => exact ⟨t + 1, HLT.out, by rw [HW1.out], ⟨q00 HBp.out _⟩⟩
         case measure => exact meas HW1.out HLT.out
        ·
         have HBEE := sqM ((HFL.out.be.moved HMO.out.below).moved HBT.out)
         obtain rfl : R.length = t := by omega
         clear hlt ht
         go_wp2_with (fail)
         refine (lists_calls w0 wr gb (.slice vA es.length vc) es HH HBEE.out HE.out (fun hh hm => by
          obtain ⟨i, hi, rfl⟩ := List.getElem_of_mem hm
          have h300 := HSAME.out i (es[i]'(by have := HHL.out; omega)) (ms[i]'(by have := HHL.out; have := HML.out; omega)) (List.getElem?_eq_getElem _) (List.getElem?_eq_getElem _)
          obtain ⟨A, c1, B, c2, y1, _, _, _, _, _, y7⟩ := h300
          have ho := HBE.out.hd i _ _ (List.getElem?_eq_getElem (by have := HHL.out; omega)) (List.getElem?_eq_getElem hi)
          rw [y1] at ho
          obtain ⟨A', c', e'⟩ := q0q ho
          injection e' with _ e' _
          omega)).mono ?_
         rintro e w9 ⟨rfl, hb9⟩
         have HB9 := sqM hb9
         clear hb9
         go_wp2
         go_ret
         exact ⟨rfl, HB9.out⟩
structure OpD where
 kd : Int
 p : Int
 A2 : Option Addr
 A3 : Option Addr
 A4 : Option Addr
 A5 : Option Addr
 c2 : Nat
 c3 : Nat
 c4 : Nat
 c5 : Nat
 rows : List ByteArray
 more : List ByteArray
 sizes : List Int
 lost : List Int
def OpD.val (o : OpD) : Value := opV o.kd o.p o.A2 o.A3 o.A4 o.A5 o.c2 o.c3 o.c4 o.c5 o.rows o.more o.sizes o.lost
structure OpD.Ok (o : OpD) (w : World) : Prop where
 hp : -9223372036854775808 ≤ o.p ∧ o.p ≤ 9223372036854775807
 r2 : Kd.C Kd.string w o.A2 o.rows.length o.rows
 k2 : o.rows.length ≤ o.c2
 l2 : o.rows.length ≤ 1048576
 s2 : ∀ s ∈ o.rows, s.size ≤ 1048576
 r3 : Kd.C Kd.string w o.A3 o.more.length o.more
 k3 : o.more.length ≤ o.c3
 l3 : o.more.length ≤ 1048576
 s3 : ∀ s ∈ o.more, s.size ≤ 1048576
 r4 : Kd.C (Kd.int .i64) w o.A4 o.sizes.length o.sizes
 k4 : o.sizes.length ≤ o.c4
 l4 : o.sizes.length ≤ 1048576
 i4 : ∀ y ∈ o.sizes, -9223372036854775808 ≤ y ∧ y ≤ 9223372036854775807
 r5 : Kd.C (Kd.int .i64) w o.A5 o.lost.length o.lost
 k5 : o.lost.length ≤ o.c5
 l5 : o.lost.length ≤ 1048576
 i5 : ∀ y ∈ o.lost, -9223372036854775808 ≤ y ∧ y ≤ 9223372036854775807
theorem cell_same {w W : World} {a : Addr} (h : W.heap[a.block]? = w.heap[a.block]?) : W.cell? a = w.cell? a := by unfold World.cell?; rw [h]
theorem reads_same {α : Type} {enc : α → Value} {d : α} {w W : World} {A : Option Addr} {n : Nat} {xs : List α} (h : q0j enc d w A n xs) (hs : ∀ k, k < w.heap.size → W.heap[k]? = w.heap[k]?) : q0j enc d W A n xs :=
 ⟨h.1, h.2.1, fun hn => by
  obtain ⟨ad, e, hc⟩ := h.2.2 hn
  exact ⟨ad, e, fun j hj => by
   have hcj := hc j hj
   rw [cell_same (hs _ (World.block_lt_of_cell? w _ hcj))]
   exact hcj⟩⟩
theorem OpD.Ok.sta {o : OpD} {w wr : World} {gb : Nat} {vh : Value} {es : List He} {ms : List (List (List Int))} {bd : List (Nat × Nat)} {N : Nat} (h : o.Ok w) (hz : Bz w wr gb vh es ms bd N) : StA wr gb vh.ownBlock o.A2 o.A3 o.A4 o.A5 o.c2 o.c3 o.c4 o.c5 o.rows o.more o.sizes o.lost := by
 have hs : ∀ W, q0a wr W gb vh.ownBlock → ∀ k, k < w.heap.size → W.heap[k]? = w.heap[k]? := fun W hW k hk =>
  (hW.2 k (Nat.lt_of_lt_of_le hk hz.bq.bh.below.size) (fun e => by have := hz.bq.bh.gbl; omega) (fun e => by have := q0k hz.bq.bh.oh k e.symm; omega)).trans (hz.bq.bh.below.block k hk)
 exact ⟨fun W hW => Kd.C_of_reads (d := ByteArray.empty) (h1 := fun _ => rfl) (reads_same (Kd.reads_of_C h.r2) (hs W hW)), h.k2, h.l2, h.s2,
  fun W hW => Kd.C_of_reads (d := ByteArray.empty) (h1 := fun _ => rfl) (reads_same (Kd.reads_of_C h.r3) (hs W hW)), h.k3, h.l3, h.s3,
  fun W hW => Kd.C_of_reads (d := (0 : Int)) (h1 := fun _ => rfl) (reads_same (Kd.reads_of_C h.r4) (hs W hW)), h.k4, h.l4, h.i4,
  fun W hW => Kd.C_of_reads (d := (0 : Int)) (h1 := fun _ => rfl) (reads_same (Kd.reads_of_C h.r5) (hs W hW)), h.k5, h.l5, h.i5⟩
theorem step_calls (w0 w : World) (gb : Nat) (vh : Value) (es : List He) (ms : List (List (List Int))) (bd : List (Nat × Nat)) (N : Nat) (o : OpD) (h : Bz w0 w gb vh es ms bd N) (hN : N ≤ 10000000) (ho : o.Ok w0) :
    Calls Try.prog 11 #[.pointer (some ⟨gb, 0, none⟩), o.val] w fun e w' => ∃ vh' es' ms' bd', e = .returned (.bool true) ∧ Bz w0 w' gb vh' es' ms' bd' (N + 6) ∧ Hx w w' gb vh vh' := by
 have ha := ho.sta h
 obtain ⟨kd, p, A2, A3, A4, A5, c2, c3, c4, c5, rows, more, sizes, lost⟩ := o
 by_cases h1 : kd = 1
 · subst h1; exact step1_calls w0 w gb vh es ms bd N p A2 A3 A4 A5 c2 c3 c4 c5 rows more sizes lost h hN ho.hp ha
 by_cases h2 : kd = 2
 · subst h2; exact step2_calls w0 w gb vh es ms bd N p A2 A3 A4 A5 c2 c3 c4 c5 rows more sizes lost h hN ho.hp ha
 by_cases h3 : kd = 3
 · subst h3; exact step3_calls w0 w gb vh es ms bd N p A2 A3 A4 A5 c2 c3 c4 c5 rows more sizes lost h hN ho.hp ha
 exact step0_calls w0 w gb vh es ms bd N kd p A2 A3 A4 A5 c2 c3 c4 c5 rows more sizes lost h h1 h2 h3 hN ho.hp ha
theorem weight_l0 (l : List ByteArray) (hl : l.length ≤ 1048576) : ∀ (d i k : Nat) (x : Int), i + d = l.length → d + 1 ≤ k → ∃ r, QR.l5_weight.l0 k l x (i : Int) = some r := by
 intro d
 induction d with
 | zero =>
  intro i k x hi hk
  obtain ⟨k, rfl⟩ : ∃ m, k = m + 1 := ⟨k - 1, by omega⟩
  exact ⟨x, by rw [QR.l5_weight.l0, if_neg (by omega)]⟩
 | succ d ih =>
  intro i k x hi hk
  obtain ⟨k, rfl⟩ : ∃ m, k = m + 1 := ⟨k - 1, by omega⟩
  have hlt : i < l.length := by omega
  rw [QR.l5_weight.l0, if_pos (by omega)]
  split
  · rw [if_pos (by omega), wr1 hlt (by omega)]
    exact ih (i + 1) k _ (by omega) (by omega)
  · exact ⟨x, rfl⟩
theorem weight_any (l : List ByteArray) (hl : l.length ≤ 1048576) : ∃ r, QR.l5_weight.f 1048577 l = some r := weight_l0 l hl l.length 0 1048577 0 (by omega) (by omega)
theorem Bz.start {w0 w : World} {gb : Nat} (hb : Below w0.heap.size w0 w) (hg : w0.heap.size ≤ gb) (hbox : w.heap[gb]? = some (.cells #[.slice none 0 0] 27 (0, 0))) : Bz w0 w gb (.slice none 0 0) [] [] [] 0 :=
 ⟨⟨⟨hb, hg, hbox, ⟨rfl, .inl ⟨rfl, rfl⟩⟩⟩, rfl, rfl, fun i e m x h => by simp at h, fun i x h => by simp at h, fun i j x y _ h => by simp at h⟩, Nat.le_refl _, fun m h => absurd h List.not_mem_nil⟩
set_option maxHeartbeats 3200000 in
set_option maxRecDepth 100000 in
theorem plays_calls (w : World) (A0 : Option Addr) (c0 : Nat) (ops : List OpD) (hl : ops.length ≤ 1048576) (hok : ∀ o ∈ ops, o.Ok w)
    (hcell : 0 < ops.length → ∃ ad, A0 = some ad ∧ ∀ (i : Nat) o, ops[i]? = some o → w.cell? (ad.add (i * 6)) = some (.int .i64 o.kd) ∧ w.cell? ⟨ad.block, ad.off + i * 6 + 1, none⟩ = some (.int .i64 o.p) ∧ w.cell? ⟨ad.block, ad.off + i * 6 + 2, none⟩ = some (.slice o.A2 o.rows.length o.c2) ∧ w.cell? ⟨ad.block, ad.off + i * 6 + 3, none⟩ = some (.slice o.A3 o.more.length o.c3) ∧ w.cell? ⟨ad.block, ad.off + i * 6 + 4, none⟩ = some (.slice o.A4 o.sizes.length o.c4) ∧ w.cell? ⟨ad.block, ad.off + i * 6 + 5, none⟩ = some (.slice o.A5 o.lost.length o.c5)) :
    Calls Try.prog 4 #[.slice A0 ops.length c0] w fun e w' => e = .returned (.bool true) ∧ Below w.heap.size w w' := by
 have HL := sqM hl
 have HOK := sqM hok
 have HC := sqM hcell
 clear hl hok hcell
 go_enter Try.func4, Try.ntmps4
 go_wp2_with (fail)
 refine (awake_calls w).mono ?_
 rintro e w1 ⟨rfl, hb1⟩
 have HB1 := sqM hb1
 clear hb1
 go_wp2
 have hb2 : Below w.heap.size w (w1.alloc (.cells #[.slice none 0 0] 27)) := q02 HB1.out _
 have HST : Aside0 (Bz w (w1.alloc (.cells #[.slice none 0 0] 27)) w1.heap.size (.slice none 0 0) [] [] [] (6 * 0)) := ⟨Bz.start hb2 HB1.out.size (q0z w1 _)⟩
 clear hb2
 go_loopw [5, 6] (fun v5 v6 wr => ∃ (i : Nat) (s : Int) (vh : Value) (es : List He) (ms : List (List (List Int))) (bd : List (Nat × Nat)), i ≤ ops.length ∧ v6 = .int .i64 (i : Int) ∧ v5 = .int .i64 s ∧ Aside0 (Bz w wr w1.heap.size vh es ms bd (6 * i))) (fun _ v6 _ => ops.length - (intOf v6).toNat)
 case atStart => exact ⟨0, 0, _, _, _, _, Nat.zero_le _, rfl, rfl, HST⟩
 case round =>
  clear HST
  obtain ⟨i, s, vh, es, ms, bd, hi, rfl, rfl, HZ⟩ := hrel
  by_cases hlt : i < ops.length
  ·
   have HLT := sqM hlt
   have HW1 := sqM (wr1 (i := i) hlt (by have := HL.out; omega))
   obtain ⟨ad, eA, hcs⟩ := HC.out (by omega)
   subst eA
   obtain ⟨o, ho⟩ : ∃ o, ops[i]? = some o := ⟨_, List.getElem?_eq_getElem hlt⟩
   have HO := sqM (HOK.out o (List.mem_of_getElem? ho))
   obtain ⟨z0, z1, z2, z3, z4, z5⟩ := hcs i o ho
   have hbw := HZ.out.bq.bh.below
   have y0 := (hbw.cell (World.block_lt_of_cell? w _ z0)).trans z0
   have y1 := (hbw.cell (World.block_lt_of_cell? w _ z1)).trans z1
   have y2 := (hbw.cell (World.block_lt_of_cell? w _ z2)).trans z2
   have y3 := (hbw.cell (World.block_lt_of_cell? w _ z3)).trans z3
   have y4 := (hbw.cell (World.block_lt_of_cell? w _ z4)).trans z4
   have y5 := (hbw.cell (World.block_lt_of_cell? w _ z5)).trans z5
   obtain ⟨r1, hr1⟩ := weight_any o.rows HO.out.l2
   obtain ⟨r2, hr2⟩ := weight_any o.more HO.out.l3
   have F1 : Aside0 (∀ k : Nat, Calls Try.prog 10 #[.slice o.A2 o.rows.length o.c2] (wr.drewN k) fun e w' => e = .returned (.int .i64 r1) ∧ Drawn0 (wr.drewN k) w') := ⟨fun k => QR.l5_weight.calls 1048577 o.A2 o.c2 o.rows r1 _ ((HO.out.sta HZ.out).r2 _ (q0a.of_below (q00 (Below.refl _ _) k) _ _)) HO.out.k2 hr1⟩
   have F2 : Aside0 (∀ k : Nat, Calls Try.prog 10 #[.slice o.A3 o.more.length o.c3] (wr.drewN k) fun e w' => e = .returned (.int .i64 r2) ∧ Drawn0 (wr.drewN k) w') := ⟨fun k => QR.l5_weight.calls 1048577 o.A3 o.c3 o.more r2 _ ((HO.out.sta HZ.out).r3 _ (q0a.of_below (q00 (Below.refl _ _) k) _ _)) HO.out.k3 hr2⟩
   have hii : (i : Int) < (ops.length : Int) := by omega
   have hab : ∀ n, (ad.add n).block = ad.block := fun n => by unfold Addr.add; split <;> rfl
   have hao : ∀ n, (ad.add n).off = ad.off + n := fun n => by unfold Addr.add; split <;> simp_all
   clear hlt hi hcs ho z0 z1 z2 z3 z4 z5 hbw hr1 hr2
   go_wp2
   go_quiet (first
    | (go_at_call 10; (first | (with_reducible refine (F1.out _).mono ?_) | (with_reducible refine (F2.out _).mono ?_)); rintro e w' ⟨rfl, ⟨nd3, rfl⟩⟩; exact ⟨rfl, _, World.drewN_drewN _ _ _⟩))
   obtain ⟨s2, hs2⟩ : ∃ s2, s2 = wrap64 (wrap64 (s + r1) + r2) := ⟨_, rfl⟩
   rw [← hs2]
   obtain ⟨wq, hwq⟩ : ∃ wq, wq = wr.drewN nq := ⟨_, rfl⟩
   rw [← hwq]
   have hbq : Below wr.heap.size wr wq := by rw [hwq]; exact q00 (Below.refl _ _) nq
   have x0 := q0c hbq y0
   have x1 := q0c hbq y1
   have x2 := q0c hbq y2
   have x3 := q0c hbq y3
   have x4 := q0c hbq y4
   have x5 := q0c hbq y5
   have HZQ := sqM (HZ.out.moved hbq)
   have HNN : Aside0 (6 * i ≤ 10000000) := ⟨by have := HL.out; have := HLT.out; omega⟩
   clear y0 y1 y2 y3 y4 y5 hbq hwq hs2 F1 F2 HZ
   by_cases hbig : s2 > 2147483647
   ·
    clear x0 x1 x2 x3 x4 x5 hab hao
    go_wp2_with (fail)
    refine (ends_calls w wq w1.heap.size vh es ms bd HZQ.out.bq (by have := HZQ.out.few; have := HNN.out; omega) HZQ.out.sm).mono ?_
    rintro e w9 ⟨rfl, hb9⟩
    have HB9 := sqM hb9
    clear hb9
    go_wp2
    go_ret
    exact ⟨rfl, HB9.out⟩
   ·
    go_wp2_with (fail)
    refine (step_calls w wq w1.heap.size vh es ms bd (6 * i) o HZQ.out HNN.out HO.out).mono ?_
    rintro e w9 ⟨vh9, es9, ms9, bd9, rfl, hz9, hx9⟩
    have HZ9 : Aside0 (Bz w w9 w1.heap.size vh9 es9 ms9 bd9 (6 * (i + 1))) := ⟨by rw [show 6 * (i + 1) = 6 * i + 6 by omega]; exact hz9⟩
    clear hz9 hx9 x0 x1 x2 x3 x4 x5
    go_wp2
    go_roundw
    case rel => exact ⟨i + 1, _, _, _, _, _, HLT.out, by rw [HW1.out], rfl, HZ9⟩
    case measure => exact meas HW1.out HLT.out
  ·
   obtain rfl : i = ops.length := by omega
   have HNN : Aside0 (6 * ops.length ≤ 10000000) := ⟨by have := HL.out; omega⟩
   clear hlt hi
   go_wp2_with (fail)
   refine (ends_calls w wr w1.heap.size vh es ms bd HZ.out.bq (by have := HZ.out.few; have := HNN.out; omega) HZ.out.sm).mono ?_
   rintro e w9 ⟨rfl, hb9⟩
   have HB9 := sqM hb9
   clear hb9
   go_wp2
   go_ret
   exact ⟨rfl, HB9.out⟩
end Go.Proofs.Ytdhajlkiiphlfaa.Par
namespace Go.Proofs.YtdhajlkiiphlfaaW.PrintWords
open Go.ChangeShapes Go.WideShapes
end Go.Proofs.YtdhajlkiiphlfaaW.PrintWords
