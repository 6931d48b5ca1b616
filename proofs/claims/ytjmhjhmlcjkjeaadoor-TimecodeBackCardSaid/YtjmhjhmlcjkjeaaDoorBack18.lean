/- A part of a proof: see the text's own remark. No conditions beyond its theorems' own. -/
import Derived.Test.YtjmhjhmlcjkjeaaDoorShown18
import Derived.Test.YtjmhjhmlcjkjeaaDoorTimeOQTTimecodeBack
/-! the law TimecodeBack, walked -/
namespace Go.Proofs.YtjmhjhmlcjkjeaaDoor.Tab
open Go.RowKit Go.Proofs.YtjmhjhmlcjkjeaaDoorW.PrintWords Go.Proofs.YtjmhjhmlcjkjeaaDoorW.PrintLast Go.Proofs.YtjmhjhmlcjkjeaaDoorW.PrintMore Go.Proofs.YtjmhjhmlcjkjeaaDoor.QTTimecodeBack
set_option linter.unusedVariables false
set_option linter.unusedSimpArgs false
set_option maxHeartbeats 4000000 in
set_option maxRecDepth 100000 in
theorem back_calls (a0 a1 a2 p0 day m n : Int) (P : Int) (sm sn : ByteArray) (w : World) (hG : TabAt w) (hp : dailieslaw18_place.f a0 7 = some p0) (hP : wrap64 (1 + p0) = P) (hd : timecode_PerDay.f P = some (day, 0)) (hd1 : ¬ day < 1)
    (hm : dailieslaw18_place.f a1 day = some m) (hn : dailieslaw18_place.f a2 day = some n) (nm : timecode_Name.f P m = some (sm, 0)) (nn : timecode_Name.f P n = some (sn, 0)) (hsm : sm.size ≤ 140737488355328) (hsn : sn.size ≤ 140737488355328)
    (um : numF P sm = (m, 0, 0)) (un : numF P sn = (n, 0, 0)) (hl : Op.bytesLess sm.toList sn.toList = decide (m < n)) (he : (sm.toList == sn.toList) = (m == n)) :
    Calls Tryd.prog 3 #[.int .i64 a0, .int .i64 a1, .int .i64 a2] w fun e w' => e = .returned (.bool true) ∧ Below w.heap.size w w' := by
  have HP0 := Aside0.mk hp
  have HPP := Aside0.mk hP
  have HD := Aside0.mk hd
  have HM := Aside0.mk hm
  have HN := Aside0.mk hn
  have HNM := Aside0.mk nm
  have HNN := Aside0.mk nn
  have HSM := Aside0.mk hsm
  have HSN := Aside0.mk hsn
  have HUM := Aside0.mk um
  have HUN := Aside0.mk un
  have HL := Aside0.mk hl
  have HE := Aside0.mk he
  have d1 : decide (day < 1) = false := decide_eq_false hd1
  clear hp hP hd hm hn nm nn hsm hsn um un hd1 hl he
  go_enter Tryd.func3, Tryd.ntmps3
  go_wp2_with (fail)
  refine (shown_calls _ hG).mono ?_
  rintro e w1 ⟨rfl, hb1⟩
  have HB1 := Aside0.mk hb1
  clear hb1
  go_wp2_with (fail)
  refine (dailieslaw18_place.calls a0 7 p0 _ HP0.out).mono ?_
  rintro e w' ⟨rfl, ⟨n1, rfl⟩⟩
  go_wp2_with (fail)
  rw [HPP.out]
  have HB2 := Aside0.mk (pw_below_drewN HB1.out n1)
  generalize w1.drewN n1 = w2 at HB2 ⊢
  clear HB1
  refine (timecode_PerDay.calls P day 0 _ (hG.below HB2.out) HD.out).mono ?_
  rintro e w3 ⟨rfl, hb3⟩
  have HB3 := Aside0.mk (below_step HB2.out hb3)
  clear hb3 HB2
  go_wp2_with (fail)
  refine (dailieslaw18_place.calls a1 day m _ HM.out).mono ?_
  rintro e w' ⟨rfl, ⟨n2, rfl⟩⟩
  go_wp2_with (fail)
  refine (dailieslaw18_place.calls a2 day n _ HN.out).mono ?_
  rintro e w' ⟨rfl, ⟨n3, rfl⟩⟩
  have HB4 := Aside0.mk (pw_below_drewN (pw_below_drewN HB3.out n2) n3)
  go_wp2_with (fail)
  refine (timecode_Name.calls P m sm 0 _ (hG.below (by repeat (first | exact HB3.out | apply pw_below_drewN))) HNM.out).mono ?_
  rintro e w5 ⟨rfl, hb5⟩
  have HB5 : Aside0 (Below w.heap.size w w5) := ⟨below_step (by repeat (first | exact HB3.out | apply pw_below_drewN)) hb5⟩
  clear hb5 HB4 HB3
  go_wp2_with (fail)
  refine (timecode_Name.calls P n sn 0 _ (hG.below HB5.out) HNN.out).mono ?_
  rintro e w6 ⟨rfl, hb6⟩
  have HB6 := Aside0.mk (below_step HB5.out hb6)
  clear hb6 HB5
  go_wp2_with (fail)
  refine (number_calls P sm HSM.out m 0 0 HUM.out _ (hG.below HB6.out)).mono ?_
  rintro e w7 ⟨hb7, ⟨_, rfl⟩ | ⟨h0, _⟩⟩
  rotate_left
  · exact absurd rfl h0
  have HB7 := Aside0.mk (below_step HB6.out hb7)
  clear hb7 HB6
  go_wp2_with (fail)
  refine (number_calls P sn HSN.out n 0 0 HUN.out _ (hG.below HB7.out)).mono ?_
  rintro e w8 ⟨hb8, ⟨_, rfl⟩ | ⟨h0, _⟩⟩
  rotate_left
  · exact absurd rfl h0
  have HB8 := Aside0.mk (below_step HB7.out hb8)
  clear hb8 HB7 hG
  have z1 : (m == m) = true := beq_self_eq_true _
  have z2 : (n == n) = true := beq_self_eq_true _
  obtain ⟨b, hb⟩ : ∃ b, b = decide (m < n) := ⟨_, rfl⟩
  have hl := HL.out
  rw [← hb] at hl
  replace hb := hb.symm
  obtain ⟨c, hc⟩ : ∃ c, c = (m == n) := ⟨_, rfl⟩
  have he := HE.out
  rw [← hc] at he
  replace hc := hc.symm
  have z3 : (b == b) = true := beq_self_eq_true _
  have z4 : (c == c) = true := beq_self_eq_true _
  clear HP0 HPP HD HM HN HNM HNN HSM HSN HUM HUN HL HE
  go_wp2
  go_ret
  exact ⟨rfl, HB8.out⟩
end Go.Proofs.YtjmhjhmlcjkjeaaDoor.Tab
