/- A part of a proof: see the text's own remark. No conditions beyond its theorems' own. -/
import Derived.Test.YtjmhjhmlcjkjeaaDoorIs18
import Derived.Test.YtjmhjhmlcjkjeaaDoorTold18
import Derived.Test.YtjmhjhmlcjkjeaaDoorShown18
/-! the law TimecodeReads, walked by its callees' contracts -/
namespace Go.Proofs.YtjmhjhmlcjkjeaaDoor.Reads18
open Go.RowKit Go.Proofs.YtjmhjhmlcjkjeaaDoorW.PrintWords Go.Proofs.YtjmhjhmlcjkjeaaDoorW.PrintLast Go.Proofs.YtjmhjhmlcjkjeaaDoorW.PrintMore Go.Proofs.YtjmhjhmlcjkjeaaDoor.Tab
set_option linter.unusedVariables false
theorem numF_shape (r : Int) (s : ByteArray) : ((numF r s).2.2 = 0 → (numF r s).2.1 = 0) ∧ ((numF r s).2.2 ≠ 0 → (numF r s).1 = 0) := by
  unfold numF readF
  repeat' split
  all_goals (constructor <;> intro h <;> first | rfl | (exact absurd h (by decide)) | (simp at h))
theorem number' (r : Int) (s : ByteArray) (hs : s.size ≤ 140737488355328) (n a c : Int) (h : numF r s = (n, a, c)) (w : World) (hG : TabAt w) :
    Calls Tryd.prog 13 #[.int .i64 r, .string s] w fun e w' => Below w.heap.size w w' ∧ ∃ E, e = .returned (.tuple #[.int .i64 n, E]) ∧ Err w' E a c := by
  have sh := numF_shape r s
  rw [h] at sh
  refine (number_calls r s hs n a c h w hG).mono ?_
  rintro e w' ⟨hb, ⟨h0, rfl⟩ | ⟨h0, g, rfl, hg, hgw⟩⟩
  · refine ⟨hb, _, by rw [if_pos h0], .inl ⟨sh.1 h0, h0, rfl⟩⟩
  · refine ⟨hb, _, ?_, .inr ⟨g, rfl, hgw⟩⟩
    have := sh.2 h0
    simp only at this
    rw [this]
set_option maxHeartbeats 4000000 in
set_option maxRecDepth 100000 in
theorem reads_true (r : Int) (s o : ByteArray) (hs : s.size ≤ 140737488355328) (ho : o.size ≤ 140737488355328) (w : World) (hG : TabAt w) (hH : HandAt w) :
    Calls Tryd.prog 8 #[.int .i64 r, .string s, .string o] w fun e w' => e = .returned (.bool true) ∧ Below w.heap.size w w' := by
  obtain ⟨n1, a1, c1, h1⟩ : ∃ n a c, numF r s = (n, a, c) := ⟨_, _, _, rfl⟩
  obtain ⟨n2, a2, c2, h2⟩ : ∃ n a c, numF r o = (n, a, c) := ⟨_, _, _, rfl⟩
  have HS := Aside0.mk hs
  have HO := Aside0.mk ho
  have HG := Aside0.mk hG
  have HH := Aside0.mk hH
  have H1 := Aside0.mk h1
  have H2 := Aside0.mk h2
  have T1 := Aside0.mk ((Told18.told_f r s).trans (congrArg some h1))
  have T2 := Aside0.mk ((Told18.told_f r o).trans (congrArg some h2))
  clear hs ho hG hH h1 h2
  go_enter Tryd.func8, Tryd.ntmps8
  go_wp2_with (fail)
  refine (shown_calls _ HG.out).mono ?_
  rintro e x1 ⟨rfl, hb⟩
  have B1 : Aside0 (Below w.heap.size w x1) := ⟨hb⟩
  clear hb
  go_wp2_with (fail)
  refine (number' r s HS.out n1 a1 c1 H1.out _ (HG.out.below B1.out)).mono ?_
  rintro e x2 ⟨hb, E1, rfl, he⟩
  have R1 : Aside0 (Err x2 E1 a1 c1) := ⟨he⟩
  have B2 : Aside0 (Below w.heap.size w x2) := ⟨below_step B1.out hb⟩
  clear hb he
  go_wp2_with (fail)
  refine (number' r o HO.out n2 a2 c2 H2.out _ (HG.out.below B2.out)).mono ?_
  rintro e x3 ⟨hb, E2, rfl, he⟩
  have R2 : Aside0 (Err x3 E2 a2 c2) := ⟨he⟩
  have B3 : Aside0 (Below w.heap.size w x3) := ⟨below_step B2.out hb⟩
  replace R1 : Aside0 (Err x3 E1 a1 c1) := ⟨R1.out.below hb⟩
  clear hb he
  go_wp2_with (fail)
  refine (number' r s HS.out n1 a1 c1 H1.out _ (HG.out.below B3.out)).mono ?_
  rintro e x4 ⟨hb, E3, rfl, he⟩
  have R3 : Aside0 (Err x4 E3 a1 c1) := ⟨he⟩
  have B4 : Aside0 (Below w.heap.size w x4) := ⟨below_step B3.out hb⟩
  replace R1 : Aside0 (Err x4 E1 a1 c1) := ⟨R1.out.below hb⟩
  replace R2 : Aside0 (Err x4 E2 a2 c2) := ⟨R2.out.below hb⟩
  clear hb he
  go_wp2_with (fail)
  refine (told_calls E1 a1 c1 _ (HH.out.below B4.out) R1.out).mono ?_
  rintro e x5 ⟨rfl, hb⟩
  have B5 : Aside0 (Below w.heap.size w x5) := ⟨below_step B4.out hb⟩
  replace R2 : Aside0 (Err x5 E2 a2 c2) := ⟨R2.out.below hb⟩
  replace R3 : Aside0 (Err x5 E3 a1 c1) := ⟨R3.out.below hb⟩
  clear hb
  go_wp2_with (fail)
  refine (told_calls E2 a2 c2 _ (HH.out.below B5.out) R2.out).mono ?_
  rintro e x6 ⟨rfl, hb⟩
  have B6 : Aside0 (Below w.heap.size w x6) := ⟨below_step B5.out hb⟩
  replace R3 : Aside0 (Err x6 E3 a1 c1) := ⟨R3.out.below hb⟩
  clear hb
  go_wp2_with (fail)
  refine (told_calls E3 a1 c1 _ (HH.out.below B6.out) R3.out).mono ?_
  rintro e x7 ⟨rfl, hb⟩
  have B7 : Aside0 (Below w.heap.size w x7) := ⟨below_step B6.out hb⟩
  clear hb
  go_wp2_with (fail)
  refine (QRTimecodeReads.dailiesref18_Told.calls 1500 r s n1 a1 c1 _ T1.out).mono ?_
  rintro e x8 ⟨rfl, ⟨nd1, rfl⟩⟩
  go_wp2_with (fail)
  refine (QRTimecodeReads.dailiesref18_Told.calls 1500 r o n2 a2 c2 _ T2.out).mono ?_
  rintro e x9 ⟨rfl, ⟨nd2, rfl⟩⟩
  go_wp2
  go_ret
  exact ⟨by simp, pw_below_drewN B7.out _⟩
end Go.Proofs.YtjmhjhmlcjkjeaaDoor.Reads18
