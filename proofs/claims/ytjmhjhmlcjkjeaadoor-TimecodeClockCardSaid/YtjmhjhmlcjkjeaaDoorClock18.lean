/- A part of a proof: see the text's own remark. No conditions beyond its theorems' own. -/
import Derived.Test.YtjmhjhmlcjkjeaaDoorNear18
import Derived.Test.YtjmhjhmlcjkjeaaDoorDigits18
import Derived.Test.YtjmhjhmlcjkjeaaDoorPureTimecodeNumbers
/-! the law TimecodeClock, walked -/
namespace Go.Proofs.YtjmhjhmlcjkjeaaDoor.Clock18
open Go.RowKit Go.Proofs.YtjmhjhmlcjkjeaaDoorW.PrintWords Go.Proofs.YtjmhjhmlcjkjeaaDoorW.PrintLast Go.Proofs.YtjmhjhmlcjkjeaaDoorW.PrintMore Go.Proofs.YtjmhjhmlcjkjeaaDoor.Tab
set_option linter.unusedVariables false
set_option linter.unusedSimpArgs false
set_option maxHeartbeats 8000000 in
set_option maxRecDepth 100000 in
theorem clock_calls (a0 a1 cc r dy n out c D0 D3 D6 D9 x1 x2 x3 sec y N j : Int) (S : ByteArray) (q1 q2 tt far : Nat) (w : World) (hG : TabAt w)
    (hP : dailieslaw18_place.f a0 7 = some cc) (hr1 : IntKind.i64.wrap (1 + cc) = r) (hD : QUTimecodeNumbers.timecode_PerDay.f r = some (dy, 0)) (hdy : 1 ≤ dy)
    (hP2 : dailieslaw18_place.f a1 dy = some n) (hN : QUTimecodeNumbers.timecode_Name.f r n = some (S, 0)) (hO : QUTimecodeNumbers.timecode_Dropped.f r n = some (out, 0))
    (hS : ∀ w, TabAt w → Calls Tryd.prog 20 #[.int .i64 r, .int .i64 n] w fun e w' => e = .returned (.tuple #[.float .f64 q1, .int .i64 0]) ∧ Below w.heap.size w w')
    (hsz : S.size = 11) (v0 : dailiesref18_value.f S 0 = some D0) (v3 : dailiesref18_value.f S 3 = some D3) (v6 : dailiesref18_value.f S 6 = some D6) (v9 : dailiesref18_value.f S 9 = some D9)
    (e1 : IntKind.i64.wrap (3600 * D0) = x1) (e2 : IntKind.i64.wrap (60 * D3) = x2) (e3 : IntKind.i64.wrap (x1 + x2) = x3) (e4 : IntKind.i64.wrap (x3 + D6) = sec)
    (e5 : IntKind.i64.wrap (n + out) = N) (e6 : IntKind.i64.wrap (c * sec) = y) (e7 : IntKind.i64.wrap (y + D9) = N)
    (f1 : floatBits .quo .f64 (floatOfInt .f64 D9) (floatOfInt .f64 c) = some q2) (f2 : floatBits .add .f64 (floatOfInt .f64 sec) q2 = some tt) (f3 : floatBits .sub .f64 q1 tt = some far)
    (hr : (r = 1 ∧ c = 24) ∨ (r = 2 ∧ c = 25) ∨ (r = 3 ∧ c = 30) ∨ (r = 4 ∧ c = 30) ∨ (r = 5 ∧ c = 50) ∨ (r = 6 ∧ c = 60) ∨ (r = 7 ∧ c = 60))
    (hf : (r ≠ 4 ∧ r ≠ 7 → out = 0 ∧ FloatKind.f64.format.order far 4517329193108106637 = some .lt ∧ FloatKind.f64.format.order far 13740701229962882445 = some .gt) ∧
      (r = 4 ∨ r = 7 → FloatKind.f64.format.order far 4594572339843380019 = some .lt ∧ FloatKind.f64.format.order far 13817944376698155827 = some .gt)) :
    Calls Tryd.prog 6 #[.int .i64 a0, .int .i64 a1] w fun e w' => e = .returned (.bool true) ∧ Below w.heap.size w w' := by
  have HG := Aside0.mk hG
  have HP := Aside0.mk hP
  have HD := Aside0.mk hD
  have HP2 := Aside0.mk hP2
  have HN := Aside0.mk hN
  have HO := Aside0.mk hO
  have HS := Aside0.mk hS
  have V0 := Aside0.mk v0
  have V3 := Aside0.mk v3
  have V6 := Aside0.mk v6
  have V9 := Aside0.mk v9
  have HR := Aside0.mk hr
  have HF := Aside0.mk hf
  have hop1 : ∀ t w, (binOp .quo t (.float .f64 (floatOfInt .f64 D9)) (.float .f64 (floatOfInt .f64 c))).run Tryd.prog w = .ok (.float .f64 q2) w := fun t w => run_float_arith w .quo t .f64 _ _ q2 f1
  have hop2 : ∀ t w, (binOp .add t (.float .f64 (floatOfInt .f64 sec)) (.float .f64 q2)).run Tryd.prog w = .ok (.float .f64 tt) w := fun t w => run_float_arith w .add t .f64 _ _ tt f2
  have hop3 : ∀ t w, (binOp .sub t (.float .f64 q1) (.float .f64 tt)).run Tryd.prog w = .ok (.float .f64 far) w := fun t w => run_float_arith w .sub t .f64 _ _ far f3
  have d1 : decide (dy < 1) = false := decide_eq_false (by omega)
  have s1 : ((S.size : Int) != 11) = false := by rw [hsz]; rfl
  clear hG hP hD hP2 hN hO hS v0 v3 v6 v9 hr hf f1 f2 f3 hdy hsz
  go_enter Tryd.func6, Tryd.ntmps6
  go_wp2_with (fail)
  refine (shown_calls _ HG.out).mono ?_
  rintro e w1 ⟨rfl, hb⟩
  have B1 : Aside0 (Below w.heap.size w w1) := ⟨hb⟩
  clear hb
  go_wp2_with (fail)
  refine (dailieslaw18_place.calls a0 7 cc _ HP.out).mono ?_
  rintro e w2 ⟨rfl, ⟨nd1, rfl⟩⟩
  go_wp2_with (fail)
  refine (QUTimecodeNumbers.timecode_PerDay.calls r dy 0 _ (HG.out.below (pw_below_drewN B1.out _)) HD.out).mono ?_
  rintro e w3 ⟨rfl, hb⟩
  have B3 : Aside0 (Below w.heap.size w w3) := ⟨below_step (pw_below_drewN B1.out _) hb⟩
  clear hb
  go_wp2_with (fail)
  refine (dailieslaw18_place.calls a1 dy n _ HP2.out).mono ?_
  rintro e w4 ⟨rfl, ⟨nd2, rfl⟩⟩
  go_wp2_with (fail)
  refine (QUTimecodeNumbers.timecode_Name.calls r n S 0 _ (HG.out.below (pw_below_drewN B3.out _)) HN.out).mono ?_
  rintro e w5 ⟨rfl, hb⟩
  have B5 : Aside0 (Below w.heap.size w w5) := ⟨below_step (pw_below_drewN B3.out _) hb⟩
  clear hb
  go_wp2_with (fail)
  refine (QUTimecodeNumbers.timecode_Dropped.calls r n out 0 _ (HG.out.below B5.out) HO.out).mono ?_
  rintro e w6 ⟨rfl, hb⟩
  have B6 : Aside0 (Below w.heap.size w w6) := ⟨below_step B5.out hb⟩
  clear hb
  go_wp2_with (fail)
  refine (HS.out _ (HG.out.below B6.out)).mono ?_
  rintro e w7 ⟨rfl, hb⟩
  have B7 : Aside0 (Below w.heap.size w w7) := ⟨below_step B6.out hb⟩
  clear hb
  rcases HR.out with ⟨rfl, rfl⟩ | ⟨rfl, rfl⟩ | ⟨rfl, rfl⟩ | ⟨rfl, rfl⟩ | ⟨rfl, rfl⟩ | ⟨rfl, rfl⟩ | ⟨rfl, rfl⟩
  case inr.inr.inr.inl =>
    obtain ⟨o1, o2⟩ := HF.out.2 (by decide)
    clear HF HR
    go_wp2_with (first
      | (go_at_call 22; (first | (with_reducible refine (digits_calls S 0 D0 _ V0.out).mono ?_) | (with_reducible refine (digits_calls S 3 D3 _ V3.out).mono ?_) | (with_reducible refine (digits_calls S 6 D6 _ V6.out).mono ?_) | (with_reducible refine (digits_calls S 9 D9 _ V9.out).mono ?_)); rintro e w' ⟨rfl, ⟨nd, rfl⟩⟩)
      | (simp only [hop1]) | (simp only [hop2]) | (simp only [hop3]))
    go_ret
    exact ⟨by first | rfl | simp [o1, o2] | simp, by repeat (first | exact B7.out | apply below_alloc | apply pw_below_drewN)⟩
  case inr.inr.inr.inr.inr.inr =>
    obtain ⟨o1, o2⟩ := HF.out.2 (by decide)
    clear HF HR
    go_wp2_with (first
      | (go_at_call 22; (first | (with_reducible refine (digits_calls S 0 D0 _ V0.out).mono ?_) | (with_reducible refine (digits_calls S 3 D3 _ V3.out).mono ?_) | (with_reducible refine (digits_calls S 6 D6 _ V6.out).mono ?_) | (with_reducible refine (digits_calls S 9 D9 _ V9.out).mono ?_)); rintro e w' ⟨rfl, ⟨nd, rfl⟩⟩)
      | (simp only [hop1]) | (simp only [hop2]) | (simp only [hop3]))
    go_ret
    exact ⟨by first | rfl | simp [o1, o2] | simp, by repeat (first | exact B7.out | apply below_alloc | apply pw_below_drewN)⟩
  all_goals
    obtain ⟨ho, o1, o2⟩ := HF.out.1 (by decide)
    have ho2 : (out == 0) = true := by rw [ho]; rfl
    clear ho HF HR
    go_wp2_with (first
      | (go_at_call 22; (first | (with_reducible refine (digits_calls S 0 D0 _ V0.out).mono ?_) | (with_reducible refine (digits_calls S 3 D3 _ V3.out).mono ?_) | (with_reducible refine (digits_calls S 6 D6 _ V6.out).mono ?_) | (with_reducible refine (digits_calls S 9 D9 _ V9.out).mono ?_)); rintro e w' ⟨rfl, ⟨nd, rfl⟩⟩)
      | (simp only [hop1]) | (simp only [hop2]) | (simp only [hop3]))
    go_ret
    exact ⟨by first | rfl | simp [o1, o2] | simp, by repeat (first | exact B7.out | apply below_alloc | apply pw_below_drewN)⟩
end Go.Proofs.YtjmhjhmlcjkjeaaDoor.Clock18
