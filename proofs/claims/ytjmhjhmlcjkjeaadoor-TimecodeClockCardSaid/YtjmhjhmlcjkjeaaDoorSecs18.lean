/- A part of a proof: see the text's own remark. No conditions beyond its theorems' own. -/
import Derived.Test.YtjmhjhmlcjkjeaaDoorQUTimecodeNumbersx3
import Derived.Test.YtjmhjhmlcjkjeaaDoorFloat18
/-! Seconds, the code's and the document's, walked -/
namespace Go.Proofs.YtjmhjhmlcjkjeaaDoor.Tab
open Go.RowKit Go.Proofs.YtjmhjhmlcjkjeaaDoorW.PrintWords Go.Proofs.YtjmhjhmlcjkjeaaDoorW.PrintLast Go.Proofs.YtjmhjhmlcjkjeaaDoorW.PrintMore Go.Proofs.YtjmhjhmlcjkjeaaDoor.QUTimecodeNumbers
set_option linter.unusedVariables false
set_option linter.unusedSimpArgs false
set_option maxHeartbeats 1600000 in
set_option maxRecDepth 100000 in
theorem secs_bad (r n er : Int) (a b c d : Int) (w : World) (hG : TabAt w) (h : timecode_of.f r n = some (a, b, c, d, er)) (he : er ≠ 0) :
    Calls Tryd.prog 20 #[.int .i64 r, .int .i64 n] w fun e w' => e = .returned (.tuple #[.float .f64 0, .int .i64 er]) ∧ Below w.heap.size w w' := by
  have H := Aside0.mk h
  have e1 : (er != 0) = true := bne_iff_ne.mpr he
  clear h he
  go_enter Tryd.func20, Tryd.ntmps20
  go_wp2_with (first
    | (go_at_call 27; (with_reducible refine (timecode_of.calls r n a b c d er _ hG H.out).mono ?_); rintro e w1 ⟨rfl, hb1⟩; have HB1 := Aside0.mk hb1; clear hb1))
  go_ret2
  trace_state
  exact ⟨rfl, below_alloc HB1.out _⟩
set_option maxHeartbeats 1600000 in
set_option maxRecDepth 100000 in
theorem secs_ok (r n : Int) (a b c d : Int) (q : Nat) (w : World) (hG : TabAt w) (h : timecode_of.f r n = some (a, b, c, d, 0)) (hq : floatBits .quo .f64 (floatOfInt .f64 (wrap64 (n * c))) (floatOfInt .f64 b) = some q) :
    Calls Tryd.prog 20 #[.int .i64 r, .int .i64 n] w fun e w' => e = .returned (.tuple #[.float .f64 q, .int .i64 0]) ∧ Below w.heap.size w w' := by
  have H := Aside0.mk h
  have hop : ∀ t w, (binOp .quo t (.float .f64 (floatOfInt .f64 (wrap64 (n * c)))) (.float .f64 (floatOfInt .f64 b))).run Tryd.prog w = .ok (.float .f64 q) w := fun t w => run_float_arith w .quo t .f64 _ _ q hq
  clear h hq
  go_enter Tryd.func20, Tryd.ntmps20
  go_wp2_with (first
    | (go_at_call 27; (with_reducible refine (timecode_of.calls r n a b c d 0 _ hG H.out).mono ?_); rintro e w1 ⟨rfl, hb1⟩; have HB1 := Aside0.mk hb1; clear hb1)
    | (simp only [hop]))
  go_ret2
  exact ⟨rfl, below_alloc HB1.out _⟩
set_option maxHeartbeats 1600000 in
set_option maxRecDepth 100000 in
theorem refSecs_bad (k : Nat) (r n er : Int) (w : World) (h : dailiesref18_asked.f k r n = some er) (he : er ≠ 0) :
    Calls Tryd.prog 21 #[.int .i64 r, .int .i64 n] w fun e w' => e = .returned (.tuple #[.float .f64 0, .int .i64 er]) ∧ Drawn0 w w' := by
  have H := Aside0.mk h
  have e1 : (er != 0) = true := bne_iff_ne.mpr he
  clear h he
  go_enter Tryd.func21, Tryd.ntmps21
  go_wp2_with (first
    | (go_at_call 33; (with_reducible refine (dailiesref18_asked.calls k r n er _ H.out).mono ?_); rintro e w1 ⟨rfl, ⟨n1, rfl⟩⟩))
  go_ret2
  exact ⟨rfl, ⟨_, rfl⟩⟩
set_option maxHeartbeats 1600000 in
set_option maxRecDepth 100000 in
theorem refSecs_ok (k : Nat) (r n a b : Int) (q : Nat) (w : World) (h : dailiesref18_asked.f k r n = some 0) (hs : dailiesref18_speed.f k r = some (a, b)) (hq : floatBits .quo .f64 (floatOfInt .f64 (wrap64 (n * b))) (floatOfInt .f64 a) = some q) :
    Calls Tryd.prog 21 #[.int .i64 r, .int .i64 n] w fun e w' => e = .returned (.tuple #[.float .f64 q, .int .i64 0]) ∧ Drawn0 w w' := by
  have H := Aside0.mk h
  have HS := Aside0.mk hs
  have hop : ∀ t w, (binOp .quo t (.float .f64 (floatOfInt .f64 (wrap64 (n * b)))) (.float .f64 (floatOfInt .f64 a))).run Tryd.prog w = .ok (.float .f64 q) w := fun t w => run_float_arith w .quo t .f64 _ _ q hq
  clear h hs hq
  go_enter Tryd.func21, Tryd.ntmps21
  go_wp2_with (first
    | (go_at_call 33; (with_reducible refine (dailiesref18_asked.calls k r n 0 _ H.out).mono ?_); rintro e w1 ⟨rfl, ⟨n1, rfl⟩⟩)
    | (go_at_call 34; (with_reducible refine (dailiesref18_speed.calls k r a b _ HS.out).mono ?_); rintro e w1 ⟨rfl, ⟨n2, rfl⟩⟩)
    | (simp only [hop]))
  go_ret2
  exact ⟨rfl, ⟨_, rfl⟩⟩
end Go.Proofs.YtjmhjhmlcjkjeaaDoor.Tab
