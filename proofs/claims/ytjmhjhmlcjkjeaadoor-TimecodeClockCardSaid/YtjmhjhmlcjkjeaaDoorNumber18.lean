/- A part of a proof: see the text's own remark. No conditions beyond its theorems' own. -/
import Derived.Test.YtjmhjhmlcjkjeaaDoorRead18
import Derived.Test.YtjmhjhmlcjkjeaaDoorFind18
/-! timecode.Number, walked -/
namespace Go.Proofs.YtjmhjhmlcjkjeaaDoor.Tab
open Go.RowKit Go.Proofs.YtjmhjhmlcjkjeaaDoorW.PrintWords Go.Proofs.YtjmhjhmlcjkjeaaDoorW.PrintLast Go.Proofs.YtjmhjhmlcjkjeaaDoorW.PrintMore Go.Proofs.YtjmhjhmlcjkjeaaDoor.QBaseTimecodeNumbers
set_option linter.unusedVariables false
set_option linter.unusedSimpArgs false
/-- the number, or the place and the number of what is wrong -/
def numF (r : Int) (s : ByteArray) : Int × Int × Int := if r < 1 then (0, 0, 181) else if r > 7 then (0, 0, 181) else readF (row r.toNat).1 (row r.toNat).2.2.2 s
/-- what Number hands out -/
def NumOut (w : World) (n at_ er : Int) (e : Ending) (w' : World) : Prop := Below w.heap.size w w' ∧
  ((er = 0 ∧ e = .returned (.tuple #[.int .i64 n, .nilIface])) ∨
   (er ≠ 0 ∧ ∃ g, e = .returned (.tuple #[.int .i64 0, .iface 64 (.pointer (some ⟨g, 0, none⟩))]) ∧ w.heap.size ≤ g ∧ w'.heap[g]? = some (.cells #[.int .i64 at_, .int .i64 er] 66 (0, 0))))
theorem row_bounds {i : Nat} (h1 : 1 ≤ i) (h7 : i ≤ 7) : (0 < (row i).1 ∧ (row i).1 ≤ 60) ∧ (0 ≤ (row i).2.2.2 ∧ (row i).2.2.2 ≤ 4) := by
  have hi : i = 1 ∨ i = 2 ∨ i = 3 ∨ i = 4 ∨ i = 5 ∨ i = 6 ∨ i = 7 := by omega
  rcases hi with rfl | rfl | rfl | rfl | rfl | rfl | rfl <;> decide
theorem findF_in {r : Int} (h1 : ¬ r < 1) (h7 : ¬ r > 7) : findF r = some ((row r.toNat).1, (row r.toNat).2.1, (row r.toNat).2.2.1, (row r.toNat).2.2.2, true) := by
  unfold findF; rw [if_neg h1, if_neg h7]
theorem findF_out {r : Int} (h : r < 1 ∨ r > 7) : findF r = some (0, 0, 0, 0, false) := by
  unfold findF
  by_cases h1 : r < 1
  · rw [if_pos h1]
  · rw [if_neg h1, if_pos (by omega)]
set_option maxHeartbeats 1600000 in
set_option maxRecDepth 100000 in
theorem number_bad (r : Int) (s : ByteArray) (h : r < 1 ∨ r > 7) (w : World) (hG : TabAt w) : Calls Tryd.prog 13 #[.int .i64 r, .string s] w (NumOut w 0 0 181) := by
  have HF := Aside0.mk (findF_out h)
  clear h
  go_enter Tryd.func13, Tryd.ntmps13
  go_wp2_with (first
    | (go_at_call 25; (with_reducible refine (find_calls r 0 0 0 0 false _ (TabAt.below hG (by repeat (first | exact Below.refl _ _ | apply below_alloc | apply pw_below_drewN | apply below_drew1))) HF.out).mono ?_); rintro e w1 ⟨rfl, hb1⟩))
  go_ret2
  have hB : Below w.heap.size w w1 := hb1
  refine ⟨below_alloc (below_alloc hB _) _, .inr ⟨by decide, w1.heap.size + 1, rfl, by have := hB.size; omega, ?_⟩⟩
  have := blk_new (w1.alloc (.cells #[.int .i64 0, .int .i64 0, .int .i64 0, .int .i64 0] 54)) (.cells #[.int .i64 0, .int .i64 181] 66)
  simpa using this
set_option maxHeartbeats 1600000 in
set_option maxRecDepth 100000 in
theorem number_ok (r : Int) (s : ByteArray) (h1 : ¬ r < 1) (h7 : ¬ r > 7) (hs : s.size ≤ 140737488355328) (n at_ er : Int) (he : er = 0) (hr : readF (row r.toNat).1 (row r.toNat).2.2.2 s = (n, at_, er)) (w : World) (hG : TabAt w) : Calls Tryd.prog 13 #[.int .i64 r, .string s] w (NumOut w n at_ 0) := by
  have HF := Aside0.mk (findF_in h1 h7)
  have HRB := Aside0.mk (row_bounds (i := r.toNat) (by omega) (by omega))
  have HS := Aside0.mk hs
  have HR := Aside0.mk hr
  have HE := Aside0.mk he
  clear h1 h7 hs hr he
  generalize row r.toNat = R at HF HRB HR
  obtain ⟨a, b, c, d⟩ := R
  go_enter Tryd.func13, Tryd.ntmps13
  go_wp2_with (first
    | (go_at_call 25; (with_reducible refine (find_calls r a b c d true _ (TabAt.below hG (by repeat (first | exact Below.refl _ _ | apply below_alloc | apply pw_below_drewN | apply below_drew1))) HF.out).mono ?_); rintro e w1 ⟨rfl, hb1⟩))
  have HB1 : Aside0 (Below w.heap.size w w1) := ⟨hb1⟩
  clear hb1
  refine (read_calls a b c d s HS.out HRB.out.1 HRB.out.2 n at_ er HR.out _).mono ?_
  rintro e w2 ⟨rfl, hb2⟩
  have HB2 : Aside0 (Below w.heap.size w w2) := ⟨below_step (below_alloc HB1.out _) hb2⟩
  clear hb2
  obtain rfl := HE.out
  go_wp2
  go_ret2
  exact ⟨HB2.out, .inl ⟨rfl, rfl⟩⟩
set_option maxHeartbeats 1600000 in
set_option maxRecDepth 100000 in
theorem number_err (r : Int) (s : ByteArray) (h1 : ¬ r < 1) (h7 : ¬ r > 7) (hs : s.size ≤ 140737488355328) (n at_ er : Int) (he : er ≠ 0) (hr : readF (row r.toNat).1 (row r.toNat).2.2.2 s = (n, at_, er)) (w : World) (hG : TabAt w) : Calls Tryd.prog 13 #[.int .i64 r, .string s] w (NumOut w 0 at_ er) := by
  have HF := Aside0.mk (findF_in h1 h7)
  have HRB := Aside0.mk (row_bounds (i := r.toNat) (by omega) (by omega))
  have HS := Aside0.mk hs
  have HR := Aside0.mk hr
  have HE := Aside0.mk he
  clear h1 h7 hs hr he
  generalize row r.toNat = R at HF HRB HR
  obtain ⟨a, b, c, d⟩ := R
  go_enter Tryd.func13, Tryd.ntmps13
  go_wp2_with (first
    | (go_at_call 25; (with_reducible refine (find_calls r a b c d true _ (TabAt.below hG (by repeat (first | exact Below.refl _ _ | apply below_alloc | apply pw_below_drewN | apply below_drew1))) HF.out).mono ?_); rintro e w1 ⟨rfl, hb1⟩))
  have HB1 : Aside0 (Below w.heap.size w w1) := ⟨hb1⟩
  clear hb1
  refine (read_calls a b c d s HS.out HRB.out.1 HRB.out.2 n at_ er HR.out _).mono ?_
  rintro e w2 ⟨rfl, hb2⟩
  have HB2 : Aside0 (Below w.heap.size w w2) := ⟨below_step (below_alloc HB1.out _) hb2⟩
  clear hb2
  have e1 : (er != 0) = true := bne_iff_ne.mpr HE.out
  go_wp2
  go_ret2
  refine ⟨below_alloc HB2.out _, .inr ⟨HE.out, w2.heap.size, rfl, HB2.out.size, ?_⟩⟩
  exact blk_new w2 _
theorem number_calls (r : Int) (s : ByteArray) (hs : s.size ≤ 140737488355328) (n at_ er : Int) (hr : numF r s = (n, at_, er)) (w : World) (hG : TabAt w) : Calls Tryd.prog 13 #[.int .i64 r, .string s] w (NumOut w (if er = 0 then n else 0) at_ er) := by
  unfold numF at hr
  by_cases h1 : r < 1
  · rw [if_pos h1] at hr
    simp only [Prod.mk.injEq] at hr
    obtain ⟨rfl, rfl, rfl⟩ := hr
    exact number_bad r s (.inl h1) w hG
  · rw [if_neg h1] at hr
    by_cases h7 : r > 7
    · rw [if_pos h7] at hr
      simp only [Prod.mk.injEq] at hr
      obtain ⟨rfl, rfl, rfl⟩ := hr
      exact number_bad r s (.inr h7) w hG
    · rw [if_neg h7] at hr
      by_cases he : er = 0
      · subst he
        rw [if_pos rfl]
        exact number_ok r s h1 h7 hs n at_ 0 rfl hr w hG
      · rw [if_neg he]
        exact number_err r s h1 h7 hs n at_ er he hr w hG
end Go.Proofs.YtjmhjhmlcjkjeaaDoor.Tab
