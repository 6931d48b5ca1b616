/- A part of a proof: see the text's own remark. No conditions beyond its theorems' own. -/
import Derived.Test.YtjmhjhmlcjkjeaaDoorTimePQTTimecodeAlong
/-! what Convert answers -/
namespace Go.Proofs.YtjmhjhmlcjkjeaaDoor.TQTTimecodeAlong
open Go.RowKit Go.Proofs.YtjmhjhmlcjkjeaaDoor.QTTimecodeAlong Go.Proofs.YtjmhjhmlcjkjeaaDoorW.PrintWords Go.Proofs.YtjmhjhmlcjkjeaaDoorW.PrintLast
open Go.Proofs.YtjmhjhmlcjkjeaaDoor (Tab.row)
/-- what Convert answers -/
def conv (p q : Nat) (n : Int) : Int × Int :=
  if 0 ≤ n ∧ n < day p then
    (if n * (Tab.row p).2.2.1 * (Tab.row q).2.1 / ((Tab.row p).2.1 * (Tab.row q).2.2.1) < day q then (n * (Tab.row p).2.2.1 * (Tab.row q).2.1 / ((Tab.row p).2.1 * (Tab.row q).2.2.1), 0) else (0, 184))
  else (0, 184)
theorem den_range {p q : Nat} (h1 : 1 ≤ p) (h7 : p ≤ 7) (g1 : 1 ≤ q) (g7 : q ≤ 7) : 1 ≤ (Tab.row p).2.1 * (Tab.row q).2.2.1 ∧ (Tab.row p).2.1 * (Tab.row q).2.2.1 ≤ 60060000 := by
  have a := row_range h1 h7
  have b := row_range g1 g7
  have := pb (a := (Tab.row p).2.1) (X := (Tab.row q).2.2.1) (M := 1001) (N := 60000) (by omega) (by omega) (by decide)
  refine ⟨?_, by omega⟩
  have := Int.mul_pos (a := (Tab.row p).2.1) (b := (Tab.row q).2.2.1) (by omega) (by omega)
  omega
theorem conv_f {p q : Nat} (h1 : 1 ≤ p) (h7 : p ≤ 7) (g1 : 1 ≤ q) (g7 : q ≤ 7) (n : Int) {k : Nat} (hk : 2 ≤ k) : timecode_Convert.f k (p : Int) (q : Int) n = some (conv p q n) := by
  have a := row_range h1 h7
  have b := row_range g1 g7
  have c := den_range h1 h7 g1 g7
  have dp := day_range h1 h7
  obtain ⟨k, rfl⟩ : ∃ j, k = j + 2 := ⟨k - 2, by omega⟩
  unfold timecode_Convert.f
  rw [find_f h1 h7, Option.bind_some, find_f g1 g7, Option.bind_some]
  show (if true = true then timecode_Convert.j0 (k + 2) n (!true) (Tab.row p).1 (Tab.row p).2.1 (Tab.row p).2.2.1 (Tab.row p).2.2.2 (Tab.row q).1 (Tab.row q).2.1 (Tab.row q).2.2.1 (Tab.row q).2.2.2 else _) = _
  rw [if_pos rfl, timecode_Convert.j0, if_neg (by decide), perDay_f h1 h7]
  by_cases hn : n < 0
  · rw [if_pos hn, timecode_Convert.j1, if_pos rfl]
    unfold conv
    rw [if_neg (by omega)]
  · rw [if_neg hn, Option.bind_some, timecode_Convert.j1]
    by_cases hd : n ≥ day p
    · rw [if_pos (decide_eq_true hd)]
      unfold conv
      rw [if_neg (by omega)]
    · have ec : conv p q n = if n * (Tab.row p).2.2.1 * (Tab.row q).2.1 / ((Tab.row p).2.1 * (Tab.row q).2.2.1) < day q then (n * (Tab.row p).2.2.1 * (Tab.row q).2.1 / ((Tab.row p).2.1 * (Tab.row q).2.2.1), 0) else (0, 184) := by
        unfold conv
        exact if_pos ⟨by omega, by omega⟩
      obtain ⟨e1, e2⟩ := quot (n := n) (den := (Tab.row p).2.2.1) (num := (Tab.row q).2.1) (c := (Tab.row p).2.1 * (Tab.row q).2.2.1) (by omega) (by omega) (by omega) c
      have ew : wrap64 ((Tab.row p).2.1 * (Tab.row q).2.2.1) ≠ 0 := by rw [w64 (by clear e1; omega) (by clear e1; omega)]; clear e1; omega
      rw [if_neg (by rw [decide_eq_false hd]; decide), if_neg ew, perDay_f g1 g7, Option.bind_some, e1, ec]
      clear e1 ew ec
      by_cases hq : n * (Tab.row p).2.2.1 * (Tab.row q).2.1 / ((Tab.row p).2.1 * (Tab.row q).2.2.1) ≥ day q
      · rw [if_pos hq, if_neg (by omega)]
      · rw [if_neg hq, if_pos (by omega)]
end Go.Proofs.YtjmhjhmlcjkjeaaDoor.TQTTimecodeAlong
