/- Convert of any rates and any number answers as the document's: for every input the law TimecodeConverts is true. No conditions. -/
import Derived.Test.YtjmhjhmlcjkjeaaDoorQTTimecodeConvertsx2
import Derived.Test.YtjmhjhmlcjkjeaaDoorTimeRQTTimecodeConverts
namespace Go.Proofs.YtjmhjhmlcjkjeaaDoor.Pure
open Go.RowKit Go.Proofs.YtjmhjhmlcjkjeaaDoor.QTTimecodeConverts Go.Proofs.YtjmhjhmlcjkjeaaDoorW.PrintWords Go.Proofs.YtjmhjhmlcjkjeaaDoorW.PrintLast Go.Proofs.YtjmhjhmlcjkjeaaDoor.TQTTimecodeConverts
open Go.Proofs.YtjmhjhmlcjkjeaaDoor (Tab.row)
/-- what Convert answers -/
def conv (p q : Nat) (n : Int) : Int × Int :=
  if 0 ≤ n ∧ n < day p then
    (if n * (Tab.row p).2.2.1 * (Tab.row q).2.1 / ((Tab.row p).2.1 * (Tab.row q).2.2.1) < day q then (n * (Tab.row p).2.2.1 * (Tab.row q).2.1 / ((Tab.row p).2.1 * (Tab.row q).2.2.1), 0) else (0, 184))
  else (0, 184)
theorem den_range {p q : Nat} (h1 : 1 ≤ p) (h7 : p ≤ 7) (g1 : 1 ≤ q) (g7 : q ≤ 7) : 1 ≤ (Tab.row p).2.1 * (Tab.row q).2.2.1 ∧ (Tab.row p).2.1 * (Tab.row q).2.2.1 ≤ 60060000 := by
  have a := row_range h1 h7
  have b := row_range g1 g7
  have := pb (a := (Tab.row p).2.1) (X := (Tab.row q).2.2.1) (M := 1001) (N := 60000) (by omega) (by omega) (by decide)
  refine ⟨?_, by omega⟩
  have := Int.mul_pos (a := (Tab.row p).2.1) (b := (Tab.row q).2.2.1) (by omega) (by omega)
  omega
theorem conv_f {p q : Nat} (h1 : 1 ≤ p) (h7 : p ≤ 7) (g1 : 1 ≤ q) (g7 : q ≤ 7) (n : Int) {k : Nat} (hk : 2 ≤ k) : timecode_Convert.f k (p : Int) (q : Int) n = some (conv p q n) := by
  have a := row_range h1 h7
  have b := row_range g1 g7
  have c := den_range h1 h7 g1 g7
  have dp := day_range h1 h7
  obtain ⟨k, rfl⟩ : ∃ j, k = j + 2 := ⟨k - 2, by omega⟩
  unfold timecode_Convert.f
  rw [find_f h1 h7, Option.bind_some, find_f g1 g7, Option.bind_some]
  show (if true = true then timecode_Convert.j0 (k + 2) n (!true) (Tab.row p).1 (Tab.row p).2.1 (Tab.row p).2.2.1 (Tab.row p).2.2.2 (Tab.row q).1 (Tab.row q).2.1 (Tab.row q).2.2.1 (Tab.row q).2.2.2 else _) = _
  rw [if_pos rfl, timecode_Convert.j0, if_neg (by decide), perDay_f h1 h7]
  by_cases hn : n < 0
  · rw [if_pos hn, timecode_Convert.j1, if_pos rfl]
    unfold conv
    rw [if_neg (by omega)]
  · rw [if_neg hn, Option.bind_some, timecode_Convert.j1]
    by_cases hd : n ≥ day p
    · rw [if_pos (decide_eq_true hd)]
      unfold conv
      rw [if_neg (by omega)]
    · have ec : conv p q n = if n * (Tab.row p).2.2.1 * (Tab.row q).2.1 / ((Tab.row p).2.1 * (Tab.row q).2.2.1) < day q then (n * (Tab.row p).2.2.1 * (Tab.row q).2.1 / ((Tab.row p).2.1 * (Tab.row q).2.2.1), 0) else (0, 184) := by
        unfold conv
        exact if_pos ⟨by omega, by omega⟩
      obtain ⟨e1, e2⟩ := quot (n := n) (den := (Tab.row p).2.2.1) (num := (Tab.row q).2.1) (c := (Tab.row p).2.1 * (Tab.row q).2.2.1) (by omega) (by omega) (by omega) c
      have ew : wrap64 ((Tab.row p).2.1 * (Tab.row q).2.2.1) ≠ 0 := by rw [w64 (by clear e1; omega) (by clear e1; omega)]; clear e1; omega
      rw [if_neg (by rw [decide_eq_false hd]; decide), if_neg ew, perDay_f g1 g7, Option.bind_some, e1, ec]
      clear e1 ew ec
      by_cases hq : n * (Tab.row p).2.2.1 * (Tab.row q).2.1 / ((Tab.row p).2.1 * (Tab.row q).2.2.1) ≥ day q
      · rw [if_pos hq, if_neg (by omega)]
      · rw [if_neg hq, if_pos (by omega)]
theorem refConv_f {p q : Nat} (h1 : 1 ≤ p) (h7 : p ≤ 7) (g1 : 1 ≤ q) (g7 : q ≤ 7) (n : Int) {k : Nat} (hk : 1452 ≤ k) : dailiesref18_Convert.f k (p : Int) (q : Int) n = some (conv p q n) := by
  have a := row_range h1 h7
  have b := row_range g1 g7
  have c := den_range h1 h7 g1 g7
  have dp := day_range h1 h7
  obtain ⟨k, rfl⟩ : ∃ j, k = j + 1 := ⟨k - 1, by omega⟩
  unfold dailiesref18_Convert.f
  rw [rate_f, Option.bind_some, rate_f, Option.bind_some, decide_eq_true (show 1 ≤ (p : Int) ∧ (p : Int) ≤ 7 by omega), decide_eq_true (show 1 ≤ (q : Int) ∧ (q : Int) ≤ 7 by omega), if_pos rfl, dailiesref18_Convert.j0, if_neg (by decide), asked_f h1 h7 n (by omega), Option.bind_some]
  unfold conv
  by_cases hn : 0 ≤ n ∧ n < day p
  · obtain ⟨e1, e2⟩ := quot (n := n) (den := (Tab.row p).2.2.1) (num := (Tab.row q).2.1) (c := (Tab.row p).2.1 * (Tab.row q).2.2.1) (by omega) (by omega) (by omega) c
    have ew : wrap64 ((Tab.row p).2.1 * (Tab.row q).2.2.1) ≠ 0 := by rw [w64 (by omega) (by omega)]; omega
    rw [if_pos hn, if_pos hn, if_pos rfl, speed_f h1 h7 (by omega), Option.bind_some, speed_f g1 g7 (by omega), Option.bind_some]
    show (if wrap64 ((Tab.row p).2.1 * (Tab.row q).2.2.1) = 0 then none else ((dailiesref18_asked.f k (q : Int) (wrap64 (Int.tdiv (wrap64 (wrap64 (n * (Tab.row p).2.2.1) * (Tab.row q).2.1)) (wrap64 ((Tab.row p).2.1 * (Tab.row q).2.2.1))))).bind fun t132 => (if t132 = 0 then (some (wrap64 (Int.tdiv (wrap64 (wrap64 (n * (Tab.row p).2.2.1) * (Tab.row q).2.1)) (wrap64 ((Tab.row p).2.1 * (Tab.row q).2.2.1))), 0)) else (some (0, t132))))) = _
    rw [if_neg ew, e1, asked_f g1 g7 _ (by omega), Option.bind_some]
    by_cases hq : n * (Tab.row p).2.2.1 * (Tab.row q).2.1 / ((Tab.row p).2.1 * (Tab.row q).2.2.1) < day q
    · have ea : (if 0 ≤ n * (Tab.row p).2.2.1 * (Tab.row q).2.1 / ((Tab.row p).2.1 * (Tab.row q).2.2.1) ∧ n * (Tab.row p).2.2.1 * (Tab.row q).2.1 / ((Tab.row p).2.1 * (Tab.row q).2.2.1) < day q then (0 : Int) else 184) = 0 := if_pos ⟨e2, hq⟩
      rw [ea, if_pos rfl, if_pos hq]
    · have ea : (if 0 ≤ n * (Tab.row p).2.2.1 * (Tab.row q).2.1 / ((Tab.row p).2.1 * (Tab.row q).2.2.1) ∧ n * (Tab.row p).2.2.1 * (Tab.row q).2.1 / ((Tab.row p).2.1 * (Tab.row q).2.2.1) < day q then (0 : Int) else 184) = 184 := if_neg (fun h => hq h.2)
      rw [ea, if_neg (by decide), if_neg hq]
  · rw [if_neg hn, if_neg hn, if_neg (by decide)]
theorem TimecodeConverts : dailieslaw18_TimecodeConverts.Pure := by
  intro a0 a1 a2 _ _ _
  refine ⟨1500, ?_⟩
  have key : ∀ k, 1500 ≤ k → dailieslaw18_TimecodeConverts.f k a0 a1 a2 = some true := by
    intro k hk
    have hs : ∃ v, timecode_Convert.f k a0 a1 a2 = some v ∧ dailiesref18_Convert.f k a0 a1 a2 = some v := by
      by_cases h : (1 ≤ a0 ∧ a0 ≤ 7) ∧ (1 ≤ a1 ∧ a1 ≤ 7)
      · obtain ⟨p, rfl⟩ : ∃ p : Nat, a0 = p := ⟨a0.toNat, by omega⟩
        obtain ⟨q, rfl⟩ : ∃ q : Nat, a1 = q := ⟨a1.toNat, by omega⟩
        exact ⟨_, conv_f (by omega) (by omega) (by omega) (by omega) a2 (by omega), refConv_f (by omega) (by omega) (by omega) (by omega) a2 (by omega)⟩
      · refine ⟨(0, 181), ?_, ?_⟩
        · obtain ⟨k, rfl⟩ : ∃ j, k = j + 1 := ⟨k - 1, by omega⟩
          unfold timecode_Convert.f
          by_cases h0 : 1 ≤ a0 ∧ a0 ≤ 7
          · obtain ⟨p, rfl⟩ : ∃ p : Nat, a0 = p := ⟨a0.toNat, by omega⟩
            rw [find_f (by omega) (by omega), Option.bind_some, find_out (r := a1) (by omega), Option.bind_some]
            show (if true = true then timecode_Convert.j0 (k + 1) a2 (!false) _ _ _ _ _ _ _ _ else _) = _
            rw [if_pos rfl, timecode_Convert.j0, if_pos (by decide)]
          · rw [find_out (r := a0) (by omega), Option.bind_some]
            have hf : ∃ v, timecode_find.f a1 = some v := by
              show ∃ v, Tab.findF a1 = some v
              unfold Tab.findF
              split
              · exact ⟨_, rfl⟩
              · split <;> exact ⟨_, rfl⟩
            obtain ⟨v, hv⟩ := hf
            rw [hv, Option.bind_some]
            show (if false = true then _ else timecode_Convert.j0 (k + 1) a2 true _ _ _ _ _ _ _ _) = _
            rw [if_neg (by decide), timecode_Convert.j0, if_pos rfl]
        · obtain ⟨k, rfl⟩ : ∃ j, k = j + 1 := ⟨k - 1, by omega⟩
          unfold dailiesref18_Convert.f
          rw [rate_f, Option.bind_some, rate_f, Option.bind_some]
          by_cases h0 : 1 ≤ a0 ∧ a0 ≤ 7
          · rw [if_pos (decide_eq_true h0), decide_eq_false (show ¬ (1 ≤ a1 ∧ a1 ≤ 7) by omega), dailiesref18_Convert.j0, if_pos (by decide)]
          · rw [if_neg (by rw [decide_eq_false h0]; decide), dailiesref18_Convert.j0, if_pos rfl]
    obtain ⟨v, h1, h2⟩ := hs
    unfold dailieslaw18_TimecodeConverts.f
    rw [h1, h2]
    show (if true = true then (if v.1 = v.1 then some (v.2 == v.2) else some false) else some false) = some true
    rw [if_pos rfl, if_pos rfl, beq_self_eq_true]
  exact key 1500 (Nat.le_refl _)
end Go.Proofs.YtjmhjhmlcjkjeaaDoor.Pure
