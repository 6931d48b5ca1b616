/- A part of a proof: see the text's own remark. No conditions beyond its theorems' own. -/
import Derived.Test.YtjmhjhmlcjkjeaaDoorQUTimecodeNumbersx3
/-! plain facts on the rates and the day, over a printed text -/
namespace Go.Proofs.YtjmhjhmlcjkjeaaDoor.TQUTimecodeNumbers
open Go.RowKit Go.Proofs.YtjmhjhmlcjkjeaaDoor.QUTimecodeNumbers Go.Proofs.YtjmhjhmlcjkjeaaDoorW.PrintWords Go.Proofs.YtjmhjhmlcjkjeaaDoorW.PrintLast
open Go.Proofs.YtjmhjhmlcjkjeaaDoor (Tab.row)
theorem w64 {n : Int} (h0 : -9223372036854775808 ≤ n) (h1 : n ≤ 9223372036854775807) : wrap64 n = n := by unfold wrap64; omega
theorem i64_range {a : Int} (h : (Lit.int .i64 a).wf = true) : -9223372036854775808 ≤ a ∧ a ≤ 9223372036854775807 := by
  simp [Lit.wf, IntKind.min, IntKind.max, IntKind.signed, IntKind.bits] at h
  omega
def day (r : Nat) : Int := 86400 * (Tab.row r).1 - 1296 * (Tab.row r).2.2.2
theorem seven {r : Nat} (h1 : 1 ≤ r) (h7 : r ≤ 7) : r = 1 ∨ r = 2 ∨ r = 3 ∨ r = 4 ∨ r = 5 ∨ r = 6 ∨ r = 7 := by omega
theorem perDay_f {r : Nat} (h1 : 1 ≤ r) (h7 : r ≤ 7) : timecode_rate_perDay.f (Tab.row r).1 (Tab.row r).2.1 (Tab.row r).2.2.1 (Tab.row r).2.2.2 = some (day r) := by
  rcases seven h1 h7 with rfl | rfl | rfl | rfl | rfl | rfl | rfl <;> decide +kernel
theorem day_range {r : Nat} (h1 : 1 ≤ r) (h7 : r ≤ 7) : 2000000 ≤ day r ∧ day r ≤ 5184000 := by
  rcases seven h1 h7 with rfl | rfl | rfl | rfl | rfl | rfl | rfl <;> decide +kernel
theorem row_range {r : Nat} (h1 : 1 ≤ r) (h7 : r ≤ 7) : 24 ≤ (Tab.row r).1 ∧ (Tab.row r).1 ≤ 60 ∧ 24 ≤ (Tab.row r).2.1 ∧ (Tab.row r).2.1 ≤ 60000 ∧ 1 ≤ (Tab.row r).2.2.1 ∧ (Tab.row r).2.2.1 ≤ 1001 ∧ 0 ≤ (Tab.row r).2.2.2 ∧ (Tab.row r).2.2.2 ≤ 4 := by
  rcases seven h1 h7 with rfl | rfl | rfl | rfl | rfl | rfl | rfl <;> decide +kernel
theorem find_f {r : Nat} (h1 : 1 ≤ r) (h7 : r ≤ 7) : timecode_find.f (r : Int) = some ((Tab.row r).1, (Tab.row r).2.1, (Tab.row r).2.2.1, (Tab.row r).2.2.2, true) := by
  show Tab.findF (r : Int) = _
  rw [Tab.findF_in (by omega) (by omega), Int.toNat_natCast]
theorem find_out {r : Int} (h : r < 1 ∨ r > 7) : timecode_find.f r = some (0, 0, 0, 0, false) := Tab.findF_out h
theorem pb {a X M N : Int} (ha : 0 ≤ a ∧ a ≤ N) (hX : 0 ≤ X ∧ X ≤ M) (hN : 0 ≤ N) : 0 ≤ a * X ∧ a * X ≤ N * M := ⟨Int.mul_nonneg ha.1 hX.1, Int.mul_le_mul ha.2 hX.2 hX.1 hN⟩
/-- the quotient of a frame, as the code reckons it -/
theorem quot {n den num c : Int} (hn : 0 ≤ n ∧ n ≤ 5184000) (hd : 0 ≤ den ∧ den ≤ 1001) (hm : 0 ≤ num ∧ num ≤ 60000) (hc : 1 ≤ c ∧ c ≤ 60060000) : wrap64 (Int.tdiv (wrap64 (wrap64 (n * den) * num)) (wrap64 c)) = n * den * num / c ∧ 0 ≤ n * den * num / c := by
  obtain ⟨a0, a1⟩ := pb hn hd (by decide)
  obtain ⟨b0, b1⟩ := pb ⟨a0, a1⟩ hm (by decide)
  have q0 : 0 ≤ n * den * num / c := Int.ediv_nonneg b0 (by omega)
  have q1 : n * den * num / c ≤ n * den * num := Int.ediv_le_self _ b0
  rw [w64 (n := n * den) (by omega) (by omega), w64 (n := n * den * num) (by omega) (by omega), w64 (n := c) (by omega) (by omega), Int.tdiv_eq_ediv_of_nonneg b0, w64 (by omega) (by omega)]
  exact ⟨rfl, q0⟩
end Go.Proofs.YtjmhjhmlcjkjeaaDoor.TQUTimecodeNumbers
