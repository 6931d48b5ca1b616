/- A part of a proof: see the text's own remark. No conditions beyond its theorems' own. -/
import Derived.Test.YtjmhjhmlcjkjeaaDoorRows
import Derived.Test.YtjmhjhmlcjkjeaaDoorWMore
import Derived.OpenShut
import Derived.Lib.SmallJoins
import Derived.LaidLaws
import Derived.Below
/-! the table of the rates, as the condition lays it; find, walked -/
namespace Go.Proofs.YtjmhjhmlcjkjeaaDoor.Tab
open Go.RowKit Go.Proofs.YtjmhjhmlcjkjeaaDoorW.PrintWords Go.Proofs.YtjmhjhmlcjkjeaaDoorW.PrintLast
open Go.ChangeShapes Go.WideShapes Go.ChangeAt
theorem gTab : Tryd.prog.globalNamed "dailies/timecode.table" = some 0 := by kernel_rfl
theorem tTab : (Tryd.prog.globals[0]?).map (·.type) = some 82 := by kernel_rfl
theorem c82 : Tryd.prog.cellsOf 82 = 32 := by kernel_rfl
theorem c54 : Tryd.prog.cellsOf 54 = 4 := by kernel_rfl
theorem c3 : Tryd.prog.cellsOf 3 = 1 := by kernel_rfl
def row (r : Nat) : Int × Int × Int × Int := match r with
  | 1 => (24, 24, 1, 0)
  | 2 => (25, 25, 1, 0)
  | 3 => (30, 30, 1, 0)
  | 4 => (30, 30000, 1001, 2)
  | 5 => (50, 50, 1, 0)
  | 6 => (60, 60, 1, 0)
  | 7 => (60, 60000, 1001, 4)
  | _ => (0, 0, 0, 0)
structure TabAt (w : World) : Prop where
  at_ : ∀ i, i < 8 → w.cell? ⟨0, i * 4, none⟩ = some (.int .i64 (row i).1) ∧ w.cell? ⟨0, i * 4 + 1, none⟩ = some (.int .i64 (row i).2.1) ∧ w.cell? ⟨0, i * 4 + 2, none⟩ = some (.int .i64 (row i).2.2.1) ∧ w.cell? ⟨0, i * 4 + 3, none⟩ = some (.int .i64 (row i).2.2.2)
theorem TabAt.below {w w' : World} (h : TabAt w) (hb : Below w.heap.size w w') : TabAt w' := by
  refine ⟨fun i hi => ?_⟩
  obtain ⟨h0, h1, h2, h3⟩ := h.at_ i hi
  exact ⟨(hb.cell (World.block_lt_of_cell? w _ h0)).trans h0, (hb.cell (World.block_lt_of_cell? w _ h1)).trans h1, (hb.cell (World.block_lt_of_cell? w _ h2)).trans h2, (hb.cell (World.block_lt_of_cell? w _ h3)).trans h3⟩
theorem int_cell {H : Type} {enc : TypeId × Value → H} {w : World} {base : Nat} {sp : Nat → Bool} {held : Bool} {fuel : Nat} {cs : List Value} {n : Int} {ps : List MemPlace} (h : DataW.trod enc Tryd.prog w base sp held fuel 3 cs = some (.lit (.int .i64 n), ps)) : cs = [.int .i64 n] := by
  obtain ⟨z, hc, hx, _⟩ := DataW.trod_int Tryd.underlying3 h
  simp only [Prod.mk.injEq, DataW.lit.injEq, Lit.int.injEq, true_and] at hx
  rw [hc, hx.1]
theorem four {l : List Value} (h : l.length = 4) : ∃ a b c d, l = [a, b, c, d] := by
  match l, h with
  | [a, b, c, d], _ => exact ⟨a, b, c, d, rfl⟩
theorem at_of_take {cs l : List Value} {k m : Nat} (h : (cs.drop k).take m = l) (j : Nat) {v : Value} (hj : l[j]? = some v) : cs[k + j]? = some v := by
  subst h
  rw [List.getElem?_take] at hj
  split at hj
  · rw [List.getElem?_drop] at hj; exact hj
  · cases hj
theorem tabAt_of_laid {W : World} (h : laidMet Tryd.prog [("dailies/timecode.table", Rows.laid_dailies_timecode_table)] W) : TabAt W := by
  obtain ⟨ps, ⟨g, t, cs, fuel, p, q, hg, ht, hvar, hd, _, _⟩, _⟩ := h
  obtain rfl := Option.some.inj (gTab.symm.trans hg)
  obtain rfl := Option.some.inj (tTab.symm.trans ht)
  obtain ⟨xs, m, _, hx, hlen, hxl, hel⟩ := DataW.trod_array Tryd.underlying82 hd
  have hxs : xs.map (·.1) = _ := (DataW.agg.inj (Prod.mk.inj hx).1).symm
  have hcell : ∀ i v, cs.toList[i]? = some v → W.cell? ⟨0, i, none⟩ = some v := by
    intro i v hv
    rw [World.var?_cell gTab hvar i]
    simpa using hv
  refine ⟨fun i hi => ?_⟩
  have he := hel i hi
  rw [c54] at he
  have hi2 : i < xs.length := by rw [hxl]; exact hi
  rw [List.getElem?_eq_getElem hi2] at he
  obtain ⟨y0, y1, y2, y3, n, hy, hl4, e0, e1, e2, e3⟩ := Joins.trod_struct4 Tryd.underlying54 he
  have hz : (xs.map (·.1))[i]? = some (.agg [y0.1, y1.1, y2.1, y3.1]) := by
    rw [List.getElem?_map, List.getElem?_eq_getElem hi2, hy]; rfl
  rw [hxs] at hz
  have hrow : y0.1 = .lit (.int .i64 (row i).1) ∧ y1.1 = .lit (.int .i64 (row i).2.1) ∧ y2.1 = .lit (.int .i64 (row i).2.2.1) ∧ y3.1 = .lit (.int .i64 (row i).2.2.2) := by
    have hi8 : i = 0 ∨ i = 1 ∨ i = 2 ∨ i = 3 ∨ i = 4 ∨ i = 5 ∨ i = 6 ∨ i = 7 := by omega
    rcases hi8 with rfl | rfl | rfl | rfl | rfl | rfl | rfl | rfl <;> (
      have hz2 := DataW.agg.inj (Option.some.inj hz)
      simp only [List.cons.injEq, and_true] at hz2
      obtain ⟨a, b, c, d⟩ := hz2
      exact ⟨a.symm, b.symm, c.symm, d.symm⟩)
  obtain ⟨r0, r1, r2, r3⟩ := hrow
  obtain ⟨y01, y02⟩ := y0
  obtain ⟨y11, y12⟩ := y1
  obtain ⟨y21, y22⟩ := y2
  obtain ⟨y31, y32⟩ := y3
  simp only at r0 r1 r2 r3
  subst r0; subst r1; subst r2; subst r3
  have f0 := int_cell e0
  have f1 := int_cell e1
  have f2 := int_cell e2
  have f3 := int_cell e3
  refine ⟨hcell _ _ (at_of_take rfl 0 (at_of_take f0 0 rfl)), hcell _ _ (at_of_take rfl 1 (at_of_take f1 0 rfl)), hcell _ _ (at_of_take rfl 2 (at_of_take f2 0 rfl)), hcell _ _ (at_of_take rfl 3 (at_of_take f3 0 rfl))⟩
end Go.Proofs.YtjmhjhmlcjkjeaaDoor.Tab
