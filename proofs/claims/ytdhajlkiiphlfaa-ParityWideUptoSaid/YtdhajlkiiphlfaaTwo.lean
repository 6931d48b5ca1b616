/- A part of a proof: see the text's own remark. No conditions beyond its theorems' own. -/
import Derived.Test.YtdhajlkiiphlfaaSolveMath
/-! two such, apart -/
namespace Go.Proofs.Ytdhajlkiiphlfaa.Solve
open Go.RowKit Go.Proofs.YtdhajlkiiphlfaaW.PrintWords
structure Two (w0 w : World) (okA okX : Nat → Prop) (ga ca : Nat) (ha : List Value) (a : List (List Int)) (gx cx : Nat) (hx : List Value) (x : List (List Int)) : Prop where
  A : Mx w w0.heap.size okA ga ca ha a
  X : Mx w w0.heap.size okX gx cx hx x
  B : Below w0.heap.size w0 w
  D : ∀ k, okA k → ¬ okX k
namespace Two
variable {w0 w w' : World} {okA okX : Nat → Prop} {ga ca : Nat} {ha : List Value} {a : List (List Int)} {gx cx : Nat} {hx : List Value} {x : List (List Int)}
theorem symm (h : Two w0 w okA okX ga ca ha a gx cx hx x) : Two w0 w okX okA gx cx hx x ga ca ha a := ⟨h.X, h.A, h.B, fun k h1 h2 => h.D k h2 h1⟩
theorem below (h : Two w0 w okA okX ga ca ha a gx cx hx x) (hb : Below w.heap.size w w') : Two w0 w' okA okX ga ca ha a gx cx hx x := ⟨h.A.below hb, h.X.below hb, below_step h.B hb, h.D⟩
theorem drew (h : Two w0 w okA okX ga ca ha a gx cx hx x) : Two w0 w.drew okA okX ga ca ha a gx cx hx x := h.below (below_drew1 (Below.refl _ _))
theorem drewN (h : Two w0 w okA okX ga ca ha a gx cx hx x) (n : Nat) : Two w0 (w.drewN n) okA okX ga ca ha a gx cx hx x := h.below (pw_below_drewN (Below.refl _ _) n)
/-- one row of the first was written -/
theorem setA (h : Two w0 w okA okX ga ca ha a gx cx hx x) {i : Nat} {hd : Value} {r' : List Int} (hi : ha[i]? = some hd) (hk : Kept w w' (fun k => some k = hd.ownBlock)) (hb : Below w0.heap.size w0 w') (hR : Kd.R (Kd.int .u8) 5 w' w0.heap.size (fun _ => True) hd r') : Two w0 w' okA okX ga ca ha (a.set i r') gx cx hx x := by
  refine ⟨h.A.set hi hk hR, h.X.kept hk (fun k hx2 he => ?_), hb, h.D⟩
  have hlt : i < a.length := by rw [← h.A.len]; exact (List.getElem?_eq_some_iff.1 hi).1
  exact h.D k ((h.A.row i hd _ hi (List.getElem?_eq_getElem hlt)).1 k he.symm).1 hx2
/-- a header -/
theorem headA (h : Two w0 w okA okX ga ca ha a gx cx hx x) (i : Nat) (hi : i < a.length) : ∃ A c, ha[i]? = some (.slice A a[i].length c) ∧ a[i].length ≤ c ∧ w.cell? ⟨ga, i, none⟩ = some (.slice A a[i].length c) ∧ w.frozen? ⟨ga, i, none⟩ = false ∧ Kd.R (Kd.int .u8) 5 w w0.heap.size (fun k => okA k ∧ k ≠ ga) (.slice A a[i].length c) a[i] := by
  obtain ⟨hd, h1, h2, h3, h4⟩ := h.A.get i hi
  obtain ⟨A, c, rfl⟩ := Kd.R_slice h4
  exact ⟨A, c, h1, (Kd.R_reads' h4).2.1, h2, h3, h4⟩
/-- an element of the first -/
theorem cellA (h : Two w0 w okA okX ga ca ha a gx cx hx x) (i : Nat) (hi : i < a.length) (j : Nat) (hj : j < a[i].length) : ∃ g c, ha[i]? = some (.slice (some ⟨g, 0, none⟩) a[i].length c) ∧ a[i].length ≤ c ∧ w.cell? ⟨ga, i, none⟩ = some (.slice (some ⟨g, 0, none⟩) a[i].length c) ∧
    w.cell? ⟨g, j, none⟩ = some (.int .u8 a[i][j]) ∧ w.frozen? ⟨g, j, none⟩ = false ∧ ∀ v, Two w0 (w.setCell ⟨g, j, none⟩ (.int .u8 v)) okA okX ga ca ha (a.set i (a[i].set j v)) gx cx hx x := by
  obtain ⟨A, c, h1, h2, h3, h4, h5⟩ := h.headA i hi
  obtain ⟨g, cap, e, gb, gl, _⟩ := Kd.R_form h5 (by omega)
  injection e with e1 _ e2
  subst e1; subst e2
  obtain ⟨hc, hf⟩ := Kd.R_celln 0 h5 (j : Int) (by omega) (by omega)
  rw [Int.toNat_natCast] at hc hf
  have ev : rdOf (0 : Int) a[i] (j : Int) = a[i][j] := by unfold rdOf; rw [Int.toNat_natCast, List.getD_eq_getElem?_getD, List.getElem?_eq_getElem hj]; rfl
  rw [ev] at hc
  refine ⟨g, c, h1, h2, h3, hc, hf, fun v => ?_⟩
  have hp := Kd.R_putn h5 (j : Int) v
  rw [Int.toNat_natCast] at hp
  exact h.setA h1 (Kept.setCell (p := ⟨g, j, none⟩) (Kept.refl w (fun k => some k = (Value.slice (some ⟨g, 0, none⟩) a[i].length c).ownBlock)) (.inl rfl) _) (h.B.setCell gb _) (Kd.R_mono hp (fun _ _ => trivial))
theorem headA' (h : Two w0 w okA okX ga ca ha a gx cx hx x) {i : Nat} {r : List Int} (hr : a[i]? = some r) : ∃ A c, ha[i]? = some (.slice A r.length c) ∧ r.length ≤ c ∧ w.cell? ⟨ga, i, none⟩ = some (.slice A r.length c) ∧ w.frozen? ⟨ga, i, none⟩ = false ∧ Kd.R (Kd.int .u8) 5 w w0.heap.size (fun k => okA k ∧ k ≠ ga) (.slice A r.length c) r := by
  obtain ⟨hi, rfl⟩ := List.getElem?_eq_some_iff.1 hr
  exact h.headA i hi
theorem cellA' (h : Two w0 w okA okX ga ca ha a gx cx hx x) {i j : Nat} {r : List Int} {y : Int} (hr : a[i]? = some r) (hy : r[j]? = some y) : ∃ g c, ha[i]? = some (.slice (some ⟨g, 0, none⟩) r.length c) ∧ r.length ≤ c ∧ w.cell? ⟨ga, i, none⟩ = some (.slice (some ⟨g, 0, none⟩) r.length c) ∧
    w.cell? ⟨g, j, none⟩ = some (.int .u8 y) ∧ w.frozen? ⟨g, j, none⟩ = false ∧ ∀ v, Two w0 (w.setCell ⟨g, j, none⟩ (.int .u8 v)) okA okX ga ca ha (a.set i (r.set j v)) gx cx hx x := by
  obtain ⟨hi, rfl⟩ := List.getElem?_eq_some_iff.1 hr
  obtain ⟨hj, rfl⟩ := List.getElem?_eq_some_iff.1 hy
  exact h.cellA i hi j hj
end Two
end Go.Proofs.Ytdhajlkiiphlfaa.Solve
