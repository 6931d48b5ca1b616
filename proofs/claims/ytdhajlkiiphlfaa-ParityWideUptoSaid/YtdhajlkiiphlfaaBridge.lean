/- A part of a proof: see the text's own remark. No conditions beyond its theorems' own. -/
import Derived.Test.YtdhajlkiiphlfaaSolveF
/-! rows of numbers as functions into the field -/
namespace Go.Proofs.Ytdhajlkiiphlfaa.Solve
open Go.RowKit Go.Proofs.Ytdhajlkiiphlfaa.QBaseParityWide Go.Proofs.YtdhajlkiiphlfaaW.PrintWords Go.Proofs.Ytdhajlkiiphlfaa.Math
def elO (z : Int) : El := ⟨z.toNat % 256, Nat.mod_lt _ (by decide)⟩
theorem elO_v {z : Int} (h : In8 z) : (elO z).v = z.toNat := Nat.mod_eq_of_lt (by have := h.1; have := h.2; omega)
theorem elO_mul {a b : Int} (ha : In8 a) (hb : In8 b) : elO (mulZ a b) = elO a * elO b := by
  apply El.ext
  rw [elO_v (mulZ_in ha), El.mul_v, elO_v ha, elO_v hb]
  rfl
theorem elO_xor {a b : Int} (ha : In8 a) (hb : In8 b) : elO (xorZ a b) = elO a + elO b := by
  apply El.ext
  rw [elO_v (xorZ_in ha hb), El.add_v, elO_v ha, elO_v hb]
  rfl
theorem elO_inv {a : Int} (ha : In8 a) : elO (invZ a) = (elO a).inv := by
  apply El.ext
  rw [elO_v (invZ_in ha), El.inv_v, elO_v ha]
  rfl
theorem elO_inj {a b : Int} (ha : In8 a) (hb : In8 b) (h : elO a = elO b) : a = b := by
  have := congrArg El.v h
  rw [elO_v ha, elO_v hb] at this
  have := ha.1; have := hb.1; omega
theorem elO_zero : elO 0 = 0 := rfl
def fn (l : List (List Int)) (i j : Nat) : El := elO (rd (rd_L2 l (i : Int)) (j : Int))
theorem fn_at {l : List (List Int)} {i j : Nat} {r : List Int} {y : Int} (h : l[i]? = some r) (hy : r[j]? = some y) : fn l i j = elO y := by unfold fn; rw [rowZ h, elZ hy]
theorem fn_set {l : List (List Int)} {k : Nat} (hk : k < l.length) (r : List Int) (i j : Nat) : fn (l.set k r) i j = if i = k then elO (rd r (j : Int)) else fn l i j := by
  by_cases e : i = k
  · subst e
    rw [if_pos rfl]
    unfold fn
    rw [rowZ (List.getElem?_set_self hk)]
  · rw [if_neg e]
    unfold fn rd_L2
    rw [Int.toNat_natCast, List.getD_eq_getElem?_getD, List.getD_eq_getElem?_getD, List.getElem?_set_ne (Ne.symm e)]
theorem fn_scale {r : List Int} {b : Int} (hb : In8 b) (hr : ∀ y ∈ r, In8 y) {j : Nat} (hj : j < r.length) : elO (rd (scaleR r b) (j : Int)) = elO (rd r (j : Int)) * elO b := by
  have h1 := List.getElem?_eq_getElem hj
  have h2 : (scaleR r b)[j]? = some (mulZ r[j] b) := by unfold scaleR; rw [List.getElem?_map, h1]; rfl
  rw [elZ h1, elZ h2, elO_mul (hr _ (List.getElem_mem hj)) hb]
theorem fn_add {t r : List Int} {b : Int} (hb : In8 b) (ht : ∀ y ∈ t, In8 y) (hr : ∀ y ∈ r, In8 y) {j : Nat} (hj : j < t.length) (hj2 : j < r.length) : elO (rd (addR t r b) (j : Int)) = elO (rd t (j : Int)) + elO b * elO (rd r (j : Int)) := by
  have h1 := List.getElem?_eq_getElem hj
  have h2 := List.getElem?_eq_getElem hj2
  have h3 : (addR t r b)[j]? = some (xorZ t[j] (mulZ b r[j])) := by unfold addR; rw [List.getElem?_zipWith, h1, h2]
  rw [elZ h1, elZ h2, elZ h3, elO_xor (ht _ (List.getElem_mem hj)) (mulZ_in hb), elO_mul hb (hr _ (List.getElem_mem hj2))]
theorem fn_row {n m : Nat} {l : List (List Int)} (h : Sh n m l) {i : Nat} (hi : i < n) (j : Nat) : ∃ r, l[i]? = some r ∧ rd_L2 l (i : Int) = r ∧ r.length = m ∧ (∀ y ∈ r, In8 y) ∧ fn l i j = elO (rd r (j : Int)) := by
  obtain ⟨r, h1, h2, h3⟩ := h.at_ hi
  exact ⟨r, h1, rowZ h1, h2, h3, by unfold fn; rw [rowZ h1]⟩
theorem fn_elim {n nx c : Nat} {q : List (List Int) × List (List Int)} (ha : Sh n n q.1) (hx : Sh n nx q.2) (hc : c < n) : ∀ k, k ≤ n → ∀ i, i < n →
    (∀ j, j < n → fn (elim c k q).1 i j = if i < k ∧ i ≠ c then fn q.1 i j + fn q.1 i c * fn q.1 c j else fn q.1 i j) ∧
    (∀ j, j < nx → fn (elim c k q).2 i j = if i < k ∧ i ≠ c then fn q.2 i j + fn q.1 i c * fn q.2 c j else fn q.2 i j)
  | 0, _, i, _ => ⟨fun j _ => by rw [if_neg (by omega)]; rfl, fun j _ => by rw [if_neg (by omega)]; rfl⟩
  | k + 1, hk, i, hi => by
    have ih := fun i hi => fn_elim ha hx hc k (by omega) i hi
    obtain ⟨sa, sx⟩ := elim_sh ha hx hc k (by omega)
    have hkn : k < n := by omega
    obtain ⟨r1, g1, e1, l1, i1, f1⟩ := fn_row sa hkn c
    obtain ⟨r2, g2, e2, l2, i2, _⟩ := fn_row sa hc 0
    obtain ⟨s1, g3, e3, l3, i3, _⟩ := fn_row sx hkn 0
    obtain ⟨s2, g4, e4, l4, i4, _⟩ := fn_row sx hc 0
    have hy : rd r1 (c : Int) = r1[c]'(by omega) := elZ (List.getElem?_eq_getElem (by omega))
    have hy8 : In8 (rd r1 (c : Int)) := by rw [hy]; exact i1 _ (List.getElem_mem _)
    have hb : elO (rd r1 (c : Int)) = fn q.1 k c := by rw [← f1, (ih k hkn).1 c hc, if_neg (by omega)]
    show (∀ j, j < n → fn (elimStep c k (elim c k q)).1 i j = _) ∧ (∀ j, j < nx → fn (elimStep c k (elim c k q)).2 i j = _)
    unfold elimStep
    rw [e1, e2, e3, e4]
    by_cases hkc : k ≠ c ∧ rd r1 (c : Int) ≠ 0
    · rw [if_pos hkc]
      refine ⟨fun j hj => ?_, fun j hj => ?_⟩
      · show fn ((elim c k q).1.set k (addR r1 r2 (rd r1 (c : Int)))) i j = _
        rw [fn_set (by rw [sa.len]; exact hkn)]
        by_cases e : i = k
        · subst e
          rw [if_pos rfl, if_pos ⟨by omega, hkc.1⟩, fn_add hy8 i1 i2 (by omega) (by omega), hb, ← e1, ← e2]
          show fn (elim c i q).1 i j + _ * fn (elim c i q).1 c j = _
          rw [(ih i hi).1 j hj, (ih c hc).1 j hj, if_neg (by omega), if_neg (by omega)]
        · rw [if_neg e, (ih i hi).1 j hj]
          by_cases h5 : i < k ∧ i ≠ c
          · rw [if_pos h5, if_pos ⟨by omega, h5.2⟩]
          · rw [if_neg h5, if_neg (by omega)]
      · show fn ((elim c k q).2.set k (addR s1 s2 (rd r1 (c : Int)))) i j = _
        rw [fn_set (by rw [sx.len]; exact hkn)]
        by_cases e : i = k
        · subst e
          rw [if_pos rfl, if_pos ⟨by omega, hkc.1⟩, fn_add hy8 i3 i4 (by omega) (by omega), hb, ← e3, ← e4]
          show fn (elim c i q).2 i j + _ * fn (elim c i q).2 c j = _
          rw [(ih i hi).2 j hj, (ih c hc).2 j hj, if_neg (by omega), if_neg (by omega)]
        · rw [if_neg e, (ih i hi).2 j hj]
          by_cases h5 : i < k ∧ i ≠ c
          · rw [if_pos h5, if_pos ⟨by omega, h5.2⟩]
          · rw [if_neg h5, if_neg (by omega)]
    · rw [if_neg hkc]
      have hz : i = k → i ≠ c → fn q.1 i c = 0 := by
        intro e hne
        subst e
        rw [← hb]
        have : rd r1 (c : Int) = 0 := Classical.byContradiction fun h => hkc ⟨hne, h⟩
        rw [this]; exact elO_zero
      refine ⟨fun j hj => ?_, fun j hj => ?_⟩
      · rw [(ih i hi).1 j hj]
        by_cases h5 : i < k ∧ i ≠ c
        · rw [if_pos h5, if_pos ⟨by omega, h5.2⟩]
        · rw [if_neg h5]
          by_cases h6 : i < k + 1 ∧ i ≠ c
          · rw [if_pos h6, hz (by omega) h6.2, El.zero_mul, El.add_zero]
          · rw [if_neg h6]
      · rw [(ih i hi).2 j hj]
        by_cases h5 : i < k ∧ i ≠ c
        · rw [if_pos h5, if_pos ⟨by omega, h5.2⟩]
        · rw [if_neg h5]
          by_cases h6 : i < k + 1 ∧ i ≠ c
          · rw [if_pos h6, hz (by omega) h6.2, El.zero_mul, El.add_zero]
          · rw [if_neg h6]
end Go.Proofs.Ytdhajlkiiphlfaa.Solve
