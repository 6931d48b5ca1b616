/- A part of a proof: see the text's own remark. No conditions beyond its theorems' own. -/
import Derived.Test.YtdhajlkiiphlfaaBridge
import Derived.Test.YtdhajlkiiphlfaaLin
/-! what field.Solve answers, as linear algebra -/
namespace Go.Proofs.Ytdhajlkiiphlfaa.Solve
open Go.RowKit Go.Proofs.Ytdhajlkiiphlfaa.QBaseParityWide Go.Proofs.YtdhajlkiiphlfaaW.PrintWords Go.Proofs.Ytdhajlkiiphlfaa.Math
theorem fn_in {n m : Nat} {l : List (List Int)} (h : Sh n m l) {i j : Nat} (hi : i < n) (hj : j < m) : ∃ r y, l[i]? = some r ∧ r[j]? = some y ∧ In8 y ∧ fn l i j = elO y ∧ rd (rd_L2 l (i : Int)) (j : Int) = y := by
  obtain ⟨r, h1, h2, h3⟩ := h.at_ hi
  have hy := List.getElem?_eq_getElem (show j < r.length by omega)
  exact ⟨r, _, h1, hy, h3 _ (List.getElem_mem _), fn_at h1 hy, by rw [rowZ h1, elZ hy]⟩
theorem fn_swap {n m : Nat} {l : List (List Int)} (h : Sh n m l) {c r : Nat} (hc : c < n) (hr : r < n) (i j : Nat) : fn (swapL l c r) i j = fn l (El.sw c r i) j := by
  have hlc : c < l.length := by rw [h.len]; exact hc
  have hlr : r < (l.set c (rd_L2 l r)).length := by rw [List.length_set, h.len]; exact hr
  unfold swapL El.sw
  rw [fn_set hlr, fn_set hlc]
  by_cases e1 : i = r
  · rw [if_pos e1]
    by_cases e2 : i = c
    · rw [if_pos e2, ← e1, e2]; rfl
    · rw [if_neg e2, if_pos e1]; rfl
  · rw [if_neg e1]
    by_cases e2 : i = c
    · rw [if_pos e2, if_pos e2]; rfl
    · rw [if_neg e2, if_neg e2, if_neg e1]
theorem fn_clears {n nx c r : Nat} {a x : List (List Int)} (ha : Sh n n a) (hx : Sh n nx x) (hc : c < n) (hr : r < n) :
    (∀ i j, i < n → j < n → fn (clearsF n c (swapL a c r) (swapL x c r)).1 i j = El.stepA c r (fn a) (fn a) i j) ∧
    (∀ i j, i < n → j < nx → fn (clearsF n c (swapL a c r) (swapL x c r)).2 i j = El.stepA c r (fn a) (fn x) i j) := by
  have sa := ha.swap hc hr
  have sx := hx.swap hc hr
  obtain ⟨ra, ga, la, ia⟩ := sa.at_ hc
  obtain ⟨rx, gx, lx, ix⟩ := sx.at_ hc
  obtain ⟨_, y, _, hy, hy8, hfy, hry⟩ := fn_in sa hc hc
  have sa' : Sh n n ((swapL a c r).set c (scaleR (rd_L2 (swapL a c r) (c : Int)) (invZ y))) := sa.set c (by rw [scaleR_length, rowZ ga, la]) (by rw [rowZ ga]; exact scaleR_in _ _ ia)
  have sx' : Sh n nx ((swapL x c r).set c (scaleR (rd_L2 (swapL x c r) (c : Int)) (invZ y))) := sx.set c (by rw [scaleR_length, rowZ gx, lx]) (by rw [rowZ gx]; exact scaleR_in _ _ ix)
  have e0 : clearsF n c (swapL a c r) (swapL x c r) = elim c n ((swapL a c r).set c (scaleR (rd_L2 (swapL a c r) (c : Int)) (invZ y)), (swapL x c r).set c (scaleR (rd_L2 (swapL x c r) (c : Int)) (invZ y))) := by
    unfold clearsF
    rw [hry]
  have hp : elO (invZ y) = (fn a (El.sw c r c) c).inv := by rw [elO_inv hy8, ← hfy, fn_swap ha hc hr]
  have hA : ∀ i j, j < n → fn ((swapL a c r).set c (scaleR (rd_L2 (swapL a c r) (c : Int)) (invZ y))) i j = if i = c then fn a (El.sw c r c) j * (fn a (El.sw c r c) c).inv else fn a (El.sw c r i) j := by
    intro i j hj
    rw [fn_set (by rw [sa.len]; exact hc)]
    by_cases e : i = c
    · rw [if_pos e, if_pos e, rowZ ga, fn_scale (invZ_in hy8) ia (by omega), hp, ← rowZ ga]
      show fn (swapL a c r) c j * _ = _
      rw [fn_swap ha hc hr]
    · rw [if_neg e, if_neg e, fn_swap ha hc hr]
  have hX : ∀ i j, j < nx → fn ((swapL x c r).set c (scaleR (rd_L2 (swapL x c r) (c : Int)) (invZ y))) i j = if i = c then fn x (El.sw c r c) j * (fn a (El.sw c r c) c).inv else fn x (El.sw c r i) j := by
    intro i j hj
    rw [fn_set (by rw [sx.len]; exact hc)]
    by_cases e : i = c
    · rw [if_pos e, if_pos e, rowZ gx, fn_scale (invZ_in hy8) ix (by omega), hp, ← rowZ gx]
      show fn (swapL x c r) c j * _ = _
      rw [fn_swap hx hc hr]
    · rw [if_neg e, if_neg e, fn_swap hx hc hr]
  rw [e0]
  refine ⟨fun i j hi hj => ?_, fun i j hi hj => ?_⟩
  · rw [(fn_elim sa' sx' hc n (Nat.le_refl _) i hi).1 j hj]
    show (if i < n ∧ i ≠ c then fn ((swapL a c r).set c _) i j + fn ((swapL a c r).set c _) i c * fn ((swapL a c r).set c _) c j else fn ((swapL a c r).set c _) i j) = _
    rw [hA i j hj, hA i c hc, hA c j hj, if_pos rfl]
    unfold El.stepA
    by_cases e : i = c
    · rw [if_neg (by omega), if_pos e, if_pos e]
    · rw [if_pos ⟨hi, e⟩, if_neg e, if_neg e, if_neg e]
  · rw [(fn_elim sa' sx' hc n (Nat.le_refl _) i hi).2 j hj]
    show (if i < n ∧ i ≠ c then fn ((swapL x c r).set c _) i j + fn ((swapL a c r).set c _) i c * fn ((swapL x c r).set c _) c j else fn ((swapL x c r).set c _) i j) = _
    rw [hX i j hj, hA i c hc, hX c j hj, if_pos rfl]
    unfold El.stepA
    by_cases e : i = c
    · rw [if_neg (by omega), if_pos e, if_pos e]
    · rw [if_pos ⟨hi, e⟩, if_neg e, if_neg e, if_neg e]
theorem elO_zero_iff {y : Int} (h : In8 y) : elO y = 0 ↔ y = 0 := ⟨fun e => elO_inj h ⟨by omega, by omega⟩ (e.trans elO_zero.symm), fun e => by rw [e]; exact elO_zero⟩
theorem findP_some {n : Nat} {a : List (List Int)} {c : Nat} (ha : Sh n n a) (hc : c < n) : ∀ {d s r : Nat}, s + d = n → findP a c d s = some r → s ≤ r ∧ r < n ∧ fn a r c ≠ 0
  | 0, s, r, _, h => by simp [findP] at h
  | d + 1, s, r, hs, h => by
    obtain ⟨_, y, _, _, hy8, hf, hr⟩ := fn_in ha (show s < n by omega) hc
    unfold findP at h
    rw [hr] at h
    split at h
    · have := findP_some ha hc (by omega) h; exact ⟨by omega, this.2⟩
    · rename_i hne
      injection h with h
      subst h
      exact ⟨Nat.le_refl _, by omega, fun e => hne ((elO_zero_iff hy8).1 (hf.symm.trans e))⟩
theorem findP_none {n : Nat} {a : List (List Int)} {c : Nat} (ha : Sh n n a) (hc : c < n) : ∀ {d s : Nat}, s + d = n → findP a c d s = none → ∀ i, s ≤ i → i < n → fn a i c = 0
  | 0, s, _, _, i, h1, h2 => by omega
  | d + 1, s, hs, h, i, h1, h2 => by
    obtain ⟨_, y, _, _, hy8, hf, hr⟩ := fn_in ha (show s < n by omega) hc
    unfold findP at h
    rw [hr] at h
    split at h
    · rename_i hz
      by_cases e : i = s
      · rw [e, hf, hz]; exact elO_zero
      · exact findP_none ha hc (by omega) h i (by omega) h2
    · cases h
theorem sw_c (c r : Nat) : El.sw c r c = r := by unfold El.sw; rw [if_pos rfl]
theorem dot_congr {n : Nat} {A B : Nat → Nat → El} (h : ∀ i j, i < n → j < n → A i j = B i j) (Y : Nat → El) (i : Nat) (hi : i < n) : El.dot n A Y i = El.dot n B Y i := El.sum_congr fun j hj => by rw [h i j hi hj]
theorem U_congr {n c : Nat} {A B : Nat → Nat → El} (hc : c ≤ n) (h : ∀ i j, i < n → j < n → A i j = B i j) (hu : El.U n c A) : El.U n c B := fun i j hi hj => by rw [← h i j hi (by omega)]; exact hu i j hi hj
/-- the columns' loop -/
theorem cols_spec {n nx : Nat} : ∀ (d c : Nat) (q : List (List Int) × List (List Int)), c + d = n → Sh n n q.1 → Sh n nx q.2 → El.U n c (fn q.1) →
    (match cols n d c q with
     | none => ∃ Y : Nat → El, (∃ i, i < n ∧ Y i ≠ 0) ∧ ∀ i, i < n → El.dot n (fn q.1) Y i = 0
     | some l => Sh n nx l ∧ ∀ (Y : Nat → El) (k : Nat), k < nx → ((∀ i, i < n → El.dot n (fn q.1) Y i = fn q.2 i k) ↔ ∀ i, i < n → Y i = fn l i k))
  | 0, c, q, hd, ha, hx, hu => by
    obtain rfl : c = n := by omega
    show Sh c nx q.2 ∧ _
    refine ⟨hx, fun Y k hk => ?_⟩
    constructor
    · intro h i hi; rw [← h i hi, El.dot_unit hu Y i hi]
    · intro h i hi; rw [El.dot_unit hu Y i hi, h i hi]
  | d + 1, c, q, hd, ha, hx, hu => by
    have hc : c < n := by omega
    cases hf : findP q.1 c (n - c) c with
    | none =>
      rw [cols_none hf]
      have h0 := findP_none ha hc (by omega) hf
      obtain ⟨Y, hY, hk⟩ := El.kernel hu hc h0
      exact ⟨Y, ⟨c, hc, hY⟩, hk⟩
    | some r =>
      rw [cols_some hf]
      obtain ⟨hcr, hr, hne⟩ := findP_some ha hc (by omega) hf
      obtain ⟨sa, sx⟩ := clearsF_sh (ha.swap hc hr) (hx.swap hc hr) hc
      obtain ⟨fa, fx⟩ := fn_clears ha hx hc hr
      have hp : fn q.1 (El.sw c r c) c ≠ 0 := by rw [sw_c]; exact hne
      have hu2 : El.U n (c + 1) (fn (clearsF n c (swapL q.1 c r) (swapL q.2 c r)).1) := U_congr (by omega) (fun i j hi hj => (fa i j hi hj).symm) (El.U_step hu hcr hr hp)
      have ih := cols_spec (nx := nx) d (c + 1) (clearsF n c (swapL q.1 c r) (swapL q.2 c r)) (by omega) sa sx hu2
      generalize cols n d (c + 1) (clearsF n c (swapL q.1 c r) (swapL q.2 c r)) = R at ih
      cases R with
      | none =>
        obtain ⟨Y, hY, hk⟩ := ih
        refine ⟨Y, hY, ?_⟩
        have h1 := (El.step_sat n c r hc hr (fn q.1) (fun _ _ => 0) 0 Y hp).1 (fun i hi => by
          rw [← dot_congr fa Y i hi, hk i hi]
          unfold El.stepA
          split
          · exact (El.zero_mul _).symm
          · rw [El.zero_mul, El.mul_zero, El.add_zero])
        exact h1
      | some l =>
        obtain ⟨hs, hk⟩ := ih
        refine ⟨hs, fun Y k hkn => ?_⟩
        rw [← hk Y k hkn, ← El.step_sat n c r hc hr (fn q.1) (fn q.2) k Y hp]
        constructor
        · intro h i hi; rw [dot_congr fa Y i hi, h i hi, fx i k hi hkn]
        · intro h i hi; rw [← dot_congr fa Y i hi, h i hi, fx i k hi hkn]
/-- whether it can be solved hangs on the matrix alone -/
theorem elim_fst {c : Nat} {a x y : List (List Int)} : ∀ k, (elim c k (a, x)).1 = (elim c k (a, y)).1
  | 0 => rfl
  | k + 1 => by
    have ih := elim_fst (c := c) (a := a) (x := x) (y := y) k
    show (elimStep c k (elim c k (a, x))).1 = (elimStep c k (elim c k (a, y))).1
    unfold elimStep
    rw [ih]
    split
    · rfl
    · exact ih
theorem cols_indep {n : Nat} : ∀ (d c : Nat) (a b x y : List (List Int)), a = b → ((cols n d c (a, x)).isSome = (cols n d c (b, y)).isSome)
  | 0, _, _, _, _, _, _ => rfl
  | d + 1, c, a, b, x, y, e => by
    subst e
    cases hf : findP a c (n - c) c with
    | none => rw [cols_none (q := (a, x)) hf, cols_none (q := (a, y)) hf]
    | some r =>
      rw [cols_some (q := (a, x)) hf, cols_some (q := (a, y)) hf]
      exact cols_indep d (c + 1) _ _ _ _ (elim_fst (a := (swapL a c r).set c _) n)
/-- field.Solve: none, and something goes into 0; or the one answer -/
theorem solve_spec {n nx : Nat} {m v : List (List Int)} (hm : Sh n n m) (hv : Sh n nx v) :
    (match cols n n 0 (m, v) with
     | none => ∃ Y : Nat → El, (∃ i, i < n ∧ Y i ≠ 0) ∧ ∀ i, i < n → El.dot n (fn m) Y i = 0
     | some l => Sh n nx l ∧ ∀ (Y : Nat → El) (k : Nat), k < nx → ((∀ i, i < n → El.dot n (fn m) Y i = fn v i k) ↔ ∀ i, i < n → Y i = fn l i k)) := cols_spec n 0 (m, v) (by omega) hm hv (fun i j _ hj => by omega)
theorem dot_add (n : Nat) (A : Nat → Nat → El) (Y Z : Nat → El) (i : Nat) : El.dot n A (fun j => Y j + Z j) i = El.dot n A Y i + El.dot n A Z i := by
  unfold El.dot
  rw [← El.sum_add]
  exact El.sum_congr fun j _ => El.mul_add _ _ _
/-- something that goes into 0 keeps all from being solved -/
theorem not_some_of_kernel {n nx : Nat} {m v l : List (List Int)} (hm : Sh n n m) (hv : Sh n nx v) (hx : 0 < nx) (h : cols n n 0 (m, v) = some l) {Y : Nat → El} (hY : ∀ i, i < n → El.dot n (fn m) Y i = 0) : ∀ i, i < n → Y i = 0 := by
  have hs := solve_spec hm hv
  rw [h] at hs
  have hl := (hs.2 (fun i => fn l i 0) 0 hx).2 (fun _ _ => rfl)
  have h2 := (hs.2 (fun i => fn l i 0 + Y i) 0 hx).1 (fun i hi => by rw [dot_add, hl i hi, hY i hi, El.add_zero])
  intro i hi
  have h3 := h2 i hi
  have h4 := congrArg (fun z => fn l i 0 + z) h3
  simp only [El.add_add_self, El.add_self] at h4
  exact h4
/-- two equal shapes with equal elements -/
theorem eq_of_fn {n m : Nat} {a b : List (List Int)} (ha : Sh n m a) (hb : Sh n m b) (h : ∀ i j, i < n → j < m → fn a i j = fn b i j) : a = b := by
  apply List.ext_getElem?
  intro i
  by_cases hi : i < n
  · obtain ⟨r, h1, h2, h3⟩ := ha.at_ hi
    obtain ⟨s, g1, g2, g3⟩ := hb.at_ hi
    rw [h1, g1]
    congr 1
    apply List.ext_getElem?
    intro j
    by_cases hj : j < m
    · have e1 := List.getElem?_eq_getElem (show j < r.length by omega)
      have e2 := List.getElem?_eq_getElem (show j < s.length by omega)
      rw [e1, e2]
      congr 1
      have := h i j hi hj
      rw [fn_at h1 e1, fn_at g1 e2] at this
      exact elO_inj (h3 _ (List.getElem_mem _)) (g3 _ (List.getElem_mem _)) this
    · rw [List.getElem?_eq_none (by omega), List.getElem?_eq_none (by omega)]
  · rw [List.getElem?_eq_none (by rw [ha.len]; omega), List.getElem?_eq_none (by rw [hb.len]; omega)]
/-- two rows alike: it cannot be solved -/
theorem none_of_twice {n : Nat} {m v : List (List Int)} (hm : Sh n n m) {k l : Nat} (hk : k < n) (hl : l < n) (hkl : k ≠ l) (h : ∀ j, j < n → fn m k j = fn m l j) : cols n n 0 (m, v) = none := by
  let e : List (List Int) := (List.range n).map fun i => [if i = k then 1 else 0]
  have he : Sh n 1 e := by
    refine ⟨by simp [e], fun r hr => ?_, fun r hr y hy => ?_⟩
    · obtain ⟨i, _, rfl⟩ := List.mem_map.1 hr; rfl
    · obtain ⟨i, _, rfl⟩ := List.mem_map.1 hr
      rw [List.mem_singleton] at hy
      subst hy
      split <;> exact ⟨by omega, by omega⟩
  have hi := cols_indep (n := n) n 0 m m v e rfl
  cases hc : cols n n 0 (m, v) with
  | none => rfl
  | some z =>
    exfalso
    rw [hc] at hi
    obtain ⟨l2, hl2⟩ := Option.isSome_iff_exists.1 hi.symm
    have hs := solve_spec hm he
    rw [hl2] at hs
    have h2 := (hs.2 (fun i => fn l2 i 0) 0 (by omega)).2 (fun _ _ => rfl)
    have fe : ∀ i, i < n → fn e i 0 = if i = k then 1 else 0 := by
      intro i hi
      have h1 : e[i]? = some [if i = k then 1 else 0] := by simp [e, hi]
      rw [fn_at h1 (j := 0) rfl]
      split <;> rfl
    have a1 := h2 k hk
    have a2 := h2 l hl
    rw [fe k hk, if_pos rfl] at a1
    rw [fe l hl, if_neg (Ne.symm hkl)] at a2
    have e3 : El.dot n (fn m) (fun i => fn l2 i 0) k = El.dot n (fn m) (fun i => fn l2 i 0) l := El.sum_congr fun j hj => by rw [h j hj]
    rw [a1, a2] at e3
    exact absurd (congrArg El.v e3) (by decide)
end Go.Proofs.Ytdhajlkiiphlfaa.Solve
