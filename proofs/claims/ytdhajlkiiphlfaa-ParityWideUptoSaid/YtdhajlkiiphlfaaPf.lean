/- A part of a proof: see the text's own remarks. No conditions beyond its theorems' own. -/
import Derived.Test.YtdhajlkiiphlfaaPd
import Derived.Test.YtdhajlkiiphlfaaPl
/-! whichever are lost, as many as there are rows more: all come back -/
namespace Go.Proofs.Ytdhajlkiiphlfaa.Par
open Go.RowKit Go.Proofs.Ytdhajlkiiphlfaa.QBaseParityWide Go.Proofs.YtdhajlkiiphlfaaW.PrintWords Go.Proofs.YtdhajlkiiphlfaaW.PrintLast Go.Proofs.YtdhajlkiiphlfaaW.PrintMore Go.Proofs.Ytdhajlkiiphlfaa.Solve Go.Proofs.Ytdhajlkiiphlfaa.Math
set_option linter.unusedVariables false
set_option linter.unusedSimpArgs false
/-- the element in row i, column x; nought where there is none -/
def at2 (m : List (List Int)) (i x : Nat) : El := elO ((m.getD i []).getD x 0)
theorem fn_at2 (m : List (List Int)) (i x : Nat) : fn m i x = at2 m i x := by
  unfold fn at2; rw [rdL_nat, rd_nat]
theorem getD_in {l : List Int} (h : ∀ y ∈ l, In8 y) (x : Nat) : In8 (l.getD x 0) := by
  rw [List.getD_eq_getElem?_getD]
  cases e : l[x]? with
  | none => exact ⟨by decide, by decide⟩
  | some y => exact h y (List.mem_of_getElem? e)
theorem getD_len {l : List Int} {x : Nat} (h : l.length ≤ x) : l.getD x 0 = 0 := by
  rw [List.getD_eq_getElem?_getD, List.getElem?_eq_none h]; rfl
theorem elO_add (b : Int) (hb : In8 b) (l D : List Int) (hl : ∀ y ∈ l, In8 y) (hD : ∀ y ∈ D, In8 y) {x : Nat} (hx : x < D.length) : elO ((addAt b l 0 D).getD x 0) = elO (D.getD x 0) + elO b * elO (l.getD x 0) := by
  rw [addAt_getD b l 0 D x hx]
  by_cases h : x < l.length
  · rw [if_pos ⟨Nat.zero_le _, by omega⟩, Nat.sub_zero, elO_xor (getD_in hD x) (mulZ_in hb), elO_mul hb (getD_in hl x)]
  · rw [if_neg (by omega), getD_len (l := l) (by omega), elO_zero, El.mul_zero, El.add_zero]
theorem part_el (c : Nat → Int) (rows : List (List Int)) (z : List Int) (hz : ∀ y ∈ z, In8 y) (hr : ∀ t, ∀ y ∈ rows.getD t [], In8 y) {x : Nat} (hx : x < z.length) : ∀ j, (∀ t, t < j → In8 (c t)) → elO ((part c rows z j).getD x 0) = elO (z.getD x 0) + El.sum j (fun t => elO (c t) * at2 rows t x)
  | 0, _ => (El.add_zero _).symm
  | j + 1, hc => by
    rw [part, elO_add (c j) (hc j (by omega)) _ _ (hr j) (part_in c rows z hz j (fun t ht => hc t (by omega))) (by rw [part_length]; exact hx), part_el c rows z hz hr hx j (fun t ht => hc t (by omega))]
    show _ = _ + (El.sum j _ + _)
    rw [El.add_assoc]; rfl
theorem left_el (g : List Bool) (out : List (List Int)) (i : Nat) (z : List Int) (hz : ∀ y ∈ z, In8 y) (hr : ∀ t, ∀ y ∈ out.getD t [], In8 y) {x : Nat} (hx : x < z.length) : ∀ j, j ≤ 256 → elO ((leftP g out i z j).getD x 0) = elO (z.getD x 0) + El.sum j (fun t => if g.getD t false = true then 0 else elO (cE i t) * at2 out t x)
  | 0, _ => (El.add_zero _).symm
  | j + 1, hj => by
    rw [leftP]
    show _ = _ + (El.sum j _ + (if g.getD j false = true then 0 else elO (cE i j) * at2 out j x))
    by_cases h : g.getD j false = true
    · rw [if_pos h, if_pos h, left_el g out i z hz hr hx j (by omega), El.add_zero]
    · rw [if_neg h, if_neg h, elO_add (cE i j) (cE_in (by omega)) _ _ (hr j) (leftP_in g out i z hz j (by omega)) (by rw [leftP_length]; exact hx), left_el g out i z hz hr hx j (by omega), El.add_assoc]; rfl
theorem sum_wo (g : List Bool) (f : Nat → El) : ∀ n, El.sum n (fun t => if g.getD t false = true then f t else 0) = El.sum (woL g n).length (fun k => f ((woL g n).getD k 0))
  | 0 => rfl
  | n + 1 => by
    show El.sum n _ + (if g.getD n false = true then f n else 0) = _
    rw [sum_wo g f n, woL_succ]
    by_cases h : g.getD n false = true
    · rw [if_pos h, if_pos h, List.length_append]
      show _ = El.sum (woL g n).length _ + f ((woL g n ++ [n]).getD (woL g n).length 0)
      congr 1
      · refine El.sum_congr (fun k hk => ?_)
        rw [List.getD_eq_getElem?_getD, List.getD_eq_getElem?_getD, List.getElem?_append_left hk]
      · rw [List.getD_eq_getElem?_getD, List.getElem?_append_right (Nat.le_refl _), Nat.sub_self]; rfl
    · rw [if_neg h, if_neg h, El.add_zero]
theorem woL_count (g : List Bool) : ∀ m, m ≤ g.length → (woL g m).length = (g.take m).count true
  | 0, _ => by simp [woL]
  | m + 1, hm => by
    rw [woL_succ, List.take_succ_eq_append_getElem (by omega), List.count_append]
    have e : g.getD m false = g[m] := by rw [List.getD_eq_getElem?_getD, List.getElem?_eq_getElem (by omega)]; rfl
    have ih := woL_count g m (by omega)
    rw [e]
    cases h : g[m]
    · rw [if_neg (by decide), ih]; simp
    · rw [if_pos rfl, List.length_append, ih]; simp
theorem usedL_count (g : List Bool) (n : Nat) : ∀ m, n + m ≤ g.length → (usedL g n m).length + ((g.drop n).take m).count true = m
  | 0, _ => by simp [usedL]
  | m + 1, hm => by
    rw [usedL_succ, List.take_succ_eq_append_getElem (by rw [List.length_drop]; omega), List.count_append]
    have e : g.getD (n + m) false = g[n + m] := by rw [List.getD_eq_getElem?_getD, List.getElem?_eq_getElem (by omega)]; rfl
    have e2 : (g.drop n)[m]'(by rw [List.length_drop]; omega) = g[n + m] := by rw [List.getElem_drop]
    have ih := usedL_count g n m (by omega)
    rw [e, e2]
    cases h : g[n + m]
    · rw [if_neg (by decide), List.length_append]; simp; omega
    · rw [if_pos rfl]; simp; omega
theorem count_ok {g : List Bool} {n p : Nat} (hg : g.length = n + p) (hc : cnt g ≤ p) : (woL g n).length ≤ (usedL g n p).length := by
  have h1 := woL_count g n (by omega)
  have h2 := usedL_count g n p (by omega)
  have h3 : (g.drop n).take p = g.drop n := List.take_of_length_le (by rw [List.length_drop]; omega)
  have h4 : cnt g = (g.take n).count true + (g.drop n).count true := by
    unfold cnt; rw [← List.count_append, List.take_append_drop]
  rw [h3] at h2
  omega
theorem woL_nodup (g : List Bool) (n : Nat) : (woL g n).Nodup := List.Pairwise.filter _ List.nodup_range
theorem usedL_nodup (g : List Bool) (n i : Nat) : (usedL g n i).Nodup := List.Pairwise.filter _ List.nodup_range
theorem nodup_ne {l : List Nat} (h : l.Nodup) {i j : Nat} (hi : i < l.length) (hj : j < l.length) (hij : i ≠ j) : l.getD i 0 ≠ l.getD j 0 := by
  rw [List.getD_eq_getElem?_getD, List.getD_eq_getElem?_getD, List.getElem?_eq_getElem hi, List.getElem?_eq_getElem hj]
  exact fun e => hij ((List.getElem_inj h).1 e)
theorem mem_usedL {g : List Bool} {n i t : Nat} : t ∈ usedL g n i ↔ t < i ∧ g.getD (n + t) false = false := by
  unfold usedL; rw [List.mem_filter, List.mem_range]; simp [-List.getD_eq_getElem?_getD]
theorem elO_ne {a b : Nat} (ha : a < 256) (hb : b < 256) (h : a ≠ b) : elO (a : Int) ≠ elO (b : Int) := fun e => h (by have := elO_inj (In8.of ha) (In8.of hb) e; omega)
theorem cE_el {i j : Nat} (hj : j < 256) : elO (cE i j) = (elO ((255 - i : Nat) : Int) + elO (j : Int)).inv := by
  unfold cE
  rw [elO_inv (xorZ_in (In8.of (by omega)) (In8.of hj)), elO_xor (In8.of (by omega)) (In8.of hj)]
/-- what is given, where rows and rows more are lost of those that were -/
structure Lost (rows rows' more' : List (List Int)) (g : List Bool) (n p : Nat) : Prop where
  rn : rows.length = n
  rn' : rows'.length = n
  pn : more'.length = p
  gn : g.length = n + p
  n200 : n ≤ 200
  p16 : p ≤ 16
  small : ∀ r ∈ rows, r.length ≤ 16777216
  rin : ∀ r ∈ rows, ∀ y ∈ r, In8 y
  rin' : ∀ r ∈ rows', ∀ y ∈ r, In8 y
  min' : ∀ r ∈ more', ∀ y ∈ r, In8 y
  same : ∀ t, t < n → g.getD t false = false → rows'.getD t [] = rows.getD t []
  sameM : ∀ t, t < p → g.getD (n + t) false = false → more'.getD t [] = moreRow rows t
  few : cnt g ≤ p
theorem moreRow_length (rows : List (List Int)) (i : Nat) : (moreRow rows i).length = widthL rows := by
  unfold moreRow; rw [part_length]; exact List.length_replicate
theorem getD_rows {rows : List (List Int)} (h : ∀ r ∈ rows, ∀ y ∈ r, In8 y) (t : Nat) : ∀ y ∈ rows.getD t [], In8 y := by
  rw [List.getD_eq_getElem?_getD]
  cases e : rows[t]? with
  | none => intro y hy; cases hy
  | some r => exact h r (List.mem_of_getElem? e)
theorem lens_getD {rows : List (List Int)} {t : Nat} (ht : t < rows.length) : (rows.map List.length).getD t 0 = (rows.getD t []).length := by
  rw [List.getD_eq_getElem?_getD, List.getElem?_map, List.getElem?_eq_getElem ht, List.getD_eq_getElem?_getD, List.getElem?_eq_getElem ht]; rfl
theorem Lost.given {rows rows' more' : List (List Int)} {g : List Bool} {n p : Nat} (h : Lost rows rows' more' g n p) : Given rows' (rows.map List.length) more' g n p (widthL rows) where
  rn := h.rn'
  pn := h.pn
  ln := by rw [List.length_map]; exact h.rn
  gn := h.gn
  n200 := h.n200
  p16 := h.p16
  wid := rfl
  small := fun t ht => by rw [lens_getD (by rw [h.rn]; exact ht)]; exact h.small _ (getD_mem (by rw [h.rn]; exact ht))
  rowsFit := fun t ht hg => by rw [h.same t ht hg, lens_getD (by rw [h.rn]; exact ht)]
  moreFit := fun t ht hg => by rw [h.sameM t ht hg, moreRow_length]
  rin := h.rin'
  min := h.min'
/-- what must come out for the rows that are gone: they themselves, noughts behind them -/
def padTo (W : Nat) (r : List Int) : List Int := r ++ zeros (W - r.length)
theorem padTo_getD (W : Nat) (r : List Int) (x : Nat) : (padTo W r).getD x 0 = r.getD x 0 := by
  unfold padTo
  by_cases h : x < r.length
  · rw [List.getD_eq_getElem?_getD, List.getElem?_append_left h, ← List.getD_eq_getElem?_getD]
  · rw [List.getD_eq_getElem?_getD, List.getElem?_append_right (by omega), ← List.getD_eq_getElem?_getD, zeros_getD, getD_len (by omega)]
def wantX (rows : List (List Int)) (g : List Bool) (n : Nat) : List (List Int) := (woL g n).map fun t => padTo (widthL rows) (rows.getD t [])
theorem row_le (rows : List (List Int)) (t : Nat) : (rows.getD t []).length ≤ widthL rows := by
  by_cases h : t < rows.length
  · exact le_wideN (List.mem_map.2 ⟨_, getD_mem h, rfl⟩)
  · rw [List.getD_eq_getElem?_getD, List.getElem?_eq_none (by omega)]; exact Nat.zero_le _
theorem wantX_sh {rows rows' more' : List (List Int)} {g : List Bool} {n p : Nat} (h : Lost rows rows' more' g n p) : Sh (woL g n).length (widthL rows) (wantX rows g n) := by
  refine ⟨by simp [wantX], fun r hr => ?_, fun r hr y hy => ?_⟩
  · obtain ⟨t, _, rfl⟩ := List.mem_map.1 hr
    have := row_le rows t
    unfold padTo; rw [List.length_append, show (zeros (widthL rows - (rows.getD t []).length)).length = widthL rows - (rows.getD t []).length from List.length_replicate]; omega
  · obtain ⟨t, _, rfl⟩ := List.mem_map.1 hr
    rcases List.mem_append.1 hy with hy | hy
    · exact getD_rows h.rin t y hy
    · exact zeros_in _ y hy
theorem map_getD (l : List Nat) (f : Nat → List Int) {k : Nat} (hk : k < l.length) : (l.map f).getD k [] = f (l.getD k 0) := by
  rw [List.getD_eq_getElem?_getD, List.getElem?_map, List.getElem?_eq_getElem hk, List.getD_eq_getElem?_getD, List.getElem?_eq_getElem hk]; rfl
theorem wantX_at (rows : List (List Int)) (g : List Bool) (n : Nat) {k : Nat} (hk : k < (woL g n).length) (x : Nat) : at2 (wantX rows g n) k x = at2 rows ((woL g n).getD k 0) x := by
  unfold at2 wantX
  rw [map_getD _ _ hk, padTo_getD]
theorem outA_at {rows rows' more' : List (List Int)} {g : List Bool} {n p : Nat} (h : Lost rows rows' more' g n p) {s : Nat} (hs : s < n) (hg : g.getD s false = false) : (outA rows' (rows.map List.length) g n).getD s [] = rows.getD s [] := by
  have e : (outA rows' (rows.map List.length) g n).getD s [] = if s < n ∧ g.getD s false = false then rows'.getD s [] else zeros ((rows.map List.length).getD s 0) := by
    rw [List.getD_eq_getElem?_getD, outA_get _ _ _ _ (by rw [List.length_map, h.rn]; exact hs)]; rfl
  rw [e, if_pos ⟨hs, hg⟩, h.same s hs hg]
theorem left_is {rows rows' more' : List (List Int)} {g : List Bool} {n p : Nat} (h : Lost rows rows' more' g n p) {t : Nat} (ht : t < p) (hg : g.getD (n + t) false = false) {x : Nat} (hx : x < widthL rows) :
    elO ((leftP g (outA rows' (rows.map List.length) g n) t (more'.getD t []) n).getD x 0) = El.sum (woL g n).length (fun k => elO (cE t ((woL g n).getD k 0)) * at2 rows ((woL g n).getD k 0) x) := by
  have hG := h.given
  have hout : ∀ s, ∀ y ∈ (outA rows' (rows.map List.length) g n).getD s [], In8 y := by
    intro s
    by_cases hs : s < n
    · exact (out_len hG hs).2.2
    · rw [List.getD_eq_getElem?_getD, List.getElem?_eq_none (by rw [outA_length, hG.ln]; omega)]; intro y hy; cases hy
  rw [h.sameM t ht hg, left_el g _ t (moreRow rows t) (moreRow_in rows (by rw [h.rn]; have := h.n200; omega) t) hout (by rw [moreRow_length]; exact hx) n (by have := h.n200; omega)]
  unfold moreRow
  rw [part_el (cE t) rows (zeros (widthL rows)) (zeros_in _) (getD_rows h.rin) (by rw [show (zeros (widthL rows)).length = widthL rows from List.length_replicate]; exact hx) rows.length (fun s hs => cE_in (by rw [h.rn] at hs; have := h.n200; omega)), zeros_getD, elO_zero, El.zero_add, h.rn, ← El.sum_add, ← sum_wo g (fun s => elO (cE t s) * at2 rows s x) n]
  refine El.sum_congr (fun s hs => ?_)
  cases e : g.getD s false
  · rw [if_neg (by decide), if_neg (by decide)]
    have : at2 (outA rows' (rows.map List.length) g n) s x = at2 rows s x := by unfold at2; rw [outA_at h hs e]
    rw [this, El.add_self]
  · rw [if_pos rfl, if_pos rfl, El.add_zero]
theorem part_sh {rows rows' more' : List (List Int)} {g : List Bool} {n p : Nat} (h : Lost rows rows' more' g n p) (i : Nat) : Sh (usedL g n i).length (woL g n).length (partL g n i) := by
  refine ⟨by simp [partL], fun r hr => ?_, fun r hr y hy => ?_⟩
  · obtain ⟨t, _, rfl⟩ := List.mem_map.1 hr; simp [lineP]
  · obtain ⟨t, _, rfl⟩ := List.mem_map.1 hr
    obtain ⟨s, hs, rfl⟩ := List.mem_map.1 hy
    have := (mem_woL.1 hs).1; have := h.n200
    exact cE_in (by omega)
theorem v_sh {rows rows' more' : List (List Int)} {g : List Bool} {n p : Nat} (h : Lost rows rows' more' g n p) {i : Nat} (hi : i ≤ p) : Sh (usedL g n i).length (widthL rows) (vL g n (outA rows' (rows.map List.length) g n) more' i) := by
  refine ⟨by simp [vL], fun r hr => ?_, fun r hr y hy => ?_⟩
  · obtain ⟨t, ht, rfl⟩ := List.mem_map.1 hr
    obtain ⟨h1, h2⟩ := mem_usedL.1 ht
    rw [leftP_length, h.sameM t (by omega) h2, moreRow_length]
  · obtain ⟨t, ht, rfl⟩ := List.mem_map.1 hr
    exact leftP_in _ _ _ _ (getD_rows h.min' t) n (by have := h.n200; omega) y hy
theorem recover_sys {rows rows' more' : List (List Int)} {g : List Bool} {n p q : Nat} (h : Lost rows rows' more' g n p) (hq : (woL g n).length = q) {i : Nat} (hi : i ≤ p) (hu : (usedL g n i).length = q) :
    cols q q 0 (partL g n i, vL g n (outA rows' (rows.map List.length) g n) more' i) = some (wantX rows g n) := by
  have hP := part_sh h i
  have hV := v_sh h hi
  have hX := wantX_sh h
  rw [hu, hq] at hP
  rw [hu] at hV
  rw [hq] at hX
  have hn := h.n200
  have hp := h.p16
  have hU : ∀ a, a < q → (usedL g n i).getD a 0 < p ∧ g.getD (n + (usedL g n i).getD a 0) false = false := fun a ha => by
    have := mem_usedL.1 (getD_mem (d := 0) (show a < (usedL g n i).length by omega))
    exact ⟨by omega, this.2⟩
  have hW : ∀ c, c < q → (woL g n).getD c 0 < n := fun c hc => (mem_woL.1 (getD_mem (d := 0) (show c < (woL g n).length by omega))).1
  have hfn : ∀ a c, a < q → c < q → fn (partL g n i) a c = (elO ((255 - (usedL g n i).getD a 0 : Nat) : Int) + elO (((woL g n).getD c 0 : Nat) : Int)).inv := by
    intro a c ha hc
    rw [fn_at2]
    unfold at2 partL
    rw [map_getD _ _ (by omega)]
    unfold lineP
    have e : ((woL g n).map fun t => cE ((usedL g n i).getD a 0) t).getD c 0 = cE ((usedL g n i).getD a 0) ((woL g n).getD c 0) := by
      rw [List.getD_eq_getElem?_getD, List.getElem?_map, List.getElem?_eq_getElem (show c < (woL g n).length by omega), List.getD_eq_getElem?_getD (l := woL g n), List.getElem?_eq_getElem (show c < (woL g n).length by omega)]; rfl
    rw [e, cE_el (by have := hW c hc; omega)]
  obtain ⟨y, hy, hsy, _⟩ := Cau.solved q (fun a => elO ((255 - (usedL g n i).getD a 0 : Nat) : Int)) (fun c => elO (((woL g n).getD c 0 : Nat) : Int))
    (fun a c ha hc hac => elO_ne (by omega) (by omega) (by have h1 := (hU a ha).1; have h2 := (hU c hc).1; have h3 := nodup_ne (usedL_nodup g n i) (by omega) (by omega) hac; omega))
    (fun a c ha hc hac => elO_ne (by have := hW a ha; omega) (by have := hW c hc; omega) (nodup_ne (woL_nodup g n) (by omega) (by omega) hac))
    (fun a c ha hc => elO_ne (by omega) (by have := hW c hc; omega) (by have h1 := (hU a ha).1; have h2 := hW c hc; omega))
    (partL g n i) (vL g n (outA rows' (rows.map List.length) g n) more' i) hP hV hfn
  have sp := solve_spec hP hV
  rw [hy] at sp
  rw [hy]
  congr 1
  refine eq_of_fn hsy hX (fun a x ha hx => ?_)
  have key := (sp.2 (fun c => fn (wantX rows g n) c x) x hx).1 (fun a ha => ?_) a ha
  · exact key.symm
  · rw [fn_at2 (vL g n (outA rows' (rows.map List.length) g n) more' i)]
    unfold at2 vL
    rw [map_getD _ _ (by omega), left_is h (hU a ha).1 (hU a ha).2 hx, hq]
    unfold El.dot
    refine El.sum_congr (fun c hc => ?_)
    rw [hfn a c ha hc]
    show _ * fn (wantX rows g n) c x = _
    rw [fn_at2, wantX_at rows g n (by omega), cE_el (by have := hW c hc; omega)]
theorem outB_is {rows rows' more' : List (List Int)} {g : List Bool} {n p : Nat} (h : Lost rows rows' more' g n p) (OUT : List (List Int)) (hO : OUT.length = n) : ∀ k, k ≤ (woL g n).length → (outB (woL g n) (wantX rows g n) (rows.map List.length) OUT k).length = n ∧ ∀ t, t < n → (outB (woL g n) (wantX rows g n) (rows.map List.length) OUT k).getD t [] = if t ∈ (woL g n).take k then rows.getD t [] else OUT.getD t []
  | 0, _ => ⟨hO, fun t ht => by rw [List.take_zero, if_neg (by simp)]; rfl⟩
  | k + 1, hk => by
    obtain ⟨h1, h2⟩ := outB_is h OUT hO k (by omega)
    have hwn : (woL g n).getD k 0 < n := (mem_woL.1 (getD_mem (d := 0) (show k < (woL g n).length by omega))).1
    have hval : ((wantX rows g n).getD k []).take ((rows.map List.length).getD ((woL g n).getD k 0) 0) = rows.getD ((woL g n).getD k 0) [] := by
      unfold wantX
      rw [map_getD _ _ (by omega), lens_getD (by rw [h.rn]; exact hwn)]
      unfold padTo
      rw [List.take_left']; rfl
    refine ⟨by rw [outB, List.length_set]; exact h1, fun t ht => ?_⟩
    rw [outB, hval]
    have htk : (woL g n).take (k + 1) = (woL g n).take k ++ [(woL g n).getD k 0] := by
      rw [take_one _ (by omega), List.getD_eq_getElem?_getD, List.getElem?_eq_getElem (by omega)]; rfl
    by_cases e : (woL g n).getD k 0 = t
    · subst e
      rw [List.getD_eq_getElem?_getD, List.getElem?_set_self (by rw [h1]; exact ht), htk, if_pos (by simp)]; rfl
    · rw [List.getD_eq_getElem?_getD, List.getElem?_set_ne e, ← List.getD_eq_getElem?_getD, h2 t ht, htk]
      by_cases m : t ∈ (woL g n).take k
      · rw [if_pos m, if_pos (by simp [m])]
      · rw [if_neg m, if_neg (by
          intro m2
          rcases List.mem_append.1 m2 with m3 | m3
          · exact m m3
          · exact e (List.mem_singleton.1 m3).symm)]
theorem ext_getD {a b : List (List Int)} {n : Nat} (ha : a.length = n) (hb : b.length = n) (h : ∀ t, t < n → a.getD t [] = b.getD t []) : a = b := by
  apply List.ext_getElem?
  intro t
  by_cases ht : t < n
  · rw [getD_get (d := []) (by omega), getD_get (l := b) (d := []) (by omega), h t ht]
  · rw [List.getElem?_eq_none (by omega), List.getElem?_eq_none (by omega)]
theorem recover_out {rows rows' more' : List (List Int)} {g : List Bool} {n p q : Nat} (h : Lost rows rows' more' g n p) (hq : (woL g n).length = q) : outB (woL g n) (wantX rows g n) (rows.map List.length) (outA rows' (rows.map List.length) g n) q = rows := by
  obtain ⟨h1, h2⟩ := outB_is h (outA rows' (rows.map List.length) g n) (by rw [outA_length, List.length_map]; exact h.rn) q (by omega)
  refine ext_getD h1 h.rn (fun t ht => ?_)
  rw [h2 t ht, ← hq, List.take_length]
  cases e : g.getD t false
  · rw [if_neg (fun m => by have := (mem_woL.1 m).2; rw [e] at this; cases this), outA_at h ht e]
  · rw [if_pos (mem_woL.2 ⟨ht, e⟩)]
theorem recover_rest {rows rows' more' : List (List Int)} {g : List Bool} {n p : Nat} (h : Lost rows rows' more' g n p) : restB g n more' (madeL rows p) p = madeL rows p := by
  have hl : (madeL rows p).length = p := by simp [madeL]
  refine ext_getD (n := p) (by rw [restB_length]; exact hl) hl (fun t ht => ?_)
  rw [List.getD_eq_getElem?_getD, restB_get _ _ _ _ _ (by rw [hl]; exact ht)]
  have hm : (madeL rows p).getD t [] = moreRow rows t := by
    unfold madeL; rw [List.getD_eq_getElem?_getD, List.getElem?_map, List.getElem?_range ht]; rfl
  show (if t < p ∧ g.getD (n + t) false = false then more'.getD t [] else (madeL rows p).getD t []) = _
  by_cases c : t < p ∧ g.getD (n + t) false = false
  · rw [if_pos c, h.sameM t ht c.2, hm]
  · rw [if_neg c]
theorem marks_getD (lost : List Int) : ∀ (d i : Nat) (g : List Bool) (t : Nat), i + d ≤ lost.length → t < g.length → ((marksFrom lost g i d).getD t false = true ↔ g.getD t false = true ∨ ∃ s, i ≤ s ∧ s < i + d ∧ (lost.getD s 0).toNat = t)
  | 0, i, g, t, _, _ => ⟨fun h => .inl h, fun h => h.elim id (by rintro ⟨s, h1, h2, _⟩; omega)⟩
  | d + 1, i, g, t, hi, ht => by
    rw [marksFrom_succ, marks_getD lost d (i + 1) _ t (by omega) (by rw [List.length_set]; exact ht), rd_nat]
    by_cases e : (lost.getD i 0).toNat = t
    · have e1 : (g.set (lost.getD i 0).toNat true).getD t false = true := by rw [List.getD_eq_getElem?_getD, e, List.getElem?_set_self ht]; rfl
      exact ⟨fun _ => .inr ⟨i, Nat.le_refl _, by omega, e⟩, fun _ => .inl e1⟩
    · have e1 : (g.set (lost.getD i 0).toNat true).getD t false = g.getD t false := by rw [List.getD_eq_getElem?_getD, List.getElem?_set_ne e, ← List.getD_eq_getElem?_getD]
      rw [e1]
      constructor
      · rintro (h | ⟨s, h1, h2, h3⟩)
        · exact .inl h
        · exact .inr ⟨s, by omega, by omega, h3⟩
      · rintro (h | ⟨s, h1, h2, h3⟩)
        · exact .inl h
        · refine .inr ⟨s, ?_, by omega, h3⟩
          rcases Nat.lt_or_ge i s with h | h
          · omega
          · exact absurd (by rw [show i = s by omega]; exact h3) e
theorem gones_getD (N : Nat) (lost : List Int) {t : Nat} (ht : t < N) : (gonesL N lost).getD t false = true ↔ ∃ s, s < lost.length ∧ (lost.getD s 0).toNat = t := by
  unfold gonesL
  rw [marks_getD lost lost.length 0 _ t (by omega) (by rw [List.length_replicate]; exact ht)]
  have e : (List.replicate N false).getD t false = false := by rw [List.getD_eq_getElem?_getD, List.getElem?_replicate]; split <;> rfl
  rw [e]
  constructor
  · rintro (h | ⟨s, _, h2, h3⟩)
    · cases h
    · exact ⟨s, by omega, h3⟩
  · rintro ⟨s, h2, h3⟩; exact .inr ⟨s, by omega, by omega, h3⟩
theorem marks_cnt (lost : List Int) : ∀ (d i : Nat) (g : List Bool), cnt (marksFrom lost g i d) ≤ cnt g + d
  | 0, _, _ => by rw [marksFrom]; omega
  | d + 1, i, g => by
    rw [marksFrom_succ]
    have h1 := marks_cnt lost d (i + 1) (g.set (rd lost (i : Int)).toNat true)
    by_cases h : (rd lost (i : Int)).toNat < g.length
    · have := cnt_set h; split at this <;> omega
    · rw [List.set_eq_of_length_le (by omega)] at h1 ⊢; omega
theorem gones_cnt (N : Nat) (lost : List Int) : cnt (gonesL N lost) ≤ lost.length := by
  have := marks_cnt lost lost.length 0 (List.replicate N false)
  have h0 : cnt (List.replicate N false) = 0 := by unfold cnt; simp [List.count_replicate]
  unfold gonesL; omega
theorem fits_back {rows rows' more' : List (List Int)} {lost : List Int} {n p : Nat} (h : Lost rows rows' more' (gonesL (n + p) lost) n p) (hl : ∀ s, s < lost.length → 0 ≤ lost.getD s 0 ∧ lost.getD s 0 < ((n + p : Nat) : Int)) : fitsL rows' (up (rows.map List.length)) more' lost = (gonesL (n + p) lost, 0) := by
  unfold fitsL
  have hn := h.n200
  have hp := h.p16
  have hG := h.given
  rw [h.rn', h.pn, if_neg (by omega), if_neg (by rw [up_length, List.length_map, h.rn]; simp), if_pos ((okFrom_iff (fL0 (n + p) lost) _ _).2 (fun s h1 h2 => decide_eq_true (hl s (by omega))))]
  unfold fitsQ
  rw [if_pos ((okFrom_iff _ _ _).2 (fun s h1 h2 => ?_))]
  · unfold fitsR
    have hu : ups (up (rows.map List.length)) = rows.map List.length := by
      unfold ups up; rw [List.map_map]; conv => rhs; rw [← List.map_id (rows.map List.length)]
      exact List.map_congr_left (fun x _ => by show ((x : Int)).toNat = x; omega)
    rw [hu, if_pos ((okFrom_iff _ _ _).2 (fun s h1 h2 => ?_)), if_neg (by have := h.few; omega)]
    unfold fL2
    cases e : (gonesL (n + p) lost).getD (n + s) false
    · rw [Bool.false_or]; exact decide_eq_true (by rw [hG.moreFit s (by omega) e]; exact hG.wid)
    · rfl
  · unfold fL1
    have hs : s < (rows.map List.length).length := by rw [hG.ln]; omega
    have hup : (up (rows.map List.length)).getD s 0 = (((rows.map List.length).getD s 0 : Nat) : Int) := by
      rw [← rd_nat, up_rd _ hs, List.getD_eq_getElem?_getD, List.getElem?_eq_getElem hs]; rfl
    rw [hup, decide_eq_true (by have := hG.small s (by omega); omega), Bool.true_and]
    cases e : (gonesL (n + p) lost).getD s false
    · rw [Bool.false_or]; exact decide_eq_true (by rw [hG.rowsFit s (by omega) e])
    · rfl
theorem restore_back (A0 A1 A2 A3 : Option Addr) (c0 c1 c2 c3 : Nat) (rows rows' more' : List (List Int)) (lost : List Int) (n p : Nat) (w : World)
    (hr0 : Kd.C (Kd.slice 5 (Kd.int .u8)) w A0 n rows') (hc0 : n ≤ c0) (hr1 : Kd.C (Kd.int .i64) w A1 n (up (rows.map List.length))) (hc1 : n ≤ c1) (hr2 : Kd.C (Kd.slice 5 (Kd.int .u8)) w A2 p more') (hc2 : p ≤ c2) (hr3 : Kd.C (Kd.int .i64) w A3 lost.length lost) (hc3 : lost.length ≤ c3)
    (h : Lost rows rows' more' (gonesL (n + p) lost) n p) (hl : ∀ s, s < lost.length → 0 ≤ lost.getD s 0 ∧ lost.getD s 0 < ((n + p : Nat) : Int)) (hlo : lost.length ≤ 1000) :
    Calls Try.prog 16 #[.slice A0 n c0, .slice A1 n c1, .slice A2 p c2, .slice A3 lost.length c3] w fun e w' => ∃ v hs1 hs2 b1 b2, e = .returned (.tuple #[v, .int .i64 0]) ∧ RRes w' w.heap.size v hs1 hs2 b1 b2 rows (madeL rows p) ∧ Below w.heap.size w w' := by
  have hr := restore_ok A0 A1 A2 A3 c0 c1 c2 c3 rows' (rows.map List.length) more' lost (gonesL (n + p) lost) n p (widthL rows) w hr0 hc0 hr1 hc1 hr2 hc2 hr3 hc3 (by omega) (fits_back h hl) h.given (woL (gonesL (n + p) lost) n).length rfl (count_ok h.gn h.few) (outA rows' (rows.map List.length) (gonesL (n + p) lost) n) rfl (wantX rows (gonesL (n + p) lost) n)
    (fun _ => ⟨wantX_sh h, fun i hi hu => ⟨recover_sys h rfl hi hu, by rw [← hu]; have := part_sh h i; rw [hu] at this ⊢; exact this, by have := v_sh h hi; rw [hu] at this; exact this⟩⟩)
  rw [recover_out h rfl, recover_rest h] at hr
  exact hr
end Go.Proofs.Ytdhajlkiiphlfaa.Par
/-! rows in blocks of bytes that nobody writes to any more; raw rows out of texts -/
namespace Go.Proofs.Ytdhajlkiiphlfaa.Par
open Go.RowKit Go.Proofs.Ytdhajlkiiphlfaa.QBaseParityWide Go.Proofs.YtdhajlkiiphlfaaW.PrintWords Go.Proofs.YtdhajlkiiphlfaaW.PrintLast Go.Proofs.YtdhajlkiiphlfaaW.PrintMore Go.Proofs.Ytdhajlkiiphlfaa.Solve
set_option linter.unusedVariables false
set_option linter.unusedSimpArgs false
/-- what a header leads to -/
def Row5 (w : World) (h : Hdr) (r : List Int) : Prop := h.2.1 = r.length ∧ r.length ≤ h.2.2 ∧ r.length ≤ 281474976710656 ∧ (0 < r.length → ∃ k o cells fz, h.1 = some ⟨k, o, none⟩ ∧ w.heap[k]? = some (.cells cells 5 fz) ∧ ∀ (x : Nat) y, r[x]? = some y → cells[o + x]? = some (.int .u8 y))
/-- the blocks of bytes are as they were -/
def Same5 (w w' : World) : Prop := ∀ (k : Nat) cells fz, w.heap[k]? = some (.cells cells 5 fz) → w'.heap[k]? = some (.cells cells 5 fz)
theorem Same5.refl (w : World) : Same5 w w := fun _ _ _ h => h
theorem Same5.trans {a b c : World} (h : Same5 a b) (h' : Same5 b c) : Same5 a c := fun k cells fz hk => h' k cells fz (h k cells fz hk)
theorem Same5.of_below {w w' : World} (h : Below w.heap.size w w') : Same5 w w' := fun k cells fz hk => (h.block k (Array.getElem?_eq_some_iff.1 hk).1).trans hk
theorem Same5.of_grown {w w' : World} {row : Option Nat} (h : w.grownBy w' row) (hr : ∀ k cells fz, w.heap[k]? = some (.cells cells 5 fz) → some k ≠ row) : Same5 w w' := fun k cells fz hk => (h.block k (Array.getElem?_eq_some_iff.1 hk).1 (hr k cells fz hk)).trans hk
theorem Same5.set {w : World} {g t : Nat} {cells : Array Value} {fz : Nat × Nat} (hg : w.heap[g]? = some (.cells cells t fz)) (ht : t ≠ 5) (i : Nat) (v : Value) : Same5 w (w.setCell ⟨g, i, none⟩ v) := fun k c f hk => by
  rw [Below.heap_setCell w ⟨g, i, none⟩ v k (fun e => ht (by
    have e2 : k = g := e
    rw [e2, hg] at hk; injection hk with hk; injection hk))]
  exact hk
theorem Row5.move {w w' : World} {h : Hdr} {r : List Int} (hr : Row5 w h r) (hs : Same5 w w') : Row5 w' h r := by
  obtain ⟨a, b, c, d⟩ := hr
  refine ⟨a, b, c, fun hp => ?_⟩
  obtain ⟨k, o, cells, fz, e1, e2, e3⟩ := d hp
  exact ⟨k, o, cells, fz, e1, hs k cells fz e2, e3⟩
theorem Row5.toC {w : World} {A : Option Addr} {n c : Nat} {r : List Int} (hr : Row5 w (A, n, c) r) : Kd.C (Kd.int .u8) w A r.length r := by
  obtain ⟨a, b, c, d⟩ := hr
  refine ⟨rfl, by omega, fun hp => ?_⟩
  obtain ⟨k, o, cells, fz, e1, e2, e3⟩ := d hp
  refine ⟨_, e1, fun j p hj => ⟨[.int .u8 p], rfl, rfl, fun t u hu => ?_⟩⟩
  match t, hu with
  | 0, hu =>
    obtain rfl := Option.some.inj hu
    rw [show (⟨k, o, none⟩ : Addr).add (j * (Kd.int .u8).sz + 0) = ⟨k, o + (j * 1 + 0), none⟩ from add_off k o _, show o + (j * 1 + 0) = o + j by omega, cell_of_row w k (o + j) cells 5 fz e2]
    exact e3 j p hj
  | t + 1, hu => simp at hu
structure Rows5 (w : World) (hs : List Hdr) (m : List (List Int)) : Prop where
  len : hs.length = m.length
  row : ∀ (i : Nat) (h : Hdr) (r : List Int), hs[i]? = some h → m[i]? = some r → Row5 w h r
theorem Rows5.nil (w : World) : Rows5 w [] [] := ⟨rfl, fun i h r hi => by simp at hi⟩
theorem Rows5.move {w w' : World} {hs : List Hdr} {m : List (List Int)} (h : Rows5 w hs m) (hs5 : Same5 w w') : Rows5 w' hs m := ⟨h.len, fun i hd r h1 h2 => (h.row i hd r h1 h2).move hs5⟩
theorem Rows5.snoc {w : World} {hs : List Hdr} {m : List (List Int)} (h : Rows5 w hs m) {hd : Hdr} {r : List Int} (hr : Row5 w hd r) : Rows5 w (hs ++ [hd]) (m ++ [r]) := by
  refine ⟨by rw [List.length_append, List.length_append, h.len]; rfl, fun i hd' r' a b => ?_⟩
  by_cases hi : i < hs.length
  · rw [List.getElem?_append_left hi] at a
    rw [List.getElem?_append_left (by rw [← h.len]; exact hi)] at b
    exact h.row i hd' r' a b
  · rw [List.getElem?_append_right (by omega)] at a
    rw [List.getElem?_append_right (by rw [← h.len]; omega), ← h.len] at b
    have : i - hs.length = 0 := by
      have := (List.getElem?_eq_some_iff.1 a).1
      simp at this; omega
    rw [this] at a b
    simp only [List.getElem?_cons_zero, Option.some.injEq] at a b
    subst a; subst b
    exact hr
theorem Rows5.set {w : World} {hs : List Hdr} {m : List (List Int)} (h : Rows5 w hs m) (i : Nat) {hd : Hdr} {r : List Int} (hr : Row5 w hd r) : Rows5 w (hs.set i hd) (m.set i r) := by
  refine ⟨by rw [List.length_set, List.length_set, h.len], fun j hd' r' a b => ?_⟩
  by_cases e : i = j
  · subst e
    have h1 := (List.getElem?_eq_some_iff.1 a).1
    have h2 := (List.getElem?_eq_some_iff.1 b).1
    rw [List.length_set] at h1 h2
    rw [List.getElem?_set_self h1] at a
    rw [List.getElem?_set_self h2] at b
    obtain rfl := Option.some.inj a; obtain rfl := Option.some.inj b
    exact hr
  · rw [List.getElem?_set_ne e] at a b
    exact h.row j hd' r' a b
theorem Rows5.at_ {w : World} {hs : List Hdr} {m : List (List Int)} (h : Rows5 w hs m) {i : Nat} (hi : i < m.length) : ∃ A c, hs[i]? = some (A, (m.getD i []).length, c) ∧ (m.getD i []).length ≤ c ∧ Kd.C (Kd.int .u8) w A (m.getD i []).length (m.getD i []) := by
  have h1 := List.getElem?_eq_getElem (show i < hs.length by rw [h.len]; exact hi)
  obtain ⟨hd, hhd⟩ : ∃ hd, hs[i]? = some hd := ⟨_, h1⟩
  have h2 := h.row i hd _ hhd (getD_get (d := []) hi)
  clear h1
  obtain ⟨A, n, c⟩ := hd
  have h2c := h2
  obtain ⟨e1, e2, _⟩ := h2
  have e1' : n = (m.getD i []).length := e1
  subst e1'
  exact ⟨A, c, hhd, e2, h2c.toC⟩
/-- a list of rows: what reads -/
theorem Rows5.toC {w : World} {base : Nat} {hs : List Hdr} {m : List (List Int)} {A : Option Addr} {n c : Nat} (h : Rows5 w hs m) (ho : w.ownsRow base 41 1 (.slice A n c) hs.length (encs hdV hs)) : Kd.C (Kd.slice 5 (Kd.int .u8)) w A n m := by
  have hl := h.len
  obtain ⟨hlen, hcase⟩ := ho
  rcases hcase with ⟨hv, hx0⟩ | ⟨g, cap, cur, hv, hg, hh, hnc, hcm, hcs, htake⟩
  · injection hv with _ hn _
    subst hn
    obtain rfl : m = [] := List.eq_nil_of_length_eq_zero (by omega)
    exact ⟨rfl, by decide, fun hp => absurd hp (by decide)⟩
  · injection hv with hA hn hc
    subst hA; subst hn; subst hc
    refine ⟨by omega, by unfold maxLen at hcm; omega, fun hp => ⟨_, rfl, fun j p hj => ?_⟩⟩
    have hjl := (List.getElem?_eq_some_iff.1 hj).1
    obtain ⟨A, c2, e1, e2, e3⟩ := h.at_ hjl
    have ep : p = m.getD j [] := by rw [List.getD_eq_getElem?_getD, hj]; rfl
    refine ⟨[.slice A (m.getD j []).length c2], rfl, ⟨A, c2, by rw [ep], by rw [ep]; exact e2, by rw [ep]; exact e3⟩, fun t u hu => ?_⟩
    match t, hu with
    | 0, hu =>
      obtain rfl := Option.some.inj hu
      rw [show (⟨g, 0, none⟩ : Addr).add (j * (Kd.slice 5 (Kd.int .u8)).sz + 0) = ⟨g, j, none⟩ from (add_off g 0 _).trans (by rw [Nat.zero_add]; exact congrArg (fun z => (⟨g, z, none⟩ : Addr)) (Nat.mul_one j))]
      rw [blk_cell hh, ← Array.getElem?_toList]
      have : (cur.toList.take (hs.length * 1))[j]? = (encs hdV hs)[j]? := by rw [htake]
      rw [List.getElem?_take, if_pos (by omega)] at this
      rw [this]
      unfold encs
      rw [List.getElem?_map, e1]; rfl
    | t + 1, hu => simp at hu
theorem Dt.rows5 {w : World} {base b : Nat} {hs : List Hdr} {m : List (List Int)} (h : Dt w base b hs m) : Rows5 w hs m := by
  refine ⟨h.len, fun i hd r h1 h2 => ?_⟩
  obtain ⟨o, e1, e2, e3⟩ := h.row i r h2
  rw [e1] at h1
  obtain rfl := Option.some.inj h1
  have hm := h.many
  rw [flat_split h2, List.length_append, List.length_append] at hm
  refine ⟨rfl, Nat.le_refl _, by omega, fun hp => ⟨b, o, _, _, rfl, h.data, fun x y hx => ?_⟩⟩
  have hxl := (List.getElem?_eq_some_iff.1 hx).1
  rw [e3 hp, flat_split h2]
  simp only [List.getElem?_toArray, List.getElem?_map]
  rw [List.getElem?_append_right (by omega), show (List.take i m).flatten.length + x - (List.take i m).flatten.length = x by omega, List.getElem?_append_left hxl, hx]
  rfl
theorem row5_conv (w : World) (s : ByteArray) (hs : s.size ≤ 281474976710656) (c : Nat) (hc : s.size ≤ c) : Row5 (Lib.bytesWorld w 5 s) (some ⟨w.heap.size, 0, none⟩, s.size, c) (bytesOf s) := by
  refine ⟨(bytesOf_length s).symm, by rw [bytesOf_length]; exact hc, by rw [bytesOf_length]; exact hs, fun hp => ⟨w.heap.size, 0, _, _, rfl, Lib.bytesWorld_at_new w 5 s, fun x y hx => ?_⟩⟩
  have hxl := (List.getElem?_eq_some_iff.1 hx).1
  rw [bytesOf_length] at hxl
  have h := Lib.bytesWorld_cell w 5 s x hxl
  rw [cell_of_row _ _ _ _ _ _ (Lib.bytesWorld_at_new w 5 s)] at h
  rw [Nat.zero_add, h]
  unfold bytesOf at hx
  rw [List.getElem?_map, List.getElem?_eq_getElem (by rw [data_length]; exact hxl)] at hx
  obtain rfl := Option.some.inj hx
  rw [List.getD_eq_getElem?_getD, List.getElem?_eq_getElem (by rw [data_length]; exact hxl)]; rfl
theorem grown_le (w : World) (n : Nat) : n ≤ grownCap w n 0 5 := grownCap_ge w n 0 5
set_option maxHeartbeats 800000 in
set_option maxRecDepth 100000 in
theorem weight_calls (A0 : Option Addr) (c0 : Nat) (l : List ByteArray) (w : World) (hr0 : Kd.C Kd.string w A0 l.length l) (hl : l.length ≤ 140737488355328) :
    Calls Try.prog 10 #[.slice A0 l.length c0] w fun e w' => (∃ x : Int, e = .returned (.int .i64 x)) ∧ Below w.heap.size w w' := by
  have HR0 := Aside0.mk hr0
  have HL := Aside0.mk hl
  clear hr0 hl
  go_enter Try.func10, Try.ntmps10
  go_wp2
  go_loopw [3, 4] (fun v3 v4 wr => ∃ (i : Nat) (x : Int), i ≤ l.length ∧ v3 = .int .i64 x ∧ v4 = .int .i64 (i : Int) ∧ Aside0 (Below w.heap.size w wr)) (fun _ v4 _ => l.length - (intOf v4).toNat)
  case atStart => exact ⟨0, 0, Nat.zero_le _, rfl, rfl, ⟨by repeat (first | (with_reducible first | exact Below.refl _ _ | apply below_alloc | apply pw_below_drewN | apply below_drew1))⟩⟩
  case round =>
    obtain ⟨i, x, hi, rfl, rfl, HB⟩ := hrel
    by_cases hlt : i < l.length
    · have hd1 : decide ((i : Int) < (l.length : Int)) = true := decide_eq_true (by omega)
      have hd1' : decide (i < l.length) = true := decide_eq_true hlt
      by_cases hx : x ≤ 2147483647
      · have hd2 : decide (x ≤ 2147483647) = true := decide_eq_true hx
        obtain ⟨ad, rfl, hc⟩ := Kd.at_string HR0.out (i : Int) (by omega) (by omega)
        rw [Int.toNat_natCast] at hc
        replace hc := (HB.out.cell (World.block_lt_of_cell? w _ hc)).trans hc
        have HW1 := Aside0.mk (wr1 (i := i) hlt (by have := HL.out; omega))
        have HLT := Aside0.mk hlt
        have hli : (i : Int) < (l.length : Int) := by omega
        clear hlt hi hx
        go_wp2
        go_roundw
        case rel => exact ⟨i + 1, _, HLT.out, rfl, by rw [HW1.out], HB⟩
        case measure => exact meas HW1.out HLT.out
      · have hd2 : decide (x ≤ 2147483647) = false := decide_eq_false hx
        clear hlt hi hx
        go_wp2
        go_ret
        exact ⟨⟨x, rfl⟩, HB.out⟩
    · have hd1 : decide ((i : Int) < (l.length : Int)) = false := decide_eq_false (by omega)
      have hd1' : decide (i < l.length) = false := decide_eq_false hlt
      clear hlt hi
      go_wp2
      go_ret
      exact ⟨⟨x, rfl⟩, HB.out⟩
/-- a row out of a text -/
def rowB (s : ByteArray) : List Int := bytesOf (s.extract 0 (min s.size 16777216))
def rowsB (l : List ByteArray) : List (List Int) := (l.take 200).map rowB
theorem rowB_small (s : ByteArray) : (rowB s).length ≤ 16777216 := by
  unfold rowB; rw [bytesOf_length, ByteArray.size_extract]; omega
theorem rowB_in (s : ByteArray) : ∀ y ∈ rowB s, In8 y := by
  intro y hy
  unfold rowB bytesOf at hy
  obtain ⟨b, _, rfl⟩ := List.mem_map.1 hy
  exact In8.of b.toNat_lt
structure RoA (w0 w : World) (v : Value) (hs : List Hdr) (m : List (List Int)) : Prop where
  below : Below w0.heap.size w0 w
  own : w.ownsRow w0.heap.size 41 1 v hs.length (encs hdV hs)
  rows : Rows5 w hs m
theorem ne5 {w : World} {base n k : Nat} {v : Value} {xs : List Value} {t : Nat} {cells : Array Value} {fz : Nat × Nat} (ht : t ≠ 5) (h : w.ownsRow base t 1 v n xs) (hc : w.heap[k]? = some (.cells cells 5 fz)) : some k ≠ v.ownBlock := by
  intro e
  obtain ⟨c2, h2⟩ := own_typed h k e.symm
  rw [hc] at h2
  injection h2 with h2
  injection h2 with _ h2
  exact ht h2.symm
attribute [local go_sem] max2_int min2_int max_two min_two max_three min_three max_four min_four
theorem own_below5 {W W' : World} {B e size n : Nat} {v : Value} {xs : List Value} (h : W.ownsRow B e size v n xs) (hb : Below W.heap.size W W') : W'.ownsRow B e size v n xs :=
  h.kept (row := none) ⟨hb.os, hb.tape, hb.output, hb.size, fun k hk _ => hb.block k hk⟩ (Classical.em _)
theorem cell_below5 {w w' : World} {a : Addr} {v : Value} (hb : Below w.heap.size w w') (hc : w.cell? a = some v) : w'.cell? a = some v :=
  (hb.cell (World.block_lt_of_cell? w _ hc)).trans hc
theorem RoA.step {w0 wr w1 : World} {vv : Value} {hs : List Hdr} {m : List (List Int)} {s : ByteArray} {mn g cap : Nat} {o : Obj} (h : RoA w0 wr vv hs m) (hb : Below wr.heap.size wr (Lib.bytesWorld wr.drew 5 (s.extract 0 mn))) (hsz : (s.extract 0 mn).size = mn) (hmn : mn = min s.size 16777216)
    (hown : w1.ownsRow w0.heap.size 41 1 (.slice (some ⟨g, 0, none⟩) (hs.length + 1) cap) (hs.length + 1) (encs hdV hs ++ [hdV (some ⟨wr.heap.size, 0, none⟩, mn, grownCap wr.drew mn 0 5)])) (hg : ((Lib.bytesWorld wr.drew 5 (s.extract 0 mn)).alloc o).grownBy w1 vv.ownBlock) :
    RoA w0 w1 (.slice (some ⟨g, 0, none⟩) (hs.length + 1) cap) (hs ++ [(some ⟨wr.heap.size, 0, none⟩, mn, grownCap wr.drew mn 0 5)]) (m ++ [rowB s]) := by
  have hb2 := below_alloc hb o
  have hs2 : Same5 ((Lib.bytesWorld wr.drew 5 (s.extract 0 mn)).alloc o) w1 := Same5.of_grown hg (fun k cells fz hk => ne5 (by decide) (own_below5 h.own hb2) hk)
  refine ⟨pw_below_grown (below_then h.below h.below.size hb2) _ (Nat.le_trans h.below.size hb2.size) hg (own_base h.own), ?_, (h.rows.move ((Same5.of_below hb2).trans hs2)).snoc ?_⟩
  · rw [List.length_append]
    unfold encs at hown ⊢
    rw [List.map_append]; exact hown
  · have h5 := row5_conv wr.drew (s.extract 0 mn) (by rw [hsz, hmn]; omega) (grownCap wr.drew mn 0 5) (by rw [hsz]; exact grown_le _ _)
    rw [hsz] at h5
    have h6 : bytesOf (s.extract 0 mn) = rowB s := by rw [hmn]; rfl
    rw [h6] at h5
    have hb3 : Below (Lib.bytesWorld wr.drew 5 (s.extract 0 mn)).heap.size (Lib.bytesWorld wr.drew 5 (s.extract 0 mn)) ((Lib.bytesWorld wr.drew 5 (s.extract 0 mn)).alloc o) := below_alloc (Below.refl _ _) o
    exact h5.move ((Same5.of_below hb3).trans hs2)
theorem min_letter (n : Nat) : ∃ mn : Nat, (if (16777216 : Int) < (n : Int) then (16777216 : Int) else (n : Int)) = (mn : Int) ∧ (0 : Int) ≤ (mn : Int) ∧ (mn : Int) ≤ (n : Int) ∧ mn = min n 16777216 := by
  by_cases h : (16777216 : Int) < (n : Int)
  · exact ⟨16777216, by rw [if_pos h]; rfl, by omega, by omega, by omega⟩
  · exact ⟨n, by rw [if_neg h], by omega, by omega, by omega⟩
set_option maxHeartbeats 800000 in
set_option maxRecDepth 100000 in
theorem rowsOf_calls (A0 : Option Addr) (c0 : Nat) (l : List ByteArray) (w : World) (hr0 : Kd.C Kd.string w A0 l.length l) (hl : l.length ≤ 140737488355328) :
    Calls Try.prog 13 #[.slice A0 l.length c0] w fun e w' => ∃ v hs, e = .returned v ∧ RoA w w' v hs (rowsB l) := by
  have HR0 := Aside0.mk hr0
  have HL := Aside0.mk hl
  clear hr0 hl
  go_enter Try.func13, Try.ntmps13
  go_wp2
  go_loopw [3, 4] (fun v3 v4 wr => ∃ (i : Nat) (hs : List Hdr) (vv : Value), i ≤ l.length ∧ i ≤ 200 ∧ vv = v3 ∧ v4 = .int .i64 (i : Int) ∧ Aside0 (RoA w wr vv hs ((l.take i).map rowB))) (fun _ v4 _ => l.length - (intOf v4).toNat)
  case atStart => exact ⟨0, [], _, Nat.zero_le _, Nat.zero_le _, rfl, rfl, ⟨⟨by repeat (first | (with_reducible first | exact Below.refl _ _ | apply below_alloc | apply pw_below_drewN | apply below_drew1)), ⟨rfl, .inl ⟨rfl, rfl⟩⟩, Rows5.nil _⟩⟩⟩
  case round =>
    obtain ⟨i, hs, vv, hi, hi2, rfl, rfl, HRA⟩ := hrel
    by_cases hlt : i < l.length
    · have hd1 : decide ((i : Int) < (l.length : Int)) = true := decide_eq_true (by omega)
      have hd1' : decide (i < l.length) = true := decide_eq_true hlt
      by_cases hx : i < 200
      · have hd2 : decide ((i : Int) < 200) = true := decide_eq_true (by omega)
        have hd2' : decide (i < 200) = true := decide_eq_true hx
        obtain ⟨ad, rfl, hc⟩ := Kd.at_string HR0.out (i : Int) (by omega) (by omega)
        rw [Int.toNat_natCast] at hc
        have hc0 := hc
        replace hc := (HRA.out.below.cell (World.block_lt_of_cell? w _ hc)).trans hc
        have hrd : rdOf ByteArray.empty l (i : Int) = l[i] := by unfold rdOf; rw [Int.toNat_natCast, List.getD_eq_getElem?_getD, List.getElem?_eq_getElem hlt]; rfl
        rw [hrd] at hc hc0
        have HTK := Aside0.mk (take_one l hlt)
        generalize l[i] = s at hc hc0 HTK
        have HW1 := Aside0.mk (wr1 (i := i) hlt (by have := HL.out; omega))
        have HLT := Aside0.mk hlt
        have HX := Aside0.mk hx
        have hli : (i : Int) < (l.length : Int) := by omega
        clear hlt hi hi2 hx hrd
        obtain ⟨i0, hi0, hz0, hz1, hz2⟩ := info_parts info41'
        obtain ⟨mn, hmn, hmn0, hmn1, hmn2⟩ := min_letter s.size
        have HMN := Aside0.mk hmn2
        have hmn3 : mn ≤ s.size := by omega
        have hex : (s.extract 0 mn).size = mn := by rw [ByteArray.size_extract]; omega
        clear hmn2
        have kb := fun (x : ByteArray) (W : World) => print_bytes (P := Try.prog) 9 41 5 Try.underlying9 Try.underlying41 Try.underlying5 x W
        go_wp2_with (fail)
        have HC := Aside0.mk hc
        have HNE : Aside0 (some (ad.add i).block ≠ vv.ownBlock) := ⟨fun e => by
          have h1 := own_base HRA.out.own _ e.symm
          have h2 := World.block_lt_of_cell? w _ hc0
          omega⟩
        have HLN : Aside0 (hs.length ≤ 200) := ⟨by have := HRA.out.rows.len; have := HX.out; rw [List.length_map, List.length_take] at *; omega⟩
        --REGION
        have HBW : Aside0 (Below wr.heap.size wr (Lib.bytesWorld wr.drew 5 (s.extract 0 mn))) := ⟨bytes_below (below_drew1 (Below.refl _ _)) (Nat.le_refl wr.heap.size) 5 _⟩
        refine start_ (n := 16) (S := fun w' => w'.cell? (ad.add i) = some (.string s)) (ds := []) #[false, false, false, false, false, false, false, false, false, false, false, false, false, false, false, false] (by kernel_rfl) rfl rfl hc (fun hHeld => ?_)
        refine pure_ (i := 0) (N := some 15) (v := ?_) (a' := ?_) #[true, false, false, false, false, false, false, false, false, false, false, false, false, false, false, false] rfl rfl (by kernel_rfl) (fun _ _ _ h => h) (Or.inl ⟨by rfl, ?_⟩) ?_ ?_
        rotate_left
        · intro w'
          go_simp
          with_reducible rfl
        rotate_left
        · simp only [Act.put, List.setIfInBounds_toArray, List.set_cons_zero, List.set_cons_succ, i64_w, i32_w]
          rfl
        refine pure_ (i := 1) (N := some 16) (v := ?_) (a' := ?_) #[true, true, false, false, false, false, false, false, false, false, false, false, false, false, false, false] rfl rfl (by kernel_rfl) (fun _ _ _ h => h) (Or.inl ⟨by rfl, ?_⟩) ?_ ?_
        rotate_left
        · intro w'
          go_simp
          with_reducible rfl
        rotate_left
        · simp only [Act.put, List.setIfInBounds_toArray, List.set_cons_zero, List.set_cons_succ, i64_w, i32_w]
          rfl
        refine pure_ (i := 2) (N := some 17) (v := ?_) (a' := ?_) #[true, true, true, false, false, false, false, false, false, false, false, false, false, false, false, false] rfl rfl (by kernel_rfl) (fun _ _ _ h => h) (Or.inl ⟨by rfl, ?_⟩) ?_ ?_
        rotate_left
        · intro w'
          go_simp
          with_reducible rfl
        rotate_left
        · simp only [Act.put, List.setIfInBounds_toArray, List.set_cons_zero, List.set_cons_succ, i64_w, i32_w]
          rfl
        refine pure_ (i := 3) (N := some 18) (v := ?_) (a' := ?_) #[true, true, true, true, false, false, false, false, false, false, false, false, false, false, false, false] rfl rfl (by kernel_rfl) (fun _ _ _ h => h) (Or.inl ⟨by rfl, ?_⟩) ?_ ?_
        rotate_left
        · intro w'
          go_simp
          with_reducible rfl
        rotate_left
        · simp only [Act.put, List.setIfInBounds_toArray, List.set_cons_zero, List.set_cons_succ, i64_w, i32_w]
          rfl
        refine take_ (i := 4) (N := some 19) (v := ?_) (a' := ?_) #[true, true, true, true, true, false, false, false, false, false, false, false, false, false, false, false] rfl rfl (by kernel_rfl) (fun _ _ _ h => h) (Or.inl ⟨by rfl, ?_⟩) hHeld ?_ ?_
        rotate_left
        · intro w' hS
          go_simp
          with_reducible rfl
        rotate_left
        · simp only [Act.put, List.setIfInBounds_toArray, List.set_cons_zero, List.set_cons_succ, i64_w, i32_w]
          rfl
        refine pure_ (i := 5) (N := some 20) (v := ?_) (a' := ?_) #[true, true, true, true, true, true, false, false, false, false, false, false, false, false, false, false] rfl rfl (by kernel_rfl) (fun _ _ _ h => h) (Or.inl ⟨by rfl, ?_⟩) ?_ ?_
        rotate_left
        · intro w'
          go_simp
          with_reducible rfl
        rotate_left
        · simp only [Act.put, List.setIfInBounds_toArray, List.set_cons_zero, List.set_cons_succ, i64_w, i32_w]
          rfl
        refine pure_ (i := 6) (N := some 21) (v := ?_) (a' := ?_) #[true, true, true, true, true, true, true, false, false, false, false, false, false, false, false, false] rfl rfl (by kernel_rfl) (fun _ _ _ h => h) (Or.inl ⟨by rfl, ?_⟩) ?_ ?_
        rotate_left
        · intro w'
          go_simp
          with_reducible rfl
        rotate_left
        · simp only [Act.put, List.setIfInBounds_toArray, List.set_cons_zero, List.set_cons_succ, i64_w, i32_w]
          rfl
        refine pure_ (i := 7) (N := some 22) (v := ?_) (a' := ?_) #[true, true, true, true, true, true, true, true, false, false, false, false, false, false, false, false] rfl rfl (by kernel_rfl) (fun _ _ _ h => h) (Or.inl ⟨by rfl, ?_⟩) ?_ ?_
        rotate_left
        · intro w'
          go_simp
          with_reducible rfl
        rotate_left
        · simp only [Act.put, List.setIfInBounds_toArray, List.set_cons_zero, List.set_cons_succ, i64_w, i32_w]
          rfl
        refine take_ (i := 8) (N := some 23) (v := ?_) (a' := ?_) #[true, true, true, true, true, true, true, true, true, false, false, false, false, false, false, false] rfl rfl (by kernel_rfl) (fun _ _ _ h => h) (Or.inl ⟨by rfl, ?_⟩) hHeld ?_ ?_
        rotate_left
        · intro w' hS
          go_simp
          with_reducible rfl
        rotate_left
        · simp only [Act.put, List.setIfInBounds_toArray, List.set_cons_zero, List.set_cons_succ, i64_w, i32_w]
          rfl
        refine pure_ (i := 9) (N := some 24) (v := ?_) (a' := ?_) #[true, true, true, true, true, true, true, true, true, true, false, false, false, false, false, false] rfl rfl (by kernel_rfl) (fun _ _ _ h => h) (Or.inl ⟨by rfl, ?_⟩) ?_ ?_
        rotate_left
        · intro w'
          go_simp
          with_reducible rfl
        rotate_left
        · simp only [Act.put, List.setIfInBounds_toArray, List.set_cons_zero, List.set_cons_succ, i64_w, i32_w]
          rfl
        refine pure_ (i := 10) (N := some 25) (v := ?_) (a' := ?_) #[true, true, true, true, true, true, true, true, true, true, true, false, false, false, false, false] rfl rfl (by kernel_rfl) (fun _ _ _ h => h) (Or.inl ⟨by rfl, ?_⟩) ?_ ?_
        rotate_left
        · intro w'
          go_simp
          with_reducible rfl
        rotate_left
        · simp only [Act.put, List.setIfInBounds_toArray, List.set_cons_zero, List.set_cons_succ, i64_w, i32_w]
          rfl
        refine pure_ (i := 11) (N := some 26) (v := ?_) (a' := ?_) #[true, true, true, true, true, true, true, true, true, true, true, true, false, false, false, false] rfl rfl (by kernel_rfl) (fun _ _ _ h => h) (Or.inl ⟨by rfl, ?_⟩) ?_ ?_
        rotate_left
        · intro w'
          go_simp
          with_reducible rfl
        rotate_left
        · simp only [Act.put, List.setIfInBounds_toArray, List.set_cons_zero, List.set_cons_succ, i64_w, i32_w]
          rfl
        refine one_ (i := 12) (N := some 27) #[true, true, true, true, true, true, true, true, true, true, true, true, true, false, false, false] rfl rfl (by kernel_rfl) (by decide) (fun K hK => ?_)
        go_simp
        refine hK.out _ _ (cell_below5 (w := wr) HBW.out HC.out) (fun hHeld => ?_)
        clear hK K
        refine one_ (i := 13) (N := some 28) #[true, true, true, true, true, true, true, true, true, true, true, true, true, true, false, false] rfl rfl (by kernel_rfl) (by decide) (fun K hK => ?_)
        go_simp
        refine hK.out _ _ (cell_below5 (w := wr) (below_alloc HBW.out _) HC.out) (fun hHeld => ?_)
        clear hK K
        refine one_ (i := 14) (N := some 29) #[true, true, true, true, true, true, true, true, true, true, true, true, true, true, true, false] rfl rfl (by kernel_rfl) (by decide) (fun K hK => ?_)
        refine step_append_lies _ (by rfl) (.tmp 15) (.tmp 28) 35 rfl w.heap.size 41 i0 _ 1 24 Try.underlying35 hi0 hz0 hz1 hz2 rfl (by omega) vv hs.length (encs hdV hs) rfl (own_below5 HRA.out.own (below_alloc HBW.out _)) ⟨_, 0, none⟩ 1 1 [hdV (some ⟨wr.heap.size, 0, none⟩, mn, grownCap wr.drew mn 0 5)] rfl rfl (World.news_of_block (cs := #[hdV (some ⟨wr.heap.size, 0, none⟩, mn, grownCap wr.drew mn 0 5)]) (t := 41) (fr := (0, 0)) (heap_alloc_new _ _)) ?_ (by omega) ?_ ?_ ?_ _ rfl ?_
        · exact fun u hu => by rw [List.mem_singleton] at hu; subst hu; rfl
        · have := HLN.out; unfold maxLen; omega
        · have := HLN.out; omega
        · exact Nat.le_trans HRA.out.below.size (below_alloc HBW.out _).size
        intro gg cap w1 hown1 hgrow hat hlt
        refine hK.out _ _ ((hgrow.cell_far _ (Nat.lt_of_lt_of_le (World.block_lt_of_cell? _ _ HC.out) (below_alloc HBW.out _).size) HNE.out).trans (cell_below5 (w := wr) (below_alloc HBW.out _) HC.out)) (fun hHeld => ?_)
        clear hK K
        refine norm_ (a' := ?_) ?_ ?_
        rotate_left
        · show Act.put _ (some 29) _ = _
          simp only [Act.put, List.setIfInBounds_toArray, List.set_cons_zero, List.set_cons_succ, i64_w, i32_w]
          rfl
        refine pure_ (i := 15) (N := some 3) (v := ?_) (a' := ?_) #[true, true, true, true, true, true, true, true, true, true, true, true, true, true, true, true] rfl rfl (by kernel_rfl) (fun _ _ _ h => h) (Or.inl ⟨by rfl, ?_⟩) ?_ ?_
        rotate_left
        · intro w'
          go_simp
          with_reducible rfl
        rotate_left
        · simp only [Act.put, List.setIfInBounds_toArray, List.set_cons_zero, List.set_cons_succ, i64_w, i32_w]
          rfl
        refine done_ (by kernel_rfl) ?_
        have HR1 := Aside0.mk (HRA.out.step HBW.out hex HMN.out hown1 hgrow)
        clear hown1 hgrow hHeld hc hc0 hat HNE HC kb
        go_wp2
        go_roundw
        case rel => exact ⟨i + 1, _, _, HLT.out, HX.out, rfl, by rw [HW1.out], ⟨by rw [HTK.out, List.map_append]; exact HR1.out⟩⟩
        case measure => exact meas HW1.out HLT.out
        --END
      · have hd2 : decide ((i : Int) < 200) = false := decide_eq_false (by omega)
        have hd2' : decide (i < 200) = false := decide_eq_false hx
        have hE : (l.take i).map rowB = rowsB l := by unfold rowsB; rw [show i = 200 by omega, List.map_take]
        rw [hE] at HRA
        clear hlt hi hi2 hx hE
        go_wp2
        go_ret
        exact ⟨_, _, rfl, HRA.out⟩
    · have hd1 : decide ((i : Int) < (l.length : Int)) = false := decide_eq_false (by omega)
      have hd1' : decide (i < l.length) = false := decide_eq_false hlt
      have hE : (l.take i).map rowB = rowsB l := by unfold rowsB; rw [List.take_of_length_le (show l.length ≤ i by omega), List.take_of_length_le (show l.length ≤ 200 by omega)]
      rw [hE] at HRA
      clear hlt hi hi2 hE
      go_wp2
      go_ret
      exact ⟨_, _, rfl, HRA.out⟩
end Go.Proofs.Ytdhajlkiiphlfaa.Par
