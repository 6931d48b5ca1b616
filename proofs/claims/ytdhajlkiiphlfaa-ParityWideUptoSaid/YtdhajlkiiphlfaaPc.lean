/- What parity.Restore comes to, step by step. No conditions beyond the theorems' own. -/
import Derived.Test.YtdhajlkiiphlfaaPb
import Derived.Test.YtdhajlkiiphlfaaSolveF
/-! what parity.Restore needs: copies into rows of one block, lists of rows that grow -/
namespace Go.Proofs.Ytdhajlkiiphlfaa.Par
open Go.RowKit Go.Proofs.Ytdhajlkiiphlfaa.QBaseParityWide Go.Proofs.YtdhajlkiiphlfaaW.PrintWords Go.Proofs.YtdhajlkiiphlfaaW.PrintLast Go.Proofs.YtdhajlkiiphlfaaW.PrintMore Go.Proofs.Ytdhajlkiiphlfaa.Solve
set_option linter.unusedVariables false
set_option linter.unusedSimpArgs false
theorem kept_setRow (w : World) (g : Nat) (cs : Array Value) : Kept w (w.setRow g cs) (fun k => k = g) := ⟨by simp [World.setRow], fun i _ hn => setRow_other w g i cs (by exact hn)⟩
/-- a copy into a row of a block of rows, from a row that is not shorter -/
theorem wpList_copy_Cu {w : World} {ops : Array Oper} {rest : List Oper} {o : Oper} {a : Act} {Q : Exit → Act → World → Prop} (hgd : o.guard = none) (d s : Operand) (ho : o.op = .call { callee := .builtin .copy, args := #[d, s], argTypes := #[41, 41] })
    {base g b i off dc : Nat} {m : List (List Int)} {r ys : List Int} {A : Option Addr} {sc : Nat} (hC : Cu w base g b m) (hi : m[i]? = some r) (hoff : 0 < r.length → off = ((m.take i).flatten).length)
    (hd : a.eval d = .slice (some ⟨b, off, none⟩) r.length dc) (hs : a.eval s = .slice A ys.length sc) (hY : Kd.C (Kd.int .u8) w A ys.length ys) (hl : r.length ≤ ys.length) (B : Nat) (w0 : World) (hb : Below B w0 w) (hB : B ≤ base)
    (h : ∀ w', Cu w' base g b (m.set i (ys.take r.length)) → Below B w0 w' → Kept w w' (fun k => k = b) → wpList Try.prog ops Q rest (a.put o.dst (goInt (r.length : Int))) w') : wpList Try.prog ops Q (o :: rest) a w := by
  by_cases h0 : r.length = 0
  · refine wpList_copy_nothing hgd d s 41 41 ho 5 Try.underlying41 size5 _ _ _ _ _ _ hd hs (by rw [h0]; exact Nat.min_zero _) ?_
    have := h w (by rw [h0, List.take_zero, ← List.eq_nil_of_length_eq_zero h0, set_same hi]; exact hC) hb (Kept.refl _ _)
    rw [h0] at this
    exact this
  · have hp : 0 < r.length := by omega
    obtain ⟨ad, rfl, hcell⟩ := hY.2.2 (by omega)
    have hlen : ((ys.take r.length).map (Value.int .u8)).length = r.length := by rw [List.length_map, List.length_take]; omega
    have hsp := flat_split hi
    have hfl := flat_set (r' := ys.take r.length) hi
    refine wpList_copy_own hgd d s 41 41 ho 5 Try.underlying41 size5 b off r.length dc ad ys.length sc hd hs _ 5 hC.data ((ys.take r.length).map (Value.int .u8)) (by rw [hlen]; exact (Nat.min_eq_right hl).symm) (fun j v hj => ?_) (by rw [hlen, hoff hp, List.size_toArray, List.length_map, hsp, List.length_append, List.length_append]; omega) (by
      intro u hu; obtain ⟨z, _, rfl⟩ := List.mem_map.1 hu; rfl) ?_
    · rw [List.getElem?_map, List.getElem?_take] at hj
      split at hj
      · obtain ⟨z, hz, rfl⟩ := Option.map_eq_some_iff.1 hj
        obtain ⟨cc, _, hcc, hcl⟩ := hcell j z hz
        have hcc' : cc = [Value.int .u8 z] := hcc
        subst hcc'
        have := hcl 0 (.int .u8 z) rfl
        rw [show j * (Kd.int .u8).sz + 0 = j from Nat.mul_one j] at this
        exact this
      · cases hj
    · rw [hlen]
      refine h _ (hC.put (kept_setRow _ _ _) hi (by rw [List.length_take]; omega) ?_) (below_setRow hb (Nat.le_trans hB hC.hb) _) (kept_setRow _ _ _)
      rw [setRow_heap w b _ _ 5 _ hC.data]
      unfold bytesV
      rw [hfl, hoff hp, hsp]
      simp only [List.map_append, List.toList_toArray]
      have e1 : (List.map (Value.int .u8) (m.take i).flatten).length = (m.take i).flatten.length := List.length_map _
      rw [List.take_append_of_le_length (by rw [e1]; exact Nat.le_refl _), List.take_of_length_le (by rw [e1]; exact Nat.le_refl _)]
      rw [List.drop_append, List.drop_of_length_le (by rw [e1]; omega), List.nil_append, e1, Nat.add_sub_cancel_left]
      rw [List.drop_append_of_le_length (by rw [List.length_map]; exact Nat.le_refl _), List.drop_of_length_le (by rw [List.length_map]; exact Nat.le_refl _), List.nil_append]
theorem R_of_own {k : IntKind} {e base : Nat} {w : World} {v : Value} {xs : List Int} (h : w.ownsRow base e 1 v xs.length (nums k xs)) : Kd.R (Kd.int k) e w base (fun _ => True) v xs := ⟨fun _ _ => trivial, nums k xs, h, CopyR.reps_nums xs⟩
theorem own_of_R {k : IntKind} {e base : Nat} {w : World} {ok : Nat → Prop} {v : Value} {xs : List Int} (h : Kd.R (Kd.int k) e w base ok v xs) : w.ownsRow base e 1 v xs.length (nums k xs) := by
  obtain ⟨_, inner, ho, hr⟩ := h
  rw [CopyR.nums_of hr] at ho
  exact ho
/-- the headers of rows -/
abbrev Hdr := Option Addr × Nat × Nat
def hdV (h : Hdr) : Value := .slice h.1 h.2.1 h.2.2
structure RdH (w : World) (base : Nat) (hs : List Hdr) (m : List (List Int)) : Prop where
  len : hs.length = m.length
  row : ∀ (i : Nat) (h : Hdr) (r : List Int), hs[i]? = some h → m[i]? = some r → h.2.1 = r.length ∧ r.length ≤ h.2.2 ∧ r.length ≤ 281474976710656 ∧ (0 < r.length → ∃ k cells, h.1 = some ⟨k, 0, none⟩ ∧ base ≤ k ∧ w.heap[k]? = some (.cells cells 5 (0, 0)) ∧ cells.toList.take r.length = r.map (Value.int .u8))
theorem RdH.nil (w : World) (base : Nat) : RdH w base [] [] := ⟨rfl, fun i h r hi => by simp at hi⟩
theorem RdH.move {w w' : World} {base : Nat} {hs : List Hdr} {m : List (List Int)} (h : RdH w base hs m) (hm : ∀ k cells, base ≤ k → w.heap[k]? = some (.cells cells 5 (0, 0)) → w'.heap[k]? = some (.cells cells 5 (0, 0))) : RdH w' base hs m :=
  ⟨h.len, fun i hd r h1 h2 => by
    obtain ⟨a, b, b2, c⟩ := h.row i hd r h1 h2
    refine ⟨a, b, b2, fun hp => ?_⟩
    obtain ⟨k, cells, e1, e2, e3, e4⟩ := c hp
    exact ⟨k, cells, e1, e2, hm k cells e2 e3, e4⟩⟩
theorem RdH.snoc {w : World} {base : Nat} {hs : List Hdr} {m : List (List Int)} (h : RdH w base hs m) {hd : Hdr} {r : List Int} (h1 : hd.2.1 = r.length ∧ r.length ≤ hd.2.2 ∧ r.length ≤ 281474976710656 ∧ (0 < r.length → ∃ k cells, hd.1 = some ⟨k, 0, none⟩ ∧ base ≤ k ∧ w.heap[k]? = some (.cells cells 5 (0, 0)) ∧ cells.toList.take r.length = r.map (Value.int .u8))) : RdH w base (hs ++ [hd]) (m ++ [r]) := by
  refine ⟨by rw [List.length_append, List.length_append, h.len]; rfl, fun i hd' r' a b => ?_⟩
  by_cases hi : i < hs.length
  · rw [List.getElem?_append_left hi] at a
    rw [List.getElem?_append_left (by rw [← h.len]; exact hi)] at b
    exact h.row i hd' r' a b
  · rw [List.getElem?_append_right (by omega)] at a
    rw [List.getElem?_append_right (by rw [← h.len]; omega), ← h.len] at b
    have : i - hs.length = 0 := by
      have := (List.getElem?_eq_some_iff.1 a).1
      simp at this; omega
    rw [this] at a b
    simp only [List.getElem?_cons_zero, Option.some.injEq] at a b
    subst a; subst b
    exact h1
theorem ownC {w : World} {k o : Nat} {r : List Int} {A : Option Addr} (hb : r.length ≤ 281474976710656) (h : 0 < r.length → ∃ k cells, A = some ⟨k, 0, none⟩ ∧ w.heap[k]? = some (.cells cells 5 (0, 0)) ∧ cells.toList.take r.length = r.map (Value.int .u8)) : Kd.C (Kd.int .u8) w A r.length r := by
  refine ⟨rfl, by omega, fun hp => ?_⟩
  obtain ⟨k, cells, rfl, hh, ht⟩ := h hp
  refine ⟨_, rfl, fun j p hj => ⟨[.int .u8 p], rfl, rfl, fun t u hu => ?_⟩⟩
  have hjl := (List.getElem?_eq_some_iff.1 hj).1
  match t, hu with
  | 0, hu =>
    obtain rfl := Option.some.inj hu
    rw [show (⟨k, 0, none⟩ : Addr).add (j * (Kd.int .u8).sz + 0) = ⟨k, j, none⟩ from (add_off k 0 _).trans (by rw [Nat.zero_add]; exact congrArg (fun z => (⟨k, z, none⟩ : Addr)) (Nat.mul_one j))]
    rw [blk_cell hh, ← Array.getElem?_toList]
    have : (cells.toList.take r.length)[j]? = (r.map (Value.int .u8))[j]? := by rw [ht]
    rw [List.getElem?_take, if_pos hjl, List.getElem?_map, hj] at this
    exact this
  | t + 1, hu => simp at hu
/-- rows in a list of one's own: what reads -/
theorem RdH.toC {w : World} {base base' : Nat} {hs : List Hdr} {m : List (List Int)} {v : Value} (h : RdH w base hs m) (ho : w.ownsRow base' 41 1 v hs.length (encs hdV hs)) : ∃ A c, v = .slice A m.length c ∧ m.length ≤ c ∧ Kd.C (Kd.slice 5 (Kd.int .u8)) w A m.length m := by
  have hl := h.len
  obtain ⟨hlen, hcase⟩ := ho
  rcases hcase with ⟨rfl, hx0⟩ | ⟨g, cap, cur, rfl, hg, hh, hnc, hcm, hcs, htake⟩
  · obtain rfl : m = [] := List.eq_nil_of_length_eq_zero (by omega)
    exact ⟨none, 0, rfl, Nat.le_refl _, rfl, by decide, fun hp => absurd hp (by decide)⟩
  · refine ⟨_, cap, by rw [hl], by omega, rfl, by unfold maxLen at hcm; omega, fun hp => ⟨_, rfl, fun j p hj => ?_⟩⟩
    have hjl := (List.getElem?_eq_some_iff.1 hj).1
    have hg2 := List.getElem?_eq_getElem (show j < hs.length by omega)
    obtain ⟨e1, e2, e3, e4⟩ := h.row j _ p hg2 hj
    generalize hs[j] = hd at hg2 e1 e2 e4
    refine ⟨[hdV hd], rfl, ⟨hd.1, hd.2.2, by unfold hdV; rw [e1], e2, ownC (k := 0) (o := 0) e3 (fun hp => by obtain ⟨k, cells, a, _, b, c⟩ := e4 hp; exact ⟨k, cells, a, b, c⟩)⟩, fun t u hu => ?_⟩
    match t, hu with
    | 0, hu =>
      obtain rfl := Option.some.inj hu
      rw [show (⟨g, 0, none⟩ : Addr).add (j * (Kd.slice 5 (Kd.int .u8)).sz + 0) = ⟨g, j, none⟩ from (add_off g 0 _).trans (by rw [Nat.zero_add]; exact congrArg (fun z => (⟨g, z, none⟩ : Addr)) (Nat.mul_one j))]
      rw [blk_cell hh, ← Array.getElem?_toList]
      have : (cur.toList.take (hs.length * 1))[j]? = (encs hdV hs)[j]? := by rw [htake]
      rw [List.getElem?_take, if_pos (by omega)] at this
      rw [this]
      unfold encs
      rw [List.getElem?_map, hg2]; rfl
    | t + 1, hu => simp at hu
end Go.Proofs.Ytdhajlkiiphlfaa.Par
/-! what parity.Restore comes to, step by step -/
namespace Go.Proofs.Ytdhajlkiiphlfaa.Par
open Go.RowKit Go.Proofs.Ytdhajlkiiphlfaa.QBaseParityWide Go.Proofs.YtdhajlkiiphlfaaW.PrintWords Go.Proofs.YtdhajlkiiphlfaaW.PrintLast Go.Proofs.YtdhajlkiiphlfaaW.PrintMore Go.Proofs.Ytdhajlkiiphlfaa.Solve
set_option linter.unusedVariables false
set_option linter.unusedSimpArgs false
/-- the places of rows that are gone, below i -/
def woL (g : List Bool) (i : Nat) : List Nat := (List.range i).filter (fun t => g.getD t false)
theorem woL_succ (g : List Bool) (i : Nat) : woL g (i + 1) = if g.getD i false = true then woL g i ++ [i] else woL g i := by
  unfold woL
  rw [List.range_succ, List.filter_append]
  cases h : g.getD i false <;> simp [List.filter_cons, -List.getD_eq_getElem?_getD, h]
theorem woL_length_le (g : List Bool) (i : Nat) : (woL g i).length ≤ i := by
  unfold woL; have := List.length_filter_le (fun t => g.getD t false) (List.range i); rwa [List.length_range] at this
theorem woL_mono (g : List Bool) {i j : Nat} (h : i ≤ j) : (woL g i).length ≤ (woL g j).length := by
  obtain ⟨d, rfl⟩ := Nat.exists_eq_add_of_le h
  induction d with
  | zero => exact Nat.le_refl _
  | succ d ih =>
    have := ih (by omega)
    rw [← Nat.add_assoc, woL_succ]
    split
    · rw [List.length_append]; omega
    · exact this
theorem mem_woL {g : List Bool} {i t : Nat} : t ∈ woL g i ↔ t < i ∧ g.getD t false = true := by
  unfold woL; rw [List.mem_filter, List.mem_range]
/-- the rows more that are there, below i -/
def usedL (g : List Bool) (n i : Nat) : List Nat := (List.range i).filter (fun t => !g.getD (n + t) false)
theorem usedL_succ (g : List Bool) (n i : Nat) : usedL g n (i + 1) = if g.getD (n + i) false = true then usedL g n i else usedL g n i ++ [i] := by
  unfold usedL
  rw [List.range_succ, List.filter_append]
  cases h : g.getD (n + i) false <;> simp [List.filter_cons, -List.getD_eq_getElem?_getD, h]
theorem usedL_length_le (g : List Bool) (n i : Nat) : (usedL g n i).length ≤ i := by
  unfold usedL; have := List.length_filter_le (fun t => !g.getD (n + t) false) (List.range i); rwa [List.length_range] at this
/-- what is known, below i; noughts in the place of all else -/
def outA (rows : List (List Int)) (ls : List Nat) (g : List Bool) (i : Nat) : List (List Int) := (List.range ls.length).map fun t => if t < i ∧ g.getD t false = false then rows.getD t [] else zeros (ls.getD t 0)
theorem outA_get (rows : List (List Int)) (ls : List Nat) (g : List Bool) (i : Nat) {t : Nat} (ht : t < ls.length) : (outA rows ls g i)[t]? = some (if t < i ∧ g.getD t false = false then rows.getD t [] else zeros (ls.getD t 0)) := by
  unfold outA; rw [List.getElem?_map, List.getElem?_range ht]; rfl
theorem outA_length (rows : List (List Int)) (ls : List Nat) (g : List Bool) (i : Nat) : (outA rows ls g i).length = ls.length := by simp [outA]
theorem outA_zero (rows : List (List Int)) (ls : List Nat) (g : List Bool) : outA rows ls g 0 = ls.map fun k => List.replicate k (0 : Int) := by
  apply List.ext_getElem?
  intro t
  by_cases ht : t < ls.length
  · rw [outA_get rows ls g 0 ht, if_neg (by omega), List.getElem?_map, List.getElem?_eq_getElem ht, List.getD_eq_getElem?_getD, List.getElem?_eq_getElem ht]; rfl
  · rw [List.getElem?_eq_none (by rw [outA_length]; omega), List.getElem?_eq_none (by rw [List.length_map]; omega)]
theorem outA_gone (rows : List (List Int)) (ls : List Nat) (g : List Bool) {i : Nat} (h : g.getD i false = true) : outA rows ls g (i + 1) = outA rows ls g i := by
  unfold outA
  refine List.map_congr_left (fun t _ => ?_)
  by_cases e : t = i
  · subst e; rw [if_neg (by rw [h]; simp), if_neg (by omega)]
  · by_cases h2 : t < i ∧ g.getD t false = false
    · rw [if_pos h2, if_pos ⟨by omega, h2.2⟩]
    · rw [if_neg h2, if_neg (fun h3 => h2 ⟨by omega, h3.2⟩)]
theorem outA_kept (rows : List (List Int)) (ls : List Nat) (g : List Bool) {i : Nat} (hi : i < ls.length) (h : g.getD i false = false) : (outA rows ls g i).set i (rows.getD i []) = outA rows ls g (i + 1) := by
  apply List.ext_getElem?
  intro t
  by_cases ht : t < ls.length
  · rw [outA_get rows ls g (i + 1) ht]
    by_cases e : i = t
    · subst e; rw [List.getElem?_set_self (by rw [outA_length]; exact hi), if_pos ⟨by omega, h⟩]
    · rw [List.getElem?_set_ne e, outA_get rows ls g i ht]
      by_cases h2 : t < i ∧ g.getD t false = false
      · rw [if_pos h2, if_pos ⟨by omega, h2.2⟩]
      · rw [if_neg h2, if_neg (fun h3 => h2 ⟨by omega, h3.2⟩)]
  · rw [List.getElem?_eq_none (by rw [List.length_set, outA_length]; omega), List.getElem?_eq_none (by rw [outA_length]; omega)]
/-- one line of the equations -/
def lineP (g : List Bool) (i j : Nat) : List Int := (woL g j).map fun t => cE i t
theorem lineP_succ (g : List Bool) (i j : Nat) : lineP g i (j + 1) = if g.getD j false = true then lineP g i j ++ [cE i j] else lineP g i j := by
  unfold lineP; rw [woL_succ]; split
  · rw [List.map_append]; rfl
  · rfl
def leftP (g : List Bool) (out : List (List Int)) (i : Nat) (z : List Int) : Nat → List Int
  | 0 => z
  | j + 1 => if g.getD j false = true then leftP g out i z j else addAt (cE i j) (out.getD j []) 0 (leftP g out i z j)
theorem leftP_length (g : List Bool) (out : List (List Int)) (i : Nat) (z : List Int) : ∀ j, (leftP g out i z j).length = z.length
  | 0 => rfl
  | j + 1 => by rw [leftP]; split; (· exact leftP_length g out i z j); (· rw [addAt_length]; exact leftP_length g out i z j)
theorem leftP_in (g : List Bool) (out : List (List Int)) (i : Nat) (z : List Int) (hz : ∀ y ∈ z, In8 y) : ∀ j, j ≤ 256 → ∀ y ∈ leftP g out i z j, In8 y
  | 0, _ => hz
  | j + 1, hj => by rw [leftP]; split; (· exact leftP_in g out i z hz j (by omega)); (· exact addAt_in _ (cE_in (by omega)) _ _ _ (leftP_in g out i z hz j (by omega)))
def partL (g : List Bool) (n i : Nat) : List (List Int) := (usedL g n i).map fun t => lineP g t n
def vL (g : List Bool) (n : Nat) (out more : List (List Int)) (i : Nat) : List (List Int) := (usedL g n i).map fun t => leftP g out t (more.getD t []) n
/-- what was solved stands in its places -/
def outB (wo : List Nat) (X : List (List Int)) (ls : List Nat) (out : List (List Int)) : Nat → List (List Int)
  | 0 => out
  | k + 1 => (outB wo X ls out k).set (wo.getD k 0) ((X.getD k []).take (ls.getD (wo.getD k 0) 0))
def restB (g : List Bool) (n : Nat) (more base : List (List Int)) (i : Nat) : List (List Int) := (List.range base.length).map fun t => if t < i ∧ g.getD (n + t) false = false then more.getD t [] else base.getD t []
theorem restB_get (g : List Bool) (n : Nat) (more base : List (List Int)) (i : Nat) {t : Nat} (ht : t < base.length) : (restB g n more base i)[t]? = some (if t < i ∧ g.getD (n + t) false = false then more.getD t [] else base.getD t []) := by
  unfold restB; rw [List.getElem?_map, List.getElem?_range ht]; rfl
theorem restB_length (g : List Bool) (n : Nat) (more base : List (List Int)) (i : Nat) : (restB g n more base i).length = base.length := by simp [restB]
theorem restB_zero (g : List Bool) (n : Nat) (more base : List (List Int)) : restB g n more base 0 = base := by
  apply List.ext_getElem?
  intro t
  by_cases ht : t < base.length
  · rw [restB_get g n more base 0 ht, if_neg (by omega), List.getD_eq_getElem?_getD, List.getElem?_eq_getElem ht]; rfl
  · rw [List.getElem?_eq_none (by rw [restB_length]; omega), List.getElem?_eq_none (by omega)]
theorem restB_gone (g : List Bool) (n : Nat) (more base : List (List Int)) {i : Nat} (h : g.getD (n + i) false = true) : restB g n more base (i + 1) = restB g n more base i := by
  unfold restB
  refine List.map_congr_left (fun t _ => ?_)
  by_cases e : t = i
  · subst e; rw [if_neg (by rw [h]; simp), if_neg (by omega)]
  · by_cases h2 : t < i ∧ g.getD (n + t) false = false
    · rw [if_pos h2, if_pos ⟨by omega, h2.2⟩]
    · rw [if_neg h2, if_neg (fun h3 => h2 ⟨by omega, h3.2⟩)]
theorem restB_kept (g : List Bool) (n : Nat) (more base : List (List Int)) {i : Nat} (hi : i < base.length) (h : g.getD (n + i) false = false) : (restB g n more base i).set i (more.getD i []) = restB g n more base (i + 1) := by
  apply List.ext_getElem?
  intro t
  by_cases ht : t < base.length
  · rw [restB_get g n more base (i + 1) ht]
    by_cases e : i = t
    · subst e; rw [List.getElem?_set_self (by rw [restB_length]; exact hi), if_pos ⟨by omega, h⟩]
    · rw [List.getElem?_set_ne e, restB_get g n more base i ht]
      by_cases h2 : t < i ∧ g.getD (n + t) false = false
      · rw [if_pos h2, if_pos ⟨by omega, h2.2⟩]
      · rw [if_neg h2, if_neg (fun h3 => h2 ⟨by omega, h3.2⟩)]
  · rw [List.getElem?_eq_none (by rw [List.length_set, restB_length]; omega), List.getElem?_eq_none (by rw [restB_length]; omega)]
end Go.Proofs.Ytdhajlkiiphlfaa.Par
/-! lists of rows that grow; a row to which others are added -/
namespace Go.Proofs.Ytdhajlkiiphlfaa.Par
open Go.RowKit Go.Proofs.Ytdhajlkiiphlfaa.QBaseParityWide Go.Proofs.YtdhajlkiiphlfaaW.PrintWords Go.Proofs.YtdhajlkiiphlfaaW.PrintLast Go.Proofs.YtdhajlkiiphlfaaW.PrintMore Go.Proofs.Ytdhajlkiiphlfaa.Solve
set_option linter.unusedVariables false
set_option linter.unusedSimpArgs false
theorem addV_take (b : Int) : ∀ (l : List Int) (o : Nat) (r : List Int) (D : Array Value), o + l.length ≤ r.length → D.toList.take r.length = r.map (Value.int .u8) → (addV b l ((r.drop o).take l.length) o D).toList.take r.length = (addAt b l o r).map (Value.int .u8)
  | [], _, r, D, _, h => by simpa [addV, addAt] using h
  | v :: l, o, r, D, hl, h => by
    rw [List.length_cons] at hl
    rw [List.drop_eq_getElem_cons (by omega), List.length_cons, List.take_succ_cons, addV, addAt]
    have e0 : r.getD o 0 = r[o] := by rw [List.getD_eq_getElem?_getD, List.getElem?_eq_getElem (by omega)]; rfl
    rw [e0]
    have h2 := addV_take b l (o + 1) (r.set o (xorZ r[o] (mulZ b v))) (D.setIfInBounds o (.int .u8 (xorZ r[o] (mulZ b v)))) (by rw [List.length_set]; omega) (by
      rw [List.length_set, Array.toList_setIfInBounds, List.take_set, h, List.map_set])
    rw [List.length_set, List.drop_set_of_lt (by omega)] at h2
    exact h2
theorem add_any (w0 w : World) (T : Option Addr) (g o n c : Nat) (D : Array Value) (xs : List Int) (A1 : Option Addr) (c1 : Nat) (l : List Int) (b : Int) (hB : Below w0.heap.size w0 w) (hg : w0.heap.size ≤ g)
    (hD : 0 < l.length → T = some ⟨g, o, none⟩ ∧ w.heap[g]? = some (.cells D 5 (0, 0))) (hxl : xs.length = l.length) (hxs : ∀ x y, xs[x]? = some y → D[o + x]? = some (.int .u8 y)) (hDi : ∀ y ∈ xs, In8 y)
    (hl : l.length ≤ n) (hnn : n ≤ 140737488355328) (hr1 : ∀ W, Kept w W (fun j => j = g) → Kd.C (Kd.int .u8) W A1 l.length l) (hli : ∀ y ∈ l, In8 y) (hb : In8 b) :
    Calls Try.prog 34 #[.slice T n c, .slice A1 l.length c1, .int .u8 b] w fun e w' => e = .returned (.tuple #[]) ∧ Below w0.heap.size w0 w' ∧ Kept w w' (fun j => 0 < l.length ∧ j = g) ∧ (0 < l.length → w'.heap[g]? = some (.cells (addV b l xs o D) 5 (0, 0))) := by
  by_cases h0 : l.length = 0
  · have e : l = [] := List.eq_nil_of_length_eq_zero h0
    subst e
    refine (add_nil w T A1 n c c1 b hb).mono ?_
    rintro e w' ⟨rfl, h1⟩
    exact ⟨rfl, below_step hB h1, Kept.of_below h1 _, fun hp => absurd hp (by decide)⟩
  · obtain ⟨rfl, hd⟩ := hD (by omega)
    refine (add_gen w0 w g o n c D xs A1 c1 l b hB hg hd hxl hxs hDi hl hnn hr1 hli hb).mono ?_
    rintro e w' ⟨rfl, h1, h2, h3⟩
    exact ⟨rfl, h1, h2.mono (fun k hk => ⟨by omega, hk⟩), fun _ => h3⟩
theorem own_slice {w : World} {base e size n : Nat} {v : Value} {xs : List Value} (h : w.ownsRow base e size v n xs) : ∃ A c, v = .slice A n c ∧ n ≤ c := by
  obtain ⟨_, hc⟩ := h
  rcases hc with ⟨rfl, rfl⟩ | ⟨g, cap, cur, rfl, _, _, hnc, _⟩
  · exact ⟨_, _, rfl, Nat.le_refl _⟩
  · exact ⟨_, _, rfl, hnc⟩
/-- a row that lies alone in a block k -/
def Lone (w : World) (k : Nat) (A : Option Addr) (r : List Int) : Prop := 0 < r.length → A = some ⟨k, 0, none⟩ ∧ ∃ cells, w.heap[k]? = some (.cells cells 5 (0, 0)) ∧ cells.toList.take r.length = r.map (Value.int .u8)
theorem Lone.of_own {w : World} {base : Nat} {A : Option Addr} {c : Nat} {r : List Int} (h : w.ownsRow base 5 1 (.slice A r.length c) r.length (nums .u8 r)) : ∃ k, base ≤ k ∧ (0 < r.length → k < w.heap.size) ∧ Lone w k A r := by
  obtain ⟨_, hc⟩ := h
  rcases hc with ⟨hv, h0⟩ | ⟨g, cap, cur, hv, hg, hh, hnc, hcm, hcs, ht⟩
  · exact ⟨base, Nat.le_refl _, fun hp => absurd hp (by omega), fun hp => absurd hp (by omega)⟩
  · injection hv with h1 _ _
    subst h1
    rw [Nat.mul_one] at ht
    exact ⟨g, hg, fun _ => blk_lt hh, fun _ => ⟨rfl, cur, hh, ht⟩⟩
/-- what a header in a list of rows leads to -/
def RowFact (w : World) (s5 : Nat) (hd : Hdr) (r : List Int) : Prop := hd.2.1 = r.length ∧ r.length ≤ hd.2.2 ∧ r.length ≤ 281474976710656 ∧ (0 < r.length → ∃ k cells, hd.1 = some ⟨k, 0, none⟩ ∧ s5 ≤ k ∧ w.heap[k]? = some (.cells cells 5 (0, 0)) ∧ cells.toList.take r.length = r.map (Value.int .u8))
structure LoB (w0 w5 w : World) (hsP hsV : List Hdr) (vp : Value) (Av : Option Addr) (cv : Nat) (pl vl : List (List Int)) : Prop where
  below : Below w0.heap.size w0 w
  kept : Kept w5 w (fun _ => False)
  p : w.ownsRow w5.heap.size 41 1 vp hsP.length (encs hdV hsP)
  v : w.ownsRow w5.heap.size 41 1 (.slice Av hsV.length cv) hsV.length (encs hdV hsV)
  ne : ∀ k, vp.ownBlock = some k → (Value.slice Av hsV.length cv).ownBlock ≠ some k
  rp : RdH w w5.heap.size hsP pl
  rv : RdH w w5.heap.size hsV vl
namespace LoB
variable {w0 w5 w w' : World} {hsP hsV : List Hdr} {vp : Value} {Av : Option Addr} {cv : Nat} {pl vl : List (List Int)}
theorem move (h : LoB w0 w5 w hsP hsV vp Av cv pl vl) (hb : Below w0.heap.size w0 w') (hk : Kept w w' (fun _ => False)) : LoB w0 w5 w' hsP hsV vp Av cv pl vl :=
  ⟨hb, h.kept.then_ hk (fun k hk => .inl hk), own_move h.p (fun k e => hk.2 k (own_lt h.p k e) (fun e => e)), own_move h.v (fun k e => hk.2 k (own_lt h.v k e) (fun e => e)), h.ne,
    h.rp.move (fun k cells _ hc => (hk.2 k (blk_lt hc) (fun e => e)).trans hc), h.rv.move (fun k cells _ hc => (hk.2 k (blk_lt hc) (fun e => e)).trans hc)⟩
theorem ne_of {w : World} {base n k : Nat} {v : Value} {xs cells : _} (h : w.ownsRow base 41 1 v n xs) (hc : w.heap[k]? = some (.cells cells 5 (0, 0))) : some k ≠ v.ownBlock := by
  intro e
  obtain ⟨c2, h2⟩ := own_typed h k e.symm
  rw [hc] at h2
  injection h2 with h2
  injection h2 with _ h2
  exact absurd h2 (by decide)
/-- a row is put behind the first list -/
theorem appP (h : LoB w0 w5 w hsP hsV vp Av cv pl vl) (hle : w0.heap.size ≤ w5.heap.size) {vp' : Value} {hd : Hdr} {r : List Int} (h1 : w'.ownsRow w5.heap.size 41 1 vp' (hsP ++ [hd]).length (encs hdV (hsP ++ [hd]))) (h2 : Below w5.heap.size w w') (h3 : w.grownBy w' vp.ownBlock) (h4 : vp'.ownBlock = vp.ownBlock ∨ ∃ b, vp'.ownBlock = some b ∧ w.heap.size ≤ b)
    (hr : RowFact w w5.heap.size hd r) : LoB w0 w5 w' (hsP ++ [hd]) hsV vp' Av cv (pl ++ [r]) vl := by
  have mv : ∀ k cells, w5.heap.size ≤ k → w.heap[k]? = some (.cells cells 5 (0, 0)) → w'.heap[k]? = some (.cells cells 5 (0, 0)) := fun k cells _ hc => (h3.block k (blk_lt hc) (ne_of h.p hc)).trans hc
  refine ⟨h.below.trans (h2.mono hle), h.kept.then_ (Kept.of_grown h3 (Kept.refl _ (fun k => vp.ownBlock = some k)) (fun k hk => .inl hk)) (fun k hk => .inr (own_base h.p k hk)), h1, own_move h.v (fun k e => h3.block k (own_lt h.v k e) (fun e2 => h.ne k e2.symm e)), fun k hk hk2 => ?_, (h.rp.move mv).snoc ?_, h.rv.move mv⟩
  · rcases h4 with h4 | ⟨b, h4, h5⟩
    · exact h.ne k (by rw [← h4]; exact hk) hk2
    · rw [h4] at hk; injection hk with hk; have := own_lt h.v k hk2; omega
  · obtain ⟨a, b, b2, c⟩ := hr
    refine ⟨a, b, b2, fun hp => ?_⟩
    obtain ⟨k, cells, e1, e2, e3, e4⟩ := c hp
    exact ⟨k, cells, e1, e2, mv k cells e2 e3, e4⟩
/-- .. and behind the second -/
theorem appV (h : LoB w0 w5 w hsP hsV vp Av cv pl vl) (hle : w0.heap.size ≤ w5.heap.size) {vv' : Value} {hd : Hdr} {r : List Int} (h1 : w'.ownsRow w5.heap.size 41 1 vv' (hsV ++ [hd]).length (encs hdV (hsV ++ [hd]))) (h2 : Below w5.heap.size w w') (h3 : w.grownBy w' (Value.slice Av hsV.length cv).ownBlock) (h4 : vv'.ownBlock = (Value.slice Av hsV.length cv).ownBlock ∨ ∃ b, vv'.ownBlock = some b ∧ w.heap.size ≤ b)
    (hr : RowFact w w5.heap.size hd r) : ∃ Av' cv', vv' = .slice Av' (hsV ++ [hd]).length cv' ∧ LoB w0 w5 w' hsP (hsV ++ [hd]) vp Av' cv' pl (vl ++ [r]) := by
  obtain ⟨Av', cv', rfl, _⟩ := own_slice h1
  have mv : ∀ k cells, w5.heap.size ≤ k → w.heap[k]? = some (.cells cells 5 (0, 0)) → w'.heap[k]? = some (.cells cells 5 (0, 0)) := fun k cells _ hc => (h3.block k (blk_lt hc) (ne_of h.v hc)).trans hc
  refine ⟨_, _, rfl, h.below.trans (h2.mono hle), h.kept.then_ (Kept.of_grown h3 (Kept.refl _ (fun k => (Value.slice Av hsV.length cv).ownBlock = some k)) (fun k hk => .inl hk)) (fun k hk => .inr (own_base h.v k hk)), own_move h.p (fun k e => h3.block k (own_lt h.p k e) (fun e2 => h.ne k e e2.symm)), h1, fun k hk hk2 => ?_, h.rp.move mv, (h.rv.move mv).snoc ?_⟩
  · rcases h4 with h4 | ⟨b, h4, h5⟩
    · exact h.ne k hk (by rw [← h4]; exact hk2)
    · rw [h4] at hk2; injection hk2 with hk2; have := own_lt h.p k hk; omega
  · obtain ⟨a, b, b2, c⟩ := hr
    refine ⟨a, b, b2, fun hp => ?_⟩
    obtain ⟨k, cells, e1, e2, e3, e4⟩ := c hp
    exact ⟨k, cells, e1, e2, mv k cells e2 e3, e4⟩
end LoB
/-- within a round: the line, and what is left -/
structure LoC (w0 wi w : World) (vl : Value) (line : List Int) (kl : Nat) (Al : Option Addr) (left : List Int) : Prop where
  below : Below w0.heap.size w0 w
  kept : Kept wi w (fun _ => False)
  line : w.ownsRow wi.heap.size 5 1 vl line.length (nums .u8 line)
  ne : 0 < left.length → vl.ownBlock ≠ some kl
  klo : wi.heap.size ≤ kl
  klt : 0 < left.length → kl < w.heap.size
  left : Lone w kl Al left
namespace LoC
variable {w0 wi w w' : World} {vl : Value} {line left : List Int} {kl : Nat} {Al : Option Addr}
theorem drew (h : LoC w0 wi w vl line kl Al left) : LoC w0 wi w.drew vl line kl Al left := ⟨below_drew1 h.below, h.kept.drew, own_move h.line (fun _ _ => rfl), h.ne, h.klo, h.klt, h.left⟩
theorem appended (h : LoC w0 wi w vl line kl Al left) (hle : w0.heap.size ≤ wi.heap.size) {v' : Value} {x : Int} (h1 : w'.ownsRow wi.heap.size 5 1 v' (line ++ [x]).length (nums .u8 (line ++ [x]))) (h2 : Below wi.heap.size w w') (h3 : w.grownBy w' vl.ownBlock) (h4 : v'.ownBlock = vl.ownBlock ∨ ∃ b, v'.ownBlock = some b ∧ w.heap.size ≤ b) : LoC w0 wi w' v' (line ++ [x]) kl Al left := by
  refine ⟨h.below.trans (h2.mono hle), h.kept.then_ (Kept.of_grown h3 (Kept.refl _ (fun k => vl.ownBlock = some k)) (fun k hk => .inl hk)) (fun k hk => .inr (own_base h.line k hk)), h1, fun hp e => ?_, h.klo, fun hp => Nat.lt_of_lt_of_le (h.klt hp) h3.size, fun hp => ?_⟩
  · rcases h4 with h4 | ⟨b, h4, h5⟩
    · exact h.ne hp (by rw [← h4]; exact e)
    · rw [h4] at e; injection e with e; have := h.klt hp; omega
  · obtain ⟨e1, cells, e2, e3⟩ := h.left hp
    exact ⟨e1, cells, (h3.block kl (blk_lt e2) (fun e => h.ne hp e.symm)).trans e2, e3⟩
theorem added (h : LoC w0 wi w vl line kl Al left) {b : Int} {l : List Int} {D : Array Value} (h1 : Below w0.heap.size w0 w') (h2 : Kept w w' (fun k => 0 < l.length ∧ k = kl)) (hl : l.length ≤ left.length) (hD : 0 < l.length → w.heap[kl]? = some (.cells D 5 (0, 0)) ∧ D.toList.take left.length = left.map (Value.int .u8)) (h3 : 0 < l.length → w'.heap[kl]? = some (.cells (addV b l (left.take l.length) 0 D) 5 (0, 0))) : LoC w0 wi w' vl line kl Al (addAt b l 0 left) := by
  refine ⟨h1, h.kept.then_ h2 (fun k hk => .inr (by rw [hk.2]; exact h.klo)), own_move h.line (fun k hk => h2.2 k (own_lt h.line k hk) (fun e => h.ne (by omega) (by rw [← e.2]; exact hk))), fun hp => h.ne (by rwa [addAt_length] at hp), h.klo, fun hp => Nat.lt_of_lt_of_le (h.klt (by rwa [addAt_length] at hp)) h2.1, fun hp => ?_⟩
  rw [addAt_length] at hp
  obtain ⟨e1, cells, e2, e3⟩ := h.left hp
  by_cases h0 : 0 < l.length
  · have h4 := addV_take b l 0 left D (by omega) (hD h0).2
    rw [List.drop_zero] at h4
    exact ⟨e1, _, h3 h0, by rw [addAt_length]; exact h4⟩
  · have e : l = [] := List.eq_nil_of_length_eq_zero (by omega)
    subst e
    exact ⟨e1, cells, (h2.2 kl (blk_lt e2) (fun e => absurd e.1 (by decide))).trans e2, e3⟩
theorem start {w0 wi w6 : World} {q : Nat} {v : Value} {z : List Int} (hB : Below w0.heap.size w0 wi) (hq : q ≤ 1000) (h1 : w6.ownsRow (wi.heap.size + 1) 5 1 v z.length (nums .u8 z)) (h2 : Below (wi.heap.size + 1) (wi.alloc (.cells (madeCells #[.int .u8 0] q) 5)) w6) :
    ∃ Al cl kl, v = .slice Al z.length cl ∧ z.length ≤ cl ∧ LoC w0 wi w6 (.slice (some ⟨wi.heap.size, 0, none⟩) 0 q) [] kl Al z := by
  obtain ⟨Al, cl, rfl, hl⟩ := own_slice h1
  obtain ⟨kl, hk1, hk2, hk3⟩ := Lone.of_own h1
  have hs : (wi.alloc (.cells (madeCells #[.int .u8 0] q) 5)).heap.size = wi.heap.size + 1 := size_alloc' _ _
  have hle := hB.size
  refine ⟨Al, cl, kl, rfl, hl, (below_alloc hB _).trans (h2.mono (by omega)), (Kept.of_below (below_alloc (Below.refl _ _) _) _).then_ (S2 := fun _ => False) ⟨by have := h2.size; exact this, fun i hi _ => h2.block i (by omega)⟩ (fun k hk => hk.elim), ⟨rfl, .inr ⟨wi.heap.size, q, madeCells #[.int .u8 0] q, rfl, Nat.le_refl _, ?_, Nat.zero_le _, by unfold maxLen; omega, ?_, rfl⟩⟩, fun _ e => ?_, by omega, hk2, hk3⟩
  · exact (h2.block _ (by omega)).trans (blk_new _ _)
  · rw [made_rep]; simp
  · have e2 : wi.heap.size = kl := Option.some.inj e
    omega
theorem addCall (h : LoC w0 wi w vl line kl Al left) (hwi : w0.heap.size ≤ wi.heap.size) {l : List Int} {A1 : Option Addr} {c1 cl : Nat} {b : Int} (hl : l.length ≤ left.length) (hin : ∀ y ∈ left, In8 y) (hsm : left.length ≤ 140737488355328) (hr1 : ∀ W, Kept w W (fun k => k = kl) → Kd.C (Kd.int .u8) W A1 l.length l) (hli : ∀ y ∈ l, In8 y) (hb : In8 b) :
    Calls Try.prog 34 #[.slice Al left.length cl, .slice A1 l.length c1, .int .u8 b] w fun e w' => e = .returned (.tuple #[]) ∧ LoC w0 wi w' vl line kl Al (addAt b l 0 left) := by
  obtain ⟨D, hD⟩ : ∃ D : Array Value, 0 < left.length → Al = some ⟨kl, 0, none⟩ ∧ w.heap[kl]? = some (.cells D 5 (0, 0)) ∧ D.toList.take left.length = left.map (Value.int .u8) := by
    by_cases hp : 0 < left.length
    · obtain ⟨e1, D, e2, e3⟩ := h.left hp
      exact ⟨D, fun _ => ⟨e1, e2, e3⟩⟩
    · exact ⟨#[], fun hp2 => absurd hp2 hp⟩
  refine (add_any w0 w Al kl 0 left.length cl D (left.take l.length) A1 c1 l b h.below (Nat.le_trans hwi h.klo) (fun hp => ⟨(hD (by omega)).1, (hD (by omega)).2.1⟩) (by rw [List.length_take]; omega) (fun x y hx => ?_) (fun y hy => hin y (List.mem_of_mem_take hy)) hl hsm hr1 hli hb).mono ?_
  · have hlt := (List.getElem?_eq_some_iff.1 hx).1
    rw [List.length_take] at hlt
    have e3 := (hD (by omega)).2.2
    rw [List.getElem?_take, if_pos (by omega)] at hx
    have : (D.toList.take left.length)[x]? = (left.map (Value.int .u8))[x]? := by rw [e3]
    rw [List.getElem?_take, if_pos (by omega), List.getElem?_map, hx] at this
    rw [Nat.zero_add, ← Array.getElem?_toList, this]; rfl
  · rintro e w' ⟨rfl, h1, h2, h3⟩
    exact ⟨rfl, h.added h1 h2 hl (fun hp => (hD (by omega)).2) h3⟩
theorem lineFact {A : Option Addr} {c s5 : Nat} (h : LoC w0 wi w (.slice A line.length c) line kl Al left) (h5 : s5 ≤ wi.heap.size) (hc : line.length ≤ c) (hs : line.length ≤ 281474976710656) : RowFact w s5 (A, line.length, c) line := by
  obtain ⟨k, h1, _, h3⟩ := Lone.of_own h.line
  refine ⟨rfl, hc, hs, fun hp => ?_⟩
  obtain ⟨e1, cells, e2, e3⟩ := h3 hp
  exact ⟨k, cells, e1, by omega, e2, e3⟩
theorem leftFact {cl s5 zl : Nat} (h : LoC w0 wi w vl line kl Al left) (h5 : s5 ≤ wi.heap.size) (hz : left.length = zl) (hc : zl ≤ cl) (hs : zl ≤ 281474976710656) : RowFact w s5 (Al, zl, cl) left := by
  subst hz
  refine ⟨rfl, hc, hs, fun hp => ?_⟩
  obtain ⟨e1, cells, e2, e3⟩ := h.left hp
  exact ⟨kl, cells, e1, by have := h.klo; omega, e2, e3⟩
end LoC
/-- what was read in a list of rows stays, where another header was put behind it -/
theorem RowFact.grown {w w' : World} {s5 : Nat} {hd : Hdr} {r : List Int} {row : Option Nat} (h : RowFact w s5 hd r) (hg : w.grownBy w' row) (hrow : ∀ k cells, w.heap[k]? = some (.cells cells 5 (0, 0)) → some k ≠ row) : RowFact w' s5 hd r := by
  obtain ⟨a, b, c, d⟩ := h
  refine ⟨a, b, c, fun hp => ?_⟩
  obtain ⟨k, cells, e1, e2, e3, e4⟩ := d hp
  exact ⟨k, cells, e1, e2, (hg.block k (blk_lt e3) (hrow k cells e3)).trans e3, e4⟩
/-- rows in one block, and their headers -/
structure Dt (w : World) (base b : Nat) (hs : List Hdr) (m : List (List Int)) : Prop where
  hb : base ≤ b
  len : hs.length = m.length
  few : m.length ≤ 1000
  many : m.flatten.length ≤ 281474976710656
  data : w.heap[b]? = some (.cells (m.flatten.map (Value.int .u8)).toArray 5 (0, 0))
  row : ∀ (i : Nat) (r : List Int), m[i]? = some r → ∃ o : Nat, hs[i]? = some (some ⟨b, o, none⟩, r.length, r.length) ∧ o ≤ m.flatten.length ∧ (0 < r.length → o = ((m.take i).flatten).length)
theorem Cu.toDt {w : World} {base g b : Nat} {m : List (List Int)} (h : Cu w base g b m) : ∃ hs : List Hdr, w.heap[g]? = some (.cells (encs hdV hs).toArray 41 (0, 0)) ∧ Dt w base b hs m := by
  obtain ⟨hv, hh, hl, hx⟩ := h.heads
  have ex : ∀ i : Nat, ∃ hd : Hdr, ∀ r, m[i]? = some r → hv[i]? = some (hdV hd) ∧ ∃ o : Nat, hd = (some ⟨b, o, none⟩, r.length, r.length) ∧ o ≤ m.flatten.length ∧ (0 < r.length → o = ((m.take i).flatten).length) := by
    intro i
    cases e : m[i]? with
    | none => exact ⟨(none, 0, 0), fun r hr => by cases hr⟩
    | some r =>
      obtain ⟨o, h1, h2, h3⟩ := hx i r e
      exact ⟨(some ⟨b, o, none⟩, r.length, r.length), fun r' hr' => by
        obtain rfl := Option.some.inj hr'
        exact ⟨h1, o, rfl, h2, h3⟩⟩
  obtain ⟨f, hf⟩ := Classical.skolem.1 ex
  refine ⟨(List.range m.length).map f, ?_, h.hb, by simp, h.few, h.many, h.data, fun i r hr => ?_⟩
  · rw [hh]
    congr 3
    apply List.ext_getElem?
    intro i
    by_cases hi : i < m.length
    · have := (hf i m[i] (List.getElem?_eq_getElem hi)).1
      rw [this]
      unfold encs
      rw [List.getElem?_map, List.getElem?_map, List.getElem?_range hi]; rfl
    · rw [List.getElem?_eq_none (by omega), List.getElem?_eq_none (by simp [encs]; omega)]
  · have hi := (List.getElem?_eq_some_iff.1 hr).1
    obtain ⟨_, o, e, h2, h3⟩ := hf i r hr
    refine ⟨o, ?_, h2, h3⟩
    rw [List.getElem?_map, List.getElem?_range hi, ← e]; rfl
theorem Dt.move {w w' : World} {base b : Nat} {hs : List Hdr} {m : List (List Int)} (h : Dt w base b hs m) (hm : w'.heap[b]? = w.heap[b]?) : Dt w' base b hs m := ⟨h.hb, h.len, h.few, h.many, hm.trans h.data, h.row⟩
theorem Dt.toCu {w : World} {base g b : Nat} {hs : List Hdr} {m : List (List Int)} (h : Dt w base b hs m) (hg : base ≤ g) (hne : g ≠ b) (hh : w.heap[g]? = some (.cells (encs hdV hs).toArray 41 (0, 0))) : Cu w base g b m :=
  ⟨hg, h.hb, hne, h.few, h.many, h.data, _, hh, by simp [encs, h.len], fun i r hr => by
    obtain ⟨o, h1, h2, h3⟩ := h.row i r hr
    refine ⟨o, ?_, h2, h3⟩
    unfold encs
    rw [List.getElem?_map, h1]; rfl⟩
theorem Dt.rowC {w : World} {base b : Nat} {hs : List Hdr} {m : List (List Int)} (h : Dt w base b hs m) {i : Nat} {r : List Int} (hi : m[i]? = some r) {o : Nat} (ho : 0 < r.length → o = ((m.take i).flatten).length) : Kd.C (Kd.int .u8) w (some ⟨b, o, none⟩) r.length r := by
  refine ⟨rfl, ?_, fun hp => ⟨_, rfl, fun j p hj => ⟨[.int .u8 p], rfl, rfl, fun t u ht => ?_⟩⟩⟩
  · have := h.many
    rw [flat_split hi, List.length_append, List.length_append] at this
    omega
  · have hjl := (List.getElem?_eq_some_iff.1 hj).1
    match t, ht with
    | 0, ht =>
      obtain rfl := Option.some.inj ht
      rw [show (⟨b, o, none⟩ : Addr).add (j * (Kd.int .u8).sz + 0) = ⟨b, o + (j * 1 + 0), none⟩ from add_off b o _]
      rw [blk_cell h.data, ho hp, flat_split hi]
      simp only [List.getElem?_toArray, List.getElem?_map]
      rw [List.getElem?_append_right (by omega), show (List.take i m).flatten.length + (j * 1 + 0) - (List.take i m).flatten.length = j by omega, List.getElem?_append_left hjl, hj]
      rfl
    | t + 1, ht => simp at ht
/-- what Restore hands out -/
structure RRes (w : World) (base : Nat) (v : Value) (hs1 hs2 : List Hdr) (b1 b2 : Nat) (m1 m2 : List (List Int)) : Prop where
  own : w.ownsRow base 41 1 v (hs1 ++ hs2).length (encs hdV (hs1 ++ hs2))
  d1 : Dt w base b1 hs1 m1
  d2 : Dt w base b2 hs2 m2
  ne : b1 ≠ b2
  n1 : v.ownBlock ≠ some b1
  n2 : v.ownBlock ≠ some b2
theorem RRes.reads {w : World} {base : Nat} {v : Value} {hs1 hs2 : List Hdr} {b1 b2 : Nat} {m1 m2 : List (List Int)} (h : RRes w base v hs1 hs2 b1 b2 m1 m2) : ∃ A c, v = .slice A (m1 ++ m2).length c ∧ (m1 ++ m2).length ≤ c ∧ Kd.C (Kd.slice 5 (Kd.int .u8)) w A (m1 ++ m2).length (m1 ++ m2) := by
  have hl : (hs1 ++ hs2).length = (m1 ++ m2).length := by rw [List.length_append, List.length_append, h.d1.len, h.d2.len]
  have hrow : ∀ (j : Nat) p, (m1 ++ m2)[j]? = some p → ∃ A c, (hs1 ++ hs2)[j]? = some (A, p.length, c) ∧ p.length ≤ c ∧ Kd.C (Kd.int .u8) w A p.length p := by
    intro j p hj
    by_cases hlt : j < m1.length
    · rw [List.getElem?_append_left hlt] at hj
      obtain ⟨o, e1, _, e3⟩ := h.d1.row j p hj
      exact ⟨_, _, by rw [List.getElem?_append_left (by rw [h.d1.len]; exact hlt)]; exact e1, Nat.le_refl _, h.d1.rowC hj e3⟩
    · rw [List.getElem?_append_right (by omega)] at hj
      obtain ⟨o, e1, _, e3⟩ := h.d2.row _ p hj
      exact ⟨_, _, by rw [List.getElem?_append_right (by rw [h.d1.len]; omega), h.d1.len]; exact e1, Nat.le_refl _, h.d2.rowC hj e3⟩
  obtain ⟨hlen, hcase⟩ := h.own
  rcases hcase with ⟨rfl, hx0⟩ | ⟨g, cap, cur, rfl, hg, hh, hnc, hcm, hcs, htake⟩
  · have e : m1 ++ m2 = [] := List.eq_nil_of_length_eq_zero (by omega)
    rw [e]
    exact ⟨none, 0, rfl, Nat.le_refl _, rfl, by decide, fun hp => absurd hp (by decide)⟩
  · refine ⟨_, cap, by rw [hl], by omega, rfl, by have := h.d1.few; have := h.d2.few; rw [List.length_append]; omega, fun hp => ⟨_, rfl, fun j p hj => ?_⟩⟩
    obtain ⟨A, c, e1, e2, e3⟩ := hrow j p hj
    have hjl := (List.getElem?_eq_some_iff.1 hj).1
    refine ⟨[.slice A p.length c], rfl, ⟨A, c, rfl, e2, e3⟩, fun t u hu => ?_⟩
    match t, hu with
    | 0, hu =>
      obtain rfl := Option.some.inj hu
      rw [show (⟨g, 0, none⟩ : Addr).add (j * (Kd.slice 5 (Kd.int .u8)).sz + 0) = ⟨g, j, none⟩ from (add_off g 0 _).trans (by rw [Nat.zero_add]; exact congrArg (fun z => (⟨g, z, none⟩ : Addr)) (Nat.mul_one j))]
      rw [blk_cell hh, ← Array.getElem?_toList]
      have : (cur.toList.take ((hs1 ++ hs2).length * 1))[j]? = (encs hdV (hs1 ++ hs2))[j]? := by rw [htake]
      rw [List.getElem?_take, if_pos (by omega)] at this
      rw [this]
      unfold encs
      rw [List.getElem?_map, e1]; rfl
    | t + 1, hu => simp at hu
/-- a list of headers that lies whole in its block -/
theorem own_heads {w : World} {base g : Nat} {hs : List Hdr} (hg : base ≤ g) (hh : w.heap[g]? = some (.cells (encs hdV hs).toArray 41 (0, 0))) (hl : hs.length ≤ 1000) : w.ownsRow base 41 1 (.slice (some ⟨g, 0, none⟩) hs.length hs.length) hs.length (encs hdV hs) := by
  have e : (encs hdV hs).length = hs.length := by simp [encs]
  refine ⟨by rw [e, Nat.mul_one], .inr ⟨g, hs.length, _, rfl, hg, hh, Nat.le_refl _, by unfold maxLen; omega, by rw [List.size_toArray, e, Nat.mul_one], ?_⟩⟩
  rw [List.toList_toArray, Nat.mul_one, ← e, List.take_length]
theorem reads_heads {w : World} {g : Nat} {hs : List Hdr} (hh : w.heap[g]? = some (.cells (encs hdV hs).toArray 41 (0, 0))) (hl : hs.length ≤ 1000) : ReadsOf hdV ((none, 0, 0) : Hdr) w (some ⟨g, 0, none⟩) hs.length hs := by
  refine ⟨rfl, by omega, fun hp => ⟨_, rfl, fun j hj => ?_⟩⟩
  rw [add_off, Nat.zero_add, blk_cell hh]
  unfold encs
  rw [List.getElem?_toArray, List.getElem?_map, List.getElem?_eq_getElem hj, List.getD_eq_getElem?_getD, List.getElem?_eq_getElem hj]; rfl
end Go.Proofs.Ytdhajlkiiphlfaa.Par
/-! parity.Restore, where what it is given does not fit -/
namespace Go.Proofs.Ytdhajlkiiphlfaa.Par
open Go.RowKit Go.Proofs.Ytdhajlkiiphlfaa.QBaseParityWide Go.Proofs.YtdhajlkiiphlfaaW.PrintWords Go.Proofs.YtdhajlkiiphlfaaW.PrintLast Go.Proofs.YtdhajlkiiphlfaaW.PrintMore Go.Proofs.Ytdhajlkiiphlfaa.Solve
set_option linter.unusedVariables false
set_option linter.unusedSimpArgs false
set_option maxHeartbeats 800000 in
set_option maxRecDepth 100000 in
theorem restore_no (A0 A1 A2 A3 : Option Addr) (c0 c1 c2 c3 : Nat) (rows : List (List Int)) (sizes : List Int) (more : List (List Int)) (lost : List Int) (g : List Bool) (x : Int) (w : World)
    (hr0 : Kd.C (Kd.slice 5 (Kd.int .u8)) w A0 rows.length rows) (hc0 : rows.length ≤ c0) (hr1 : Kd.C (Kd.int .i64) w A1 sizes.length sizes) (hc1 : sizes.length ≤ c1) (hr2 : Kd.C (Kd.slice 5 (Kd.int .u8)) w A2 more.length more) (hc2 : more.length ≤ c2) (hr3 : Kd.C (Kd.int .i64) w A3 lost.length lost) (hc3 : lost.length ≤ c3)
    (hlo : lost.length ≤ 140737488355328) (hf : fitsL rows sizes more lost = (g, x)) (hx : x ≠ 0) :
    Calls Try.prog 16 #[.slice A0 rows.length c0, .slice A1 sizes.length c1, .slice A2 more.length c2, .slice A3 lost.length c3] w fun e w' => e = .returned (.tuple #[.slice none 0 0, .int .i64 x]) ∧ Below w.heap.size w w' := by
  obtain ⟨K, hK⟩ : ∃ K, K = 2 * lost.length + 6000 := ⟨_, rfl⟩
  have F1 : Aside0 (parity_fits.f K rows sizes more lost = some (g, x)) := ⟨by rw [fits_f rows sizes more lost hlo (by omega), hf]⟩
  have HR0 := Aside0.mk hr0
  have HR1 := Aside0.mk hr1
  have HR2 := Aside0.mk hr2
  have HR3 := Aside0.mk hr3
  have HC0 := Aside0.mk hc0
  have HC1 := Aside0.mk hc1
  have HC2 := Aside0.mk hc2
  have HC3 := Aside0.mk hc3
  have hx1 : (x != 0) = true := bne_iff_ne.mpr hx
  clear hr0 hr1 hr2 hr3 hc0 hc1 hc2 hc3 hf hlo hK hx
  go_enter Try.func16, Try.ntmps16
  go_wp2_with (first
    | (go_at_call 30; (with_reducible refine (parity_fits.calls K _ _ rows _ _ sizes _ _ more _ _ lost g x _ HR0.out HC0.out HR1.out HC1.out HR2.out HC2.out HR3.out HC3.out F1.out).mono ?_); rintro e w1 ⟨v1, rfl, ho, hb⟩; have HB1 := Aside0.mk hb; clear ho hb))
  go_ret2
  exact ⟨rfl, HB1.out⟩
end Go.Proofs.Ytdhajlkiiphlfaa.Par
