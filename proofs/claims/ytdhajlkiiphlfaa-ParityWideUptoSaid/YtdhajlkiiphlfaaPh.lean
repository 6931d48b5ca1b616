/- A part of a proof: see the text's own remarks. No conditions beyond its theorems' own. -/
import Derived.Test.YtdhajlkiiphlfaaPg
import Derived.Lib.BufferWrite
/-! ParitySums, the plain law -/
namespace Go.Proofs.Ytdhajlkiiphlfaa.Par
open Go.RowKit Go.Proofs.Ytdhajlkiiphlfaa.QBaseParityWide Go.Proofs.YtdhajlkiiphlfaaW.PrintWords Go.Proofs.YtdhajlkiiphlfaaW.PrintLast Go.Proofs.YtdhajlkiiphlfaaW.PrintMore Go.Proofs.Ytdhajlkiiphlfaa.Solve Math
set_option linter.unusedVariables false
set_option linter.unusedSimpArgs false
theorem zeros_length (n : Nat) : (zeros n).length = n := List.length_replicate
theorem more_el {rows : List (List Int)} (hin : ∀ r ∈ rows, ∀ y ∈ r, In8 y) (hn : rows.length ≤ 256) (i : Nat) {k : Nat} (hk : k < widthL rows) : elO ((moreRow rows i).getD k 0) = El.sum rows.length (fun t => elO (cE i t) * at2 rows t k) := by
  unfold moreRow
  rw [part_el (cE i) rows (zeros (widthL rows)) (zeros_in _) (getD_rows hin) (by rw [zeros_length]; exact hk) rows.length (fun t ht => cE_in (by omega)), zeros_getD, elO_zero, El.zero_add]
theorem more_in {rows : List (List Int)} (hn : rows.length ≤ 256) (i k : Nat) : In8 ((moreRow rows i).getD k 0) := getD_in (moreRow_in rows hn i) k
/-- of rows that are sums the rows more are sums -/
theorem more_sum {a b z : List (List Int)} (ha : ∀ r ∈ a, ∀ y ∈ r, In8 y) (hb : ∀ r ∈ b, ∀ y ∈ r, In8 y) (hz : ∀ r ∈ z, ∀ y ∈ r, In8 y) (hn : a.length ≤ 256) (hab : b.length = a.length) (haz : z.length = a.length) (hwb : widthL b = widthL a) (hwz : widthL z = widthL a)
    (h : ∀ t, t < a.length → ∀ k, (z.getD t []).getD k 0 = xorZ ((a.getD t []).getD k 0) ((b.getD t []).getD k 0)) (i : Nat) {k : Nat} (hk : k < widthL a) : (moreRow z i).getD k 0 = xorZ ((moreRow a i).getD k 0) ((moreRow b i).getD k 0) := by
  refine elO_inj (more_in (by omega) i k) (xorZ_in (more_in (by omega) i k) (more_in (by omega) i k)) ?_
  rw [elO_xor (more_in (by omega) i k) (more_in (by omega) i k), more_el hz (by omega) i (by omega), more_el ha hn i hk, more_el hb (by omega) i (by omega), haz, hab, ← El.sum_add]
  refine El.sum_congr fun t ht => ?_
  unfold at2
  rw [h t ht k, elO_xor (getD_in (getD_rows ha t) k) (getD_in (getD_rows hb t) k), El.mul_add]
/-- each byte hangs on its own column alone -/
theorem more_col {a c : List (List Int)} (ha : ∀ r ∈ a, ∀ y ∈ r, In8 y) (hc : ∀ r ∈ c, ∀ y ∈ r, In8 y) (hn : a.length ≤ 256) (hac : c.length = a.length) {x : Nat} (hx : x < widthL a) (hw : 0 < widthL c)
    (h : ∀ t, t < a.length → (c.getD t []).getD 0 0 = (a.getD t []).getD x 0) (i : Nat) : (moreRow c i).getD 0 0 = (moreRow a i).getD x 0 := by
  refine elO_inj (more_in (by omega) i 0) (more_in (by omega) i x) ?_
  rw [more_el hc (by omega) i hw, more_el ha hn i hx, hac]
  refine El.sum_congr fun t ht => ?_
  unfold at2
  rw [h t ht]
/-- the x-th column -/
def colR (x : Nat) (r : List Int) : List Int := if x < r.length then [r.getD x 0] else []
theorem colR_get (x : Nat) (r : List Int) : (colR x r).getD 0 0 = r.getD x 0 := by
  unfold colR
  by_cases h : x < r.length
  · rw [if_pos h]; rfl
  · rw [if_neg h, getD_len (l := r) (by omega)]; rfl
theorem colR_wide (x : Nat) : ∀ a : List (List Int), wideN ((a.map (colR x)).map List.length) = if x < wideN (a.map List.length) then 1 else 0
  | [] => by simp [wideN]
  | r :: a => by
    rw [List.map_cons, List.map_cons, wideN_cons, colR_wide x a, List.map_cons, wideN_cons]
    unfold colR
    by_cases h : x < r.length
    · rw [if_pos h, if_pos (show x < max r.length (wideN (a.map List.length)) by omega)]
      split <;> simp
    · rw [if_neg h]
      by_cases h2 : x < wideN (a.map List.length)
      · rw [if_pos h2, if_pos (show x < max r.length (wideN (a.map List.length)) by omega)]; simp
      · rw [if_neg h2, if_neg (show ¬ x < max r.length (wideN (a.map List.length)) by omega)]; simp
/-- a row as long as r, with what of s there is -/
def fitR (r s : List Int) : List Int := s.take r.length ++ zeros (r.length - s.length)
theorem fitR_length (r s : List Int) : (fitR r s).length = r.length := by unfold fitR; rw [List.length_append, List.length_take, zeros_length]; omega
def xorR (r s : List Int) : List Int := List.zipWith xorZ r s
theorem xorR_length {r s : List Int} (h : s.length = r.length) : (xorR r s).length = r.length := by unfold xorR; rw [List.length_zipWith]; omega
theorem xorR_get {r s : List Int} (h : s.length = r.length) (k : Nat) : (xorR r s).getD k 0 = xorZ (r.getD k 0) (s.getD k 0) := by
  unfold xorR
  by_cases hk : k < r.length
  · simp only [List.getD_eq_getElem?_getD, List.getElem?_zipWith, List.getElem?_eq_getElem hk, List.getElem?_eq_getElem (show k < s.length by omega)]; rfl
  · rw [getD_len (l := r) (by omega), getD_len (l := s) (by omega), getD_len (by rw [List.length_zipWith]; omega)]; rfl
end Go.Proofs.Ytdhajlkiiphlfaa.Par
/-! the world of ParitySums: four lists of rows -/
namespace Go.Proofs.Ytdhajlkiiphlfaa.Par
open Go.RowKit Go.Proofs.Ytdhajlkiiphlfaa.QBaseParityWide Go.Proofs.YtdhajlkiiphlfaaW.PrintWords Go.Proofs.YtdhajlkiiphlfaaW.PrintLast Go.Proofs.YtdhajlkiiphlfaaW.PrintMore Go.Proofs.Ytdhajlkiiphlfaa.Solve
set_option linter.unusedVariables false
set_option linter.unusedSimpArgs false
/-- four, by an index -/
def four {α : Type} (a b c d : α) : Nat → α
  | 0 => a
  | 1 => b
  | 2 => c
  | _ => d
structure Sm (w0 w : World) (v10 v13 v14 v15 : Value) (h10 h13 h14 h15 : List Hdr) (a b s c : List (List Int)) : Prop where
  below : Below w0.heap.size w0 w
  o : ∀ i, i < 4 → w.ownsRow w0.heap.size 41 1 (four v10 v13 v14 v15 i) (four h10 h13 h14 h15 i).length (encs hdV (four h10 h13 h14 h15 i))
  r : ∀ i, i < 4 → Rows5 w (four h10 h13 h14 h15 i) (four a b s c i)
  ne : ∀ i j, i < 4 → j < 4 → i ≠ j → (four v10 v13 v14 v15 i).ownBlock = none ∨ (four v10 v13 v14 v15 i).ownBlock ≠ (four v10 v13 v14 v15 j).ownBlock
section
variable {w0 w w' : World} {v10 v13 v14 v15 v' : Value} {h10 h13 h14 h15 : List Hdr} {a b s c : List (List Int)}
theorem Sm.base (h : Sm w0 w v10 v13 v14 v15 h10 h13 h14 h15 a b s c) : w0.heap.size ≤ w.heap.size := h.below.size
theorem Sm.moved (h : Sm w0 w v10 v13 v14 v15 h10 h13 h14 h15 a b s c) (hb : Below w.heap.size w w') : Sm w0 w' v10 v13 v14 v15 h10 h13 h14 h15 a b s c :=
  ⟨below_then h.below h.below.size hb, fun i hi => own_below5 (h.o i hi) hb, fun i hi => (h.r i hi).move (Same5.of_below hb), h.ne⟩
/-- what holds of four, with one of them grown -/
theorem grown_all {w0 w w' : World} {V V' : Nat → Value} {H H' : Nat → List Hdr} {M M' : Nat → List (List Int)} (q : Nat) (hq : q < 4) (hd : Hdr) (r : List Int) (hV : ∀ i, i < 4 → i ≠ q → V' i = V i) (hH : ∀ i, i < 4 → i ≠ q → H' i = H i) (hM : ∀ i, i < 4 → i ≠ q → M' i = M i) (hHq : H' q = H q ++ [hd]) (hMq : M' q = M q ++ [r])
    (o : ∀ i, i < 4 → w.ownsRow w0.heap.size 41 1 (V i) (H i).length (encs hdV (H i))) (rr : ∀ i, i < 4 → Rows5 w (H i) (M i)) (ne : ∀ i j, i < 4 → j < 4 → i ≠ j → (V i).ownBlock = none ∨ (V i).ownBlock ≠ (V j).ownBlock)
    (hown : w'.ownsRow w0.heap.size 41 1 (V' q) (H q ++ [hd]).length (encs hdV (H q ++ [hd]))) (hg : w.grownBy w' (V q).ownBlock) (hat : (V' q).ownBlock = (V q).ownBlock ∨ ∃ b, (V' q).ownBlock = some b ∧ w.heap.size ≤ b) (hr : Row5 w hd r) :
    (∀ i, i < 4 → w'.ownsRow w0.heap.size 41 1 (V' i) (H' i).length (encs hdV (H' i))) ∧ (∀ i, i < 4 → Rows5 w' (H' i) (M' i)) ∧ (∀ i j, i < 4 → j < 4 → i ≠ j → (V' i).ownBlock = none ∨ (V' i).ownBlock ≠ (V' j).ownBlock) := by
  have hs : Same5 w w' := Same5.of_grown hg (fun k cells f hk => ne5 (by decide) (o q hq) hk)
  refine ⟨fun i hi => ?_, fun i hi => ?_, fun i j hi hj hij => ?_⟩
  · by_cases e : i = q
    · subst e; rw [hHq]; exact hown
    · rw [hV i hi e, hH i hi e]; exact (o i hi).kept hg (ne i q hi hq e)
  · by_cases e : i = q
    · subst e; rw [hHq, hMq]; exact ((rr i hi).move hs).snoc (hr.move hs)
    · rw [hH i hi e, hM i hi e]; exact (rr i hi).move hs
  · by_cases ei : i = q
    · subst ei
      rw [hV j hj (Ne.symm hij)]
      exact apart_symm (apart_new (ne j i hj hi (Ne.symm hij)) (o j hj) hat)
    · by_cases ej : j = q
      · subst ej
        rw [hV i hi ei]
        exact apart_new (ne i j hi hj hij) (o i hi) hat
      · rw [hV i hi ei, hV j hj ej]; exact ne i j hi hj hij
theorem Sm.app13 (h : Sm w0 w v10 v13 v14 v15 h10 h13 h14 h15 a b s c) {hd : Hdr} {r : List Int} (hown : w'.ownsRow w0.heap.size 41 1 v' (h13 ++ [hd]).length (encs hdV (h13 ++ [hd]))) (hb : Below w0.heap.size w0 w') (hg : w.grownBy w' v13.ownBlock) (hat : v'.ownBlock = v13.ownBlock ∨ ∃ b, v'.ownBlock = some b ∧ w.heap.size ≤ b) (hr : Row5 w hd r) :
    Sm w0 w' v10 v' v14 v15 h10 (h13 ++ [hd]) h14 h15 a (b ++ [r]) s c := by
  obtain ⟨x, y, z⟩ := grown_all (V := four v10 v13 v14 v15) (V' := four v10 v' v14 v15) (H := four h10 h13 h14 h15) (H' := four h10 (h13 ++ [hd]) h14 h15) (M := four a b s c) (M' := four a (b ++ [r]) s c) 1 (by decide) hd r
    (fun i h4 hi => by match i, h4, hi with | 0, _, h => rfl | 1, _, h => exact absurd rfl h | 2, _, h => rfl | 3, _, h => rfl) (fun i h4 hi => by match i, h4, hi with | 0, _, h => rfl | 1, _, h => exact absurd rfl h | 2, _, h => rfl | 3, _, h => rfl) (fun i h4 hi => by match i, h4, hi with | 0, _, h => rfl | 1, _, h => exact absurd rfl h | 2, _, h => rfl | 3, _, h => rfl) rfl rfl h.o h.r h.ne hown hg hat hr
  exact ⟨hb, x, y, z⟩
theorem Sm.app14 (h : Sm w0 w v10 v13 v14 v15 h10 h13 h14 h15 a b s c) {hd : Hdr} {r : List Int} (hown : w'.ownsRow w0.heap.size 41 1 v' (h14 ++ [hd]).length (encs hdV (h14 ++ [hd]))) (hb : Below w0.heap.size w0 w') (hg : w.grownBy w' v14.ownBlock) (hat : v'.ownBlock = v14.ownBlock ∨ ∃ b, v'.ownBlock = some b ∧ w.heap.size ≤ b) (hr : Row5 w hd r) :
    Sm w0 w' v10 v13 v' v15 h10 h13 (h14 ++ [hd]) h15 a b (s ++ [r]) c := by
  obtain ⟨x, y, z⟩ := grown_all (V := four v10 v13 v14 v15) (V' := four v10 v13 v' v15) (H := four h10 h13 h14 h15) (H' := four h10 h13 (h14 ++ [hd]) h15) (M := four a b s c) (M' := four a b (s ++ [r]) c) 2 (by decide) hd r
    (fun i h4 hi => by match i, h4, hi with | 0, _, h => rfl | 1, _, h => rfl | 2, _, h => exact absurd rfl h | 3, _, h => rfl) (fun i h4 hi => by match i, h4, hi with | 0, _, h => rfl | 1, _, h => rfl | 2, _, h => exact absurd rfl h | 3, _, h => rfl) (fun i h4 hi => by match i, h4, hi with | 0, _, h => rfl | 1, _, h => rfl | 2, _, h => exact absurd rfl h | 3, _, h => rfl) rfl rfl h.o h.r h.ne hown hg hat hr
  exact ⟨hb, x, y, z⟩
theorem Sm.app15 (h : Sm w0 w v10 v13 v14 v15 h10 h13 h14 h15 a b s c) {hd : Hdr} {r : List Int} (hown : w'.ownsRow w0.heap.size 41 1 v' (h15 ++ [hd]).length (encs hdV (h15 ++ [hd]))) (hb : Below w0.heap.size w0 w') (hg : w.grownBy w' v15.ownBlock) (hat : v'.ownBlock = v15.ownBlock ∨ ∃ b, v'.ownBlock = some b ∧ w.heap.size ≤ b) (hr : Row5 w hd r) :
    Sm w0 w' v10 v13 v14 v' h10 h13 h14 (h15 ++ [hd]) a b s (c ++ [r]) := by
  obtain ⟨x, y, z⟩ := grown_all (V := four v10 v13 v14 v15) (V' := four v10 v13 v14 v') (H := four h10 h13 h14 h15) (H' := four h10 h13 h14 (h15 ++ [hd])) (M := four a b s c) (M' := four a b s (c ++ [r])) 3 (by decide) hd r
    (fun i h4 hi => by match i, h4, hi with | 0, _, h => rfl | 1, _, h => rfl | 2, _, h => rfl | 3, _, h => exact absurd rfl h) (fun i h4 hi => by match i, h4, hi with | 0, _, h => rfl | 1, _, h => rfl | 2, _, h => rfl | 3, _, h => exact absurd rfl h) (fun i h4 hi => by match i, h4, hi with | 0, _, h => rfl | 1, _, h => rfl | 2, _, h => rfl | 3, _, h => exact absurd rfl h) rfl rfl h.o h.r h.ne hown hg hat hr
  exact ⟨hb, x, y, z⟩
end
end Go.Proofs.Ytdhajlkiiphlfaa.Par
/-! copy of a text into a whole block of bytes -/
namespace Go.Proofs.Ytdhajlkiiphlfaa.Par
open Go.RowKit Go.Lib Go.Proofs.Ytdhajlkiiphlfaa.QBaseParityWide Go.Proofs.YtdhajlkiiphlfaaW.PrintWords Go.Proofs.YtdhajlkiiphlfaaW.PrintLast Go.Proofs.YtdhajlkiiphlfaaW.PrintMore Go.Proofs.Ytdhajlkiiphlfaa.Solve
set_option linter.unusedVariables false
set_option linter.unusedSimpArgs false
theorem copy_str {P : Program} (w : World) (dT sT ty elem g n : Nat) (s : ByteArray) (cur : Array Value) (hu : P.underlying dT = some (.slice elem)) (hs : (P.info? elem).map (·.size) = some 1) (hg : w.heap[g]? = some (.cells cur 5 (0, 0))) (hn : cur.size = n) :
    (Builtin.copy_ #[dT, sT] ty #[.slice (some ⟨g, 0, none⟩) n n, .string s]).run P w =
      .ok (goInt ((Nat.min s.size n : Nat) : Int)) (w.setRow g (byteCells (s.data.toList.take n) ++ cur.toList.drop (min s.size n)).toArray) := by
  have hlen : (byteCells (s.data.toList.take n)).length = min s.size n := by rw [byteCells_length, List.length_take, ← size_eq]; omega
  have hst := run_storeCells_at P g 0 5 (byteCells (s.data.toList.take n)) 0 cur w hg (by rw [hlen]; omega) (byteCells_one _)
  rw [hlen] at hst
  simp only [Nat.add_zero, Nat.zero_add, List.take_zero, List.nil_append] at hst
  have htk : List.take (Nat.min s.size n) (List.map (fun b : UInt8 => Value.int IntKind.u8 (b.toNat : Int)) s.data.toList) = byteCells (s.data.toList.take n) := by
    unfold byteCells
    rw [← List.map_take]
    congr 1
    rw [size_eq]
    apply List.ext_getElem?
    intro i
    rw [List.getElem?_take, List.getElem?_take]
    by_cases h1 : i < n
    · by_cases h2 : i < s.data.toList.length
      · rw [if_pos h1, if_pos (show i < Nat.min s.data.toList.length n from Nat.lt_min.2 ⟨h2, h1⟩)]
      · rw [if_pos h1, if_neg (show ¬ i < Nat.min s.data.toList.length n from fun h => h2 (Nat.lt_min.1 h).1), List.getElem?_eq_none (by omega)]
    · rw [if_neg h1, if_neg (show ¬ i < Nat.min s.data.toList.length n from fun h => h1 (Nat.lt_min.1 h).2)]
  cases hq : P.info? elem with
  | none => simp [hq] at hs
  | some i =>
    simp [Builtin.copy_, run_underlying hu, Builtin.lenOf, Builtin.firstCells, sizeOf, typeInfo, hq]
    rw [htk, hst]
    simp [Result.andThen]
end Go.Proofs.Ytdhajlkiiphlfaa.Par
namespace Go.Proofs.Ytdhajlkiiphlfaa.Par
open Go.RowKit Go.Lib Go.Proofs.Ytdhajlkiiphlfaa.QBaseParityWide Go.Proofs.YtdhajlkiiphlfaaW.PrintWords Go.Proofs.YtdhajlkiiphlfaaW.PrintLast Go.Proofs.YtdhajlkiiphlfaaW.PrintMore Go.Proofs.Ytdhajlkiiphlfaa.Solve
set_option linter.unusedVariables false
set_option linter.unusedSimpArgs false
theorem made_zeros (n : Nat) : madeCells #[.int .u8 0] n = bytesV (zeros n) := by
  unfold bytesV zeros
  rw [made_rep, List.map_replicate]
theorem fit_cells (r : List Int) (s : ByteArray) : (byteCells (s.data.toList.take r.length) ++ (bytesV (zeros r.length)).toList.drop (min s.size r.length)).toArray = bytesV (fitR r (bytesOf s)) := by
  unfold bytesV fitR
  congr 1
  rw [List.map_append]
  congr 1
  · unfold byteCells bytesOf
    rw [← List.map_take, List.map_map]; rfl
  · unfold zeros
    rw [List.map_replicate, List.map_replicate, List.toList_toArray, List.drop_replicate, bytesOf_length]
    congr 1
    omega
theorem fit_nil (r : List Int) : fitR r [] = zeros r.length := by unfold fitR; simp
/-- copy of a text, in a walk -/
theorem wpList_copy_str {P : Program} {w : World} {ops : Array Oper} {rest : List Oper} {o : Oper} {a : Act} {Q : Exit → Act → World → Prop} (hgd : o.guard = none) (d s : Operand) (dT sT : TypeId)
    (ho : o.op = .call { callee := .builtin .copy, args := #[d, s], argTypes := #[dT, sT] }) {elem : TypeId} (hu : P.underlying dT = some (.slice elem)) (hsz : (P.info? elem).map (·.size) = some 1)
    {g n : Nat} {str : ByteArray} {cur : Array Value} (hd : a.eval d = .slice (some ⟨g, 0, none⟩) n n) (hs : a.eval s = .string str) (hg : w.heap[g]? = some (.cells cur 5 (0, 0))) (hn : cur.size = n)
    (h : ∀ v, wpList P ops Q rest (a.put o.dst v) (w.setRow g (byteCells (str.data.toList.take n) ++ cur.toList.drop (min str.size n)).toArray)) : wpList P ops Q (o :: rest) a w := by
  refine wpList_plain hgd fun K hK => ?_
  have hrun := copy_str (P := P) w dT sT o.type elem g n str cur hu hsz hg hn
  unfold Oper.wp
  simp [execOp, ho, resolve, invoke, builtin, hd, hs, hrun, Result.andThen]
  exact hK _ _ (h _)
theorem madeCells_size (n : Nat) : (bytesV (zeros n)).size = n := by rw [← made_zeros, size_madeCells]
/-- r xor b, done as far as k -/
def mixR (r b : List Int) (k : Nat) : List Int := (xorR r b).take k ++ (zeros r.length).drop k
theorem mixR_zero (r b : List Int) : mixR r b 0 = zeros r.length := rfl
theorem mixR_end {r b : List Int} (h : b.length = r.length) : mixR r b r.length = xorR r b := by
  unfold mixR
  rw [List.take_of_length_le (by rw [xorR_length h]; exact Nat.le_refl _), List.drop_eq_nil_of_le (by rw [zeros_length]; exact Nat.le_refl _), List.append_nil]
theorem mixR_set {r b : List Int} (h : b.length = r.length) {k : Nat} (hk : k < r.length) : (mixR r b k).set k (xorZ (r.getD k 0) (b.getD k 0)) = mixR r b (k + 1) := by
  have hx := xorR_length h
  have e : xorZ (r.getD k 0) (b.getD k 0) = (xorR r b)[k]'(by omega) := by rw [← xorR_get h, List.getD_eq_getElem?_getD, List.getElem?_eq_getElem (by omega)]; rfl
  unfold mixR
  rw [e, take_one _ (show k < (xorR r b).length by omega), List.append_assoc, List.set_append_right _ _ (by rw [List.length_take]; omega), List.length_take, Nat.min_eq_left (by omega), Nat.sub_self]
  congr 1
  rw [List.drop_eq_getElem_cons (by rw [zeros_length]; exact hk)]
  rfl
theorem mixR_length {r b : List Int} (h : b.length = r.length) (k : Nat) : (mixR r b k).length = r.length := by
  have hx := xorR_length h
  unfold mixR; rw [List.length_append, List.length_take, List.length_drop, zeros_length, hx]; omega
theorem bytesOf_in (s : ByteArray) : ∀ y ∈ bytesOf s, In8 y := by
  intro y hy
  unfold bytesOf at hy
  obtain ⟨b, _, rfl⟩ := List.mem_map.1 hy
  exact In8.of b.toNat_lt
theorem fitR_in (r : List Int) (s : ByteArray) : ∀ y ∈ fitR r (bytesOf s), In8 y := by
  intro y hy
  unfold fitR at hy
  rcases List.mem_append.1 hy with h | h
  · exact bytesOf_in s y (List.mem_of_mem_take h)
  · exact zeros_in _ y h
theorem xorR_in {r b : List Int} (hr : ∀ y ∈ r, In8 y) (hb : ∀ y ∈ b, In8 y) : ∀ y ∈ xorR r b, In8 y := by
  intro y hy
  unfold xorR at hy
  rw [List.mem_iff_getElem?] at hy
  obtain ⟨k, hk⟩ := hy
  rw [List.getElem?_zipWith] at hk
  split at hk
  · rename_i x z hx hz
    cases hk
    exact xorZ_in (hr _ (List.mem_of_getElem? hx)) (hb _ (List.mem_of_getElem? hz))
  · cases hk
theorem colR_in {x : Nat} {r : List Int} (hr : ∀ y ∈ r, In8 y) : ∀ y ∈ colR x r, In8 y := by
  intro y hy
  unfold colR at hy
  split at hy
  · rw [List.mem_singleton.1 hy]; exact getD_in hr x
  · simp at hy
theorem row5_bytes {w : World} {g : Nat} {l : List Int} (h : w.heap[g]? = some (.cells (bytesV l) 5 (0, 0))) (hl : l.length ≤ 281474976710656) : Row5 w (some ⟨g, 0, none⟩, l.length, l.length) l :=
  ⟨rfl, Nat.le_refl _, hl, fun _ => ⟨g, 0, _, _, rfl, h, fun x y hx => by rw [Nat.zero_add, bytesV_get, hx]; rfl⟩⟩
theorem row5_empty (w : World) (A : Option Addr) : Row5 w (A, 0, 0) [] := ⟨rfl, Nat.le_refl _, by decide, fun h => absurd h (by decide)⟩
theorem row5_own {w : World} {base n c : Nat} {A : Option Addr} {l : List Int} (h : w.ownsRow base 5 1 (.slice A n c) l.length (nums .u8 l)) (hl : l.length ≤ 281474976710656) : Row5 w (A, n, c) l ∧ n = l.length := by
  rcases h with ⟨hlen, ⟨e, hz⟩ | ⟨g, cap, cur, e, hg, hh, hnc, hcm, hcs, htk⟩⟩
  · injection e with e1 e2 e3
    subst e1; subst e2; subst e3
    have hl0 : l = [] := List.eq_nil_of_length_eq_zero hz
    subst hl0
    exact ⟨row5_empty w none, rfl⟩
  · injection e with e1 e2 e3
    subst e1; subst e2; subst e3
    refine ⟨⟨rfl, hnc, hl, fun _ => ⟨g, 0, _, _, rfl, hh, fun x y hx => ?_⟩⟩, rfl⟩
    have hlt := (List.getElem?_eq_some_iff.1 hx).1
    have h2 := congrArg (fun q : List Value => q[x]?) htk
    simp only [Nat.mul_one] at h2
    rw [List.getElem?_take, if_pos hlt] at h2
    unfold nums at h2
    rw [List.getElem?_map, hx] at h2
    rw [Nat.zero_add, ← Array.getElem?_toList]
    exact h2
end Go.Proofs.Ytdhajlkiiphlfaa.Par
/-! ParitySums, walked -/
namespace Go.Proofs.Ytdhajlkiiphlfaa.Par
open Go.RowKit Go.Proofs.Ytdhajlkiiphlfaa.QBaseParityWide Go.Proofs.YtdhajlkiiphlfaaW.PrintWords Go.Proofs.YtdhajlkiiphlfaaW.PrintLast Go.Proofs.YtdhajlkiiphlfaaW.PrintMore Go.Proofs.Ytdhajlkiiphlfaa.Solve
set_option linter.unusedVariables false
set_option linter.unusedSimpArgs false
theorem Sm.rowsC {w0 w : World} {A : Option Addr} {n q : Nat} {v13 v14 v15 : Value} {h10 h13 h14 h15 : List Hdr} {a b s c : List (List Int)} (h : Sm w0 w (.slice A n q) v13 v14 v15 h10 h13 h14 h15 a b s c) : Kd.C (Kd.slice 5 (Kd.int .u8)) w A n a :=
  (show Rows5 w h10 a from h.r 0 (by decide)).toC (h.o 0 (by decide))
def mB (m : List ByteArray) (t : Nat) : List Int := bytesOf (m.getD t ByteArray.empty)
def bR (rows : List (List Int)) (m : List ByteArray) (t : Nat) : List Int := fitR (rows.getD t []) (mB m t)
def bs (rows : List (List Int)) (m : List ByteArray) (i : Nat) : List (List Int) := (List.range i).map (bR rows m)
def zs (rows : List (List Int)) (m : List ByteArray) (i : Nat) : List (List Int) := (List.range i).map fun t => xorR (rows.getD t []) (bR rows m t)
theorem bs_snoc (rows : List (List Int)) (m : List ByteArray) (i : Nat) : bs rows m (i + 1) = bs rows m i ++ [bR rows m i] := by unfold bs; rw [List.range_succ, List.map_append]; rfl
theorem zs_snoc (rows : List (List Int)) (m : List ByteArray) (i : Nat) : zs rows m (i + 1) = zs rows m i ++ [xorR (rows.getD i []) (bR rows m i)] := by unfold zs; rw [List.range_succ, List.map_append]; rfl
theorem bs_length (rows : List (List Int)) (m : List ByteArray) (i : Nat) : (bs rows m i).length = i := by unfold bs; rw [List.length_map, List.length_range]
theorem zs_length (rows : List (List Int)) (m : List ByteArray) (i : Nat) : (zs rows m i).length = i := by unfold zs; rw [List.length_map, List.length_range]
theorem bR_length (rows : List (List Int)) (m : List ByteArray) (t : Nat) : (bR rows m t).length = (rows.getD t []).length := fitR_length _ _
theorem bs_in (rows : List (List Int)) (m : List ByteArray) : ∀ r ∈ bs rows m rows.length, ∀ y ∈ r, In8 y := by
  intro r hr
  obtain ⟨t, _, rfl⟩ := List.mem_map.1 hr
  exact fitR_in _ _
theorem zs_in (rows : List (List Int)) (m : List ByteArray) (h : ∀ r ∈ rows, ∀ y ∈ r, In8 y) : ∀ r ∈ zs rows m rows.length, ∀ y ∈ r, In8 y := by
  intro r hr
  obtain ⟨t, _, rfl⟩ := List.mem_map.1 hr
  exact xorR_in (getD_rows h t) (fitR_in _ _)
theorem cs_in (rows : List (List Int)) (k : Nat) (h : ∀ r ∈ rows, ∀ y ∈ r, In8 y) : ∀ r ∈ rows.map (colR k), ∀ y ∈ r, In8 y := by
  intro r hr
  obtain ⟨t, ht, rfl⟩ := List.mem_map.1 hr
  exact colR_in (h t ht)
theorem lens_of (rows : List (List Int)) (f : Nat → List Int) (h : ∀ t, (f t).length = (rows.getD t []).length) : ((List.range rows.length).map f).map List.length = rows.map List.length := by
  apply List.ext_getElem?
  intro i
  rw [List.getElem?_map, List.getElem?_map, List.getElem?_map]
  by_cases hi : i < rows.length
  · rw [List.getElem?_range hi, List.getElem?_eq_getElem hi]
    simp only [Option.map_some]
    rw [h i, List.getD_eq_getElem?_getD, List.getElem?_eq_getElem hi]; rfl
  · rw [List.getElem?_eq_none (by rw [List.length_range]; omega), List.getElem?_eq_none (by omega)]; rfl
theorem bs_lens (rows : List (List Int)) (m : List ByteArray) : (bs rows m rows.length).map List.length = rows.map List.length := lens_of rows _ (bR_length rows m)
theorem zs_lens (rows : List (List Int)) (m : List ByteArray) : (zs rows m rows.length).map List.length = rows.map List.length := lens_of rows _ fun t => xorR_length (bR_length rows m t)
theorem Sm.rowAt {w0 w : World} {ad : Addr} {q : Nat} {v13 v14 v15 : Value} {h10 h13 h14 h15 : List Hdr} {a b s c : List (List Int)} (h : Sm w0 w (.slice (some ad) a.length q) v13 v14 v15 h10 h13 h14 h15 a b s c) {i : Nat} (hi : i < a.length) (hl : a.length ≤ 200) {r : List Int} (hr : a.getD i [] = r) :
    ∃ A c, w.cell? (ad.add i) = some (.slice A r.length c) ∧ r.length ≤ c ∧ Kd.C (Kd.int .u8) w A r.length r := by
  obtain ⟨ad', A2, c2, e2, hx2, hl2, hC2⟩ := at_L2 h.rowsC (i : Int) (by omega) (by omega)
  cases e2
  rw [rdL_nat, hr] at hx2 hl2 hC2
  rw [Int.toNat_natCast] at hx2
  exact ⟨A2, c2, hx2, hl2, hC2⟩
theorem Sm.n13 {w0 w : World} {v10 v13 v14 v15 : Value} {h10 h13 h14 h15 : List Hdr} {a b s c : List (List Int)} (h : Sm w0 w v10 v13 v14 v15 h10 h13 h14 h15 a b s c) : h13.length = b.length := (h.r 1 (by decide)).len
theorem Sm.n14 {w0 w : World} {v10 v13 v14 v15 : Value} {h10 h13 h14 h15 : List Hdr} {a b s c : List (List Int)} (h : Sm w0 w v10 v13 v14 v15 h10 h13 h14 h15 a b s c) : h14.length = s.length := (h.r 2 (by decide)).len
theorem Sm.n15 {w0 w : World} {v10 v13 v14 v15 : Value} {h10 h13 h14 h15 : List Hdr} {a b s c : List (List Int)} (h : Sm w0 w v10 v13 v14 v15 h10 h13 h14 h15 a b s c) : h15.length = c.length := (h.r 3 (by decide)).len
theorem Sm.keep {w0 w w' : World} {v10 v13 v14 v15 : Value} {h10 h13 h14 h15 : List Hdr} {a b s c : List (List Int)} (h : Sm w0 w v10 v13 v14 v15 h10 h13 h14 h15 a b s c) (q : Nat) (hq : q < 4) (hg : w.grownBy w' (four v10 v13 v14 v15 q).ownBlock) : Same5 w w' :=
  Same5.of_grown hg (fun k cells f hk => ne5 (by decide) (h.o q hq) hk)
theorem Cu.toC {w : World} {base g b : Nat} {m : List (List Int)} (h : Cu w base g b m) : Kd.C (Kd.slice 5 (Kd.int .u8)) w (some ⟨g, 0, none⟩) m.length m := by
  obtain ⟨hs, hh, hdt⟩ := h.toDt
  have hl : hs.length = m.length := hdt.len
  have hf := h.few
  have ho : w.ownsRow base 41 1 (.slice (some ⟨g, 0, none⟩) m.length m.length) hs.length (encs hdV hs) :=
    ⟨by simp [encs], .inr ⟨g, m.length, _, by rw [hl], h.hg, hh, by omega, by unfold maxLen; omega, by simp [encs, hl], by rw [Nat.mul_one, List.toList_toArray, List.take_of_length_le (by simp [encs, hl])]⟩⟩
  exact hdt.rows5.toC ho
theorem Sm.reads13 {w0 w : World} {v10 v13 v14 v15 : Value} {h10 h13 h14 h15 : List Hdr} {a b s c : List (List Int)} (h : Sm w0 w v10 v13 v14 v15 h10 h13 h14 h15 a b s c) : ∃ A q, v13 = .slice A b.length q ∧ b.length ≤ q ∧ Kd.C (Kd.slice 5 (Kd.int .u8)) w A b.length b := by
  have ho : w.ownsRow w0.heap.size 41 1 v13 h13.length (encs hdV h13) := h.o 1 (by decide)
  obtain ⟨A, q, e⟩ := own_form ho
  subst e
  have h1 := own_le ho
  have h2 := (show Rows5 w h13 b from h.r 1 (by decide)).toC ho
  rw [h.n13] at h1 h2 ⊢
  exact ⟨A, q, rfl, h1, h2⟩
theorem Sm.reads14 {w0 w : World} {v10 v13 v14 v15 : Value} {h10 h13 h14 h15 : List Hdr} {a b s c : List (List Int)} (h : Sm w0 w v10 v13 v14 v15 h10 h13 h14 h15 a b s c) : ∃ A q, v14 = .slice A s.length q ∧ s.length ≤ q ∧ Kd.C (Kd.slice 5 (Kd.int .u8)) w A s.length s := by
  have ho : w.ownsRow w0.heap.size 41 1 v14 h14.length (encs hdV h14) := h.o 2 (by decide)
  obtain ⟨A, q, e⟩ := own_form ho
  subst e
  have h1 := own_le ho
  have h2 := (show Rows5 w h14 s from h.r 2 (by decide)).toC ho
  rw [h.n14] at h1 h2 ⊢
  exact ⟨A, q, rfl, h1, h2⟩
theorem Sm.reads15 {w0 w : World} {v10 v13 v14 v15 : Value} {h10 h13 h14 h15 : List Hdr} {a b s c : List (List Int)} (h : Sm w0 w v10 v13 v14 v15 h10 h13 h14 h15 a b s c) : ∃ A q, v15 = .slice A c.length q ∧ c.length ≤ q ∧ Kd.C (Kd.slice 5 (Kd.int .u8)) w A c.length c := by
  have ho : w.ownsRow w0.heap.size 41 1 v15 h15.length (encs hdV h15) := h.o 3 (by decide)
  obtain ⟨A, q, e⟩ := own_form ho
  subst e
  have h1 := own_le ho
  have h2 := (show Rows5 w h15 c from h.r 3 (by decide)).toC ho
  rw [h.n15] at h1 h2 ⊢
  exact ⟨A, q, rfl, h1, h2⟩
/-- all that the law needs of the four -/
structure Fine (rows B Z C : List (List Int)) (k : Nat) : Prop where
  lb : B.length = rows.length
  lz : Z.length = rows.length
  lc : C.length = rows.length
  ib : ∀ r ∈ B, ∀ y ∈ r, In8 y
  iz : ∀ r ∈ Z, ∀ y ∈ r, In8 y
  ic : ∀ r ∈ C, ∀ y ∈ r, In8 y
  wb : widthL B = widthL rows
  wz : widthL Z = widthL rows
  wc : widthL C = if k < widthL rows then 1 else 0
  fb : ∀ r ∈ B, r.length ≤ 16777216
  fz : ∀ r ∈ Z, r.length ≤ 16777216
  fc : ∀ r ∈ C, r.length ≤ 16777216
  sum : ∀ i q, q < widthL rows → (moreRow Z i).getD q 0 = xorZ ((moreRow rows i).getD q 0) ((moreRow B i).getD q 0)
  col : k < widthL rows → ∀ i, (moreRow C i).getD 0 0 = (moreRow rows i).getD k 0
theorem small_of {a b : List (List Int)} (h : b.map List.length = a.map List.length) (ha : ∀ r ∈ a, r.length ≤ 16777216) : ∀ r ∈ b, r.length ≤ 16777216 := by
  intro r hr
  have : r.length ∈ a.map List.length := by rw [← h]; exact List.mem_map_of_mem hr
  obtain ⟨x, hx, e⟩ := List.mem_map.1 this
  rw [← e]; exact ha x hx
theorem range_getD (f : Nat → List Int) {n t : Nat} (ht : t < n) : ((List.range n).map f).getD t [] = f t := by
  rw [List.getD_eq_getElem?_getD, List.getElem?_map, List.getElem?_range ht]; rfl
theorem fine (rows : List (List Int)) (m : List ByteArray) (k : Nat) (hn : rows.length ≤ 200) (hin : ∀ r ∈ rows, ∀ y ∈ r, In8 y) (hs : ∀ r ∈ rows, r.length ≤ 16777216) : Fine rows (bs rows m rows.length) (zs rows m rows.length) (rows.map (colR k)) k := by
  have wb : widthL (bs rows m rows.length) = widthL rows := by unfold widthL; rw [bs_lens]
  have wz : widthL (zs rows m rows.length) = widthL rows := by unfold widthL; rw [zs_lens]
  have wc : widthL (rows.map (colR k)) = if k < widthL rows then 1 else 0 := colR_wide k rows
  refine ⟨bs_length _ _ _, zs_length _ _ _, List.length_map _, bs_in rows m, zs_in rows m hin, cs_in rows k hin, wb, wz, wc, small_of (bs_lens rows m) hs, small_of (zs_lens rows m) hs, ?_, ?_, ?_⟩
  · intro r hr
    obtain ⟨x, _, rfl⟩ := List.mem_map.1 hr
    unfold colR
    split <;> simp
  · intro i q hq
    refine more_sum hin (bs_in rows m) (zs_in rows m hin) (by omega) (bs_length _ _ _) (zs_length _ _ _) wb wz (fun t ht x => ?_) i hq
    unfold zs bs
    rw [range_getD _ ht, range_getD _ ht, xorR_get (bR_length rows m t)]
  · intro hk i
    refine more_col hin (cs_in rows k hin) (by omega) (List.length_map _) hk (by rw [wc, if_pos hk]; decide) (fun t ht => ?_) i
    rw [List.getD_eq_getElem?_getD (l := rows.map (colR k)), List.getElem?_map, List.getElem?_eq_getElem ht]
    show (colR k rows[t]).getD 0 0 = _
    rw [colR_get, List.getD_eq_getElem?_getD (l := rows), List.getElem?_eq_getElem ht]; rfl
theorem made_at {w : World} {g p : Nat} {X : List (List Int)} (h : Kd.C (Kd.slice 5 (Kd.int .u8)) w (some ⟨g, 0, none⟩) p (madeL X p)) {i n : Nat} (hi : i < p) (hp : p ≤ 16) (hn : widthL X = n) :
    ∃ A c, w.cell? ⟨g, i, none⟩ = some (.slice A n c) ∧ n ≤ c ∧ Kd.C (Kd.int .u8) w A n (moreRow X i) := by
  obtain ⟨ad, A2, c2, e2, hx2, hl2, hC2⟩ := at_L2 h (i : Int) (by omega) (by omega)
  cases e2
  have hg : (madeL X p).getD i [] = moreRow X i := range_getD _ hi
  rw [rdL_nat, hg, moreRow_length, hn] at hx2 hl2 hC2
  rw [Int.toNat_natCast, add_plain] at hx2
  exact ⟨A2, c2, hx2, hl2, hC2⟩
theorem sums_start {w0 w1 w : World} {v10 : Value} {h10 : List Hdr} {m : List (List Int)} (h : RoA w0 w1 v10 h10 m) (hb : Below w1.heap.size w1 w) : Sm w0 w v10 (.slice none 0 0) (.slice none 0 0) (.slice none 0 0) h10 [] [] [] m [] [] [] := by
  refine ⟨below_then h.below h.below.size hb, fun i hi => ?_, fun i hi => ?_, fun i j hi hj hij => ?_⟩
  · match i, hi with
    | 0, _ => exact own_below5 h.own hb
    | 1, _ => exact ⟨rfl, .inl ⟨rfl, rfl⟩⟩
    | 2, _ => exact ⟨rfl, .inl ⟨rfl, rfl⟩⟩
    | 3, _ => exact ⟨rfl, .inl ⟨rfl, rfl⟩⟩
  · match i, hi with
    | 0, _ => exact h.rows.move (Same5.of_below hb)
    | 1, _ => exact Rows5.nil _
    | 2, _ => exact Rows5.nil _
    | 3, _ => exact Rows5.nil _
  · match i, j, hi, hj with
    | 0, 0, _, _ => exact absurd rfl hij
    | 0, n + 1, _, _ =>
      have hn : (four v10 (Value.slice none 0 0) (.slice none 0 0) (.slice none 0 0) (n + 1)).ownBlock = none := by
        match n with
        | 0 => rfl
        | 1 => rfl
        | n + 2 => rfl
      rw [hn]
      exact Classical.em _
    | 1, _, _, _ => exact .inl rfl
    | 2, _, _, _ => exact .inl rfl
    | 3, _, _, _ => exact .inl rfl
set_option maxHeartbeats 800000 in
set_option maxRecDepth 100000 in
theorem sums_calls (A0 A1 : Option Addr) (c0 c1 : Nat) (l m : List ByteArray) (a x0 : Int) (w : World) (hr0 : Kd.C Kd.string w A0 l.length l) (hl : l.length ≤ 140737488355328) (hr1 : Kd.C Kd.string w A1 m.length m) (hm : m.length ≤ 140737488355328)
    (ha1 : -9223372036854775808 ≤ a) (ha2 : a ≤ 9223372036854775807) (hx1 : -9223372036854775808 ≤ x0) (hx2 : x0 ≤ 9223372036854775807) :
    Calls Try.prog 6 #[.slice A0 l.length c0, .slice A1 m.length c1, .int .i64 a, .int .i64 x0] w fun e w' => e = .returned (.bool true) ∧ Below w.heap.size w w' := by
  obtain ⟨p, hp17, hpf⟩ := pick_f a 17 (by decide) ha1 ha2
  have HPF : Aside0 (dailieslaw05_pick.f a 17 = some (p : Int)) := ⟨hpf⟩
  have HR0 := Aside0.mk hr0
  have HL := Aside0.mk hl
  have HRM := Aside0.mk hr1
  have HM := Aside0.mk hm
  have HX0 := Aside0.mk (And.intro hx1 hx2)
  have HP := Aside0.mk (show p ≤ 16 by omega)
  clear hr0 hl ha1 ha2 hr1 hm hx1 hx2 hpf hp17
  go_enter Try.func6, Try.ntmps6
  go_wp2_with (first
    | (go_at_call 9; (with_reducible refine (awake_calls _).mono ?_); rintro e w1 ⟨rfl, hb⟩; have HB1 := Aside0.mk hb; have HR1 := Aside0.mk (Kd.C_below HR0.out hb); clear hb)
    | (go_at_call 10; (with_reducible refine (weight_calls _ _ _ _ HR1.out HL.out).mono ?_); rintro e w2 ⟨⟨x, rfl⟩, hb⟩; have HB2 := Aside0.mk (below_step HB1.out hb); have HR3 := Aside0.mk (Kd.C_below HR1.out hb); obtain ⟨t, ht⟩ : ∃ t : Bool, decide (2147483647 < x) = t := ⟨_, rfl⟩; clear hb)
    | (go_at_call 13; (with_reducible refine (rowsOf_calls _ _ _ _ HR3.out HL.out).mono ?_); rintro e w3 ⟨v8, h8, rfl, hro⟩; obtain ⟨A8, c8, rfl, hc8, hC8⟩ := hro.reads; have HRO := Aside0.mk hro; have HC8 := Aside0.mk hC8; have HH8 := Aside0.mk hc8; clear hro hC8 hc8)
    | (go_at_call 14; (with_reducible refine (dailieslaw05_pick.calls a 17 (p : Int) _ HPF.out).mono ?_); rintro e w4 ⟨rfl, ⟨nd, rfl⟩⟩))
  · go_ret
    exact ⟨rfl, HB2.out⟩
  have HRL := Aside0.mk (rowsB_len l)
  have HRI := Aside0.mk (rowsB_in l)
  have HRS := Aside0.mk (rowsB_small l)
  clear HR0 HR1 HR3 HB1 HPF ht HL
  generalize rowsB l = rows at *
  have HB4 : Aside0 (Below w3.heap.size w3 (w3.drewN nd)) := ⟨pw_below_drewN (Below.refl _ _) _⟩
  generalize w3.drewN nd = w4 at *
  go_loopw [11, 12] (fun v11 v12 wr => ∃ i : Nat, i ≤ rows.length ∧ v11 = .int .i64 ((widthL (rows.take i) : Nat) : Int) ∧ v12 = .int .i64 (i : Int) ∧ Aside0 (Below w3.heap.size w3 wr)) (fun _ v12 _ => rows.length - (intOf v12).toNat)
  case atStart => exact ⟨0, Nat.zero_le _, rfl, rfl, HB4⟩
  case round =>
    clear HB4
    obtain ⟨i, hi, rfl, rfl, HB4⟩ := hrel
    by_cases hlt : i < rows.length
    · --{ 1
      have hd1 : decide ((i : Int) < (rows.length : Int)) = true := decide_eq_true (by omega)
      have hd1' : decide (i < rows.length) = true := decide_eq_true hlt
      obtain ⟨ad, A2, c2, e2, hx2, hl2, hC2⟩ := at_L2 (Kd.C_below HC8.out HB4.out) (i : Int) (by omega) (by omega)
      cases e2
      rw [rdL_nat] at hx2
      rw [Int.toNat_natCast] at hx2
      have HTK := Aside0.mk (take_one rows hlt)
      have hge : rows.getD i [] = rows[i] := by rw [List.getD_eq_getElem?_getD, List.getElem?_eq_getElem hlt]; rfl
      rw [hge] at hx2
      generalize rows[i] = r at *
      obtain ⟨mx, hmx, hmx2⟩ := max_letter (widthL (rows.take i)) r.length
      have HMX := Aside0.mk hmx2
      have HW1 := Aside0.mk (wr1 (i := i) hlt (by have := HRL.out; omega))
      have HLT := Aside0.mk hlt
      have hli : (i : Int) < (rows.length : Int) := by omega
      clear hge hlt hi hmx2 hl2 hC2
      go_wp2
      go_roundw
      case rel => exact ⟨i + 1, HLT.out, by rw [HTK.out, widthL_snoc, ← HMX.out], by rw [HW1.out], HB4⟩
      case measure => exact meas HW1.out HLT.out
      --}
    · have hd1 : decide ((i : Int) < (rows.length : Int)) = false := decide_eq_false (by omega)
      have hd1' : decide (i < rows.length) = false := decide_eq_false hlt
      obtain rfl : i = rows.length := by omega
      rw [List.take_of_length_le (Nat.le_refl _)]
      clear hlt hi
      have HWL : Aside0 (widthL rows ≤ 16777216) := ⟨wideN_le (fun x hx => by obtain ⟨r, hr, rfl⟩ := List.mem_map.1 hx; exact HRS.out r hr)⟩
      obtain ⟨k, hk, hkf⟩ := pick_f x0 (widthL rows + 1) (by omega) HX0.out.1 HX0.out.2
      have HKF : Aside0 (dailieslaw05_pick.f x0 ((widthL rows : Int) + 1) = some (k : Int)) := ⟨by have h := hkf; rwa [Int.natCast_add] at h⟩
      have HK := Aside0.mk (show k ≤ widthL rows by omega)
      have hwr : wrap64 ((widthL rows : Int) + 1) = (widthL rows : Int) + 1 := by have := HWL.out; unfold wrap64; omega
      clear hk hkf
      go_wp2_with (first
        | (go_at_call 14; (with_reducible refine (dailieslaw05_pick.calls _ _ (k : Int) _ HKF.out).mono ?_); rintro e w5 ⟨rfl, ⟨nd5, rfl⟩⟩))
      have HSM : Aside0 (Sm w2 (wr.drewN nd5) (.slice A8 rows.length c8) (.slice none 0 0) (.slice none 0 0) (.slice none 0 0) h8 [] [] [] rows [] [] []) := ⟨sums_start HRO.out (pw_below_drewN HB4.out _)⟩
      clear HB4 HRO HC8 HKF HX0 hwr
      generalize wr.drewN nd5 = w5 at *
      go_loopw [13, 14, 15, 16] (fun v13 v14 v15 v16 wr => ∃ (i : Nat) (x13 x14 x15 : Value) (h13 h14 h15 : List Hdr), i ≤ rows.length ∧ x13 = v13 ∧ x14 = v14 ∧ x15 = v15 ∧ v16 = .int .i64 (i : Int) ∧ Aside0 (Sm w2 wr (.slice A8 rows.length c8) x13 x14 x15 h8 h13 h14 h15 rows (bs rows m i) (zs rows m i) ((rows.take i).map (colR k)))) (fun _ _ _ v16 _ => rows.length - (intOf v16).toNat)
      case atStart => exact ⟨0, _, _, _, _, _, _, Nat.zero_le _, rfl, rfl, rfl, rfl, HSM⟩
      case round =>
        clear HSM
        obtain ⟨i, x13, x14, x15, h13, h14, h15, hi, rfl, rfl, rfl, rfl, HSM⟩ := hrel
        by_cases hlt : i < rows.length
        · --{ 2
          have hd1 : decide ((i : Int) < (rows.length : Int)) = true := decide_eq_true (by omega)
          have hd1' : decide (i < rows.length) = true := decide_eq_true hlt
          obtain ⟨ad, A2, c2, e2, hx2, hl2, hC2⟩ := at_L2 HSM.out.rowsC (i : Int) (by omega) (by omega)
          cases e2
          rw [rdL_nat] at hx2 hl2 hC2
          rw [Int.toNat_natCast] at hx2
          have hrl : (rows.getD i []).length ≤ 16777216 := HRS.out _ (getD_mem hlt)
          have hri := HRI.out _ (getD_mem (d := []) hlt)
          have hmk := print_make_of (P := Try.prog) 41 5 (.int .u8 0) 1 Try.underlying41 info5' rfl (by decide) (rows.getD i []).length (by omega)
          have HTK : Aside0 (rows.take (i + 1) = rows.take i ++ [rows.getD i []]) := ⟨by rw [take_one rows hlt, List.getD_eq_getElem?_getD, List.getElem?_eq_getElem hlt]; rfl⟩
          have hli : (i : Int) < (rows.length : Int) := by omega
          have HB0 := Aside0.mk (show bR rows m i = fitR (rows.getD i []) (mB m i) from rfl)
          generalize hR : rows.getD i [] = r at *
          have HRE := Aside0.mk hR
          have hx3 := fun o => cell_below5 (below_alloc (Below.refl wr.heap.size wr) o) hx2
          have hx4 := fun o o' => cell_below5 (below_alloc (below_alloc (Below.refl wr.heap.size wr) o) o') hx2
          go_upto_if 78 with (fail)
          go_cut [] from 78 to 84 (fun wx => Aside0 (Below wr.heap.size wr wx ∧ wx.heap[wr.heap.size]? = some (.cells (bytesV (bR rows m i)) 5 (0, 0)) ∧ wx.heap[wr.heap.size + 1]? = some (.cells (bytesV (zeros r.length)) 5 (0, 0))))
          case first =>
            by_cases him : i < m.length
            · have hd2 : decide ((i : Int) < (m.length : Int)) = true := decide_eq_true (by omega)
              have hd2' : decide (i < m.length) = true := decide_eq_true him
              rw [hd2']
              obtain ⟨ad1, rfl, hc⟩ := Kd.at_string HRM.out (i : Int) (by omega) (by omega)
              rw [Int.toNat_natCast] at hc
              have hrd : rdOf ByteArray.empty m (i : Int) = m.getD i ByteArray.empty := by unfold rdOf; rw [Int.toNat_natCast]
              rw [hrd] at hc
              replace hc := cell_below5 (below_step HB2.out HSM.out.below) hc
              have hc4 := fun o o' => cell_below5 (below_alloc (below_alloc (Below.refl wr.heap.size wr) o) o') hc
              have hib : (i : Int) < (m.length : Int) := by omega
              obtain ⟨s, hse⟩ : ∃ s, m.getD i ByteArray.empty = s := ⟨_, rfl⟩
              rw [hse] at hc hc4
              have HS := Aside0.mk hse
              have hs1 : (Try.prog.info? 5).map (·.size) = some 1 := by kernel_rfl
              have HG1 : Aside0 (((wr.alloc (.cells (madeCells #[.int .u8 0] r.length) 5)).alloc (.cells (madeCells #[.int .u8 0] r.length) 5)).heap[wr.heap.size]? = some (.cells (madeCells #[.int .u8 0] r.length) 5 (0, 0))) := ⟨heap_alloc2_old _ _ _⟩
              have HG2 : Aside0 (((wr.alloc (.cells (madeCells #[.int .u8 0] r.length) 5)).alloc (.cells (madeCells #[.int .u8 0] r.length) 5)).heap[wr.heap.size + 1]? = some (.cells (madeCells #[.int .u8 0] r.length) 5 (0, 0))) := ⟨heap_alloc2_new _ _ _⟩
              clear hrd him hse
              go_wp2_with (first | ((with_reducible refine gate_builtin (b := .copy) (xs := #[.tmp 79, .tmp 83]) rfl ?_); go_loud (refine wpList_copy_str rfl (.tmp 79) (.tmp 83) 41 9 rfl Try.underlying41 hs1 (g := wr.heap.size) (n := r.length) (str := s) (cur := madeCells #[.int .u8 0] r.length) ?q1 ?q2 HG1.out ?q4 ?_); (case q1 => rfl); (case q2 => rfl); (case q4 => rw [made_zeros, madeCells_size]); intro v))
              go_meet
              refine ⟨below_setRow (below_alloc (below_alloc (Below.refl _ _) _) _) (Nat.le_refl _) _, ?_, ?_⟩
              · rw [setRow_heap _ _ _ _ _ _ HG1.out, HB0.out, mB, HS.out, made_zeros, fit_cells]
              · rw [setRow_other _ _ _ _ (by omega), HG2.out, made_zeros]
            · have hd2 : decide ((i : Int) < (m.length : Int)) = false := decide_eq_false (by omega)
              have hd2' : decide (i < m.length) = false := decide_eq_false him
              rw [hd2']
              go_wp2
              go_meet
              refine ⟨below_alloc (below_alloc (Below.refl _ _) _) _, ?_, ?_⟩
              · rw [HB0.out, show mB m i = [] from by unfold mB; rw [List.getD_eq_getElem?_getD, List.getElem?_eq_none (by omega)]; rfl, fit_nil, ← made_zeros]
                exact heap_alloc2_old _ _ _
              · rw [← made_zeros]
                exact heap_alloc2_new _ _ _
          case rest =>
            have HBL : Aside0 ((bR rows m i).length = r.length) := ⟨by rw [HB0.out, fitR_length]⟩
            have HBI : Aside0 (∀ y ∈ bR rows m i, In8 y) := ⟨by rw [HB0.out]; exact fitR_in _ _⟩
            have HC2 := Aside0.mk hC2
            have HRI1 := Aside0.mk hri
            have HRL1 := Aside0.mk hrl
            have HL2 := Aside0.mk hl2
            have HX2 := Aside0.mk hx2
            have HLT := Aside0.mk hlt
            clear hx3 hx4 hmk hC2 hri hrl hl2 hx2 hlt hi hR
            obtain ⟨wo, rfl⟩ : ∃ wo, wo = wr := ⟨_, rfl⟩
            go_wp2
            go_loopw [19] (fun v19 wz => ∃ q : Nat, q ≤ r.length ∧ v19 = .int .i64 (q : Int) ∧ Aside0 (Below wo.heap.size wo wz ∧ wz.heap[wo.heap.size]? = some (.cells (bytesV (bR rows m i)) 5 (0, 0)) ∧ wz.heap[wo.heap.size + 1]? = some (.cells (bytesV (mixR r (bR rows m i) q)) 5 (0, 0)))) (fun v19 _ => r.length - (intOf v19).toNat)
            case atStart => exact ⟨0, Nat.zero_le _, rfl, hcut⟩
            case round =>
              clear hcut
              obtain ⟨q, hq, rfl, HZ⟩ := hrel
              by_cases hql : q < r.length
              · --{ 4
                have hd3 : decide ((q : Int) < (r.length : Int)) = true := decide_eq_true (by omega)
                have hd3' : decide (q < r.length) = true := decide_eq_true hql
                have hxw := cell_below5 HZ.out.1 HX2.out
                obtain ⟨ae, rfl, hx4⟩ := Kd.at_int (Kd.C_below HC2.out HZ.out.1) (q : Int) (by omega) (by omega)
                rw [Int.toNat_natCast, rd_nat] at hx4
                have h8 : In8 (r.getD q 0) := getD_in HRI1.out q
                have hy8 : In8 ((bR rows m i).getD q 0) := getD_in HBI.out q
                have hyc : wr.cell? ⟨wo.heap.size, q, none⟩ = some (.int .u8 ((bR rows m i).getD q 0)) := by
                  rw [blk_cell HZ.out.2.1, bytesV_get, getD_get (d := 0) (by rw [HBL.out]; exact hql)]; rfl
                have hzc : wr.cell? ⟨wo.heap.size + 1, q, none⟩ = some (.int .u8 ((mixR r (bR rows m i) q).getD q 0)) := by
                  rw [blk_cell HZ.out.2.2, bytesV_get, getD_get (d := 0) (by rw [mixR_length HBL.out]; exact hql)]; rfl
                have hfz := blk_frozen HZ.out.2.2 q
                have HXX := Aside0.mk (xor_u8 h8 hy8)
                have HSET := Aside0.mk (mixR_set HBL.out hql)
                have HW1 := Aside0.mk (wr1 (i := q) hql (by have := HRL1.out; omega))
                have HQL := Aside0.mk hql
                have hqi : (q : Int) < (r.length : Int) := by omega
                generalize r.getD q 0 = ya at *
                generalize (bR rows m i).getD q 0 = yb at *
                generalize (mixR r (bR rows m i) q).getD q 0 = yz at *
                clear hql hq h8 hy8
                go_wp2_with (fail)
                go_still_tail 15, (by kernel_rfl)
                change wpList _ _ _ _ _ wr.drew
                rw [HXX.out]
                have HZ2 : Aside0 (Below wo.heap.size wo (wr.drew.setCell ⟨wo.heap.size + 1, q, none⟩ (.int .u8 (xorZ ya yb))) ∧ (wr.drew.setCell ⟨wo.heap.size + 1, q, none⟩ (.int .u8 (xorZ ya yb))).heap[wo.heap.size]? = some (.cells (bytesV (bR rows m i)) 5 (0, 0)) ∧ (wr.drew.setCell ⟨wo.heap.size + 1, q, none⟩ (.int .u8 (xorZ ya yb))).heap[wo.heap.size + 1]? = some (.cells (bytesV (mixR r (bR rows m i) (q + 1))) 5 (0, 0))) :=
                  ⟨below_set (below_drew1 HZ.out.1) (by show wo.heap.size ≤ wo.heap.size + 1; omega), blk_far HZ.out.2.1 (by show wo.heap.size ≠ wo.heap.size + 1; omega) _, by rw [blk_set (w := wr.drew) HZ.out.2.2, bytesV_set, HSET.out]⟩
                go_wp2
                go_roundw
                case rel => exact ⟨q + 1, HQL.out, by rw [HW1.out], ⟨by exact HZ2.out⟩⟩
                case measure => exact meas HW1.out HQL.out
                --}
              · --{ 5
                have hd3 : decide ((q : Int) < (r.length : Int)) = false := decide_eq_false (by omega)
                have hd3' : decide (q < r.length) = false := decide_eq_false hql
                obtain rfl : q = r.length := by omega
                rw [mixR_end HBL.out] at HZ
                clear hql hq
                have HSM1 : Aside0 (Sm w2 wr (.slice (some ad) rows.length c8) x13 x14 x15 h8 h13 h14 h15 rows (bs rows m i) (zs rows m i) ((rows.take i).map (colR k))) := ⟨HSM.out.moved HZ.out.1⟩
                have HRY : Aside0 (Row5 wr (some ⟨wo.heap.size, 0, none⟩, r.length, r.length) (bR rows m i)) := ⟨by have h := row5_bytes HZ.out.2.1 (by rw [HBL.out]; have := HRL1.out; omega); rwa [HBL.out] at h⟩
                have HRZ : Aside0 (Row5 wr (some ⟨wo.heap.size + 1, 0, none⟩, r.length, r.length) (xorR r (bR rows m i))) := ⟨by have h := row5_bytes HZ.out.2.2 (by rw [xorR_length HBL.out]; have := HRL1.out; omega); rwa [xorR_length HBL.out] at h⟩
                have HLN : Aside0 (h13.length ≤ 200 ∧ h14.length ≤ 200 ∧ h15.length ≤ 200) := ⟨by rw [HSM1.out.n13, HSM1.out.n14, HSM1.out.n15, bs_length, zs_length, List.length_map, List.length_take]; have := HLT.out; have := HRL.out; omega⟩
                have HW1 := Aside0.mk (wr1 (i := i) HLT.out (by have := HRL.out; omega))
                clear HSM
                by_cases hkr : k < r.length
                · --{ 6
                  have hd4 : decide ((k : Int) < (r.length : Int)) = true := decide_eq_true (by omega)
                  have hd4' : decide (k < r.length) = true := decide_eq_true hkr
                  obtain ⟨yk, hyk⟩ : ∃ yk, r.getD k 0 = yk := ⟨_, rfl⟩
                  have HYK := Aside0.mk hyk
                  have HCR : Aside0 (colR k r = [yk]) := ⟨by unfold colR; rw [if_pos hkr, hyk]⟩
                  have hki : (k : Int) < (r.length : Int) := by omega
                  clear hkr hyk
                  go_wp2_with (first
                    | ((with_reducible refine gate_builtin (b := .append) (xs := #[.tmp 106, .tmp 108]) rfl ?_); at_builtin; refine print_append_of (w0 := w2) hdV w2.heap.size rfl (.tmp 106) (.tmp 108) 35 41 (.slice none 0 0) 24 rfl Try.underlying35 info41' rfl (by decide) x13 h13 (some ⟨wo.heap.size, 0, none⟩, r.length, r.length) ?q1 ?q2 ?q3 (HSM1.out.o 1 (by decide)) HSM1.out.below HSM1.out.base ?q4 ?_; (case q3 => exact rfl); (case q4 => have := HLN.out; omega); (case q1 => rfl); (case q2 => rfl); intro y13 w6 hown hb hg hat; have HSM6 := Aside0.mk (HSM1.out.app13 hown hb hg hat HRY.out); have HRZ6 := Aside0.mk (HRZ.out.move (HSM1.out.keep 1 (by decide) hg)); clear hown hb hg hat)
                    | ((with_reducible refine gate_builtin (b := .append) (xs := #[.tmp 110, .tmp 112]) rfl ?_); at_builtin; refine print_append_of (w0 := w2) hdV w2.heap.size rfl (.tmp 110) (.tmp 112) 35 41 (.slice none 0 0) 24 rfl Try.underlying35 info41' rfl (by decide) x14 h14 (some ⟨wo.heap.size + 1, 0, none⟩, r.length, r.length) ?q1 ?q2 ?q3 (HSM6.out.o 2 (by decide)) HSM6.out.below HSM6.out.base ?q4 ?_; (case q3 => exact rfl); (case q4 => have := HLN.out; omega); (case q1 => rfl); (case q2 => rfl); intro y14 w7 hown hb hg hat; have HSM7 := Aside0.mk (HSM6.out.app14 hown hb hg hat HRZ6.out); obtain ⟨A3, c3, hx3, hl3, hC3⟩ := HSM7.out.rowAt HLT.out HRL.out HRE.out; have hx3' := fun o => cell_below5 (below_alloc (Below.refl w7.heap.size w7) o) hx3; obtain ⟨ae3, rfl, hx4⟩ := Kd.at_int hC3 (k : Int) (by omega) (by omega); rw [Int.toNat_natCast, rd_nat, HYK.out] at hx4; have hx4' := fun o => cell_below5 (below_alloc (Below.refl w7.heap.size w7) o) hx4; clear hown hb hg hat hC3)
                    | ((with_reducible refine gate_builtin (b := .append) (xs := #[.tmp 122, .tmp 130]) rfl ?_); at_builtin; refine print_append_num (w0 := w7) w7.heap.size rfl (.tmp 122) (.tmp 130) 41 5 .u8 1 rfl Try.underlying41 info5' (by decide) (.slice (some ⟨w7.heap.size, 0, none⟩) 0 0) [] yk ?q1 ?q2 (own_lit w7 w7.heap.size 5 .u8 [] (Nat.le_refl _) (by decide)) (below_alloc (Below.refl _ _) _) ?q3 (by decide) ?_; (case q1 => rfl); (case q2 => rw [World.size_alloc]; rfl); (case q3 => rw [World.size_alloc]; omega); intro y20 w9 hown hb hg hat; obtain ⟨A20, c20, e20⟩ : ∃ A c, y20 = .slice A 1 c := own_form hown; subst e20; have HRO := Aside0.mk (row5_own (l := [yk]) hown (by rw [List.length_singleton]; omega)).1; have HSM9 := Aside0.mk (HSM7.out.moved hb); clear hown hb hg hat)
                    | ((with_reducible refine gate_builtin (b := .append) (xs := #[.tmp 132, .tmp 134]) rfl ?_); at_builtin; refine print_append_of (w0 := w2) hdV w2.heap.size rfl (.tmp 132) (.tmp 134) 35 41 (.slice none 0 0) 24 rfl Try.underlying35 info41' rfl (by decide) x15 h15 (A20, 1, c20) ?q1 ?q2 ?q3 (HSM9.out.o 3 (by decide)) HSM9.out.below HSM9.out.base ?q4 ?_; (case q3 => exact rfl); (case q4 => have := HLN.out; omega); (case q1 => rfl); (case q2 => rfl); intro y15 w10 hown hb hg hat; have HSM10 := Aside0.mk (HSM9.out.app15 hown hb hg hat HRO.out); clear hown hb hg hat))
                  clear hx3 hx3' hl3 hx4 hx4'
                  go_roundw
                  case rel => exact ⟨i + 1, _, _, _, _, _, _, HLT.out, rfl, rfl, rfl, by rw [HW1.out], ⟨by rw [bs_snoc, zs_snoc, HRE.out, HTK.out, List.map_append, List.map_cons, List.map_nil, HCR.out]; exact HSM10.out⟩⟩
                  case measure => exact meas HW1.out HLT.out
                  --}
                · --{ 7
                  have hd4 : decide ((k : Int) < (r.length : Int)) = false := decide_eq_false (by omega)
                  have hd4' : decide (k < r.length) = false := decide_eq_false hkr
                  have HCR : Aside0 (colR k r = []) := ⟨by unfold colR; rw [if_neg hkr]⟩
                  have hki : ¬ (k : Int) < (r.length : Int) := by omega
                  clear hkr
                  go_wp2_with (first
                    | ((with_reducible refine gate_builtin (b := .append) (xs := #[.tmp 106, .tmp 108]) rfl ?_); at_builtin; refine print_append_of (w0 := w2) hdV w2.heap.size rfl (.tmp 106) (.tmp 108) 35 41 (.slice none 0 0) 24 rfl Try.underlying35 info41' rfl (by decide) x13 h13 (some ⟨wo.heap.size, 0, none⟩, r.length, r.length) ?q1 ?q2 ?q3 (HSM1.out.o 1 (by decide)) HSM1.out.below HSM1.out.base ?q4 ?_; (case q3 => exact rfl); (case q4 => have := HLN.out; omega); (case q1 => rfl); (case q2 => rfl); intro y13 w6 hown hb hg hat; have HSM6 := Aside0.mk (HSM1.out.app13 hown hb hg hat HRY.out); have HRZ6 := Aside0.mk (HRZ.out.move (HSM1.out.keep 1 (by decide) hg)); clear hown hb hg hat)
                    | ((with_reducible refine gate_builtin (b := .append) (xs := #[.tmp 110, .tmp 112]) rfl ?_); at_builtin; refine print_append_of (w0 := w2) hdV w2.heap.size rfl (.tmp 110) (.tmp 112) 35 41 (.slice none 0 0) 24 rfl Try.underlying35 info41' rfl (by decide) x14 h14 (some ⟨wo.heap.size + 1, 0, none⟩, r.length, r.length) ?q1 ?q2 ?q3 (HSM6.out.o 2 (by decide)) HSM6.out.below HSM6.out.base ?q4 ?_; (case q3 => exact rfl); (case q4 => have := HLN.out; omega); (case q1 => rfl); (case q2 => rfl); intro y14 w7 hown hb hg hat; have HSM7 := Aside0.mk (HSM6.out.app14 hown hb hg hat HRZ6.out); obtain ⟨A3, c3, hx3, hl3, hC3⟩ := HSM7.out.rowAt HLT.out HRL.out HRE.out; have hx3' := fun o => cell_below5 (below_alloc (Below.refl w7.heap.size w7) o) hx3; have HSM9 := Aside0.mk (HSM7.out.moved (below_alloc (Below.refl w7.heap.size w7) (.cells #[] 5))); clear hown hb hg hat hC3)
                    | ((with_reducible refine gate_builtin (b := .append) (xs := #[.tmp 132, .tmp 134]) rfl ?_); at_builtin; refine print_append_of (w0 := w2) hdV w2.heap.size rfl (.tmp 132) (.tmp 134) 35 41 (.slice none 0 0) 24 rfl Try.underlying35 info41' rfl (by decide) x15 h15 (some ⟨w7.heap.size, 0, none⟩, 0, 0) ?q1 ?q2 ?q3 (HSM9.out.o 3 (by decide)) HSM9.out.below HSM9.out.base ?q4 ?_; (case q3 => exact rfl); (case q4 => have := HLN.out; omega); (case q1 => rfl); (case q2 => rw [World.size_alloc]; rfl); intro y15 w10 hown hb hg hat; have HSM10 := Aside0.mk (HSM9.out.app15 hown hb hg hat (row5_empty _ _)); clear hown hb hg hat))
                  clear hx3 hx3' hl3
                  go_roundw
                  case rel => exact ⟨i + 1, _, _, _, _, _, _, HLT.out, rfl, rfl, rfl, by rw [HW1.out], ⟨by rw [bs_snoc, zs_snoc, HRE.out, HTK.out, List.map_append, List.map_cons, List.map_nil, HCR.out]; exact HSM10.out⟩⟩
                  case measure => exact meas HW1.out HLT.out
                  --}
                --}
          --}
        · --{ 3
          have hd1 : decide ((i : Int) < (rows.length : Int)) = false := decide_eq_false (by omega)
          have hd1' : decide (i < rows.length) = false := decide_eq_false hlt
          obtain rfl : i = rows.length := by omega
          rw [List.take_of_length_le (Nat.le_refl _)] at HSM
          clear hlt hi
          have HF := Aside0.mk (fine rows m k HRL.out HRI.out HRS.out)
          have HFA := Aside0.mk (rowsFit_iff.2 HRS.out)
          generalize bs rows m rows.length = B at *
          generalize zs rows m rows.length = Z at *
          generalize rows.map (colR k) = C at *
          have HFB := Aside0.mk (rowsFit_iff.2 HF.out.fb)
          have HFZ := Aside0.mk (rowsFit_iff.2 HF.out.fz)
          have HFC := Aside0.mk (rowsFit_iff.2 HF.out.fc)
          obtain ⟨A3, c3, rfl, hc3, hC3⟩ := HSM.out.reads13
          obtain ⟨A4, c4, rfl, hc4, hC4⟩ := HSM.out.reads14
          obtain ⟨A5, c5, rfl, hc5, hC5⟩ := HSM.out.reads15
          have HC1 := Aside0.mk HSM.out.rowsC
          have HC3 := Aside0.mk hC3
          have HC4 := Aside0.mk hC4
          have HC5 := Aside0.mk hC5
          have HH3 := Aside0.mk hc3
          have HH4 := Aside0.mk hc4
          have HH5 := Aside0.mk hc5
          have HML := fun X : List (List Int) => (show (madeL X p).length = p by simp [madeL])
          have HB := Aside0.mk (below_step HB2.out HSM.out.below)
          clear hc3 hC3 hc4 hC4 hc5 hC5
          go_wp2_with (first
            | (go_at_call 15; (with_reducible refine (make_ok _ _ rows p _ HC1.out HH8.out HRL.out HP.out HRI.out).mono ?_); rintro e wa hmk; unfold MakePost at hmk; rw [if_pos HFA.out] at hmk; obtain ⟨ga, ba, rfl, hcu, hb⟩ := hmk; have HBa := Aside0.mk hb; have HRa := Aside0.mk (HML rows ▸ hcu.toC); clear hcu hb)
            | (go_at_call 15; (with_reducible refine (make_ok _ _ B p _ (Kd.C_below HC3.out HBa.out) HH3.out (by rw [HF.out.lb]; exact HRL.out) HP.out HF.out.ib).mono ?_); rintro e wb hmk; unfold MakePost at hmk; rw [if_pos HFB.out] at hmk; obtain ⟨gb, bb, rfl, hcu, hb⟩ := hmk; have HBb := Aside0.mk (below_step HBa.out hb); have HRb := Aside0.mk (HML B ▸ hcu.toC); have HRa2 := Aside0.mk (Kd.C_below HRa.out hb); clear hcu hb)
            | (go_at_call 15; (with_reducible refine (make_ok _ _ Z p _ (Kd.C_below HC4.out HBb.out) HH4.out (by rw [HF.out.lz]; exact HRL.out) HP.out HF.out.iz).mono ?_); rintro e wc hmk; unfold MakePost at hmk; rw [if_pos HFZ.out] at hmk; obtain ⟨gc, bc, rfl, hcu, hb⟩ := hmk; have HBc := Aside0.mk (below_step HBb.out hb); have HRc := Aside0.mk (HML Z ▸ hcu.toC); have HRa3 := Aside0.mk (Kd.C_below HRa2.out hb); have HRb3 := Aside0.mk (Kd.C_below HRb.out hb); clear hcu hb)
            | (go_at_call 15; (with_reducible refine (make_ok _ _ C p _ (Kd.C_below HC5.out HBc.out) HH5.out (by rw [HF.out.lc]; exact HRL.out) HP.out HF.out.ic).mono ?_); rintro e wd hmk; unfold MakePost at hmk; rw [if_pos HFC.out] at hmk; obtain ⟨gd, bd, rfl, hcu, hb⟩ := hmk; have HBd := Aside0.mk (below_step HBc.out hb); have HRd := Aside0.mk (HML C ▸ hcu.toC); have HRa4 := Aside0.mk (Kd.C_below HRa3.out hb); have HRb4 := Aside0.mk (Kd.C_below HRb3.out hb); have HRc4 := Aside0.mk (Kd.C_below HRc.out hb); clear hcu hb))
          have HBX := Aside0.mk (below_then HB.out (HB.out.size) HBd.out)
          have HWW := HWL
          clear HRa HRa2 HRa3 HRb HRb3 HRc HBa HBb HBc HC1 HC3 HC4 HC5 HH3 HH4 HH5 HSM
          go_loopw [29] (fun v29 wz => ∃ i : Nat, i ≤ p ∧ v29 = .int .i64 (i : Int) ∧ Aside0 (Below wd.heap.size wd wz)) (fun v29 _ => p - (intOf v29).toNat)
          case atStart => exact ⟨0, Nat.zero_le _, rfl, ⟨Below.refl _ _⟩⟩
          case round =>
            obtain ⟨i, hi, rfl, HBW⟩ := hrel
            by_cases hip : i < p
            · have hd2 : decide ((i : Int) < (p : Int)) = true := decide_eq_true (by omega)
              have hd2' : decide (i < p) = true := decide_eq_true hip
              obtain ⟨Aa, ca, xa, la, Ca⟩ := made_at HRa4.out hip HP.out rfl
              obtain ⟨Ab, cb, xb, lb, Cb⟩ := made_at HRb4.out hip HP.out HF.out.wb
              obtain ⟨Ac, cc, xc, lc, Cc⟩ := made_at HRc4.out hip HP.out HF.out.wz
              obtain ⟨Ad, cd, xd, ld, Cd⟩ := made_at HRd.out hip HP.out HF.out.wc
              have HCa := Aside0.mk Ca
              have HCb := Aside0.mk Cb
              have HCc := Aside0.mk Cc
              have HCd := Aside0.mk Cd
              have HXa := Aside0.mk xa
              have HXb := Aside0.mk xb
              have HXc := Aside0.mk xc
              have HXd := Aside0.mk xd
              have HIP := Aside0.mk hip
              have HWI := Aside0.mk (wr1 (i := i) hip (by have := HP.out; omega))
              have ya := cell_below5 HBW.out xa
              have yb := cell_below5 HBW.out xb
              have yc := cell_below5 HBW.out xc
              have hip' : (i : Int) < (p : Int) := by omega
              clear hip hi Ca Cb Cc Cd xa xb xc xd la lb lc ld
              go_wp2_with (fail)
              go_quiet (fail)
              clear ya yb yc
              go_wp2
              have HBW2 : Aside0 (Below wd.heap.size wd (wr.drewN nq)) := ⟨pw_below_drewN HBW.out _⟩
              clear HBW
              generalize wr.drewN nq = wi at *
              go_loopw [30] (fun v30 wz => ∃ q : Nat, q ≤ widthL rows ∧ v30 = .int .i64 (q : Int) ∧ Aside0 (Below wd.heap.size wd wz)) (fun v30 _ => widthL rows - (intOf v30).toNat)
              case atStart => exact ⟨0, Nat.zero_le _, rfl, HBW2⟩
              case round =>
                clear HBW2
                obtain ⟨q, hq, rfl, HBW⟩ := hrel
                have ya := cell_below5 HBW.out HXa.out
                by_cases hql : q < widthL rows
                · --{ 8
                  have hd3 : decide ((q : Int) < (widthL rows : Int)) = true := decide_eq_true (by omega)
                  have hd3' : decide (q < widthL rows) = true := decide_eq_true hql
                  have yb := cell_below5 HBW.out HXb.out
                  have yc := cell_below5 HBW.out HXc.out
                  obtain ⟨ea, rfl, za⟩ := Kd.at_int (Kd.C_below HCa.out HBW.out) (q : Int) (by omega) (by omega)
                  obtain ⟨eb, rfl, zb⟩ := Kd.at_int (Kd.C_below HCb.out HBW.out) (q : Int) (by omega) (by omega)
                  obtain ⟨ec, rfl, zc⟩ := Kd.at_int (Kd.C_below HCc.out HBW.out) (q : Int) (by omega) (by omega)
                  rw [Int.toNat_natCast, rd_nat] at za zb zc
                  rw [HF.out.sum i q hql] at zc
                  have hxx := xor_u8 (more_in (rows := rows) (by have := HRL.out; omega) i q) (more_in (rows := B) (by rw [HF.out.lb]; have := HRL.out; omega) i q)
                  generalize (moreRow rows i).getD q 0 = va at *
                  generalize (moreRow B i).getD q 0 = vb at *
                  have HQL := Aside0.mk hql
                  have HWQ := Aside0.mk (wr1 (i := q) hql (by have := HWL.out; omega))
                  have hqi : (q : Int) < (widthL rows : Int) := by omega
                  clear hql hq
                  go_wp2_with (fail)
                  go_quiet (fail)
                  clear ya yb yc za zb zc hxx
                  go_wp2
                  go_roundw
                  case rel => exact ⟨q + 1, HQL.out, by rw [HWQ.out], ⟨pw_below_drewN HBW.out _⟩⟩
                  case measure => exact meas HWQ.out HQL.out
                  --}
                · have hd3 : decide ((q : Int) < (widthL rows : Int)) = false := decide_eq_false (by omega)
                  have hd3' : decide (q < widthL rows) = false := decide_eq_false hql
                  obtain rfl : q = widthL rows := by omega
                  clear hql hq
                  by_cases hk : k < widthL rows
                  · --{ 9
                    have hd4 : decide ((k : Int) < (widthL rows : Int)) = true := decide_eq_true (by omega)
                    have hd4' : decide (k < widthL rows) = true := decide_eq_true hk
                    rw [if_pos hk] at HXd HCd
                    have yd := cell_below5 HBW.out HXd.out
                    obtain ⟨ea, rfl, za⟩ := Kd.at_int (Kd.C_below HCa.out HBW.out) (k : Int) (by omega) (by omega)
                    obtain ⟨ed, rfl, zd⟩ := Kd.at_int (Kd.C_below HCd.out HBW.out) (0 : Int) (by decide) (by decide)
                    have zd' : wr.cell? (ed.add 0) = some (.int .u8 ((moreRow C i).getD 0 0)) := zd
                    rw [Int.toNat_natCast, rd_nat] at za
                    rw [HF.out.col hk i] at zd'
                    generalize (moreRow rows i).getD k 0 = va at *
                    have hki : (k : Int) < (widthL rows : Int) := by omega
                    have zd0 : wr.cell? ed = some (.int .u8 va) := by have h := zd'; rwa [show ed.add 0 = ed from rfl] at h
                    clear hk zd zd'
                    go_wp2_with (fail)
                    go_quiet (fail)
                    clear ya za yd zd0
                    go_wp2
                    go_roundw
                    case rel => exact ⟨i + 1, HIP.out, by rw [HWI.out], ⟨pw_below_drewN HBW.out _⟩⟩
                    case measure => exact meas HWI.out HIP.out
                    --}
                  · --{ 10
                    have hd4 : decide ((k : Int) < (widthL rows : Int)) = false := decide_eq_false (by omega)
                    have hd4' : decide (k < widthL rows) = false := decide_eq_false hk
                    have hki : ¬ (k : Int) < (widthL rows : Int) := by omega
                    clear hk
                    go_wp2_with (fail)
                    go_quiet (fail)
                    clear ya
                    go_wp2
                    go_roundw
                    case rel => exact ⟨i + 1, HIP.out, by rw [HWI.out], ⟨pw_below_drewN HBW.out _⟩⟩
                    case measure => exact meas HWI.out HIP.out
                    --}
            · have hd2 : decide ((i : Int) < (p : Int)) = false := decide_eq_false (by omega)
              have hd2' : decide (i < p) = false := decide_eq_false hip
              clear hip hi
              go_wp2
              go_ret
              exact ⟨rfl, below_then HB.out HB.out.size (below_step HBd.out HBW.out)⟩
          --}
end Go.Proofs.Ytdhajlkiiphlfaa.Par
