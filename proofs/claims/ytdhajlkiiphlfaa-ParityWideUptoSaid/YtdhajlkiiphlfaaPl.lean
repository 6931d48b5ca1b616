/- The law ParityLong, walked. No conditions. -/
import Derived.Test.YtdhajlkiiphlfaaPe
import Derived.Deep.CutRange
/-! the law ParityLong, walked -/
namespace Go.Proofs.Ytdhajlkiiphlfaa.Par
open Go.RowKit Go.Proofs.Ytdhajlkiiphlfaa.QBaseParityWide Go.Proofs.YtdhajlkiiphlfaaW.PrintWords Go.Proofs.YtdhajlkiiphlfaaW.PrintLast Go.Proofs.YtdhajlkiiphlfaaW.PrintMore Go.Proofs.Ytdhajlkiiphlfaa.Solve
set_option linter.unusedVariables false
set_option linter.unusedSimpArgs false
theorem addAt_getD (b : Int) : ∀ (l : List Int) (o : Nat) (D : List Int) (i : Nat), i < D.length → (addAt b l o D).getD i 0 = if o ≤ i ∧ i < o + l.length then xorZ (D.getD i 0) (mulZ b (l.getD (i - o) 0)) else D.getD i 0
  | [], o, D, i, h => by rw [addAt, if_neg (by simp)]
  | v :: l, o, D, i, h => by
    rw [addAt, addAt_getD b l (o + 1) _ i (by rw [List.length_set]; exact h), List.length_cons]
    by_cases e : i = o
    · subst e
      rw [if_neg (by omega), if_pos (by omega), Nat.sub_self]
      rw [List.getD_eq_getElem?_getD, List.getElem?_set_self h]; rfl
    · have e2 : (D.set o (xorZ (D.getD o 0) (mulZ b v))).getD i 0 = D.getD i 0 := by
        rw [List.getD_eq_getElem?_getD, List.getElem?_set_ne (Ne.symm e), ← List.getD_eq_getElem?_getD]
      rw [e2]
      by_cases h2 : o + 1 ≤ i ∧ i < o + 1 + l.length
      · rw [if_pos h2, if_pos (by omega)]
        have : i - o = (i - (o + 1)) + 1 := by omega
        rw [this]; rfl
      · rw [if_neg h2, if_neg (by omega)]
theorem mulZ_zero (b : Int) : mulZ b 0 = 0 := by unfold mulZ; rw [show (0 : Int).toNat = 0 from rfl, Math.Fq.mul_zero]; rfl
theorem xorZ_zero {x : Int} (h : In8 x) : xorZ x 0 = x := by
  obtain ⟨n, rfl, _⟩ := h.nat
  unfold xorZ; simp
theorem zero_xorZ {x : Int} (h : In8 x) : xorZ 0 x = x := by
  obtain ⟨n, rfl, _⟩ := h.nat
  unfold xorZ; simp
theorem zeros_getD (n i : Nat) : (zeros n).getD i 0 = 0 := by
  unfold zeros
  rw [List.getD_eq_getElem?_getD, List.getElem?_replicate]
  split <;> rfl
theorem two_rows (D : List Int) (v : Int) (N : Nat) (hN : 1 ≤ N) (hD : D.length = N) (hin : ∀ y ∈ D, In8 y) (hv : In8 v) : (moreRow [D, [v]] 0).length = N ∧ ∀ i, i < N → (moreRow [D, [v]] 0).getD i 0 = xorZ (mulZ (cE 0 0) (D.getD i 0)) (if i = 0 then mulZ (cE 0 1) v else 0) := by
  have hw : widthL [D, [v]] = N := by
    unfold widthL wideN
    show max (max 0 D.length) 1 = N
    omega
  have hz : (zeros N).length = N := List.length_replicate
  have e : moreRow [D, [v]] 0 = addAt (cE 0 1) [v] 0 (addAt (cE 0 0) D 0 (zeros N)) := by unfold moreRow; rw [hw]; rfl
  have c0 : In8 (cE 0 0) := cE_in (by decide)
  have c1 : In8 (cE 0 1) := cE_in (by decide)
  rw [e]
  refine ⟨by rw [addAt_length, addAt_length, hz], fun i hi => ?_⟩
  rw [addAt_getD _ _ _ _ _ (by rw [addAt_length, hz]; exact hi), addAt_getD _ _ _ _ _ (by rw [hz]; exact hi), if_pos (show 0 ≤ i ∧ i < 0 + D.length by omega), zeros_getD, zero_xorZ (mulZ_in c0)]
  by_cases h0 : i = 0
  · subst h0
    rw [if_pos (by simp), if_pos rfl]; rfl
  · rw [if_neg (by simp; omega), if_neg h0, Nat.sub_zero, xorZ_zero (mulZ_in c0)]
def bigB : Array Value := madeCells #[.int .u8 0] 16777217
theorem make_big (W : World) : (Instr.makeSlice 41 (.int .i64 16777217) (.int .i64 16777217)).run Try.prog W = .ok (.slice (some ⟨W.heap.size, 0, none⟩) 16777217 16777217) (W.alloc (.cells bigB 5)) :=
  print_make_of (P := Try.prog) 41 5 (.int .u8 0) 1 Try.underlying41 info5' rfl (by decide) 16777217 (by decide) W
theorem bigB_is : bigB = bytesV (zeros 16777217) := by
  unfold bigB bytesV zeros
  rw [made_rep, List.map_replicate]
theorem pick_f (a : Int) (n : Nat) (hn : 0 < n) (h1 : -9223372036854775808 ≤ a) (h2 : a ≤ 9223372036854775807) : ∃ k : Nat, k < n ∧ dailieslaw05_pick.f a (n : Int) = some (k : Int) := by
  unfold dailieslaw05_pick.f
  have tm : ∀ x : Nat, Int.tmod (x : Int) (n : Int) = ((x % n : Nat) : Int) := fun x => by rw [Int.tmod_eq_emod_of_nonneg (by omega)]; exact (Int.natCast_emod x n).symm
  by_cases h : a < 0
  · rw [if_pos h, if_neg (by omega)]
    have hw : wrap64 (-(wrap64 (a + 1))) = (((-(a + 1)).toNat : Nat) : Int) := by unfold wrap64; omega
    rw [hw, tm]
    exact ⟨_, Nat.mod_lt _ hn, rfl⟩
  · rw [if_neg h, if_neg (by omega)]
    obtain ⟨x, rfl⟩ := Int.eq_ofNat_of_zero_le (show 0 ≤ a by omega)
    rw [tm]
    exact ⟨_, Nat.mod_lt _ hn, rfl⟩
/-- the long row: noughts, and 3 at one place -/
structure Big (D : List Int) (k : Nat) : Prop where
  len : D.length = 16777217
  at_ : D.getD k 0 = 3
  off : ∀ i, i ≠ k → D.getD i 0 = 0
theorem Big.mk_ {k : Nat} (hk : k < 16777217) : Big ((zeros 16777217).set k 3) k := by
  refine ⟨by rw [List.length_set]; exact List.length_replicate, ?_, fun i hi => ?_⟩
  · rw [List.getD_eq_getElem?_getD, List.getElem?_set_self (by rw [show (zeros 16777217).length = 16777217 from List.length_replicate]; exact hk)]; rfl
  · rw [List.getD_eq_getElem?_getD, List.getElem?_set_ne (Ne.symm hi), ← List.getD_eq_getElem?_getD, zeros_getD]
theorem Big.get {D : List Int} {k : Nat} (h : Big D k) (i : Nat) : D.getD i 0 = if i = k then 3 else 0 := by
  by_cases e : i = k
  · rw [if_pos e, e]; exact h.at_
  · rw [if_neg e]; exact h.off i e
theorem Big.in8 {D : List Int} {k : Nat} (h : Big D k) : ∀ y ∈ D, In8 y := by
  intro y hy
  obtain ⟨i, hi, rfl⟩ := List.getElem_of_mem hy
  have e : D[i] = D.getD i 0 := by rw [List.getD_eq_getElem?_getD, List.getElem?_eq_getElem hi]; rfl
  rw [e, h.get]
  split
  · exact ⟨by decide, by decide⟩
  · exact ⟨by decide, by decide⟩
/-- one row, handed in -/
theorem one_row {w : World} {k : Nat} {A : Option Addr} {n c : Nat} {r : List Int} (hh : w.heap[k]? = some (.cells #[Value.slice A n c] 41 (0, 0))) (hn : r.length = n) (hc : n ≤ c) (hr : Kd.C (Kd.int .u8) w A n r) : Kd.C (Kd.slice 5 (Kd.int .u8)) w (some ⟨k, 0, none⟩) 1 [r] := by
  refine lit_rows (hs := [(A, n, c)]) (m := [r]) hh rfl (by show 1 ≤ 1000; decide) (fun j p hj => ?_)
  match j, hj with
  | 0, hj => obtain rfl := Option.some.inj hj; exact ⟨A, c, by rw [hn]; rfl, by omega, by rw [hn]; exact hr⟩
  | j + 1, hj => simp at hj
theorem two_row {w : World} {k : Nat} {A B : Option Addr} {n c m d : Nat} {r s : List Int} (hh : w.heap[k]? = some (.cells #[Value.slice A n c, Value.slice B m d] 41 (0, 0))) (hn : r.length = n) (hc : n ≤ c) (hr : Kd.C (Kd.int .u8) w A n r) (hm : s.length = m) (hd : m ≤ d) (hs : Kd.C (Kd.int .u8) w B m s) : Kd.C (Kd.slice 5 (Kd.int .u8)) w (some ⟨k, 0, none⟩) 2 [r, s] := by
  refine lit_rows (hs := [(A, n, c), (B, m, d)]) (m := [r, s]) hh rfl (by show 2 ≤ 1000; decide) (fun j p hj => ?_)
  match j, hj with
  | 0, hj => obtain rfl := Option.some.inj hj; exact ⟨A, c, by rw [hn]; rfl, by omega, by rw [hn]; exact hr⟩
  | 1, hj => obtain rfl := Option.some.inj hj; exact ⟨B, d, by rw [hm]; rfl, by omega, by rw [hm]; exact hs⟩
  | j + 2, hj => simp at hj
theorem row_of_block {w : World} {g n : Nat} {D : List Int} (hD : w.heap[g]? = some (.cells (bytesV D) 5 (0, 0))) (hn : n ≤ D.length) (hl : D.length ≤ 281474976710656) : Kd.C (Kd.int .u8) w (some ⟨g, 0, none⟩) n (D.take n) := by
  have hln : (D.take n).length = n := by rw [List.length_take]; omega
  have h := ownC (w := w) (k := 0) (o := 0) (r := D.take n) (A := some ⟨g, 0, none⟩) (by omega) (fun _ => ⟨g, _, rfl, hD, by
    unfold bytesV; rw [List.toList_toArray, ← List.map_take, hln]⟩)
  rw [hln] at h
  exact h
theorem make_one (A0 : Option Addr) (D : List Int) (k : Nat) (h : Big D k) (w : World) (hr0 : Kd.C (Kd.slice 5 (Kd.int .u8)) w A0 1 [D]) : Calls Try.prog 15 #[.slice A0 1 1, .int .i64 0] w fun e w' => e = .returned (.tuple #[.slice none 0 0, .int .i64 52]) ∧ Below w.heap.size w w' := by
  have hm := make_ok A0 1 [D] 0 w hr0 (Nat.le_refl _) (by show 1 ≤ 200; decide) (by decide) (fun r hr => by rw [List.mem_singleton.1 hr]; exact h.in8)
  refine Calls.mono hm ?_
  intro e w' hp
  have hf : rowsFit [D] = false := by
    cases e : rowsFit [D] with
    | false => rfl
    | true => have := rowsFit_iff.1 e D (List.mem_singleton.2 rfl); rw [h.len] at this; omega
  unfold MakePost at hp
  rw [hf, if_neg (by decide)] at hp
  exact hp
theorem make_two (A0 : Option Addr) (D : List Int) (k : Nat) (h : Big D k) (hk : k < 16777216) (w : World) (hr0 : Kd.C (Kd.slice 5 (Kd.int .u8)) w A0 2 [D.take 16777216, [5]]) : Calls Try.prog 15 #[.slice A0 2 2, .int .i64 1] w fun e w' => ∃ g b, e = .returned (.tuple #[.slice (some ⟨g, 0, none⟩) 1 1, .int .i64 0]) ∧ Below w.heap.size w w' ∧
    (∀ W, Below w'.heap.size w' W → W.cell? ⟨g, 0, none⟩ = some (.slice (some ⟨b, 0, none⟩) 16777216 16777216) ∧ ∀ i, i < 16777216 → W.cell? ⟨b, i, none⟩ = some (.int .u8 (xorZ (mulZ (cE 0 0) (if i = k then 3 else 0)) (if i = 0 then mulZ (cE 0 1) 5 else 0)))) := by
  have hl : (D.take 16777216).length = 16777216 := by rw [List.length_take, h.len]; decide
  have hin : ∀ y ∈ D.take 16777216, In8 y := fun y hy => h.in8 y (List.mem_of_mem_take hy)
  have h5 : In8 5 := ⟨by decide, by decide⟩
  have hm := make_ok A0 2 [D.take 16777216, [5]] 1 w hr0 (Nat.le_refl _) (by show 2 ≤ 200; decide) (by decide) (fun r hr => by
    rcases List.mem_cons.1 hr with rfl | hr
    · exact hin
    · rw [List.mem_singleton.1 hr]; intro y hy; rw [List.mem_singleton.1 hy]; exact h5)
  refine Calls.mono hm ?_
  intro e w' hp
  have hf : rowsFit [D.take 16777216, [5]] = true := rowsFit_iff.2 (fun r hr => by
    rcases List.mem_cons.1 hr with rfl | hr
    · rw [hl]; exact Nat.le_refl _
    · rw [List.mem_singleton.1 hr]; show 1 ≤ 16777216; decide)
  unfold MakePost at hp
  rw [hf, if_pos rfl] at hp
  obtain ⟨g, b, rfl, hcu, hb⟩ := hp
  obtain ⟨hL, hget⟩ := two_rows (D.take 16777216) 5 16777216 (by decide) hl hin h5
  have hml : (madeL [D.take 16777216, [5]] 1)[0]? = some (moreRow [D.take 16777216, [5]] 0) := rfl
  refine ⟨g, b, rfl, hb, fun W hW => ?_⟩
  have hcu2 := hcu.below hW
  obtain ⟨o2, h1, _, ho2⟩ := hcu2.head hml
  have e2 : o2 = 0 := by rw [ho2 (by rw [hL]; decide)]; rfl
  rw [hL] at h1
  rw [e2] at h1
  refine ⟨h1, fun i hi => ?_⟩
  have hfl : (madeL [D.take 16777216, [5]] 1).flatten = moreRow [D.take 16777216, [5]] 0 := by
    show [moreRow [D.take 16777216, [5]] 0].flatten = _
    rw [List.flatten_cons, List.flatten_nil, List.append_nil]
  rw [blk_cell hcu2.data, hfl, List.getElem?_toArray, List.getElem?_map]
  have hg := hget i hi
  rw [List.getD_eq_getElem?_getD, List.getElem?_eq_getElem (by rw [hL]; exact hi)] at hg
  rw [List.getElem?_eq_getElem (by rw [hL]; exact hi)]
  have hg' : (moreRow [D.take 16777216, [5]] 0)[i]'(by rw [hL]; exact hi) = _ := hg
  rw [Option.map_some, hg']
  congr 3
  rw [List.getD_eq_getElem?_getD, List.getElem?_take, if_pos hi, ← List.getD_eq_getElem?_getD, h.get]
end Go.Proofs.Ytdhajlkiiphlfaa.Par
/-! the law ParityLong: the walk -/
namespace Go.Proofs.Ytdhajlkiiphlfaa.Par
open Go.RowKit Go.Proofs.Ytdhajlkiiphlfaa.QBaseParityWide Go.Proofs.YtdhajlkiiphlfaaW.PrintWords Go.Proofs.YtdhajlkiiphlfaaW.PrintLast Go.Proofs.YtdhajlkiiphlfaaW.PrintMore Go.Proofs.Ytdhajlkiiphlfaa.Solve
set_option linter.unusedVariables false
set_option linter.unusedSimpArgs false
theorem rest_52 (w : World) : Calls Try.prog 16 #[.slice (some ⟨w.heap.size, 0, none⟩) 1 1, .slice (some ⟨w.heap.size + 1, 0, none⟩) 1 1, .slice (some ⟨w.heap.size + 1 + 1 + 1, 0, none⟩) 1 1, .slice (some ⟨w.heap.size + 1 + 1 + 1 + 1, 0, none⟩) 1 1]
    (((((w.alloc (Obj.cells #[Value.slice none 0 0] 41)).alloc (Obj.cells #[Value.int IntKind.i64 16777217] 3)).alloc (Obj.cells #[Value.int IntKind.u8 1] 5)).alloc (Obj.cells #[Value.slice (some ⟨w.heap.size + 1 + 1, 0, none⟩) 1 1] 41)).alloc (Obj.cells #[Value.int IntKind.i64 0] 3))
    fun e w' => e = .returned (.tuple #[.slice none 0 0, .int .i64 52]) ∧ Below w.heap.size w w' := by
  generalize hW : (((((w.alloc (Obj.cells #[Value.slice none 0 0] 41)).alloc (Obj.cells #[Value.int IntKind.i64 16777217] 3)).alloc (Obj.cells #[Value.int IntKind.u8 1] 5)).alloc (Obj.cells #[Value.slice (some ⟨w.heap.size + 1 + 1, 0, none⟩) 1 1] 41)).alloc (Obj.cells #[Value.int IntKind.i64 0] 3)) = W
  have hb : Below w.heap.size w W := by rw [← hW]; exact below_alloc (below_alloc (below_alloc (below_alloc (below_alloc (Below.refl _ _) _) _) _) _) _
  have h1 : W.heap[w.heap.size]? = some (.cells #[Value.slice none 0 0] 41 (0, 0)) := by rw [← hW]; exact blk_alloc (blk_alloc (blk_alloc (blk_alloc (blk_new _ _) _) _) _) _
  have h2 : W.heap[w.heap.size + 1]? = some (.cells (([16777217] : List Int).map (Value.int .i64)).toArray 3 (0, 0)) := by
    rw [← hW]; refine blk_alloc (blk_alloc (blk_alloc ?_ _) _) _; have := blk_new (w.alloc (Obj.cells #[Value.slice none 0 0] 41)) (Obj.cells #[Value.int IntKind.i64 16777217] 3); rw [size_alloc'] at this; exact this
  have h3 : W.heap[w.heap.size + 1 + 1]? = some (.cells (bytesV [1]) 5 (0, 0)) := by
    rw [← hW]; refine blk_alloc (blk_alloc ?_ _) _; have := blk_new ((w.alloc (Obj.cells #[Value.slice none 0 0] 41)).alloc (Obj.cells #[Value.int IntKind.i64 16777217] 3)) (Obj.cells #[Value.int IntKind.u8 1] 5); rw [size_alloc', size_alloc'] at this; exact this
  have h4 : W.heap[w.heap.size + 1 + 1 + 1]? = some (.cells #[Value.slice (some ⟨w.heap.size + 1 + 1, 0, none⟩) 1 1] 41 (0, 0)) := by
    rw [← hW]; refine blk_alloc ?_ _; have := blk_new (((w.alloc (Obj.cells #[Value.slice none 0 0] 41)).alloc (Obj.cells #[Value.int IntKind.i64 16777217] 3)).alloc (Obj.cells #[Value.int IntKind.u8 1] 5)) (Obj.cells #[Value.slice (some ⟨w.heap.size + 1 + 1, 0, none⟩) 1 1] 41); rw [size_alloc', size_alloc', size_alloc'] at this; exact this
  have h5 : W.heap[w.heap.size + 1 + 1 + 1 + 1]? = some (.cells (([0] : List Int).map (Value.int .i64)).toArray 3 (0, 0)) := by
    rw [← hW]; have := blk_new ((((w.alloc (Obj.cells #[Value.slice none 0 0] 41)).alloc (Obj.cells #[Value.int IntKind.i64 16777217] 3)).alloc (Obj.cells #[Value.int IntKind.u8 1] 5)).alloc (Obj.cells #[Value.slice (some ⟨w.heap.size + 1 + 1, 0, none⟩) 1 1] 41)) (Obj.cells #[Value.int IntKind.i64 0] 3); rw [size_alloc', size_alloc', size_alloc', size_alloc'] at this; exact this
  refine Calls.mono (restore_no (some ⟨w.heap.size, 0, none⟩) (some ⟨w.heap.size + 1, 0, none⟩) (some ⟨w.heap.size + 1 + 1 + 1, 0, none⟩) (some ⟨w.heap.size + 1 + 1 + 1 + 1, 0, none⟩) 1 1 1 1 [[]] [16777217] [[1]] [0] [] 52 W (one_row h1 rfl (Nat.le_refl _) ⟨rfl, by decide, fun hp => absurd hp (by decide)⟩) (by decide) (lit_ints h2 (by decide)) (by decide) (one_row h4 rfl (Nat.le_refl _) (lit_row h3 (by decide))) (by decide) (lit_ints h5 (by decide)) (by decide) (by decide) (by decide +kernel) (by decide)) ?_
  rintro e w' ⟨rfl, hb2⟩
  exact ⟨rfl, below_step hb hb2⟩
theorem make_one' {N17 : Nat} (h17 : N17 = 16777217) (A0 : Option Addr) (k : Nat) (hk : k < 16777217) (w : World) (hr0 : Kd.C (Kd.slice 5 (Kd.int .u8)) w A0 1 [(zeros N17).set k 3]) : Calls Try.prog 15 #[.slice A0 1 1, .int .i64 0] w fun e w' => e = .returned (.tuple #[.slice none 0 0, .int .i64 52]) ∧ Below w.heap.size w w' := by
  subst h17
  exact make_one A0 _ k (Big.mk_ hk) w hr0
theorem make_two' {N16 : Nat} (h16 : N16 = 16777216) (A0 : Option Addr) (D : List Int) (k : Nat) (h : Big D k) (hk : k < 16777216) (w : World) (hr0 : Kd.C (Kd.slice 5 (Kd.int .u8)) w A0 2 [D.take N16, [5]]) : Calls Try.prog 15 #[.slice A0 2 2, .int .i64 1] w fun e w' => ∃ g b, e = .returned (.tuple #[.slice (some ⟨g, 0, none⟩) 1 1, .int .i64 0]) ∧ Below w.heap.size w w' ∧
    (∀ W, Below w'.heap.size w' W → W.cell? ⟨g, 0, none⟩ = some (.slice (some ⟨b, 0, none⟩) N16 N16) ∧ ∀ i, i < N16 → W.cell? ⟨b, i, none⟩ = some (.int .u8 (xorZ (mulZ (cE 0 0) (if i = k then 3 else 0)) (if i = 0 then mulZ (cE 0 1) 5 else 0)))) := by
  subst h16
  exact make_two A0 D k h hk w hr0
theorem cut_16 {N16 N17 : Nat} (h16 : N16 = 16777216) (h17 : N17 = 16777217) (gb : Nat) (W : World) : (Instr.sliceAt 41 (.slice (some ⟨gb, 0, none⟩) N17 N17) none (some (.int .i64 16777216)) none).run Try.prog W = .ok (.slice (some ⟨gb, 0, none⟩) N16 N17) W := by
  have h := cut_h (some ⟨gb, 0, none⟩) N16 N17 N17 (by omega) W
  rw [show ((N16 : Nat) : Int) = 16777216 by omega] at h
  exact h
theorem make_big' {N17 : Nat} (h17 : N17 = 16777217) (W : World) : (Instr.makeSlice 41 (.int .i64 16777217) (.int .i64 16777217)).run Try.prog W = .ok (.slice (some ⟨W.heap.size, 0, none⟩) N17 N17) (W.alloc (.cells bigB 5)) := by
  subst h17; exact make_big W
theorem long_cau {w : World} {base : Nat} {v : Value} (h : Kd.S (Kd.slice 5 (Kd.int .u8)) 41 w base (fun _ => True) v (cau 1 2)) : ∃ am cm ae ce, v = .slice (some am) 1 cm ∧ w.cell? am = some (.slice (some ae) 2 ce) ∧ w.cell? ae = some (.int .u8 (cE 0 0)) ∧ w.cell? { block := ae.block, off := ae.off + 1 } = some (.int .u8 (cE 0 1)) := by
  obtain ⟨A, cm, rfl, _, hC⟩ := Kd.S_reads h
  obtain ⟨am, B, ce, rfl, h1, _, h2⟩ := at_L2 hC 0 (by decide) (by decide)
  obtain ⟨ae, rfl, h3⟩ := Kd.at_int h2 0 (by decide) (by decide)
  obtain ⟨ae', e, h4⟩ := Kd.at_int h2 1 (by decide) (by decide)
  cases e
  exact ⟨am, cm, ae, ce, rfl, h1, h3, h4⟩
theorem cauchy_12 : field_Cauchy.f 80000 1 2 = some (cau 1 2, 0) := cauchy_ok (p := 1) (n := 2) (by decide) (by decide) (by decide) (by decide)
theorem long_s1 {N17 : Nat} (h17 : N17 = 16777217) {w w2 : World} {gb : Nat} (hbk : w2.heap[gb]? = some (.cells (bytesV (zeros N17)) 5 (0, 0))) (hb : Below w.heap.size w w2) (k : Nat) :
    Kd.C (Kd.slice 5 (Kd.int .u8)) ((w2.setCell ⟨gb, k, none⟩ (.int .u8 3)).alloc (Obj.cells #[Value.slice (some ⟨gb, 0, none⟩) N17 N17] 41)) (some ⟨w2.heap.size, 0, none⟩) 1 [(zeros N17).set k 3] := by
  have hl : ((zeros N17).set k 3).length = N17 := by rw [List.length_set]; exact List.length_replicate
  have h1 := blk_new (w2.setCell ⟨gb, k, none⟩ (.int .u8 3)) (Obj.cells #[Value.slice (some ⟨gb, 0, none⟩) N17 N17] 41)
  rw [show (w2.setCell ⟨gb, k, none⟩ (.int .u8 3)).heap.size = w2.heap.size by simp] at h1
  have h2 : (w2.setCell ⟨gb, k, none⟩ (.int .u8 3)).heap[gb]? = some (.cells (bytesV ((zeros N17).set k 3)) 5 (0, 0)) := by rw [blk_set hbk, bytesV_set]
  have h3 := row_of_block (blk_alloc h2 (Obj.cells #[Value.slice (some ⟨gb, 0, none⟩) N17 N17] 41)) (n := N17) (by rw [hl]; exact Nat.le_refl _) (by rw [hl]; omega)
  rw [List.take_of_length_le (by rw [hl]; exact Nat.le_refl _)] at h3
  exact one_row h1 hl (Nat.le_refl _) h3
theorem long_b1 {N17 : Nat} {w w2 : World} {gb : Nat} (hb : Below w.heap.size w w2) (hg : w.heap.size ≤ gb) (k : Nat) : Below w.heap.size w ((w2.setCell ⟨gb, k, none⟩ (.int .u8 3)).alloc (Obj.cells #[Value.slice (some ⟨gb, 0, none⟩) N17 N17] 41)) := below_alloc (below_set hb hg) _
theorem long_k1 {N17 : Nat} {w2 w3 : World} {gb : Nat} (hbk : w2.heap[gb]? = some (.cells (bytesV (zeros N17)) 5 (0, 0))) (k : Nat) (hb : Below ((w2.setCell ⟨gb, k, none⟩ (.int .u8 3)).alloc (Obj.cells #[Value.slice (some ⟨gb, 0, none⟩) N17 N17] 41)).heap.size ((w2.setCell ⟨gb, k, none⟩ (.int .u8 3)).alloc (Obj.cells #[Value.slice (some ⟨gb, 0, none⟩) N17 N17] 41)) w3) : w3.heap[gb]? = some (.cells (bytesV ((zeros N17).set k 3)) 5 (0, 0)) := by
  have h2 : (w2.setCell ⟨gb, k, none⟩ (.int .u8 3)).heap[gb]? = some (.cells (bytesV ((zeros N17).set k 3)) 5 (0, 0)) := by rw [blk_set hbk, bytesV_set]
  exact blk_below (blk_alloc h2 _) hb
theorem long_s2 {N16 N17 : Nat} (h16 : N16 = 16777216) (h17 : N17 = 16777217) {w3 : World} {gb : Nat} {D : List Int} (hbk : w3.heap[gb]? = some (.cells (bytesV D) 5 (0, 0))) (hl : D.length = N17) :
    Kd.C (Kd.slice 5 (Kd.int .u8)) ((w3.alloc (Obj.cells #[Value.int IntKind.u8 5] 5)).alloc (Obj.cells #[Value.slice (some ⟨gb, 0, none⟩) N16 N17, Value.slice (some ⟨w3.heap.size, 0, none⟩) 1 1] 41)) (some ⟨w3.heap.size + 1, 0, none⟩) 2 [D.take N16, [5]] := by
  have h1 := blk_new (w3.alloc (Obj.cells #[Value.int IntKind.u8 5] 5)) (Obj.cells #[Value.slice (some ⟨gb, 0, none⟩) N16 N17, Value.slice (some ⟨w3.heap.size, 0, none⟩) 1 1] 41)
  rw [size_alloc'] at h1
  have h2 : (w3.alloc (Obj.cells #[Value.int IntKind.u8 5] 5)).heap[w3.heap.size]? = some (.cells (bytesV [5]) 5 (0, 0)) := blk_new _ _
  have h3 := row_of_block (blk_alloc (blk_alloc hbk (Obj.cells #[Value.int IntKind.u8 5] 5)) (Obj.cells #[Value.slice (some ⟨gb, 0, none⟩) N16 N17, Value.slice (some ⟨w3.heap.size, 0, none⟩) 1 1] 41)) (n := N16) (by rw [hl]; omega) (by rw [hl]; omega)
  have h4 := lit_row (blk_alloc h2 (Obj.cells #[Value.slice (some ⟨gb, 0, none⟩) N16 N17, Value.slice (some ⟨w3.heap.size, 0, none⟩) 1 1] 41)) (by decide)
  have h5 : (D.take N16).length = N16 := by rw [List.length_take, hl]; omega
  exact two_row (n := N16) (c := N17) (m := 1) (d := 1) h1 h5 (by omega) h3 rfl (by decide) h4
set_option maxHeartbeats 1600000 in
set_option maxRecDepth 100000 in
theorem long_walk (a : Int) (w : World) (w0 : (Lit.int .i64 a).wf = true) : Calls Try.prog 8 #[.int .i64 a] w fun e w' => e = .returned (.bool true) ∧ Below w.heap.size w w' := by
  have hr : -9223372036854775808 ≤ a ∧ a ≤ 9223372036854775807 := Solve.i64_range w0
  obtain ⟨k, hk, hpick⟩ := pick_f a 16777216 (by decide) hr.1 hr.2
  have hpick' : dailieslaw05_pick.f a 16777216 = some (k : Int) := hpick
  have HP := Aside0.mk hpick'
  have HK := Aside0.mk hk
  obtain ⟨N16, h16⟩ : ∃ n : Nat, n = 16777216 := ⟨_, rfl⟩
  obtain ⟨N17, h17⟩ : ∃ n : Nat, n = 16777217 := ⟨_, rfl⟩
  have hmk := make_big' h17
  have hbz : bigB = bytesV (zeros N17) := by rw [h17]; exact bigB_is
  have H16 := Aside0.mk h16
  have H17 := Aside0.mk h17
  have HBZ := Aside0.mk hbz
  clear h16 h17 hbz
  clear w0 hr hpick hpick' hk
  go_enter Try.func8, Try.ntmps8
  go_wp2_with (first
    | (go_at_call 9; (with_reducible refine (awake_calls _).mono ?_); rintro e w1 ⟨rfl, hb⟩; have HB1 := Aside0.mk hb; clear hb)
    | (go_at_call 14; (with_reducible refine (dailieslaw05_pick.calls a 16777216 (k : Int) _ HP.out).mono ?_); rintro e w2 ⟨rfl, ⟨nd, rfl⟩⟩; have hbk : ((w1.alloc (Obj.cells bigB 5)).drewN nd).heap[w1.heap.size]? = some (.cells (bytesV (zeros N17)) 5 (0, 0)) := (by rw [← HBZ.out]; exact blk_new _ _); have HB2 : Aside0 (Below w.heap.size w ((w1.alloc (Obj.cells bigB 5)).drewN nd)) := ⟨pw_below_drewN (below_alloc HB1.out _) nd⟩; have HGB : Aside0 (w.heap.size ≤ w1.heap.size) := ⟨below_size HB1.out⟩; generalize (w1.alloc (Obj.cells bigB 5)).drewN nd = w2 at hbk HB2 ⊢; generalize w1.heap.size = gb at hbk HGB ⊢; have hcell : w2.cell? ⟨gb, k, none⟩ = some (.int .u8 0) := (by have := HK.out; rw [blk_cell hbk, bytesV_get, getD_get (d := 0) (by rw [show (zeros N17).length = N17 from List.length_replicate, H17.out]; omega), zeros_getD]; rfl); have hfz := blk_frozen hbk k; have hkk : (k : Int) < (N17 : Int) := (by have := HK.out; have := H17.out; omega); have HBK := Aside0.mk hbk; clear hbk)
    | (go_at_call 15; (with_reducible refine (make_one' H17.out (some ⟨w2.heap.size, 0, none⟩) k (by have := HK.out; omega) _ ?s1).mono ?_); (case s1 => exact long_s1 H17.out HBK.out HB2.out k); rintro e w3 ⟨rfl, hb⟩; have HB3 := Aside0.mk (below_step (long_b1 HB2.out HGB.out k) hb); have hbk3 := long_k1 HBK.out k hb; obtain ⟨D, hD⟩ : ∃ D, D = (zeros N17).set k 3 := ⟨_, rfl⟩; have HBIG : Aside0 (Big D k) := ⟨by rw [hD, H17.out]; exact Big.mk_ (by have := HK.out; omega)⟩; rw [← hD] at hbk3; have HBK3 := Aside0.mk hbk3; have hcut := cut_16 H16.out H17.out gb; clear hb hbk3 hD hcell hfz)
    | (go_at_call 15; (with_reducible refine (make_two' H16.out (some ⟨w3.heap.size + 1, 0, none⟩) D k HBIG.out ?s1 _ ?s2).mono ?_); (case s1 => exact HK.out); (case s2 => exact long_s2 H16.out H17.out HBK3.out (by rw [H17.out]; exact HBIG.out.len)); rintro e w4 ⟨g4, b4, rfl, hb, hrd⟩; have HB4 := Aside0.mk (below_step HB3.out (below_step (below_alloc (below_alloc (Below.refl _ _) _) _) hb)); have HBK4 := Aside0.mk (blk_below (blk_alloc (blk_alloc HBK3.out _) _) hb); have HRD := Aside0.mk hrd; clear hb hrd)
    | (go_at_call 16; (with_reducible refine (rest_52 _).mono ?_); rintro e w5 ⟨rfl, hb⟩; have HB5 := Aside0.mk (below_step HB4.out hb); have HBK5 := Aside0.mk (blk_below HBK4.out hb); have HRD5 : Aside0 (∀ W, Below w5.heap.size w5 W → W.cell? ⟨g4, 0, none⟩ = some (.slice (some ⟨b4, 0, none⟩) N16 N16) ∧ ∀ i, i < N16 → W.cell? ⟨b4, i, none⟩ = some (.int .u8 (xorZ (mulZ (cE 0 0) (if i = k then 3 else 0)) (if i = 0 then mulZ (cE 0 1) 5 else 0)))) := ⟨fun W hW => HRD.out W (below_step hb hW)⟩; clear hb)
    | (go_at_call 18; (with_reducible refine (field_Cauchy.calls 80000 1 2 _ _ _ cauchy_12).mono ?_); rintro e w6 ⟨v6, rfl, hs, hb⟩; have HS6 := Aside0.mk hs; have HB6 := Aside0.mk (below_step HB5.out hb); have HBK6 := Aside0.mk (blk_below HBK5.out hb); have HRD6 := Aside0.mk (HRD5.out w6 hb); obtain ⟨am, cm, ae, ce, rfl, x1, x2, x3⟩ := long_cau hs; have y1 := (HRD5.out w6 hb).1; have hn16 : ((N16 : Int) != 16777216) = false := bne_eq_false_iff_eq.mpr (by have := H16.out; omega); clear hs hb hmk hcut))
  obtain ⟨c0, hc0⟩ : ∃ c0, c0 = cE 0 0 := ⟨_, rfl⟩
  obtain ⟨c1, hc1⟩ : ∃ c1, c1 = cE 0 1 := ⟨_, rfl⟩
  have hi0 : In8 c0 := by rw [hc0]; exact cE_in (by decide)
  have hi1 : In8 c1 := by rw [hc1]; exact cE_in (by decide)
  have hrd := HRD6.out.2
  rw [← hc0, ← hc1] at hrd
  rw [← hc0] at x2
  rw [← hc1] at x3
  have h3 : In8 3 := ⟨by decide, by decide⟩
  have h5 : In8 5 := ⟨by decide, by decide⟩
  have z1 : w6.cell? ⟨gb, k, none⟩ = some (.int .u8 3) := by
    have := HK.out
    rw [blk_cell HBK6.out, bytesV_get, getD_get (d := 0) (by rw [HBIG.out.len]; omega), HBIG.out.at_]; rfl
  obtain ⟨e15, he15⟩ : ∃ e15, e15 = D.getD 16777215 0 := ⟨_, rfl⟩
  have Z2 : Aside0 ( w6.cell? ⟨gb, 16777215, none⟩ = some (.int .u8 e15)) := ⟨by
    rw [blk_cell HBK6.out, bytesV_get, getD_get (d := 0) (by rw [HBIG.out.len]; decide), ← he15]; rfl⟩
  have h15 : In8 e15 := by rw [he15, HBIG.out.get]; split; (· exact h3); (· exact ⟨by decide, by decide⟩)
  have M1 : Aside0 (field_Mul.f 9 c0 3 = some (mulZ c0 3)) := ⟨Mul_z hi0 h3 (by decide)⟩
  have M2 : Aside0 (field_Mul.f 9 c1 5 = some (mulZ c1 5)) := ⟨Mul_z hi1 h5 (by decide)⟩
  have M3 : Aside0 (field_Mul.f 9 c0 e15 = some (mulZ c0 e15)) := ⟨Mul_z hi0 h15 (by decide)⟩
  have X1 : Aside0 (Go.bits .xor .u8 (mulZ c0 3) (mulZ c1 5) = xorZ (mulZ c0 3) (mulZ c1 5)) := ⟨xor_u8 (mulZ_in hi0) (mulZ_in hi1)⟩
  have HRR := Aside0.mk hrd
  have HI0 := Aside0.mk hi0
  have HI1 := Aside0.mk hi1
  have HE15 := Aside0.mk he15
  have HC0 := Aside0.mk hc0
  have HC1 := Aside0.mk hc1
  clear hrd hi0 hi1 he15 h3 h5 h15 hc0 hc1 HRD6 HS6
  go_still_tail 9, (by kernel_rfl)
  change wpList _ _ _ _ _ w6.drew
  go_upto_if 108 with (first
    | (go_at_call 19; (with_reducible refine (field_Mul.calls 9 c0 3 _ _ M1.out).mono ?_); rintro e w' ⟨rfl, ⟨nd, rfl⟩⟩)
    | (go_at_call 19; (with_reducible refine (field_Mul.calls 9 c1 5 _ _ M2.out).mono ?_); rintro e w' ⟨rfl, ⟨nd2, rfl⟩⟩))
  have HB7 : Aside0 (Below w.heap.size w (w6.drewN (1 + nd + nd2))) := ⟨pw_below_drewN HB6.out _⟩
  have x1' : (w6.drewN (1 + nd + nd2)).cell? am = some (.slice (some ae) 2 ce) := x1
  have x2' : (w6.drewN (1 + nd + nd2)).cell? ae = some (.int .u8 c0) := x2
  have y1' : (w6.drewN (1 + nd + nd2)).cell? ⟨g4, 0, none⟩ = some (.slice (some ⟨b4, 0, none⟩) N16 N16) := y1
  have HRR7 : Aside0 (∀ i : Nat, i < N16 → (w6.drewN (1 + nd + nd2)).cell? ⟨b4, i, none⟩ = some (.int .u8 (xorZ (mulZ c0 (if i = k then 3 else 0)) (if i = 0 then mulZ c1 5 else 0)))) := HRR
  have Z27 : Aside0 ((w6.drewN (1 + nd + nd2)).cell? ⟨gb, 16777215, none⟩ = some (.int .u8 e15)) := Z2
  generalize w6.drewN (1 + nd + nd2) = w7 at HB7 x1' x2' y1' HRR7 Z27 ⊢
  clear x1 x2 x3 y1 z1 HRR Z2 HB6
  have hzz : xorZ (mulZ c0 0) 0 = 0 := by rw [mulZ_zero]; rfl
  by_cases hk0 : k = 0
  · have e1 : ((k : Int) == 0) = true := beq_iff_eq.mpr (by omega)
    have e2 : (k == 0) = true := beq_iff_eq.mpr hk0
    have e3 : decide (k = 0) = true := decide_eq_true hk0
    have r0 := HRR7.out 0 (by rw [H16.out]; decide)
    have r1 := HRR7.out 1 (by rw [H16.out]; decide)
    rw [if_pos hk0.symm, if_pos rfl] at r0
    rw [if_neg (by omega), if_neg (by decide), hzz] at r1
    have X1' := X1.out
    have HK0 := Aside0.mk hk0
    have hn1 : (1 : Int) < (N16 : Int) := by have := H16.out; omega
    have hn0 : (0 : Int) < (N16 : Int) := by have := H16.out; omega
    have hn0' : 0 < N16 := by have := H16.out; omega
    have hn1' : 1 < N16 := by have := H16.out; omega
    clear hk0 hzz HRR7
    simp only [e1, e2, e3]
    go_wp2
    go_ret
    exact ⟨rfl, HB7.out⟩
  · have e1 : ((k : Int) == 0) = false := beq_eq_false_iff_ne.mpr (by omega)
    have e2 : (k == 0) = false := beq_eq_false_iff_ne.mpr hk0
    have e3 : decide (k = 0) = false := decide_eq_false hk0
    have hi0 := HI0.out
    have r0 := HRR7.out 0 (by rw [H16.out]; decide)
    have rk := HRR7.out k (by rw [H16.out]; exact HK.out)
    have r15 := HRR7.out 16777215 (by rw [H16.out]; decide)
    rw [if_neg (fun e => hk0 e.symm), if_pos rfl, mulZ_zero, zero_xorZ (mulZ_in HI1.out)] at r0
    rw [if_pos rfl, if_neg hk0, xorZ_zero (mulZ_in hi0)] at rk
    have he : (if (16777215 : Nat) = k then (3 : Int) else 0) = e15 := by rw [HE15.out, HBIG.out.get]
    rw [he, if_neg (by decide), xorZ_zero (mulZ_in hi0)] at r15
    have z15 := Z27.out
    have hn1 : (16777215 : Int) < (N16 : Int) := by have := H16.out; omega
    have hn2 : (16777215 : Int) < (N17 : Int) := by have := H17.out; omega
    have hn0 : (0 : Int) < (N16 : Int) := by have := H16.out; omega
    have hn0' : 0 < N16 := by have := H16.out; omega
    have hnk : (k : Int) < (N16 : Int) := by have := H16.out; have := HK.out; omega
    clear hk0 hzz HRR7 he hi0
    simp only [e1, e2, e3]
    go_wp2_with (fail)
    go_quiet (first | (go_at_call 19; (with_reducible refine (field_Mul.calls 9 c0 e15 _ _ M3.out).mono ?_); rintro e w' ⟨rfl, ⟨nd3, rfl⟩⟩; exact ⟨rfl, _, World.drewN_drewN _ _ _⟩))
    go_wp2
    go_ret
    exact ⟨rfl, by exact pw_below_drewN HB7.out _⟩
end Go.Proofs.Ytdhajlkiiphlfaa.Par
