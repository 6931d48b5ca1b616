/- A part of a proof: see the text's own remark. No conditions beyond its theorems' own. -/
import Derived.Test.YtdleoljbnjjdgaaKeep04
/-! rows that are full of one value, and appends of it -/
namespace Go.Proofs.Ytdleoljbnjjdgaa.Bok
open Go.RowKit Go.Proofs.Ytdleoljbnjjdgaa.QCFieldCauchys Go.Proofs.YtdleoljbnjjdgaaW.PrintWords Go.Proofs.YtdleoljbnjjdgaaW.PrintLast Go.Proofs.YtdleoljbnjjdgaaW.PrintMore
set_option linter.unusedVariables false
set_option linter.unusedSimpArgs false
/-- one block may have changed, and only to hold u at more places -/
structure Fills (w w' : World) (e : TypeId) (u : Value) (row : Option Nat) : Prop where
  grown : w.grownBy w' row
  cells : ∀ k cur, row = some k → w.heap[k]? = some (.cells cur e (0, 0)) → ∃ cur', w'.heap[k]? = some (.cells cur' e (0, 0)) ∧ cur'.size = cur.size ∧ ∀ (j : Nat) x, cur[j]? = some x → cur'[j]? = some x ∨ cur'[j]? = some u
theorem Fills.refl (w : World) (e : TypeId) (u : Value) (row : Option Nat) : Fills w w e u row := ⟨⟨rfl, rfl, rfl, Nat.le_refl _, fun _ _ _ => rfl⟩, fun k cur _ h => ⟨cur, h, rfl, fun j x hx => .inl hx⟩⟩
theorem Fills.of_below {w w' : World} (hb : Below w.heap.size w w') (e : TypeId) (u : Value) (row : Option Nat) : Fills w w' e u row :=
  ⟨grown_of_below hb row, fun k cur _ h => ⟨cur, (hb.block k (blk_lt h)).trans h, rfl, fun j x hx => .inl hx⟩⟩
theorem Fills.after {w w1 w' : World} {e : TypeId} {u : Value} {row : Option Nat} (hb : Below w.heap.size w w1) (h : Fills w1 w' e u row) : Fills w w' e u row :=
  ⟨World.grownBy.trans (grown_of_below hb row) h.grown, fun k cur hr hk => h.cells k cur hr ((hb.block k (blk_lt hk)).trans hk)⟩
theorem own_fills {w w' : World} {base n : Nat} {e : TypeId} {u v : Value} {row : Option Nat} (ho : w.ownsRow base e 1 v n (List.replicate n u)) (h : Fills w w' e u row) : w'.ownsRow base e 1 v n (List.replicate n u) := by
  by_cases hr : v.ownBlock = row ∧ v.ownBlock ≠ none
  · obtain ⟨h1, h2⟩ := ho
    refine ⟨h1, ?_⟩
    rcases h2 with h2 | ⟨g, cap, cur, rfl, hg, hh, hnc, hcm, hcs, htk⟩
    · exact .inl h2
    · obtain ⟨cur', hh', hs', hx⟩ := h.cells g cur hr.1.symm hh
      refine .inr ⟨g, cap, cur', rfl, hg, hh', hnc, hcm, by rw [hs', hcs], ?_⟩
      apply List.ext_getElem?
      intro j
      have hj := congrArg (fun l : List Value => l[j]?) htk
      simp only [List.getElem?_take, Nat.mul_one] at hj ⊢
      by_cases hlt : j < n
      · rw [if_pos hlt] at hj ⊢
        rw [List.getElem?_replicate, if_pos hlt] at hj ⊢
        rw [Array.getElem?_toList] at hj ⊢
        rcases hx j u hj with e | e
        · exact e
        · exact e
      · rw [if_neg hlt] at hj ⊢
        exact hj
  · refine ho.kept h.grown ?_
    by_cases hn : v.ownBlock = none
    · exact .inl hn
    · exact .inr fun e => hr ⟨e, hn⟩
section
variable {P : Program} (w : World)
theorem rep_snoc (n : Nat) (u : Value) : List.replicate n u ++ [u] = List.replicate (n + 1) u := (List.replicate_succ' (n := n) (a := u)).symm
/-- an append of u to a row full of u -/
theorem run_append_mark (base : Nat) (t ty e : TypeId) (i : TypeInfo) (z : Value) (bytes : Nat) (ht : P.underlying t = some (.slice e)) (hi : P.info? e = some i) (hz : i.zero = some z)
    (hsize : i.size = 1) (hby : i.bytes = bytes) (hzs : z.cells.size = 1) (v : Value) (n : Nat) (u : Value) (hown : w.ownsRow base e 1 v n (List.replicate n u))
    (a : Addr) (c : Nat) (hu : w.cell? a = some u) (h1 : u.oneCell' = true) (h63 : n + 1 ≤ maxLen) (hbytes : (n + 1) * bytes ≤ 140737488355328) (hbase : base ≤ w.heap.size) :
    ∃ v' w', (Builtin.append_ #[t, t] ty #[v, .slice (some a) 1 c]).run P w = .ok v' w' ∧ w'.ownsRow base e 1 v' (n + 1) (List.replicate (n + 1) u) ∧ Fills w w' e u v.ownBlock ∧ (v'.ownBlock = v.ownBlock ∨ v'.ownBlock = some w.heap.size) := by
  subst hby
  have hsmall : n + 1 ≤ 9223372036854775807 := by simp only [maxLen] at h63; omega
  have hnews : ∀ j x, [u][j]? = some x → w.cell? (a.add j) = some x := fun j x hx => by
    match j, hx with
    | 0, hx => obtain rfl := Option.some.inj hx; exact hu
    | j + 1, hx => simp at hx
  have h1' : ∀ x ∈ [u], x.oneCell' = true := fun x hx => by rw [List.mem_singleton.1 hx]; exact h1
  have grown : ∀ (old : Nat), old < n + 1 → ∀ (row : Option Nat),
      (w.drew.alloc (.cells ((List.replicate n u).toArray ++ [u].toArray ++ Builtin.zeroCells z.cells (grownCap w (n + 1) old e - (n + 1))) e)).ownsRow base e 1
        (.slice (some ⟨w.heap.size, 0, none⟩) (n + 1) (grownCap w (n + 1) old e)) (n + 1) (List.replicate (n + 1) u) ∧
      Fills w (w.drew.alloc (.cells ((List.replicate n u).toArray ++ [u].toArray ++ Builtin.zeroCells z.cells (grownCap w (n + 1) old e - (n + 1))) e)) e u row := by
    intro old ho row
    have hge := grownCap_ge w (n + 1) old e
    have hcm : grownCap w (n + 1) old e ≤ maxLen := grownCap_le_maxLen w (n + 1) old e h63
    refine ⟨⟨by simp, .inr ⟨w.heap.size, _, _, rfl, hbase, heap_alloc_new w.drew _, hge, hcm, ?_, ?_⟩⟩, Fills.of_below (below_alloc (below_drew1 (Below.refl w.heap.size w)) _) e u row⟩
    · simp only [Array.size_append, List.size_toArray, size_zeroCells, hzs, List.length_replicate, List.length_singleton]
      omega
    · simp only [Array.toList_append, List.append_assoc]
      rw [← List.append_assoc, rep_snoc, Nat.mul_one]
      rw [List.take_append_of_le_length (by rw [List.length_replicate]; exact Nat.le_refl _), List.take_of_length_le (by rw [List.length_replicate]; exact Nat.le_refl _)]
  rcases hown.2 with ⟨rfl, rfl⟩ | ⟨g, cap, cur, rfl, hbg, hg, hnc, hcm, hcs, htake⟩
  · have hr := run_append_nil (P := P) w t ty e i z ht hi hz a 1 c [u] (by rw [hsize]; rfl) hnews (by omega) (by omega) (by have hb := hbytes; simp only [Nat.zero_add] at hb; omega)
    have hgr := grown 0 (by omega) (Value.ownBlock (.slice none 0 0))
    simp only [Nat.zero_add, List.replicate_zero, List.nil_append, Array.empty_append] at hgr ⊢
    exact ⟨_, _, hr, hgr.1, hgr.2, .inr rfl⟩
  · by_cases hroom : n + 1 ≤ cap
    · have hfit : n * i.size + [u].length ≤ cur.size := by rw [hsize, hcs, Nat.mul_one, Nat.mul_one]; exact hroom
      have hr := run_append_room (P := P) w t ty e i ht hi g n cap cur hg a 1 c [u] (by rw [hsize]; rfl) hnews h1' hroom hfit
      rw [hsize, Nat.mul_one, List.length_singleton] at hr
      have hcl : cur.toList.length = cap := by rw [Array.length_toList, hcs, Nat.mul_one]
      have hnew : (List.take n cur.toList ++ [u] ++ List.drop (n + 1) cur.toList).length = cap := by
        rw [List.length_append, List.length_append, List.length_take, List.length_drop, List.length_singleton, hcl]; omega
      have htn : List.take n cur.toList = List.replicate n u := by rw [← htake, Nat.mul_one]
      refine ⟨_, _, hr, ⟨by simp, .inr ⟨g, cap, _, rfl, hbg, setRow_heap w g cur _ e _ hg, hroom, hcm, ?_, ?_⟩⟩, ⟨⟨rfl, rfl, rfl, by simp, fun k _ hk => setRow_other w g k _ (fun e => hk (by simp [Value.ownBlock, e]))⟩, fun k cur0 hk hc0 => ?_⟩, .inl rfl⟩
      · rw [List.size_toArray, hnew, Nat.mul_one]
      · rw [List.toList_toArray, Nat.mul_one, htn, rep_snoc]
        rw [List.take_append_of_le_length (by rw [List.length_replicate]; exact Nat.le_refl _), List.take_of_length_le (by rw [List.length_replicate]; exact Nat.le_refl _)]
      · have hk2 : some g = some k := hk
        obtain rfl := Option.some.inj hk2
        rw [hg] at hc0
        injection hc0 with hc0
        injection hc0 with hc0
        subst hc0
        refine ⟨_, setRow_heap w g cur _ e _ hg, by rw [List.size_toArray, hnew, hcs, Nat.mul_one], fun j x hx => ?_⟩
        rw [List.getElem?_toArray]
        rw [← Array.getElem?_toList] at hx
        by_cases h1 : j < n
        · rw [List.append_assoc, List.getElem?_append_left (by rw [List.length_take, hcl]; omega), List.getElem?_take, if_pos h1]
          exact .inl hx
        · by_cases h2 : j = n
          · subst h2
            right
            rw [List.append_assoc, List.getElem?_append_right (by rw [List.length_take]; omega), List.length_take, hcl, Nat.min_eq_left (by omega), Nat.sub_self]
            rfl
          · left
            rw [List.getElem?_append_right (by rw [List.length_append, List.length_take, List.length_singleton, hcl]; omega), List.length_append, List.length_take, List.length_singleton, hcl, Nat.min_eq_left (by omega), List.getElem?_drop]
            rw [show n + 1 + (j - (n + 1)) = j by omega]
            exact hx
    · have holds : ∀ j x, (List.replicate n u)[j]? = some x → w.cell? ((⟨g, 0, none⟩ : Addr).add j) = some x := hown.cells (g := g) rfl
      have hr := run_append_grow (P := P) w t ty e i z ht hi hz ⟨g, 0, none⟩ n cap (List.replicate n u) (by rw [hsize, List.length_replicate, Nat.mul_one]) holds a 1 c [u] (by rw [hsize]; rfl) hnews (by omega) (by omega) (growslice_fits (by omega) hbytes)
      have hgr := grown cap (by omega) (Value.ownBlock (.slice (some ⟨g, 0, none⟩) n cap))
      exact ⟨_, _, hr, hgr.1, hgr.2, .inr rfl⟩
end
theorem print_append_mark {P : Program} {ops : Array Oper} {rest : List Oper} {o : Oper} {a : Act} {Q : Exit → Act → World → Prop} {w0 W : World} (base : Nat) (hgd : o.guard = none) (s x : Operand) (t e : TypeId) (z : Value) (bytes : Nat)
    (ho : o.op = .call { callee := .builtin .append, args := #[s, x], argTypes := #[t, t] })
    (ht : P.underlying t = some (.slice e)) (hinfo : (P.info? e).map (fun i => (i.zero, i.size, i.bytes)) = some (some z, 1, bytes)) (hz : z.cells.size = 1) (hb0 : 0 < bytes)
    (v : Value) (n : Nat) (u : Value) (hs : a.eval s = v) (hx : a.eval x = .slice (some ⟨W.heap.size, 0, none⟩) 1 1) (h1 : u.oneCell' = true)
    (HO : W.ownsRow base e 1 v n (List.replicate n u)) (HB : Below base w0 W) (hbase : base ≤ W.heap.size) (hl : (n + 1) * bytes ≤ 140737488355328)
    (h : ∀ v1 w1, w1.ownsRow base e 1 v1 (n + 1) (List.replicate (n + 1) u) → Below base w0 w1 → Fills W w1 e u v.ownBlock → (v1.ownBlock = v.ownBlock ∨ ∃ b, v1.ownBlock = some b ∧ W.heap.size ≤ b) → wpList P ops Q rest (a.put o.dst v1) w1) :
    wpList P ops Q (o :: rest) a (W.alloc (.cells #[u] e)) := by
  obtain ⟨i0, hi, hzz⟩ := Option.map_eq_some_iff.1 hinfo
  simp only [Prod.mk.injEq] at hzz
  obtain ⟨hz0, hz1, hz2⟩ := hzz
  have hlen : n + 1 ≤ 140737488355328 := Nat.le_trans (Nat.le_mul_of_pos_right _ hb0) hl
  have hcell : (W.alloc (.cells #[u] e)).cell? ⟨W.heap.size, 0, none⟩ = some u := by rw [blk_cell (blk_new W _)]; rfl
  refine wpList_plain hgd fun K hK => ?_
  obtain ⟨v', w', hr, h2, h3, h4⟩ := run_append_mark (P := P) (W.alloc (.cells #[u] e)) base t o.type e i0 z bytes ht hi hz0 hz1 hz2 hz v n u (HO.alloc _) ⟨W.heap.size, 0, none⟩ 1 hcell h1 (by simp only [maxLen]; omega) hl (by simp; omega)
  unfold Oper.wp execOp
  simp only [ho, resolve, invoke, builtin, Sem.run_bind, Sem.run_pure, Result.andThen_ok, List.map_toArray, List.map_cons, List.map_nil, hs, hx, hr]
  refine hK _ _ (h v' w' h2 ((HB.alloc hbase _).grown h3.grown (by simp; omega) (own_base HO)) (h3.after (below_alloc (Below.refl _ _) _)) ?_)
  rcases h4 with h4 | h4
  · exact .inl h4
  · exact .inr ⟨_, h4, by simp⟩
end Go.Proofs.Ytdleoljbnjjdgaa.Bok
