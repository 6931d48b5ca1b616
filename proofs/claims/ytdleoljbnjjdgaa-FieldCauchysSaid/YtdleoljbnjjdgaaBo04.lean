/- A part of a proof: see the text's own remark. No conditions beyond its theorems' own. -/
import Derived.Test.YtdleoljbnjjdgaaHd04
/-! the world of a book: two lists of rows behind a pointer -/
namespace Go.Proofs.Ytdleoljbnjjdgaa.Bok
open Go.RowKit Go.Proofs.Ytdleoljbnjjdgaa.QCFieldCauchys Go.Proofs.YtdleoljbnjjdgaaW.PrintWords Go.Proofs.YtdleoljbnjjdgaaW.PrintLast Go.Proofs.YtdleoljbnjjdgaaW.PrintMore
set_option linter.unusedVariables false
set_option linter.unusedSimpArgs false
structure Bo (w0 w : World) (gb : Nat) (vl vw : Value) (hl hw : List Hdr) (ml : List (List Int)) : Prop where
  below : Below w0.heap.size w0 w
  gbl : w0.heap.size ≤ gb
  box : w.heap[gb]? = some (.cells #[vl, vw] 40 (0, 0))
  ol : w.ownsRow w0.heap.size 29 1 vl hl.length (encs hdV hl)
  ow : w.ownsRow w0.heap.size 29 1 vw hw.length (encs hdV hw)
  rw : Rows5 w hw ml
  ne : vl.ownBlock = none ∨ vl.ownBlock ≠ vw.ownBlock
/-- what a step of a book moves -/
structure Mv (w w' : World) (gb : Nat) (vl vl' vw vw' : Value) : Prop where
  size : w.heap.size ≤ w'.heap.size
  same : ∀ k, k < w.heap.size → k ≠ gb → some k ≠ vl.ownBlock → some k ≠ vw.ownBlock → w'.heap[k]? = w.heap[k]?
  atl : vl'.ownBlock = vl.ownBlock ∨ ∃ b, vl'.ownBlock = some b ∧ w.heap.size ≤ b
  atw : vw'.ownBlock = vw.ownBlock ∨ ∃ b, vw'.ownBlock = some b ∧ w.heap.size ≤ b
theorem Mv.refl (w : World) (gb : Nat) (vl vw : Value) : Mv w w gb vl vl vw vw := ⟨Nat.le_refl _, fun _ _ _ _ _ => rfl, .inl rfl, .inl rfl⟩
theorem Mv.of_below {w w' : World} (hb : Below w.heap.size w w') (gb : Nat) (vl vw : Value) : Mv w w' gb vl vl vw vw := ⟨hb.size, fun k hk _ _ _ => hb.block k hk, .inl rfl, .inl rfl⟩
theorem at_trans {a b : Nat} {v v1 v2 : Value} (hab : a ≤ b) (h1 : v1.ownBlock = v.ownBlock ∨ ∃ k, v1.ownBlock = some k ∧ a ≤ k) (h2 : v2.ownBlock = v1.ownBlock ∨ ∃ k, v2.ownBlock = some k ∧ b ≤ k) : v2.ownBlock = v.ownBlock ∨ ∃ k, v2.ownBlock = some k ∧ a ≤ k := by
  rcases h2 with e | ⟨k, e, hk⟩
  · rw [e]; exact h1
  · exact .inr ⟨k, e, Nat.le_trans hab hk⟩
theorem ne_at {a k : Nat} {v v1 : Value} (h1 : v1.ownBlock = v.ownBlock ∨ ∃ k, v1.ownBlock = some k ∧ a ≤ k) (hk : k < a) (hne : some k ≠ v.ownBlock) : some k ≠ v1.ownBlock := by
  rcases h1 with e | ⟨j, e, hj⟩
  · rw [e]; exact hne
  · rw [e]; intro e2; injection e2 with e2; omega
theorem Mv.trans {w w1 w2 : World} {gb : Nat} {vl vl1 vl2 vw vw1 vw2 : Value} (h : Mv w w1 gb vl vl1 vw vw1) (h' : Mv w1 w2 gb vl1 vl2 vw1 vw2) : Mv w w2 gb vl vl2 vw vw2 :=
  ⟨Nat.le_trans h.size h'.size, fun k hk h1 h2 h3 => (h'.same k (Nat.lt_of_lt_of_le hk h.size) h1 (ne_at h.atl hk h2) (ne_at h.atw hk h3)).trans (h.same k hk h1 h2 h3), at_trans h.size h.atl h'.atl, at_trans h.size h.atw h'.atw⟩
section
variable {w0 w w' : World} {gb : Nat} {vl vw vl' vw' : Value} {hl hw : List Hdr} {ml : List (List Int)}
theorem Bo.base (h : Bo w0 w gb vl vw hl hw ml) : w0.heap.size ≤ w.heap.size := h.below.size
theorem Bo.gbt (h : Bo w0 w gb vl vw hl hw ml) : gb < w.heap.size := blk_lt h.box
theorem own_ne40 {w : World} {base gb n : Nat} {cs : Array Value} {v : Value} {xs : List Value} {t : Nat} (ho : w.ownsRow base t 1 v n xs) (hb : w.heap[gb]? = some (.cells cs 40 (0, 0))) (ht : t ≠ 40) : some gb ≠ v.ownBlock := fun e => by
  obtain ⟨c, hc⟩ := own_typed ho gb e.symm
  rw [hb] at hc
  injection hc with hc
  injection hc with _ hc
  exact ht hc.symm
theorem Bo.moved (h : Bo w0 w gb vl vw hl hw ml) (hb : Below w.heap.size w w') : Bo w0 w' gb vl vw hl hw ml :=
  ⟨below_then h.below h.below.size hb, h.gbl, (hb.block gb h.gbt).trans h.box, own_below5 h.ol hb, own_below5 h.ow hb, h.rw.move (Same5.of_below hb), h.ne⟩
/-- blocks of bytes stay -/
theorem Mv.same5 (hm : Mv w w' gb vl vl' vw vw') (h : Bo w0 w gb vl vw hl hw ml) : Same5 w w' := fun k cells fz hk => by
  refine (hm.same k (blk_lt hk) (fun e => ?_) (ne5 (by decide) h.ol hk) (ne5 (by decide) h.ow hk)).trans hk
  subst e
  have := h.box
  rw [hk] at this
  injection this with this
  injection this with _ this
  cases this
theorem own_put {w : World} {base gb n : Nat} {cs : Array Value} {v : Value} {xs : List Value} {t : Nat} (ho : w.ownsRow base t 1 v n xs) (hb : w.heap[gb]? = some (.cells cs 40 (0, 0))) (ht : t ≠ 40) (i : Nat) (u : Value) : (w.setCell ⟨gb, i, none⟩ u).ownsRow base t 1 v n xs :=
  own_move ho fun k hk => Below.heap_setCell w ⟨gb, i, none⟩ u k fun e => own_ne40 ho hb ht (by rw [hk]; exact congrArg some e.symm)
theorem rows_put {w : World} {gb : Nat} {cs : Array Value} {hs : List Hdr} {m : List (List Int)} (hr : Rows5 w hs m) (hb : w.heap[gb]? = some (.cells cs 40 (0, 0))) (i : Nat) (u : Value) : Rows5 (w.setCell ⟨gb, i, none⟩ u) hs m := hr.move (Same5.set hb (by decide) i u)
theorem Bo.appL (h : Bo w0 w gb vl vw hl hw ml) {hd : Hdr} (hown : w'.ownsRow w0.heap.size 29 1 vl' (hl ++ [hd]).length (encs hdV (hl ++ [hd]))) (hb : Below w0.heap.size w0 w') (hg : w.grownBy w' vl.ownBlock) (hat : vl'.ownBlock = vl.ownBlock ∨ ∃ b, vl'.ownBlock = some b ∧ w.heap.size ≤ b) :
    Bo w0 (w'.setCell ⟨gb, 0, none⟩ vl') gb vl' vw (hl ++ [hd]) hw ml ∧ Mv w (w'.setCell ⟨gb, 0, none⟩ vl') gb vl vl' vw vw := by
  have hbox : w'.heap[gb]? = some (.cells #[vl, vw] 40 (0, 0)) := (hg.block gb h.gbt (own_ne40 h.ol h.box (by decide))).trans h.box
  have hs : Same5 w w' := Same5.of_grown hg fun k c f hk => ne5 (by decide) h.ol hk
  have how : w'.ownsRow w0.heap.size 29 1 vw hw.length (encs hdV hw) := h.ow.kept hg (apart_symm h.ne)
  refine ⟨⟨hb.setCell h.gbl _, h.gbl, ?_, own_put hown hbox (by decide) _ _, own_put how hbox (by decide) _ _, rows_put (h.rw.move hs) hbox _ _, ?_⟩, ⟨?_, fun k hk h1 h2 h3 => ?_, hat, .inl rfl⟩⟩
  · rw [blk_set hbox]; rfl
  · exact apart_symm (apart_new (apart_symm h.ne) h.ow hat)
  · rw [World.size_setCell]; exact hg.size
  · rw [Below.heap_setCell w' ⟨gb, 0, none⟩ vl' k h1]
    exact hg.block k hk h2
theorem Bo.appW (h : Bo w0 w gb vl vw hl hw ml) {hd : Hdr} {r : List Int} (hown : w'.ownsRow w0.heap.size 29 1 vw' (hw ++ [hd]).length (encs hdV (hw ++ [hd]))) (hb : Below w0.heap.size w0 w') (hg : w.grownBy w' vw.ownBlock) (hat : vw'.ownBlock = vw.ownBlock ∨ ∃ b, vw'.ownBlock = some b ∧ w.heap.size ≤ b) (hr : Row5 w hd r) :
    Bo w0 (w'.setCell ⟨gb, 1, none⟩ vw') gb vl vw' hl (hw ++ [hd]) (ml ++ [r]) ∧ Mv w (w'.setCell ⟨gb, 1, none⟩ vw') gb vl vl vw vw' := by
  have hbox : w'.heap[gb]? = some (.cells #[vl, vw] 40 (0, 0)) := (hg.block gb h.gbt (own_ne40 h.ow h.box (by decide))).trans h.box
  have hs : Same5 w w' := Same5.of_grown hg fun k c f hk => ne5 (by decide) h.ow hk
  have hol : w'.ownsRow w0.heap.size 29 1 vl hl.length (encs hdV hl) := h.ol.kept hg h.ne
  refine ⟨⟨hb.setCell h.gbl _, h.gbl, ?_, own_put hol hbox (by decide) _ _, own_put hown hbox (by decide) _ _, rows_put ((h.rw.move hs).snoc (hr.move hs)) hbox _ _, ?_⟩, ⟨?_, fun k hk h1 h2 h3 => ?_, .inl rfl, hat⟩⟩
  · rw [blk_set hbox]; rfl
  · exact apart_new h.ne h.ol hat
  · rw [World.size_setCell]; exact hg.size
  · rw [Below.heap_setCell w' ⟨gb, 1, none⟩ vw' k h1]
    exact hg.block k hk h3
theorem Bo.cell0 (h : Bo w0 w gb vl vw hl hw ml) : w.cell? ⟨gb, 0, none⟩ = some vl := by rw [blk_cell h.box]; rfl
theorem Bo.cell1 (h : Bo w0 w gb vl vw hl hw ml) : w.cell? ⟨gb, 1, none⟩ = some vw := by rw [blk_cell h.box]; rfl
end
end Go.Proofs.Ytdleoljbnjjdgaa.Bok
