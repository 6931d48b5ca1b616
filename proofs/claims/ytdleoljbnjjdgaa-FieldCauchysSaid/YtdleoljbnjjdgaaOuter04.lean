/- A part of a proof: see the text's own remark. No conditions beyond its theorems' own. -/
import Derived.Test.YtdleoljbnjjdgaaFill04
/-! outer, walked -/
namespace Go.Proofs.Ytdleoljbnjjdgaa.Bok
open Go.RowKit Go.Proofs.Ytdleoljbnjjdgaa.QCFieldCauchys Go.Proofs.YtdleoljbnjjdgaaW.PrintWords Go.Proofs.YtdleoljbnjjdgaaW.PrintLast Go.Proofs.YtdleoljbnjjdgaaW.PrintMore
set_option linter.unusedVariables false
set_option linter.unusedSimpArgs false
theorem rep_set {α : Type} (x : α) (l : List α) {i : Nat} (hi : i < l.length) : (List.replicate i x ++ l.drop i).set i x = List.replicate (i + 1) x ++ l.drop (i + 1) := by
  rw [List.set_append_right _ _ (by rw [List.length_replicate]; exact Nat.le_refl _), List.length_replicate, Nat.sub_self, List.drop_eq_getElem_cons hi, List.set_cons_zero, List.replicate_succ', List.append_assoc]
  rfl
theorem rep_len {α : Type} (x : α) (l : List α) {i : Nat} (hi : i ≤ l.length) : (List.replicate i x ++ l.drop i).length = l.length := by rw [List.length_append, List.length_replicate, List.length_drop]; omega
theorem encs_rep (n : Nat) (h : Hdr) : encs hdV (List.replicate n h) = List.replicate n (hdV h) := by unfold encs; rw [List.map_replicate]
/-- two lists of rows that are written over -/
structure Oa (w0 we w : World) (va vb : Value) (xa xb : List Hdr) (bx by_ : Nat) : Prop where
  below : Below w0.heap.size w0 w
  size : we.heap.size ≤ w.heap.size
  ent : ∀ k, k < we.heap.size → some k ≠ va.ownBlock → some k ≠ vb.ownBlock → w.heap[k]? = we.heap[k]?
  oa : w.ownsRow w0.heap.size 29 1 va xa.length (encs hdV xa)
  ob : w.ownsRow w0.heap.size 29 1 vb xb.length (encs hdV xb)
  ne : va.ownBlock = none ∨ va.ownBlock ≠ vb.ownBlock
  x : w.heap[bx]? = some (.cells #[.int .u8 1] 5 (0, 0))
  y : w.heap[by_]? = some (.cells #[.int .u8 2] 5 (0, 0))
section
variable {w0 we w w' : World} {va vb : Value} {xa xb : List Hdr} {bx by_ : Nat}
theorem Oa.base (h : Oa w0 we w va vb xa xb bx by_) : w0.heap.size ≤ w.heap.size := h.below.size
theorem Oa.moved (h : Oa w0 we w va vb xa xb bx by_) (hb : Below w.heap.size w w') : Oa w0 we w' va vb xa xb bx by_ :=
  ⟨below_then h.below h.below.size hb, Nat.le_trans h.size hb.size, fun k hk h1 h2 => (hb.block k (Nat.lt_of_lt_of_le hk h.size)).trans (h.ent k hk h1 h2), own_below5 h.oa hb, own_below5 h.ob hb, h.ne, (hb.block _ (blk_lt h.x)).trans h.x, (hb.block _ (blk_lt h.y)).trans h.y⟩
theorem Oa.setA {g n c : Nat} (h : Oa w0 we w (.slice (some ⟨g, 0, none⟩) n c) vb xa xb bx by_) (k : Nat) (hd : Hdr) : Oa w0 we (w.setCell ⟨g, k, none⟩ (hdV hd)) (.slice (some ⟨g, 0, none⟩) n c) vb (xa.set k hd) xb bx by_ := by
  obtain ⟨ho, hg⟩ := set_heads h.oa k hd
  have hs : Same5 w (w.setCell ⟨g, k, none⟩ (hdV hd)) := Same5.of_grown hg fun k c f hk => ne5 (by decide) h.oa hk
  exact ⟨pw_below_grown h.below _ h.base hg (own_base h.oa), by rw [World.size_setCell]; exact h.size, fun j hj h1 h2 => (hg.block j (Nat.lt_of_lt_of_le hj h.size) h1).trans (h.ent j hj h1 h2), ho, h.ob.kept hg (apart_symm h.ne), h.ne, hs _ _ _ h.x, hs _ _ _ h.y⟩
theorem Oa.setB {g n c : Nat} (h : Oa w0 we w va (.slice (some ⟨g, 0, none⟩) n c) xa xb bx by_) (k : Nat) (hd : Hdr) : Oa w0 we (w.setCell ⟨g, k, none⟩ (hdV hd)) va (.slice (some ⟨g, 0, none⟩) n c) xa (xb.set k hd) bx by_ := by
  obtain ⟨ho, hg⟩ := set_heads h.ob k hd
  have hs : Same5 w (w.setCell ⟨g, k, none⟩ (hdV hd)) := Same5.of_grown hg fun k c f hk => ne5 (by decide) h.ob hk
  exact ⟨pw_below_grown h.below _ h.base hg (own_base h.ob), by rw [World.size_setCell]; exact h.size, fun j hj h1 h2 => (hg.block j (Nat.lt_of_lt_of_le hj h.size) h2).trans (h.ent j hj h1 h2), h.oa.kept hg h.ne, ho, h.ne, hs _ _ _ h.x, hs _ _ _ h.y⟩
end
/-- and what is grown out of them -/
structure Og (w0 we w : World) (va vb vg vh : Value) (na nb ng nh : Nat) (X Y : Value) (bx by_ : Nat) : Prop where
  below : Below w0.heap.size w0 w
  size : we.heap.size ≤ w.heap.size
  ent : ∀ k, k < we.heap.size → some k ≠ va.ownBlock → some k ≠ vb.ownBlock → w.heap[k]? = we.heap[k]?
  oa : w.ownsRow w0.heap.size 29 1 va na (List.replicate na X)
  ob : w.ownsRow w0.heap.size 29 1 vb nb (List.replicate nb Y)
  og : w.ownsRow w0.heap.size 29 1 vg ng (List.replicate ng X)
  oh : w.ownsRow w0.heap.size 29 1 vh nh (List.replicate nh Y)
  ag : vg.ownBlock = va.ownBlock ∨ ∃ b, vg.ownBlock = some b ∧ we.heap.size ≤ b
  ah : vh.ownBlock = vb.ownBlock ∨ ∃ b, vh.ownBlock = some b ∧ we.heap.size ≤ b
  ngb : vb.ownBlock = none ∨ vb.ownBlock ≠ vg.ownBlock
  nga : va.ownBlock = none ∨ va.ownBlock ≠ vh.ownBlock
  ngh : vg.ownBlock = none ∨ vg.ownBlock ≠ vh.ownBlock
  x : w.heap[bx]? = some (.cells #[.int .u8 1] 5 (0, 0))
  y : w.heap[by_]? = some (.cells #[.int .u8 2] 5 (0, 0))
section
variable {w0 we w w' : World} {va vb vg vh v' : Value} {na nb ng nh bx by_ : Nat} {X Y : Value}
theorem Og.base (h : Og w0 we w va vb vg vh na nb ng nh X Y bx by_) : w0.heap.size ≤ w.heap.size := h.below.size
theorem Og.moved (h : Og w0 we w va vb vg vh na nb ng nh X Y bx by_) (hb : Below w.heap.size w w') : Og w0 we w' va vb vg vh na nb ng nh X Y bx by_ :=
  ⟨below_then h.below h.below.size hb, Nat.le_trans h.size hb.size, fun k hk h1 h2 => (hb.block k (Nat.lt_of_lt_of_le hk h.size)).trans (h.ent k hk h1 h2), own_below5 h.oa hb, own_below5 h.ob hb, own_below5 h.og hb, own_below5 h.oh hb, h.ag, h.ah, h.ngb, h.nga, h.ngh, (hb.block _ (blk_lt h.x)).trans h.x, (hb.block _ (blk_lt h.y)).trans h.y⟩
theorem at_lt {a k : Nat} {v v1 : Value} (h1 : v1.ownBlock = v.ownBlock ∨ ∃ b, v1.ownBlock = some b ∧ a ≤ b) (hk : k < a) (hne : some k ≠ v.ownBlock) : some k ≠ v1.ownBlock := ne_at h1 hk hne
theorem Og.growG (h : Og w0 we w va vb vg vh na nb ng nh X Y bx by_) (ho : w'.ownsRow w0.heap.size 29 1 v' (ng + 1) (List.replicate (ng + 1) X)) (hb : Below w0.heap.size w0 w') (hf : Fills w w' 29 X vg.ownBlock) (hat : v'.ownBlock = vg.ownBlock ∨ ∃ b, v'.ownBlock = some b ∧ w.heap.size ≤ b) :
    Og w0 we w' va vb v' vh na nb (ng + 1) nh X Y bx by_ := by
  have hs : Same5 w w' := Same5.of_grown hf.grown fun k c f hk => ne5 (by decide) h.og hk
  exact ⟨hb, Nat.le_trans h.size hf.grown.size, fun k hk h1 h2 => (hf.grown.block k (Nat.lt_of_lt_of_le hk h.size) (at_lt h.ag hk h1)).trans (h.ent k hk h1 h2), own_fills h.oa hf, h.ob.kept hf.grown h.ngb, ho, h.oh.kept hf.grown (apart_symm h.ngh), at_trans h.size h.ag hat, h.ah, apart_new h.ngb h.ob hat, h.nga, apart_symm (apart_new (apart_symm h.ngh) h.oh hat), hs _ _ _ h.x, hs _ _ _ h.y⟩
theorem Og.growH (h : Og w0 we w va vb vg vh na nb ng nh X Y bx by_) (ho : w'.ownsRow w0.heap.size 29 1 v' (nh + 1) (List.replicate (nh + 1) Y)) (hb : Below w0.heap.size w0 w') (hf : Fills w w' 29 Y vh.ownBlock) (hat : v'.ownBlock = vh.ownBlock ∨ ∃ b, v'.ownBlock = some b ∧ w.heap.size ≤ b) :
    Og w0 we w' va vb vg v' na nb ng (nh + 1) X Y bx by_ := by
  have hs : Same5 w w' := Same5.of_grown hf.grown fun k c f hk => ne5 (by decide) h.oh hk
  exact ⟨hb, Nat.le_trans h.size hf.grown.size, fun k hk h1 h2 => (hf.grown.block k (Nat.lt_of_lt_of_le hk h.size) (at_lt h.ah hk h2)).trans (h.ent k hk h1 h2), h.oa.kept hf.grown h.nga, own_fills h.ob hf, h.og.kept hf.grown h.ngh, ho, h.ag, at_trans h.size h.ah hat, h.ngb, apart_new h.nga h.oa hat, apart_new h.ngh h.og hat, hs _ _ _ h.x, hs _ _ _ h.y⟩
end
theorem Oa.grow {w0 we w : World} {va vb : Value} {na nb : Nat} {hx hy : Hdr} {bx by_ : Nat} (h : Oa w0 we w va vb (List.replicate na hx) (List.replicate nb hy) bx by_) : Og w0 we w va vb va vb na nb na nb (hdV hx) (hdV hy) bx by_ := by
  have h1 := h.oa
  have h2 := h.ob
  rw [encs_rep, List.length_replicate] at h1 h2
  exact ⟨h.below, h.size, h.ent, h1, h2, h1, h2, .inl rfl, .inl rfl, apart_symm h.ne, h.ne, h.ne, h.x, h.y⟩
/-- reading in a row that is full -/
theorem rep_at {w : World} {base g n c i : Nat} {u : Value} {e : TypeId} (h : w.ownsRow base e 1 (.slice (some ⟨g, 0, none⟩) n c) n (List.replicate n u)) (hi : i < n) : w.cell? ⟨g, i, none⟩ = some u := by
  have := h.cells (g := g) rfl i u (by rw [List.getElem?_replicate, if_pos hi])
  rwa [add_plain] at this
theorem one_C {w : World} {b : Nat} {y : Int} (h : w.heap[b]? = some (.cells #[.int .u8 y] 5 (0, 0))) : Kd.C (Kd.int .u8) w (some ⟨b, 0, none⟩) 1 [y] :=
  (row5_bytes (w := w) (g := b) (l := [y]) h (by rw [List.length_singleton]; omega)).toC
end Go.Proofs.Ytdleoljbnjjdgaa.Bok
