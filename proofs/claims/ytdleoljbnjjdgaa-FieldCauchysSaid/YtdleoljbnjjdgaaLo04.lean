/- A part of a proof: see the text's own remark. No conditions beyond its theorems' own. -/
import Derived.Test.YtdleoljbnjjdgaaEnds04
/-! the world of Book.ends while lists are grown -/
namespace Go.Proofs.Ytdleoljbnjjdgaa.Bok
open Go.RowKit Go.Proofs.Ytdleoljbnjjdgaa.QCFieldCauchys Go.Proofs.YtdleoljbnjjdgaaW.PrintWords Go.Proofs.YtdleoljbnjjdgaaW.PrintLast Go.Proofs.YtdleoljbnjjdgaaW.PrintMore
set_option linter.unusedVariables false
set_option linter.unusedSimpArgs false
theorem reads_heads {w : World} {g : Nat} {hs : List Hdr} (hh : w.heap[g]? = some (.cells (encs hdV hs).toArray 29 (0, 0))) (hl : hs.length ≤ 1000) : ReadsOf hdV ((none, 0, 0) : Hdr) w (some ⟨g, 0, none⟩) hs.length hs := by
  refine ⟨rfl, by omega, fun hp => ⟨_, rfl, fun j hj => ?_⟩⟩
  rw [add_off, Nat.zero_add, blk_cell hh]
  unfold encs
  rw [List.getElem?_toArray, List.getElem?_map, List.getElem?_eq_getElem hj, List.getD_eq_getElem?_getD, List.getElem?_eq_getElem hj]; rfl
structure Lo (w0 we w : World) (gb : Nat) (vl vw : Value) (hl : List Hdr) (ns : List Nat) (vx : Value) (lg : List Hdr) (i : Nat) (L : List (Nat × Value × Nat)) : Prop where
  be : Be w0 we w gb vl vw hl
  fs : Fs w w0.heap.size L
  m0 : ∀ (t : Nat) hd, hl[t]? = some hd → (t, hdV hd, ns.getD t 0) ∈ L
  lo : w.ownsRow w0.heap.size 29 1 vx lg.length (encs hdV lg)
  ll : lg.length = 2 * i
  lm : ∀ (s : Nat) hd, lg[s]? = some hd → (s / 2, hdV hd, hd.2.1) ∈ L ∧ hd.2.1 ≤ 1100
  nx : vl.ownBlock = none ∨ vl.ownBlock ≠ vx.ownBlock
  new : ∀ k, vx.ownBlock = some k → we.heap.size ≤ k
section
variable {w0 we w w' : World} {gb i : Nat} {vl vw vx vx' : Value} {hl lg : List Hdr} {ns : List Nat} {L : List (Nat × Value × Nat)}
theorem Lo.moved (h : Lo w0 we w gb vl vw hl ns vx lg i L) (hb : Below w.heap.size w w') : Lo w0 we w' gb vl vw hl ns vx lg i L :=
  ⟨h.be.moved hb, h.fs.same5 (Same5.of_below hb), h.m0, own_below5 h.lo hb, h.ll, h.lm, h.nx, h.new⟩
theorem Lo.grow (h : Lo w0 we w gb vl vw hl ns vx lg i L) {t n : Nat} {v v' : Value} (hm : (t, v, n) ∈ L) (ho : w'.ownsRow w0.heap.size 5 1 v' (n + 1) (List.replicate (n + 1) (.int .u8 (mrk t)))) (hf : Fills w w' 5 (.int .u8 (mrk t)) v.ownBlock) (hat : v'.ownBlock = v.ownBlock ∨ ∃ b, v'.ownBlock = some b ∧ w.heap.size ≤ b) :
    Lo w0 we w' gb vl vw hl ns vx lg i ((t, v', n + 1) :: L) := by
  have hv := h.fs.own _ hm
  refine ⟨h.be.bytes hf.grown (fun k hk => ⟨own_base hv k hk, own_typed hv k hk⟩), h.fs.grow hm ho hf hat, fun t hd ht => List.mem_cons_of_mem _ (h.m0 t hd ht), ?_, h.ll, fun s hd hs => ⟨List.mem_cons_of_mem _ (h.lm s hd hs).1, (h.lm s hd hs).2⟩, h.nx, h.new⟩
  refine h.lo.kept hf.grown ?_
  exact typed_apart h.lo hv (by decide)
theorem Lo.add (h : Lo w0 we w gb vl vw hl ns vx lg i L) (hle : w0.heap.size ≤ we.heap.size) (hgb : gb < we.heap.size) {hg hh : Hdr} (h1 : (i, hdV hg, hg.2.1) ∈ L) (h2 : (i, hdV hh, hh.2.1) ∈ L) (b1 : hg.2.1 ≤ 1100) (b2 : hh.2.1 ≤ 1100) (ho : w'.ownsRow w0.heap.size 29 1 vx' (lg ++ [hg, hh]).length (encs hdV (lg ++ [hg, hh]))) (hgr : w.grownBy w' vx.ownBlock) (hat : vx'.ownBlock = vx.ownBlock ∨ ∃ b, vx'.ownBlock = some b ∧ w.heap.size ≤ b) :
    Lo w0 we w' gb vl vw hl ns vx' (lg ++ [hg, hh]) (i + 1) L := by
  have hs : Same5 w w' := Same5.of_grown hgr fun k c f hk => ne5 (by decide) h.lo hk
  refine ⟨h.be.heads hgr h.new hgb h.nx hle, h.fs.same5 hs, h.m0, ho, ?_, fun s hd hd1 => ?_, apart_new h.nx h.be.ol hat, fun k hk => ?_⟩
  · rw [List.length_append, h.ll, List.length_cons, List.length_cons, List.length_nil]; omega
  · by_cases e : s < lg.length
    · rw [List.getElem?_append_left e] at hd1
      exact h.lm s hd hd1
    · rw [List.getElem?_append_right (by omega)] at hd1
      have hl2 := h.ll
      have hlt := (List.getElem?_eq_some_iff.1 hd1).1
      simp only [List.length_cons, List.length_nil] at hlt
      by_cases e0 : s - lg.length = 0
      · rw [e0] at hd1
        obtain rfl := Option.some.inj hd1
        rw [show s / 2 = i by omega]
        exact ⟨h1, b1⟩
      · have e1 : s - lg.length = 1 := by omega
        rw [e1] at hd1
        obtain rfl := Option.some.inj hd1
        rw [show s / 2 = i by omega]
        exact ⟨h2, b2⟩
  · rcases hat with e | ⟨b, e, hb⟩
    · rw [e] at hk; exact h.new k hk
    · rw [e] at hk
      obtain rfl := Option.some.inj hk
      exact Nat.le_trans h.be.size hb
end
end Go.Proofs.Ytdleoljbnjjdgaa.Bok
