/- A part of a proof: see the text's own remark. No conditions beyond its theorems' own. -/
import Derived.Test.YtdleoljbnjjdgaaOutw04
/-! the world of Book.ends -/
namespace Go.Proofs.Ytdleoljbnjjdgaa.Bok
open Go.RowKit Go.Proofs.Ytdleoljbnjjdgaa.QCFieldCauchys Go.Proofs.YtdleoljbnjjdgaaW.PrintWords Go.Proofs.YtdleoljbnjjdgaaW.PrintLast Go.Proofs.YtdleoljbnjjdgaaW.PrintMore
set_option linter.unusedVariables false
set_option linter.unusedSimpArgs false
/-- rows of bytes of one's own, no block twice -/
structure Al (w : World) (B : Nat) (hl : List Hdr) (cs : List (List Int)) : Prop where
  len : hl.length = cs.length
  own : ∀ (i : Nat) h r, hl[i]? = some h → cs[i]? = some r → w.ownsRow B 5 1 (hdV h) r.length (nums .u8 r)
  ap : ∀ (i j : Nat) h1 h2, hl[i]? = some h1 → hl[j]? = some h2 → i ≠ j → (hdV h1).ownBlock = none ∨ (hdV h1).ownBlock ≠ (hdV h2).ownBlock
theorem own_same5 {w w' : World} {B n : Nat} {v : Value} {xs : List Value} (h : w.ownsRow B 5 1 v n xs) (hs : Same5 w w') : w'.ownsRow B 5 1 v n xs := by
  refine own_move h fun k hk => ?_
  obtain ⟨c, hc⟩ := own_typed h k hk
  rw [hc, hs k c _ hc]
theorem Al.same5 {w w' : World} {B : Nat} {hl : List Hdr} {cs : List (List Int)} (h : Al w B hl cs) (hs : Same5 w w') : Al w' B hl cs := ⟨h.len, fun i hd r h1 h2 => own_same5 (h.own i hd r h1 h2) hs, h.ap⟩
theorem Al.form {w : World} {B : Nat} {hl : List Hdr} {cs : List (List Int)} (h : Al w B hl cs) {i : Nat} (hi : i < cs.length) : ∃ A c, hl[i]? = some (A, (cs.getD i []).length, c) ∧ w.ownsRow B 5 1 (.slice A (cs.getD i []).length c) (cs.getD i []).length (nums .u8 (cs.getD i [])) := by
  have hl' : i < hl.length := by rw [h.len]; exact hi
  have ho := h.own i (hl.getD i (none, 0, 0)) (cs.getD i []) (getD_get hl') (getD_get hi)
  have hg := getD_get (d := ((none, 0, 0) : Hdr)) hl'
  generalize hl.getD i (none, 0, 0) = hd at *
  obtain ⟨A, n, c⟩ := hd
  obtain ⟨A', c', e⟩ := own_form ho
  have e' : Value.slice A n c = .slice A' (cs.getD i []).length c' := e
  injection e' with e1 e2 e3
  subst e2
  exact ⟨A, c, hg, ho⟩
theorem Al.set {w : World} {B : Nat} {hl : List Hdr} {cs : List (List Int)} (h : Al w B hl cs) {i g n c : Nat} (hi : hl[i]? = some (some ⟨g, 0, none⟩, n, c)) {r : List Int} (hr : cs[i]? = some r) (k : Nat) (x : Int) :
    Al (w.setCell ⟨g, k, none⟩ (.int .u8 x)) B hl (cs.set i (r.set k x)) ∧ w.grownBy (w.setCell ⟨g, k, none⟩ (.int .u8 x)) (some g) ∧ ∃ cells, w.heap[g]? = some (.cells cells 5 (0, 0)) := by
  have ho := h.own i _ r hi hr
  have hn : n = r.length := by
    obtain ⟨A', c', e⟩ := own_form ho
    have e' : Value.slice (some ⟨g, 0, none⟩) n c = .slice A' r.length c' := e
    injection e' with e1 e2 e3
  subst hn
  have ho' : w.ownsRow B 5 1 (.slice (some ⟨g, 0, none⟩) r.length c) r.length (nums .u8 r) := ho
  have hst := own_store ho' (k : Int) x
  rw [Int.toNat_natCast] at hst
  obtain ⟨cells, hcl⟩ := own_typed ho' g rfl
  refine ⟨⟨by rw [List.length_set]; exact h.len, fun j hd s hj hs => ?_, h.ap⟩, hst.2, cells, hcl⟩
  by_cases e : i = j
  · subst e
    rw [List.getElem?_set_self (List.getElem?_eq_some_iff.1 hr).1] at hs
    obtain rfl := Option.some.inj hs
    rw [hi] at hj
    obtain rfl := Option.some.inj hj
    rw [List.length_set]
    exact hst.1
  · rw [List.getElem?_set_ne e] at hs
    refine (h.own j hd s hj hs).kept hst.2 ?_
    exact h.ap j i hd _ hj hi (Ne.symm e)
/-- the book while its rows are written -/
structure Be (w0 we w : World) (gb : Nat) (vl vw : Value) (hl : List Hdr) : Prop where
  below : Below w0.heap.size w0 w
  size : we.heap.size ≤ w.heap.size
  ent : ∀ k, k < we.heap.size → k ≠ gb → (∀ c f, we.heap[k]? ≠ some (.cells c 5 f)) → w.heap[k]? = we.heap[k]?
  gbl : w0.heap.size ≤ gb
  box : w.heap[gb]? = some (.cells #[vl, vw] 40 (0, 0))
  ol : w.ownsRow w0.heap.size 29 1 vl hl.length (encs hdV hl)
section
variable {w0 we w w' : World} {gb : Nat} {vl vw : Value} {hl : List Hdr}
theorem Bo.be {hw : List Hdr} {ml : List (List Int)} (h : Bo w0 w gb vl vw hl hw ml) : Be w0 w w gb vl vw hl := ⟨h.below, Nat.le_refl _, fun _ _ _ _ => rfl, h.gbl, h.box, h.ol⟩
theorem Be.base (h : Be w0 we w gb vl vw hl) : w0.heap.size ≤ w.heap.size := h.below.size
theorem Be.moved (h : Be w0 we w gb vl vw hl) (hb : Below w.heap.size w w') : Be w0 we w' gb vl vw hl :=
  ⟨below_then h.below h.below.size hb, Nat.le_trans h.size hb.size, fun k hk h1 h2 => (hb.block k (Nat.lt_of_lt_of_le hk h.size)).trans (h.ent k hk h1 h2), h.gbl, (hb.block gb (blk_lt h.box)).trans h.box, own_below5 h.ol hb⟩
/-- a block of bytes was written -/
theorem Be.bytes (h : Be w0 we w gb vl vw hl) {row : Option Nat} (hg : w.grownBy w' row) (hr : ∀ k, row = some k → w0.heap.size ≤ k ∧ ∃ c, w.heap[k]? = some (.cells c 5 (0, 0))) : Be w0 we w' gb vl vw hl := by
  have hne : ∀ k t c, t ≠ 5 → w.heap[k]? = some (.cells c t (0, 0)) → some k ≠ row := fun k t c ht hk e => by
    obtain ⟨_, c2, h2⟩ := hr k e.symm
    rw [hk] at h2
    injection h2 with h2
    injection h2 with _ h2
    exact ht h2
  refine ⟨pw_below_grown h.below row h.base hg (fun k hk => (hr k hk).1), Nat.le_trans h.size hg.size, fun k hk h1 h2 => ?_, h.gbl, (hg.block gb (blk_lt h.box) (hne gb 40 _ (by decide) h.box)).trans h.box, ?_⟩
  · have he := h.ent k hk h1 h2
    refine (hg.block k (Nat.lt_of_lt_of_le hk h.size) fun e => ?_).trans he
    obtain ⟨_, c2, h3⟩ := hr k e.symm
    rw [he] at h3
    exact h2 c2 _ h3
  · refine own_move h.ol fun k hk => hg.block k (own_lt h.ol k hk) ?_
    obtain ⟨c, hc⟩ := own_typed h.ol k hk
    exact hne k 29 c (by decide) hc
/-- a new list of headers has grown -/
theorem Be.heads (h : Be w0 we w gb vl vw hl) {row : Option Nat} (hg : w.grownBy w' row) (hr : ∀ k, row = some k → we.heap.size ≤ k) (hbox : gb < we.heap.size) (hne : vl.ownBlock = none ∨ vl.ownBlock ≠ row) (hle : w0.heap.size ≤ we.heap.size) : Be w0 we w' gb vl vw hl :=
  ⟨pw_below_grown h.below row h.base hg (fun k hk => Nat.le_trans hle (hr k hk)), Nat.le_trans h.size hg.size, fun k hk h1 h2 => (hg.block k (Nat.lt_of_lt_of_le hk h.size) fun e => by have := hr k e.symm; omega).trans (h.ent k hk h1 h2), h.gbl, (hg.block gb (blk_lt h.box) fun e => by have := hr gb e.symm; omega).trans h.box, h.ol.kept hg hne⟩
theorem Be.cell0 (h : Be w0 we w gb vl vw hl) : w.cell? ⟨gb, 0, none⟩ = some vl := by rw [blk_cell h.box]; rfl
theorem Be.cell1 (h : Be w0 we w gb vl vw hl) : w.cell? ⟨gb, 1, none⟩ = some vw := by rw [blk_cell h.box]; rfl
theorem Be.put (h : Be w0 we w gb vl vw hl) (i : Nat) (u : Value) : Below w0.heap.size w0 (w.setCell ⟨gb, i, none⟩ u) ∧ we.heap.size ≤ (w.setCell ⟨gb, i, none⟩ u).heap.size ∧ ∀ k, k < we.heap.size → k ≠ gb → (∀ c f, we.heap[k]? ≠ some (.cells c 5 f)) → (w.setCell ⟨gb, i, none⟩ u).heap[k]? = we.heap[k]? :=
  ⟨h.below.setCell h.gbl _, by rw [World.size_setCell]; exact h.size, fun k hk h1 h2 => (Below.heap_setCell w ⟨gb, i, none⟩ u k h1).trans (h.ent k hk h1 h2)⟩
end
/-- mark -/
def mrk (i : Nat) : Int := (wrap64 ((wrap64 (37 * (i : Int))) + 11)) % 256
theorem mark_f (i : Nat) : dailieslaw04_mark.f (i : Int) = some (mrk i) := rfl
/-- rows that are full of their marks, and those of other marks in other blocks -/
structure Fs (w : World) (B : Nat) (L : List (Nat × Value × Nat)) : Prop where
  own : ∀ x ∈ L, w.ownsRow B 5 1 x.2.1 x.2.2 (List.replicate x.2.2 (.int .u8 (mrk x.1)))
  ap : ∀ x ∈ L, ∀ y ∈ L, x.1 ≠ y.1 → x.2.1.ownBlock = none ∨ x.2.1.ownBlock ≠ y.2.1.ownBlock
theorem Fs.same5 {w w' : World} {B : Nat} {L : List (Nat × Value × Nat)} (h : Fs w B L) (hs : Same5 w w') : Fs w' B L := ⟨fun x hx => own_same5 (h.own x hx) hs, h.ap⟩
theorem Fs.grow {w w' : World} {B : Nat} {L : List (Nat × Value × Nat)} (h : Fs w B L) {i n : Nat} {v v' : Value} (hm : (i, v, n) ∈ L) (ho : w'.ownsRow B 5 1 v' (n + 1) (List.replicate (n + 1) (.int .u8 (mrk i)))) (hf : Fills w w' 5 (.int .u8 (mrk i)) v.ownBlock) (hat : v'.ownBlock = v.ownBlock ∨ ∃ b, v'.ownBlock = some b ∧ w.heap.size ≤ b) :
    Fs w' B ((i, v', n + 1) :: L) := by
  have hnew : ∀ y ∈ L, y.1 ≠ i → y.2.1.ownBlock = none ∨ y.2.1.ownBlock ≠ v'.ownBlock := fun y hy hne => apart_new (h.ap y hy _ hm hne) (h.own y hy) hat
  refine ⟨fun x hx => ?_, fun x hx y hy hne => ?_⟩
  · rcases List.mem_cons.1 hx with rfl | hx
    · exact ho
    · by_cases e : x.1 = i
      · have h1 := h.own x hx
        rw [e] at h1 ⊢
        exact own_fills h1 hf
      · exact (h.own x hx).kept hf.grown (h.ap x hx _ hm e)
  · rcases List.mem_cons.1 hx with rfl | hx
    · rcases List.mem_cons.1 hy with rfl | hy
      · exact absurd rfl hne
      · exact apart_symm (hnew y hy (Ne.symm hne))
    · rcases List.mem_cons.1 hy with rfl | hy
      · exact hnew x hx hne
      · exact h.ap x hx y hy hne
/-- the rows of a book, all full -/
theorem Al.fs {w : World} {B : Nat} {hl : List Hdr} {ns : List Nat} (h : Al w B hl ((List.range ns.length).map fun t => List.replicate (ns.getD t 0) (mrk t))) : ∃ L, Fs w B L ∧ ∀ (t : Nat) hd, hl[t]? = some hd → (t, hdV hd, ns.getD t 0) ∈ L := by
  have hl' : hl.length = ns.length := by rw [h.len, List.length_map, List.length_range]
  have hown : ∀ (t : Nat) hd, hl[t]? = some hd → w.ownsRow B 5 1 (hdV hd) (ns.getD t 0) (List.replicate (ns.getD t 0) (.int .u8 (mrk t))) := fun t hd ht => by
    have hlt := (List.getElem?_eq_some_iff.1 ht).1
    have := h.own t hd _ ht (by rw [List.getElem?_map, List.getElem?_range (by omega)]; rfl)
    rw [List.length_replicate, nums, List.map_replicate] at this
    exact this
  have hm : ∀ x, x ∈ ((List.range hl.length).map fun t => (t, hdV (hl.getD t (none, 0, 0)), ns.getD t 0)) → ∃ hd, hl[x.1]? = some hd ∧ x = (x.1, hdV hd, ns.getD x.1 0) := fun x hx => by
    obtain ⟨t, ht, rfl⟩ := List.mem_map.1 hx
    exact ⟨_, getD_get (List.mem_range.1 ht), rfl⟩
  refine ⟨(List.range hl.length).map fun t => (t, hdV (hl.getD t (none, 0, 0)), ns.getD t 0), ⟨fun x hx => ?_, fun x hx y hy hne => ?_⟩, fun t hd ht => ?_⟩
  · obtain ⟨hd, h1, h2⟩ := hm x hx
    rw [h2]
    exact hown _ hd h1
  · obtain ⟨hd, h1, h2⟩ := hm x hx
    obtain ⟨hd', h1', h2'⟩ := hm y hy
    rw [h2, h2']
    exact h.ap _ _ _ _ h1 h1' hne
  · have hlt := (List.getElem?_eq_some_iff.1 ht).1
    refine List.mem_map.2 ⟨t, List.mem_range.2 hlt, ?_⟩
    rw [List.getD_eq_getElem?_getD, ht]; rfl
theorem full_l0 (m : Int) (xs : List Int) (hx : ∀ y ∈ xs, y = m) (hn : xs.length ≤ 140737488355328) : ∀ (d i k : Nat), i + d = xs.length → d < k → dailieslaw04_full.l0 k xs m (i : Int) = some true := by
  intro d
  induction d with
  | zero =>
    intro i k h hk
    obtain ⟨k, rfl⟩ : ∃ q, k = q + 1 := ⟨k - 1, by omega⟩
    rw [dailieslaw04_full.l0, if_neg (by omega)]
  | succ d ih =>
    intro i k h hk
    obtain ⟨k, rfl⟩ : ∃ q, k = q + 1 := ⟨k - 1, by omega⟩
    have hr : rd xs (i : Int) = m := by
      rw [rd_nat]
      exact hx _ (getD_mem (by omega))
    rw [dailieslaw04_full.l0, if_pos (by omega), if_pos (by omega), if_pos hr, wr1 (n := xs.length) (by omega) hn]
    exact ih (i + 1) k (by omega) (by omega)
theorem full_calls (w : World) (base : Nat) (v : Value) (n i : Nat) (A : Option Addr) (c : Nat) (hv : v = .slice A n c) (ho : w.ownsRow base 5 1 v n (List.replicate n (.int .u8 (mrk i)))) (hn : n ≤ 1000000) :
    Calls Try.prog 39 #[.slice A n c, .int .u8 (mrk i)] w fun e w' => e = .returned (.bool true) ∧ Drawn0 w w' := by
  subst hv
  have ho' : w.ownsRow base 5 1 (.slice A n c) (List.replicate n (mrk i)).length (nums .u8 (List.replicate n (mrk i))) := by rw [List.length_replicate, nums, List.map_replicate]; exact ho
  have hC := (row5_own ho' (by rw [List.length_replicate]; omega)).1.toC
  have hle := own_le ho
  have := dailieslaw04_full.calls (n + 1) A c (List.replicate n (mrk i)) (mrk i) true w (by exact hC) (by rw [List.length_replicate]; exact hle) (full_l0 (mrk i) _ (fun y hy => List.eq_of_mem_replicate hy) (by rw [List.length_replicate]; omega) n 0 (n + 1) (by rw [List.length_replicate]; omega) (by omega))
  rw [List.length_replicate] at this
  exact this
end Go.Proofs.Ytdleoljbnjjdgaa.Bok
