/- A part of a proof: see the text's own remarks. No conditions beyond its theorems' own. -/
import Derived.Test.YtdhajlkiiphlfaaPf
import Derived.Lib.SlBytesConst
/-! the world of ParityBack, and how it moves -/
namespace Go.Proofs.Ytdhajlkiiphlfaa.Par
open Go.RowKit Go.Proofs.Ytdhajlkiiphlfaa.QBaseParityWide Go.Proofs.YtdhajlkiiphlfaaW.PrintWords Go.Proofs.YtdhajlkiiphlfaaW.PrintLast Go.Proofs.YtdhajlkiiphlfaaW.PrintMore Go.Proofs.Ytdhajlkiiphlfaa.Solve
set_option linter.unusedVariables false
set_option linter.unusedSimpArgs false
theorem typed_apart {w : World} {b1 b2 t1 t2 n1 n2 : Nat} {v1 v2 : Value} {x1 x2 : List Value} (h1 : w.ownsRow b1 t1 1 v1 n1 x1) (h2 : w.ownsRow b2 t2 1 v2 n2 x2) (ht : t1 ≠ t2) : v1.ownBlock = none ∨ v1.ownBlock ≠ v2.ownBlock := by
  cases e : v1.ownBlock with
  | none => exact .inl rfl
  | some k =>
    refine .inr fun e2 => ht ?_
    obtain ⟨c1, k1⟩ := own_typed h1 k e
    obtain ⟨c2, k2⟩ := own_typed h2 k e2.symm
    rw [k1] at k2
    injection k2 with k2
    injection k2
theorem apart_symm {v1 v2 : Value} (h : v1.ownBlock = none ∨ v1.ownBlock ≠ v2.ownBlock) : v2.ownBlock = none ∨ v2.ownBlock ≠ v1.ownBlock := by
  rcases h with h | h
  · cases e : v2.ownBlock with
    | none => exact .inl rfl
    | some k => rw [h]; exact .inr (by simp)
  · exact .inr (Ne.symm h)
theorem apart_new {w : World} {b t n : Nat} {v v1 v' : Value} {x : List Value} (h : v.ownBlock = none ∨ v.ownBlock ≠ v1.ownBlock) (ho : w.ownsRow b t 1 v n x) (hat : v'.ownBlock = v1.ownBlock ∨ ∃ b, v'.ownBlock = some b ∧ w.heap.size ≤ b) : v.ownBlock = none ∨ v.ownBlock ≠ v'.ownBlock := by
  rcases hat with e | ⟨k, e, hk⟩
  · rw [e]; exact h
  · refine .inr fun e2 => ?_
    have := own_lt ho k (by rw [e2, e])
    omega
structure Bk (w0 w : World) (v8 v9 v11 v13 v16 : Value) (h8 h9 : List Hdr) (m8 m9 : List (List Int)) (ls : List Int) (want : List ByteArray) (gone : List Int) : Prop where
  below : Below w0.heap.size w0 w
  o8 : w.ownsRow w0.heap.size 41 1 v8 h8.length (encs hdV h8)
  o9 : w.ownsRow w0.heap.size 41 1 v9 h9.length (encs hdV h9)
  r8 : Rows5 w h8 m8
  r9 : Rows5 w h9 m9
  o11 : w.ownsRow w0.heap.size 3 1 v11 ls.length (nums .i64 ls)
  o13 : w.ownsRow w0.heap.size 9 1 v13 want.length (encs Value.string want)
  o16 : w.ownsRow w0.heap.size 3 1 v16 gone.length (nums .i64 gone)
  n89 : v8.ownBlock = none ∨ v8.ownBlock ≠ v9.ownBlock
  n1116 : v11.ownBlock = none ∨ v11.ownBlock ≠ v16.ownBlock
section
variable {w0 w w' : World} {v8 v9 v11 v13 v16 v' : Value} {h8 h9 : List Hdr} {m8 m9 : List (List Int)} {ls : List Int} {want : List ByteArray} {gone : List Int}
theorem Bk.base (h : Bk w0 w v8 v9 v11 v13 v16 h8 h9 m8 m9 ls want gone) : w0.heap.size ≤ w.heap.size := h.below.size
theorem Bk.moved (h : Bk w0 w v8 v9 v11 v13 v16 h8 h9 m8 m9 ls want gone) (hb : Below w.heap.size w w') : Bk w0 w' v8 v9 v11 v13 v16 h8 h9 m8 m9 ls want gone :=
  ⟨below_then h.below h.below.size hb, own_below5 h.o8 hb, own_below5 h.o9 hb, h.r8.move (Same5.of_below hb), h.r9.move (Same5.of_below hb), own_below5 h.o11 hb, own_below5 h.o13 hb, own_below5 h.o16 hb, h.n89, h.n1116⟩
theorem Bk.drewN (h : Bk w0 w v8 v9 v11 v13 v16 h8 h9 m8 m9 ls want gone) (n : Nat) : Bk w0 (w.drewN n) v8 v9 v11 v13 v16 h8 h9 m8 m9 ls want gone := h.moved (pw_below_drewN (Below.refl _ _) n)
theorem Bk.app11 (h : Bk w0 w v8 v9 v11 v13 v16 h8 h9 m8 m9 ls want gone) {x : Int} (hown : w'.ownsRow w0.heap.size 3 1 v' (ls ++ [x]).length (nums .i64 (ls ++ [x]))) (hb : Below w0.heap.size w0 w') (hg : w.grownBy w' v11.ownBlock) (hat : v'.ownBlock = v11.ownBlock ∨ ∃ b, v'.ownBlock = some b ∧ w.heap.size ≤ b) :
    Bk w0 w' v8 v9 v' v13 v16 h8 h9 m8 m9 (ls ++ [x]) want gone :=
  have hs : Same5 w w' := Same5.of_grown hg (fun k c f hk => ne5 (by decide) h.o11 hk)
  ⟨hb, h.o8.kept hg (typed_apart h.o8 h.o11 (by decide)), h.o9.kept hg (typed_apart h.o9 h.o11 (by decide)), h.r8.move hs, h.r9.move hs, hown, h.o13.kept hg (typed_apart h.o13 h.o11 (by decide)), h.o16.kept hg (apart_symm h.n1116), h.n89, apart_symm (apart_new (apart_symm h.n1116) h.o16 hat)⟩
theorem Bk.app16 (h : Bk w0 w v8 v9 v11 v13 v16 h8 h9 m8 m9 ls want gone) {x : Int} (hown : w'.ownsRow w0.heap.size 3 1 v' (gone ++ [x]).length (nums .i64 (gone ++ [x]))) (hb : Below w0.heap.size w0 w') (hg : w.grownBy w' v16.ownBlock) (hat : v'.ownBlock = v16.ownBlock ∨ ∃ b, v'.ownBlock = some b ∧ w.heap.size ≤ b) :
    Bk w0 w' v8 v9 v11 v13 v' h8 h9 m8 m9 ls want (gone ++ [x]) :=
  have hs : Same5 w w' := Same5.of_grown hg (fun k c f hk => ne5 (by decide) h.o16 hk)
  ⟨hb, h.o8.kept hg (typed_apart h.o8 h.o16 (by decide)), h.o9.kept hg (typed_apart h.o9 h.o16 (by decide)), h.r8.move hs, h.r9.move hs, h.o11.kept hg h.n1116, h.o13.kept hg (typed_apart h.o13 h.o16 (by decide)), hown, h.n89, apart_new h.n1116 h.o11 hat⟩
theorem Bk.app13 (h : Bk w0 w v8 v9 v11 v13 v16 h8 h9 m8 m9 ls want gone) {x : ByteArray} (hown : w'.ownsRow w0.heap.size 9 1 v' (want ++ [x]).length (encs Value.string (want ++ [x]))) (hb : Below w0.heap.size w0 w') (hg : w.grownBy w' v13.ownBlock) :
    Bk w0 w' v8 v9 v11 v' v16 h8 h9 m8 m9 ls (want ++ [x]) gone :=
  have hs : Same5 w w' := Same5.of_grown hg (fun k c f hk => ne5 (by decide) h.o13 hk)
  ⟨hb, h.o8.kept hg (typed_apart h.o8 h.o13 (by decide)), h.o9.kept hg (typed_apart h.o9 h.o13 (by decide)), h.r8.move hs, h.r9.move hs, h.o11.kept hg (typed_apart h.o11 h.o13 (by decide)), hown, h.o16.kept hg (typed_apart h.o16 h.o13 (by decide)), h.n89, h.n1116⟩
end
section
variable {w0 w w' : World} {v8 v9 v11 v13 v16 v' : Value} {h8 h9 : List Hdr} {m8 m9 : List (List Int)} {ls : List Int} {want : List ByteArray} {gone : List Int} {g c n : Nat}
theorem set_heads {W : World} {base : Nat} {hs : List Hdr} (h : W.ownsRow base 41 1 (.slice (some ⟨g, 0, none⟩) n c) hs.length (encs hdV hs)) (k : Nat) (hd : Hdr) :
    (W.setCell ⟨g, k, none⟩ (hdV hd)).ownsRow base 41 1 (.slice (some ⟨g, 0, none⟩) n c) (hs.set k hd).length (encs hdV (hs.set k hd)) ∧ W.grownBy (W.setCell ⟨g, k, none⟩ (hdV hd)) (some g) := by
  have hn : n = hs.length := by
    rcases h.2 with ⟨e, _⟩ | ⟨g', cap, cur, e, r⟩
    · injection e with e; cases e
    · injection e with _ e _
  subst hn
  have := own_store_of (enc := hdV) h (k : Int) hd
  rw [Int.toNat_natCast] at this
  rw [List.length_set]
  exact this
theorem Bk.set8 (h : Bk w0 w (.slice (some ⟨g, 0, none⟩) n c) v9 v11 v13 v16 h8 h9 m8 m9 ls want gone) (k : Nat) {hd : Hdr} {r : List Int} (hr : Row5 w hd r) :
    Bk w0 (w.setCell ⟨g, k, none⟩ (hdV hd)) (.slice (some ⟨g, 0, none⟩) n c) v9 v11 v13 v16 (h8.set k hd) h9 (m8.set k r) m9 ls want gone := by
  obtain ⟨ho, hg⟩ := set_heads h.o8 k hd
  have hs : Same5 w (w.setCell ⟨g, k, none⟩ (hdV hd)) := Same5.of_grown hg (fun k c f hk => ne5 (by decide) h.o8 hk)
  have a : ∀ {t n2 : Nat} {v : Value} {x : List Value}, w.ownsRow w0.heap.size t 1 v n2 x → t ≠ 41 → (w.setCell ⟨g, k, none⟩ (hdV hd)).ownsRow w0.heap.size t 1 v n2 x := fun ho2 ht => ho2.kept hg (typed_apart ho2 h.o8 ht)
  exact ⟨pw_below_grown h.below _ h.below.size hg (own_base h.o8), ho, h.o9.kept hg (apart_symm h.n89), (h.r8.move hs).set k (hr.move hs), h.r9.move hs, a h.o11 (by decide), a h.o13 (by decide), a h.o16 (by decide), h.n89, h.n1116⟩
theorem Bk.set9 (h : Bk w0 w v8 (.slice (some ⟨g, 0, none⟩) n c) v11 v13 v16 h8 h9 m8 m9 ls want gone) (k : Nat) {hd : Hdr} {r : List Int} (hr : Row5 w hd r) :
    Bk w0 (w.setCell ⟨g, k, none⟩ (hdV hd)) v8 (.slice (some ⟨g, 0, none⟩) n c) v11 v13 v16 h8 (h9.set k hd) m8 (m9.set k r) ls want gone := by
  obtain ⟨ho, hg⟩ := set_heads h.o9 k hd
  have hs : Same5 w (w.setCell ⟨g, k, none⟩ (hdV hd)) := Same5.of_grown hg (fun k c f hk => ne5 (by decide) h.o9 hk)
  have a : ∀ {t n2 : Nat} {v : Value} {x : List Value}, w.ownsRow w0.heap.size t 1 v n2 x → t ≠ 41 → (w.setCell ⟨g, k, none⟩ (hdV hd)).ownsRow w0.heap.size t 1 v n2 x := fun ho2 ht => ho2.kept hg (typed_apart ho2 h.o9 ht)
  exact ⟨pw_below_grown h.below _ h.below.size hg (own_base h.o9), h.o8.kept hg h.n89, ho, h.r8.move hs, (h.r9.move hs).set k (hr.move hs), a h.o11 (by decide), a h.o13 (by decide), a h.o16 (by decide), h.n89, h.n1116⟩
end
/-- a row that is written out -/
theorem row5_lit (w : World) (l : List Int) (fz : Nat × Nat) (hl : l.length ≤ 1000) : Row5 (w.alloc (.cells (nums .u8 l).toArray 5 fz)) (some ⟨w.heap.size, 0, none⟩, l.length, l.length) l := by
  refine ⟨rfl, Nat.le_refl _, by omega, fun _ => ⟨w.heap.size, 0, _, _, rfl, heap_alloc_new w _, fun x y hx => ?_⟩⟩
  rw [Nat.zero_add]
  unfold nums
  simp [hx]
/-- what stands in a slice of strings -/
def strs (m : List (List Int)) : List ByteArray := m.map strOfNums
theorem strs_length (m : List (List Int)) : (strs m).length = m.length := by unfold strs; rw [List.length_map]
def lensI (m : List (List Int)) : List Int := up (m.map List.length)
theorem lensI_snoc (m : List (List Int)) (r : List Int) : lensI (m ++ [r]) = lensI m ++ [(r.length : Int)] := by unfold lensI up; simp
theorem strs_snoc (m : List (List Int)) (r : List Int) : strs (m ++ [r]) = strs m ++ [strOfNums r] := by unfold strs; simp
theorem lensI_length (m : List (List Int)) : (lensI m).length = m.length := by unfold lensI; rw [up_length, List.length_map]
theorem widthL_snoc (m : List (List Int)) (r : List Int) : widthL (m ++ [r]) = max (widthL m) r.length := by
  unfold widthL wideN
  rw [List.map_append, List.foldl_append]; rfl
/-- what is lost so far -/
structure Gst (rows m8 m9 : List (List Int)) (gone : List Int) (n p : Nat) : Prop where
  rn : m8.length = n
  pn : m9.length = p
  in8 : ∀ r ∈ m8, ∀ y ∈ r, In8 y
  in9 : ∀ r ∈ m9, ∀ y ∈ r, In8 y
  rng : ∀ s, s < gone.length → 0 ≤ gone.getD s 0 ∧ gone.getD s 0 < ((n + p : Nat) : Int)
  same : ∀ t, t < n → (∀ s, s < gone.length → (gone.getD s 0).toNat ≠ t) → m8.getD t [] = rows.getD t []
  sameM : ∀ t, t < p → (∀ s, s < gone.length → (gone.getD s 0).toNat ≠ n + t) → m9.getD t [] = moreRow rows t
theorem getD_snoc_last {l : List Int} (x : Int) : (l ++ [x]).getD l.length 0 = x := by rw [List.getD_eq_getElem?_getD, List.getElem?_append_right (Nat.le_refl _), Nat.sub_self]; rfl
theorem getD_snoc_lt {l : List Int} (x : Int) {s : Nat} (hs : s < l.length) : (l ++ [x]).getD s 0 = l.getD s 0 := by rw [List.getD_eq_getElem?_getD, List.getElem?_append_left hs, ← List.getD_eq_getElem?_getD]
theorem rng_snoc {gone : List Int} {N k : Nat} (h : ∀ s, s < gone.length → 0 ≤ gone.getD s 0 ∧ gone.getD s 0 < (N : Int)) (hk : k < N) : ∀ s, s < (gone ++ [(k : Int)]).length → 0 ≤ (gone ++ [(k : Int)]).getD s 0 ∧ (gone ++ [(k : Int)]).getD s 0 < (N : Int) := by
  intro s hs
  rw [List.length_append, List.length_singleton] at hs
  by_cases e : s < gone.length
  · rw [getD_snoc_lt _ e]; exact h s e
  · obtain rfl : s = gone.length := by omega
    rw [getD_snoc_last]; omega
theorem set_in8 {m : List (List Int)} {k : Nat} {r : List Int} (h : ∀ r ∈ m, ∀ y ∈ r, In8 y) (hr : ∀ y ∈ r, In8 y) : ∀ q ∈ m.set k r, ∀ y ∈ q, In8 y := by
  intro q hq
  rcases List.mem_or_eq_of_mem_set hq with e | e
  · exact h q e
  · rw [e]; exact hr
theorem set_getD_ne {m : List (List Int)} {k t : Nat} (r : List Int) (h : k ≠ t) : (m.set k r).getD t [] = m.getD t [] := by
  rw [List.getD_eq_getElem?_getD, List.getElem?_set_ne h, ← List.getD_eq_getElem?_getD]
theorem Gst.lose8 {rows m8 m9 : List (List Int)} {gone : List Int} {n p k : Nat} (h : Gst rows m8 m9 gone n p) (hk : k < n) {r : List Int} (hr : ∀ y ∈ r, In8 y) : Gst rows (m8.set k r) m9 (gone ++ [(k : Int)]) n p := by
  refine ⟨by rw [List.length_set]; exact h.rn, h.pn, set_in8 h.in8 hr, h.in9, rng_snoc h.rng (by omega), fun t ht hs => ?_, fun t ht hs => ?_⟩
  · have h1 := hs gone.length (by simp)
    rw [getD_snoc_last, Int.toNat_natCast] at h1
    rw [set_getD_ne r h1]
    exact h.same t ht fun s hs2 => by have := hs s (by simp; omega); rwa [getD_snoc_lt _ hs2] at this
  · exact h.sameM t ht fun s hs2 => by have := hs s (by simp; omega); rwa [getD_snoc_lt _ hs2] at this
theorem Gst.lose9 {rows m8 m9 : List (List Int)} {gone : List Int} {n p k : Nat} (h : Gst rows m8 m9 gone n p) (hk : n ≤ k) (hk2 : k < n + p) {r : List Int} (hr : ∀ y ∈ r, In8 y) : Gst rows m8 (m9.set (k - n) r) (gone ++ [(k : Int)]) n p := by
  refine ⟨h.rn, by rw [List.length_set]; exact h.pn, h.in8, set_in8 h.in9 hr, rng_snoc h.rng hk2, fun t ht hs => ?_, fun t ht hs => ?_⟩
  · exact h.same t ht fun s hs2 => by have := hs s (by simp; omega); rwa [getD_snoc_lt _ hs2] at this
  · have h1 := hs gone.length (by simp)
    rw [getD_snoc_last, Int.toNat_natCast] at h1
    rw [set_getD_ne r (show k - n ≠ t by omega)]
    exact h.sameM t ht fun s hs2 => by have := hs s (by simp; omega); rwa [getD_snoc_lt _ hs2] at this
theorem Gst.lost {rows m8 m9 : List (List Int)} {gone : List Int} {n p : Nat} (h : Gst rows m8 m9 gone n p) (hr : rows.length = n) (hn : n ≤ 200) (hp : p ≤ 16) (hs : ∀ r ∈ rows, r.length ≤ 16777216) (hin : ∀ r ∈ rows, ∀ y ∈ r, In8 y) (hg : gone.length ≤ p) : Lost rows m8 m9 (gonesL (n + p) gone) n p where
  rn := hr
  rn' := h.rn
  pn := h.pn
  gn := by unfold gonesL; rw [marksFrom_length, List.length_replicate]
  n200 := hn
  p16 := hp
  small := hs
  rin := hin
  rin' := h.in8
  min' := h.in9
  same := fun t ht hf => h.same t ht fun s hs2 e => by
    have := (gones_getD (n + p) gone (show t < n + p by omega)).2 ⟨s, hs2, e⟩
    rw [hf] at this; cases this
  sameM := fun t ht hf => h.sameM t ht fun s hs2 e => by
    have := (gones_getD (n + p) gone (show n + t < n + p by omega)).2 ⟨s, hs2, e⟩
    rw [hf] at this; cases this
  few := Nat.le_trans (gones_cnt _ _) hg
end Go.Proofs.Ytdhajlkiiphlfaa.Par
/-! ParityBack, walked -/
namespace Go.Proofs.Ytdhajlkiiphlfaa.Par
open Go.RowKit Go.Proofs.Ytdhajlkiiphlfaa.QBaseParityWide Go.Proofs.YtdhajlkiiphlfaaW.PrintWords Go.Proofs.YtdhajlkiiphlfaaW.PrintLast Go.Proofs.YtdhajlkiiphlfaaW.PrintMore Go.Proofs.Ytdhajlkiiphlfaa.Solve
set_option linter.unusedVariables false
set_option linter.unusedSimpArgs false
theorem rowsB_len (l : List ByteArray) : (rowsB l).length ≤ 200 := by unfold rowsB; rw [List.length_map, List.length_take]; omega
theorem rowsB_in (l : List ByteArray) : ∀ r ∈ rowsB l, ∀ y ∈ r, In8 y := fun r hr => by
  unfold rowsB at hr; obtain ⟨s, _, rfl⟩ := List.mem_map.1 hr; exact rowB_in s
theorem rowsB_small (l : List ByteArray) : ∀ r ∈ rowsB l, r.length ≤ 16777216 := fun r hr => by
  unfold rowsB at hr; obtain ⟨s, _, rfl⟩ := List.mem_map.1 hr; exact rowB_small s
theorem RoA.reads {w0 w : World} {v : Value} {hs : List Hdr} {m : List (List Int)} (h : RoA w0 w v hs m) : ∃ A c, v = .slice A m.length c ∧ m.length ≤ c ∧ Kd.C (Kd.slice 5 (Kd.int .u8)) w A m.length m := by
  obtain ⟨A, c, rfl, hc⟩ : ∃ A c, v = .slice A m.length c ∧ m.length ≤ c := by
    rcases h.own.2 with ⟨e, hx⟩ | ⟨g, cap, cur, e, _, _, hn, _⟩
    · have hz : m.length = 0 := by
        rw [← h.rows.len]
        have := h.own.1; rw [hx] at this; simp at this; omega
      rw [hz]; exact ⟨_, 0, e, Nat.le_refl _⟩
    · exact ⟨_, cap, by rw [← h.rows.len]; exact e, by rw [← h.rows.len]; exact hn⟩
  exact ⟨A, c, rfl, hc, h.rows.toC h.own⟩
/-- where Make has come back -/
theorem back_start {w0 w1 w : World} {v8 : Value} {h8 : List Hdr} {m : List (List Int)} {g b p : Nat} (h : RoA w0 w1 v8 h8 m) (hb0 : w0.heap.size ≤ w1.heap.size) (hp : p ≤ 16) (hcu : Cu w w1.heap.size g b (madeL m p)) (hb : Below w1.heap.size w1 w) :
    ∃ h9 : List Hdr, h9.length = p ∧ Bk w0 w v8 (.slice (some ⟨g, 0, none⟩) p p) (.slice none 0 0) (.slice none 0 0) (.slice none 0 0) h8 h9 m (madeL m p) [] [] [] := by
  obtain ⟨h9, hh, hdt⟩ := hcu.toDt
  have hl : h9.length = p := by rw [hdt.len]; simp [madeL]
  subst hl
  have ho9 := own_heads (base := w0.heap.size) (Nat.le_trans hb0 hcu.hg) hh (by omega)
  refine ⟨h9, rfl, ⟨below_then h.below hb0 hb, own_below5 h.own hb, ho9, h.rows.move (Same5.of_below hb), hdt.rows5, ⟨rfl, .inl ⟨rfl, rfl⟩⟩, ⟨rfl, .inl ⟨rfl, rfl⟩⟩, ⟨rfl, .inl ⟨rfl, rfl⟩⟩, ?_, .inl rfl⟩⟩
  refine .inr fun e => ?_
  have h1 := own_lt h.own g e
  have h2 := hcu.hg
  omega
theorem sc1 : (Value.string ⟨#[]⟩).cells.size = 1 := by kernel_rfl
theorem info9' : (Try.prog.info? 9).map (fun i => (i.zero, i.size, i.bytes)) = some (some (.string ⟨#[]⟩), 1, 16) := by kernel_rfl
theorem max_letter (a b : Nat) : ∃ mx : Nat, max (a : Int) (b : Int) = (mx : Int) ∧ mx = max a b := ⟨max a b, by omega, rfl⟩
theorem row_again {m : List (List Int)} {i : Nat} (hi : i < m.length) : m[i] ∈ m ∧ ∀ {w0 w : World} {ad : Addr} {v9 v11 v13 v16 : Value} {h8 h9 : List Hdr} {m9 : List (List Int)} {ls : List Int} {want : List ByteArray} {gone : List Int} {n c : Nat}, Bk w0 w (.slice (some ad) n c) v9 v11 v13 v16 h8 h9 m m9 ls want gone →
    ∃ B d, w.cell? (ad.add i) = some (.slice B m[i].length d) ∧ (Kd.int .u8).C w B m[i].length m[i] := ⟨List.getElem_mem hi, fun h => by
  obtain ⟨ad', B, d, e, hx, hl, hC⟩ := at_L2 (h.r8.toC h.o8) (i : Int) (by omega) (by have := (h.r8.toC h.o8).1; omega)
  cases e
  rw [rdL_nat] at hx hC
  rw [Int.toNat_natCast] at hx
  rw [List.getD_eq_getElem?_getD, List.getElem?_eq_getElem hi] at hx hC
  exact ⟨B, d, hx, hC⟩⟩
theorem own_form {w : World} {base t n : Nat} {v : Value} {xs : List Value} (h : w.ownsRow base t 1 v n xs) : ∃ A c, v = .slice A n c := by
  rcases h.2 with ⟨e, hx⟩ | ⟨g, cap, cur, e, _, _, hn, _⟩
  · have hz : n = 0 := by have := h.1; rw [hx] at this; simp at this; omega
    rw [hz]; exact ⟨_, 0, e⟩
  · exact ⟨_, cap, e⟩
theorem own_some {w : World} {base t n m c : Nat} {A : Option Addr} {xs : List Value} (h : w.ownsRow base t 1 (.slice A n c) m xs) (hn : 0 < n) : ∃ g, A = some ⟨g, 0, none⟩ := by
  rcases h.2 with ⟨e, hx⟩ | ⟨g, cap, cur, e, _⟩
  · injection e with _ e _; omega
  · injection e with e _ _; exact ⟨g, e⟩
theorem head_cell {W : World} {base g n c : Nat} {hs : List Hdr} (h : W.ownsRow base 41 1 (.slice (some ⟨g, 0, none⟩) n c) hs.length (encs hdV hs)) (k : Nat) (hk : k < hs.length) : ∃ u, W.cell? ⟨g, k, none⟩ = some u ∧ W.frozen? ⟨g, k, none⟩ = false ∧ g < W.heap.size := by
  obtain ⟨cells, hh⟩ := own_typed h g rfl
  have hn : n = hs.length := by
    rcases h.2 with ⟨e, _⟩ | ⟨g', cap, cur, e, r⟩
    · injection e with e; cases e
    · injection e with _ e _
  subst hn
  have := own_at_of (d := ((none, 0, 0) : Hdr)) h (k : Int) (by omega) (by omega)
  rw [Int.toNat_natCast] at this
  exact ⟨_, this.1, this.2, own_lt h g rfl⟩
def lostB : List Int := [105, 116, 32, 105, 115, 32, 108, 111, 115, 116]
theorem lost_row (w : World) : Row5 (w.alloc (.cells #[.int .u8 105, .int .u8 116, .int .u8 32, .int .u8 105, .int .u8 115, .int .u8 32, .int .u8 108, .int .u8 111, .int .u8 115, .int .u8 116] 5 (10, 11))) (some ⟨w.heap.size, 0, none⟩, 10, 10) lostB := row5_lit w lostB (10, 11) (by decide)
theorem Bk.lost8 {w0 w : World} {v9 v11 v13 v16 : Value} {h8 h9 : List Hdr} {m8 m9 : List (List Int)} {ls : List Int} {want : List ByteArray} {gone : List Int} {g c n : Nat} (h : Bk w0 w (.slice (some ⟨g, 0, none⟩) n c) v9 v11 v13 v16 h8 h9 m8 m9 ls want gone) (k : Nat) :
    ∃ k8, Bk w0 ((w.setCell ⟨g, k, none⟩ (.slice (some ⟨w.heap.size, 0, none⟩) 10 10)).alloc (.cells #[.int .u8 105, .int .u8 116, .int .u8 32, .int .u8 105, .int .u8 115, .int .u8 32, .int .u8 108, .int .u8 111, .int .u8 115, .int .u8 116] 5 (10, 11))) (.slice (some ⟨g, 0, none⟩) n c) v9 v11 v13 v16 k8 h9 (m8.set k lostB) m9 ls want gone := by
  rw [← World.setCell_alloc_past _ g k _ (own_lt h.o8 g rfl)]
  exact ⟨_, (h.moved (below_alloc (Below.refl _ _) _)).set8 k (lost_row w)⟩
theorem Bk.lost9 {w0 w : World} {v8 v11 v13 v16 : Value} {h8 h9 : List Hdr} {m8 m9 : List (List Int)} {ls : List Int} {want : List ByteArray} {gone : List Int} {g c n : Nat} (h : Bk w0 w v8 (.slice (some ⟨g, 0, none⟩) n c) v11 v13 v16 h8 h9 m8 m9 ls want gone) (k : Nat) :
    ∃ k9, Bk w0 ((w.setCell ⟨g, k, none⟩ (.slice (some ⟨w.heap.size, 0, none⟩) 3 3)).alloc (.cells #[.int .u8 1, .int .u8 2, .int .u8 3] 5)) v8 (.slice (some ⟨g, 0, none⟩) n c) v11 v13 v16 h8 k9 m8 (m9.set k [1, 2, 3]) ls want gone := by
  rw [← World.setCell_alloc_past _ g k _ (own_lt h.o9 g rfl)]
  exact ⟨_, (h.moved (below_alloc (Below.refl _ _) _)).set9 k (row5_lit w [1, 2, 3] (0, 0) (by decide))⟩
theorem lostB_in : ∀ y ∈ lostB, In8 y := by unfold lostB In8; decide
theorem l123_in : ∀ y ∈ ([1, 2, 3] : List Int), In8 y := by unfold In8; decide
theorem own_str {w : World} {base g n c : Nat} {want : List ByteArray} {m : List (List Int)} (h : w.ownsRow base 9 1 (.slice (some ⟨g, 0, none⟩) n c) want.length (encs Value.string want)) (hm : want = strs m) {i : Nat} (hi : i < m.length) : w.cell? ⟨g, i, none⟩ = some (.string (strOfNums (m.getD i []))) := by
  have hn : n = want.length := by
    rcases h.2 with ⟨e, _⟩ | ⟨g', cap, cur, e, r⟩
    · injection e with e; cases e
    · injection e with _ e _
  subst hn
  subst hm
  have := (own_at_of (d := ByteArray.empty) h (i : Int) (by omega) (by rw [strs_length]; omega)).1
  rw [Int.toNat_natCast] at this
  rw [this]
  unfold rdOf strs
  rw [Int.toNat_natCast, List.getD_eq_getElem?_getD, List.getElem?_map, List.getElem?_eq_getElem hi, List.getD_eq_getElem?_getD, List.getElem?_eq_getElem hi]; rfl
theorem made_in (rows : List (List Int)) (hn : rows.length ≤ 256) (p : Nat) : ∀ r ∈ madeL rows p, ∀ y ∈ r, In8 y := by
  intro r h
  unfold madeL at h
  obtain ⟨i, _, rfl⟩ := List.mem_map.1 h
  exact moreRow_in _ hn _
theorem Gst.start {rows : List (List Int)} {p : Nat} (h8 : ∀ r ∈ rows, ∀ y ∈ r, In8 y) (h9 : ∀ r ∈ madeL rows p, ∀ y ∈ r, In8 y) (hl : (madeL rows p).length = p) : Gst rows rows (madeL rows p) [] rows.length p :=
  ⟨rfl, hl, h8, h9, fun s hs => absurd hs (Nat.not_lt_zero _), fun t ht _ => rfl, fun t ht _ => by
    unfold madeL
    rw [List.getD_eq_getElem?_getD, List.getElem?_map, List.getElem?_range ht]; rfl⟩
theorem made_row {rows : List (List Int)} {p : Nat} (r : List Int) (h : r ∈ madeL rows p) : r.length = widthL rows := by
  unfold madeL at h
  obtain ⟨i, _, rfl⟩ := List.mem_map.1 h
  exact moreRow_length _ _
theorem more_again {m9 : List (List Int)} {i : Nat} (hi : i < m9.length) {w0 w : World} {g : Nat} {v8 v11 v13 v16 : Value} {h8 h9 : List Hdr} {m : List (List Int)} {ls : List Int} {want : List ByteArray} {gone : List Int} {n c : Nat} (h : Bk w0 w v8 (.slice (some ⟨g, 0, none⟩) n c) v11 v13 v16 h8 h9 m m9 ls want gone) :
    ∃ B d, w.cell? ⟨g, i, none⟩ = some (.slice B m9[i].length d) ∧ (Kd.int .u8).C w B m9[i].length m9[i] := by
  obtain ⟨ad', B, d, e, hx, hl, hC⟩ := at_L2 (h.r9.toC h.o9) (i : Int) (by omega) (by have := (h.r9.toC h.o9).1; omega)
  cases e
  rw [rdL_nat] at hx hC
  rw [Int.toNat_natCast, add_plain] at hx
  rw [List.getD_eq_getElem?_getD, List.getElem?_eq_getElem hi] at hx hC
  exact ⟨B, d, hx, hC⟩
set_option maxHeartbeats 800000 in
set_option maxRecDepth 100000 in
theorem back_calls (A0 A2 : Option Addr) (c0 c2 : Nat) (l : List ByteArray) (a : Int) (lost : List Int) (w : World) (hr0 : Kd.C Kd.string w A0 l.length l) (hl : l.length ≤ 140737488355328) (ha1 : -9223372036854775808 ≤ a) (ha2 : a ≤ 9223372036854775807)
    (hr2 : Kd.C (Kd.int .i64) w A2 lost.length lost) (hlo : lost.length ≤ 140737488355328) (hlin : ∀ y ∈ lost, -9223372036854775808 ≤ y ∧ y ≤ 9223372036854775807) :
    Calls Try.prog 5 #[.slice A0 l.length c0, .int .i64 a, .slice A2 lost.length c2] w fun e w' => e = .returned (.bool true) ∧ Below w.heap.size w w' := by
  obtain ⟨p, hp17, hpf⟩ := pick_f a 17 (by decide) ha1 ha2
  have HPF : Aside0 (dailieslaw05_pick.f a 17 = some (p : Int)) := ⟨hpf⟩
  have HR0 := Aside0.mk hr0
  have HL := Aside0.mk hl
  have HR2 := Aside0.mk hr2
  have HLO := Aside0.mk hlo
  have HLIN := Aside0.mk hlin
  have HP := Aside0.mk (show p ≤ 16 by omega)
  have HFIT := Aside0.mk (rowsFit_iff.2 (rowsB_small l))
  clear hr0 hl ha1 ha2 hr2 hlo hlin hpf hp17
  go_enter Try.func5, Try.ntmps5
  go_wp2_with (first
    | (go_at_call 9; (with_reducible refine (awake_calls _).mono ?_); rintro e w1 ⟨rfl, hb⟩; have HB1 := Aside0.mk hb; have HR1 := Aside0.mk (Kd.C_below HR0.out hb); clear hb)
    | (go_at_call 10; (with_reducible refine (weight_calls _ _ _ _ HR1.out HL.out).mono ?_); rintro e w2 ⟨⟨x, rfl⟩, hb⟩; have HB2 := Aside0.mk (below_step HB1.out hb); have HR3 := Aside0.mk (Kd.C_below HR1.out hb); obtain ⟨t, ht⟩ : ∃ t : Bool, decide (2147483647 < x) = t := ⟨_, rfl⟩; clear hb)
    | (go_at_call 13; (with_reducible refine (rowsOf_calls _ _ _ _ HR3.out HL.out).mono ?_); rintro e w3 ⟨v8, h8, rfl, hro⟩; obtain ⟨A8, c8, rfl, hc8, hC8⟩ := hro.reads; have HRO := Aside0.mk hro; have HC8 := Aside0.mk hC8; have HH8 := Aside0.mk hc8; clear hro hC8 hc8)
    | (go_at_call 14; (with_reducible refine (dailieslaw05_pick.calls a 17 (p : Int) _ HPF.out).mono ?_); rintro e w4 ⟨rfl, ⟨nd, rfl⟩⟩)
    | (go_at_call 15; (with_reducible refine (make_ok _ _ (rowsB l) p _ (Kd.C_drewN HC8.out _) HH8.out (rowsB_len l) HP.out (rowsB_in l)).mono ?_); rintro e w5 hmk; unfold MakePost at hmk; rw [if_pos HFIT.out] at hmk; obtain ⟨g, b, rfl, hcu, hb⟩ := hmk; obtain ⟨h9, hh9, hbk⟩ := back_start HRO.out HRO.out.below.size HP.out hcu (below_then (pw_below_drewN (Below.refl _ _) _) (Nat.le_refl _) hb); have HBK := Aside0.mk hbk; have HH9 := Aside0.mk hh9; clear hbk hcu hb hh9))
  · go_ret
    exact ⟨rfl, HB2.out⟩
  have HRL := Aside0.mk (rowsB_len l)
  have HRI := Aside0.mk (rowsB_in l)
  have HRS := Aside0.mk (rowsB_small l)
  clear HR0 HR1 HR3 HB1 HRO HC8 HH8 HFIT HPF ht HL
  generalize rowsB l = rows at *
  go_loopw [11, 12, 13, 14] (fun v11 v12 v13 v14 wr => ∃ (i : Nat) (x11 x13 : Value), i ≤ rows.length ∧ x11 = v11 ∧ x13 = v13 ∧ v12 = .int .i64 ((widthL (rows.take i) : Nat) : Int) ∧ v14 = .int .i64 (i : Int) ∧ Aside0 (Bk w2 wr (.slice A8 rows.length c8) (.slice (some ⟨g, 0, none⟩) p p) x11 x13 (.slice none 0 0) h8 h9 rows (madeL rows p) (lensI (rows.take i)) (strs (rows.take i)) [])) (fun _ _ _ v14 _ => rows.length - (intOf v14).toNat)
  case atStart => exact ⟨0, _, _, Nat.zero_le _, rfl, rfl, rfl, rfl, HBK⟩
  case round =>
    clear HBK
    obtain ⟨i, x11, x13, hi, rfl, rfl, rfl, rfl, HBK⟩ := hrel
    by_cases hlt : i < rows.length
    · --{ 1
      have hd1 : decide ((i : Int) < (rows.length : Int)) = true := decide_eq_true (by omega)
      have hd1' : decide (i < rows.length) = true := decide_eq_true hlt
      obtain ⟨ad, A2, c2, e2, hx2, hl2, hC2⟩ := at_L2 (HBK.out.r8.toC HBK.out.o8) (i : Int) (by omega) (by omega)
      cases e2
      rw [rdL_nat] at hx2 hl2 hC2
      rw [Int.toNat_natCast] at hx2
      have HTK := Aside0.mk (take_one rows hlt)
      have hge : rows.getD i [] = rows[i] := by rw [List.getD_eq_getElem?_getD, List.getElem?_eq_getElem hlt]; rfl
      rw [hge] at hx2 hl2 hC2
      have HRD := Aside0.mk (row_again (m := rows) (i := i) hlt)
      generalize rows[i] = r at *
      have hR : r ∈ rows := HRD.out.1
      obtain ⟨mx, hmx, hmx2⟩ := max_letter (widthL (rows.take i)) r.length
      have HMX := Aside0.mk hmx2
      have HLN : Aside0 ((lensI (rows.take i)).length ≤ 200 ∧ (strs (rows.take i)).length ≤ 200) := ⟨by rw [lensI_length, strs_length, List.length_take]; have := HRL.out; omega⟩
      have HW1 := Aside0.mk (wr1 (i := i) hlt (by have := HRL.out; omega))
      have HLT := Aside0.mk hlt
      have hli : (i : Int) < (rows.length : Int) := by omega
      clear hge hR hlt hi hmx2
      go_wp2_with (first
        | ((with_reducible refine gate_builtin (b := .append) (xs := #[.tmp 55, .tmp 61]) rfl ?_); at_builtin; refine print_append_num (w0 := w2) w2.heap.size rfl (.tmp 55) (.tmp 61) 30 3 .i64 8 rfl Try.underlying30 info3 (by decide) x11 (lensI (rows.take i)) (r.length : Int) rfl rfl HBK.out.o11 HBK.out.below HBK.out.base (by have := HLN.out.1; omega) ?_; intro y11 w6 hown hb hg hat; have hbk6 := HBK.out.app11 hown hb hg hat; obtain ⟨B2, d2, hx6, hk6⟩ := HRD.out.2 hbk6; have HBK6 := Aside0.mk hbk6; have kst := Kd.C_string (P := Try.prog) (c := d2) Try.underlying41 Try.underlying5 Try.underlying9 hk6; clear hown hb hg hat hbk6)
        | ((with_reducible refine gate_builtin (b := .append) (xs := #[.tmp 70, .tmp 76]) rfl ?_); at_builtin; refine print_append_of (w0 := w2) Value.string w2.heap.size rfl (.tmp 70) (.tmp 76) 29 9 (.string ⟨#[]⟩) 16 rfl Try.underlying29 info9' sc1 (by decide) x13 (strs (rows.take i)) (strOfNums r) ?q1 ?q2 ?q3 HBK6.out.o13 HBK6.out.below HBK6.out.base ?q4 ?_; (case q3 => exact rfl); (case q4 => have := HLN.out.2; omega); (case q1 => rfl); (case q2 => rfl); intro y13 w7 hown hb hg hat; have HBK7 := Aside0.mk (HBK6.out.app13 hown hb hg); clear hown hb hg hat))
      clear kst hx6 hk6 hx2 hC2
      go_roundw
      case rel => exact ⟨i + 1, _, _, HLT.out, rfl, rfl, by rw [HTK.out, widthL_snoc, ← HMX.out], by rw [HW1.out], ⟨by rw [HTK.out, lensI_snoc, strs_snoc]; exact HBK7.out⟩⟩
      case measure => exact meas HW1.out HLT.out
      --}
    · have hd1 : decide ((i : Int) < (rows.length : Int)) = false := decide_eq_false (by omega)
      have hd1' : decide (i < rows.length) = false := decide_eq_false hlt
      obtain rfl : i = rows.length := by omega
      rw [List.take_of_length_le (Nat.le_refl _)] at HBK ⊢
      clear hlt hi
      have HML := Aside0.mk (show (madeL rows p).length = p by simp [madeL])
      go_wp2
      go_loopw [13, 15] (fun v13 v15 wr => ∃ (j : Nat) (x13 : Value), j ≤ p ∧ x13 = v13 ∧ v15 = .int .i64 (j : Int) ∧ Aside0 (Bk w2 wr (.slice A8 rows.length c8) (.slice (some ⟨g, 0, none⟩) p p) x11 x13 (.slice none 0 0) h8 h9 rows (madeL rows p) (lensI rows) (strs (rows ++ (madeL rows p).take j)) [])) (fun _ v15 _ => p - (intOf v15).toNat)
      case atStart => exact ⟨0, _, Nat.zero_le _, rfl, rfl, ⟨by rw [List.take_zero, List.append_nil]; exact HBK.out⟩⟩
      case round =>
        clear HBK
        obtain ⟨j, x13, hj, rfl, rfl, HBK⟩ := hrel
        by_cases hjlt : j < p
        · --{ 2
          have hd2 : decide ((j : Int) < (p : Int)) = true := decide_eq_true (by omega)
          have hd2' : decide (j < p) = true := decide_eq_true hjlt
          have hjm : j < (madeL rows p).length := by rw [HML.out]; exact hjlt
          obtain ⟨B2, d2, hx2, hk2⟩ := more_again hjm HBK.out
          have HTK := Aside0.mk (take_one (madeL rows p) hjm)
          have hrl : (madeL rows p)[j].length = widthL rows := made_row _ (List.getElem_mem hjm)
          have kst := Kd.C_string (P := Try.prog) (c := d2) Try.underlying41 Try.underlying5 Try.underlying9 hk2
          rw [hrl] at hx2 kst
          generalize (madeL rows p)[j] = r at *
          have HLN : Aside0 ((strs (rows ++ (madeL rows p).take j)).length ≤ 1000) := ⟨by rw [strs_length, List.length_append, List.length_take]; have := HRL.out; have := HP.out; omega⟩
          have HW1 := Aside0.mk (wr1 (i := j) hjlt (by have := HP.out; omega))
          have HLT := Aside0.mk hjlt
          have hlj : (j : Int) < (p : Int) := by omega
          clear hjlt hj hjm hrl hk2
          go_wp2_with (first
            | ((with_reducible refine gate_builtin (b := .append) (xs := #[.tmp 90, .tmp 96]) rfl ?_); at_builtin; refine print_append_of (w0 := w2) Value.string w2.heap.size rfl (.tmp 90) (.tmp 96) 29 9 (.string ⟨#[]⟩) 16 rfl Try.underlying29 info9' sc1 (by decide) x13 (strs (rows ++ (madeL rows p).take j)) (strOfNums r) ?q1 ?q2 ?q3 HBK.out.o13 HBK.out.below HBK.out.base ?q4 ?_; (case q3 => exact rfl); (case q4 => have := HLN.out; omega); (case q1 => rfl); (case q2 => rfl); intro y13 w7 hown hb hg hat; have HBK7 := Aside0.mk (HBK.out.app13 hown hb hg); clear hown hb hg hat))
          clear kst hx2
          go_roundw
          case rel => exact ⟨j + 1, _, HLT.out, rfl, by rw [HW1.out], ⟨by rw [HTK.out, ← List.append_assoc, strs_snoc]; exact HBK7.out⟩⟩
          case measure => exact meas HW1.out HLT.out
          --}
        · have hd2 : decide ((j : Int) < (p : Int)) = false := decide_eq_false (by omega)
          have hd2' : decide (j < p) = false := decide_eq_false hjlt
          obtain rfl : p = j := by omega
          have HTK : (madeL rows p).take p = madeL rows p := List.take_of_length_le (by rw [HML.out]; exact Nat.le_refl _)
          rw [HTK] at HBK
          clear hjlt hj HTK
          obtain ⟨A13, c13, e13⟩ := own_form HBK.out.o13
          have HWL : Aside0 ((strs (rows ++ madeL rows p)).length = rows.length + p) := ⟨by rw [strs_length, List.length_append, HML.out]⟩
          rw [HWL.out] at e13
          obtain rfl := e13
          have HGS := Aside0.mk (Gst.start HRI.out (made_in rows (by have := HRL.out; omega) p) HML.out)
          go_wp2
          go_loopw [16, 17, 18] (fun v16 v17 v18 wr => ∃ (i : Nat) (x16 : Value) (k8 k9 : List Hdr) (m8 m9 : List (List Int)) (gone : List Int), i ≤ lost.length ∧ i ≤ p ∧ x16 = v16 ∧ v17 = .int .i64 (i : Int) ∧ Aside0 (gone.length = i) ∧ Aside0 (Gst rows m8 m9 gone rows.length p) ∧ Aside0 (Bk w2 wr (.slice A8 rows.length c8) (.slice (some ⟨g, 0, none⟩) p p) x11 (.slice A13 (rows.length + p) c13) x16 k8 k9 m8 m9 (lensI rows) (strs (rows ++ madeL rows p)) gone)) (fun _ v17 _ _ => lost.length - (intOf v17).toNat)
          case atStart => exact ⟨0, _, _, _, _, _, [], Nat.zero_le _, Nat.zero_le _, rfl, rfl, ⟨rfl⟩, HGS, HBK⟩
          case round =>
            clear HBK HGS
            obtain ⟨i, x16, k8, k9, m8, m9, gone, hi, hi2, rfl, rfl, HGL, HGS, HBK⟩ := hrel
            obtain ⟨A16, c16, e16⟩ := own_form HBK.out.o16
            rw [HGL.out] at e16
            obtain rfl := e16
            by_cases hil : i < lost.length
            · have hd3 : decide ((i : Int) < (lost.length : Int)) = true := decide_eq_true (by omega)
              have hd3' : decide (i < lost.length) = true := decide_eq_true hil
              by_cases hip : i < p
              · --{ 3
                have hd4 : decide ((i : Int) < (p : Int)) = true := decide_eq_true (by omega)
                have hd4' : decide (i < p) = true := decide_eq_true hip
                obtain ⟨ae, e4, hx4⟩ := Kd.at_int (Kd.C_below HR2.out (below_step HB2.out HBK.out.below)) (i : Int) (by omega) (by omega)
                cases e4
                rw [Int.toNat_natCast, rd_nat] at hx4
                have hlm : lost.getD i 0 ∈ lost := by rw [List.getD_eq_getElem?_getD, List.getElem?_eq_getElem hil]; exact List.getElem_mem hil
                obtain ⟨k, hk, hpk⟩ := pick_f (lost.getD i 0) (rows.length + p) (by omega) (HLIN.out _ hlm).1 (HLIN.out _ hlm).2
                generalize lost.getD i 0 = y at *
                have HPK : Aside0 (dailieslaw05_pick.f y ((rows.length : Int) + (p : Int)) = some (k : Int)) := ⟨by have h := hpk; rwa [Int.natCast_add] at h⟩
                have HKK := Aside0.mk hk
                have HIL := Aside0.mk hil
                have HIP := Aside0.mk hip
                have HW1 := Aside0.mk (wr1 (i := i) hil (by have := HLO.out; omega))
                have hil' : (i : Int) < (lost.length : Int) := by omega
                by_cases hkn : k < rows.length
                · have hd5 : decide ((k : Int) < (rows.length : Int)) = true := decide_eq_true (by omega)
                  have hd5' : decide (k < rows.length) = true := decide_eq_true hkn
                  have HKN := Aside0.mk hkn
                  have hkn' : (k : Int) < (rows.length : Int) := by omega
                  obtain ⟨g8, rfl⟩ := own_some HBK.out.o8 (by omega)
                  clear hil hip hi hi2 hkn hlm hpk hk
                  go_wp2_with (first
                    | (go_at_call 14; (with_reducible refine (dailieslaw05_pick.calls _ _ (k : Int) _ HPK.out).mono ?_); rintro e w4 ⟨rfl, ⟨nd, rfl⟩⟩; have HBK4 := Aside0.mk (HBK.out.drewN nd))
                    | ((with_reducible refine gate_builtin (b := .append) (xs := #[.tmp 117, .tmp 119]) rfl ?_); at_builtin; refine print_append_num (w0 := w2) w2.heap.size rfl (.tmp 117) (.tmp 119) 30 3 .i64 8 rfl Try.underlying30 info3 (by decide) (.slice A16 i c16) gone (k : Int) ?q1 ?q2 HBK4.out.o16 HBK4.out.below HBK4.out.base ?q4 ?_; (case q1 => rfl); (case q2 => rfl); (case q4 => have := HGL.out; have := HIP.out; have := HP.out; omega); intro y16 w6 hown hb hg hat; have hbk6 := HBK4.out.app16 hown hb hg hat; have HBK6 := Aside0.mk hbk6; have kcv := Lib.run_convert_bytes_const (P := Try.prog) w6 41 5 #[.int .u8 105, .int .u8 116, .int .u8 32, .int .u8 105, .int .u8 115, .int .u8 32, .int .u8 108, .int .u8 111, .int .u8 115, .int .u8 116] 10 10 Try.underlying41 Try.underlying5; obtain ⟨u, hcu, hfu, hlu⟩ := head_cell hbk6.o8 k (by rw [hbk6.r8.len, HGS.out.rn]; exact HKN.out); clear hown hb hg hat hbk6))
                  clear hcu hfu hlu kcv hx4
                  obtain ⟨k8', hbk9⟩ := HBK6.out.lost8 k
                  have HBK9 := Aside0.mk hbk9
                  clear hbk9
                  go_roundw
                  case rel => exact ⟨i + 1, _, _, _, _, _, _, HIL.out, HIP.out, rfl, by rw [HW1.out], ⟨by rw [List.length_append, HGL.out]; rfl⟩, ⟨HGS.out.lose8 HKN.out lostB_in⟩, HBK9⟩
                  case measure => exact meas HW1.out HIL.out
                · have hd5 : decide ((k : Int) < (rows.length : Int)) = false := decide_eq_false (by omega)
                  have hd5' : decide (k < rows.length) = false := decide_eq_false hkn
                  have HKN : Aside0 (rows.length ≤ k) := ⟨by omega⟩
                  have hks : wrap64 ((k : Int) - (rows.length : Int)) = ((k - rows.length : Nat) : Int) := by have := HRL.out; have := HP.out; unfold wrap64; omega
                  have hkp : ((k - rows.length : Nat) : Int) < (p : Int) := by omega
                  have hkp2 : k - rows.length < p := by omega
                  clear hil hip hi hi2 hkn hlm hpk hk
                  go_wp2_with (first
                    | (go_at_call 14; (with_reducible refine (dailieslaw05_pick.calls _ _ (k : Int) _ HPK.out).mono ?_); rintro e w4 ⟨rfl, ⟨nd, rfl⟩⟩; have HBK4 := Aside0.mk (HBK.out.drewN nd))
                    | ((with_reducible refine gate_builtin (b := .append) (xs := #[.tmp 117, .tmp 119]) rfl ?_); at_builtin; refine print_append_num (w0 := w2) w2.heap.size rfl (.tmp 117) (.tmp 119) 30 3 .i64 8 rfl Try.underlying30 info3 (by decide) (.slice A16 i c16) gone (k : Int) ?q1 ?q2 HBK4.out.o16 HBK4.out.below HBK4.out.base ?q4 ?_; (case q1 => rfl); (case q2 => rfl); (case q4 => have := HGL.out; have := HIP.out; have := HP.out; omega); intro y16 w6 hown hb hg hat; have hbk6 := HBK4.out.app16 hown hb hg hat; have HBK6 := Aside0.mk hbk6;  obtain ⟨u, hcu, hfu, hlu⟩ := head_cell hbk6.o9 (k - rows.length) (by rw [hbk6.r9.len, HGS.out.pn]; have := HKN.out; have := HKK.out; omega); clear hown hb hg hat hbk6))
                  clear hcu hfu hlu hx4
                  obtain ⟨k9', hbk9⟩ := HBK6.out.lost9 (k - rows.length)
                  have HBK9 := Aside0.mk hbk9
                  clear hbk9
                  go_roundw
                  case rel => exact ⟨i + 1, _, _, _, _, _, _, HIL.out, HIP.out, rfl, by rw [HW1.out], ⟨by rw [List.length_append, HGL.out]; rfl⟩, ⟨HGS.out.lose9 HKN.out HKK.out l123_in⟩, HBK9⟩
                  case measure => exact meas HW1.out HIL.out
                --}
              · have hd4 : decide ((i : Int) < (p : Int)) = false := decide_eq_false (by omega)
                have hd4' : decide (i < p) = false := decide_eq_false hip
                --TAIL
                have HGP : Aside0 (gone.length ≤ p) := ⟨by rw [HGL.out]; exact hi2⟩
                have HLS := Aside0.mk (HGS.out.lost rfl HRL.out HP.out HRS.out HRI.out HGP.out)
                obtain ⟨A11, c11, e11, hc11, hC11⟩ := Kd.R_reads (R_of_own HBK.out.o11)
                obtain rfl := e11
                rw [lensI_length] at hc11 hC11 HBK ⊢
                obtain rfl := HGL.out
                obtain ⟨_, hc16, hC16⟩ := Kd.R_reads' (R_of_own HBK.out.o16)
                have HC11 := Aside0.mk hC11
                have HH11 := Aside0.mk hc11
                have HC16 := Aside0.mk hC16
                have HH16 := Aside0.mk hc16
                have HNL : Aside0 ((rows ++ madeL rows p).length = rows.length + p) := ⟨by rw [List.length_append, HML.out]⟩
                clear hi hi2 hc11 hC11 hc16 hC16
                go_wp2_with (first
                  | (go_at_call 16; (with_reducible refine (restore_back _ _ _ _ _ _ _ _ rows m8 m9 gone rows.length p _ ?r0 ?r1 HC11.out HH11.out ?r2 ?r3 HC16.out HH16.out HLS.out HGS.out.rng ?r4).mono ?_); (case r0 => exact HBK.out.r8.toC HBK.out.o8); (case r1 => exact own_le HBK.out.o8); (case r2 => exact HBK.out.r9.toC HBK.out.o9); (case r3 => exact Nat.le_refl _); (case r4 => have := HGP.out; have := HP.out; omega); rintro e w7 ⟨v7, hs1, hs2, b1, b2, rfl, hrr, hb⟩; obtain ⟨A7, c7, rfl, hc7, hC7⟩ := hrr.reads; rw [HNL.out] at hc7 hC7 ⊢; have HC7 := Aside0.mk hC7; have HBK7 := Aside0.mk (HBK.out.moved hb); clear hrr hc7 hC7 hb))
                go_loopw [21] (fun v21 wr => ∃ i : Nat, i ≤ rows.length + p ∧ v21 = .int .i64 (i : Int) ∧ Aside0 (Below w7.heap.size w7 wr)) (fun v21 _ => rows.length + p - (intOf v21).toNat)
                case atStart => exact ⟨0, Nat.zero_le _, rfl, ⟨Below.refl _ _⟩⟩
                case round =>
                  obtain ⟨q, hq, rfl, HB9⟩ := hrel
                  by_cases hql : q < rows.length + p
                  · have hd6 : decide ((q : Int) < (rows.length : Int) + (p : Int)) = true := decide_eq_true (by omega)
                    have hd6' : decide (q < rows.length + p) = true := decide_eq_true hql
                    have hC9 := Kd.C_below HC7.out HB9.out
                    obtain ⟨ad, B2, d2, e2, hx2, hl2, hk2⟩ := at_L2 hC9 (q : Int) (by omega) (by omega)
                    cases e2
                    rw [rdL_nat] at hx2 hl2 hk2
                    rw [Int.toNat_natCast] at hx2
                    have hbk9 := HBK7.out.moved HB9.out
                    obtain ⟨g13, rfl⟩ := own_some hbk9.o13 (by omega)
                    have hw9 := (own_str hbk9.o13 (m := rows ++ madeL rows p) rfl (i := q) (by rw [HNL.out]; exact hql))
                    generalize (rows ++ madeL rows p).getD q [] = r at *
                    have kst := fun n => Kd.C_string (P := Try.prog) (c := d2) Try.underlying41 Try.underlying5 Try.underlying9 (Kd.C_drewN hk2 n)
                    generalize strOfNums r = s at *
                    have HW1 := Aside0.mk (wr1 (i := q) hql (by have := HRL.out; have := HP.out; omega))
                    have HQ := Aside0.mk hql
                    have hq1 : (q : Int) < (rows.length : Int) + (p : Int) := by omega
                    have hq2 : (q : Int) < ((rows.length + p : Nat) : Int) := by omega
                    clear hql hq hl2 hk2 hC9 hbk9
                    go_wp2_with (fail)
                    go_quiet (fail)
                    clear kst hw9 hx2
                    go_wp2
                    go_roundw
                    case rel => exact ⟨q + 1, HQ.out, by rw [HW1.out], ⟨pw_below_drewN HB9.out _⟩⟩
                    case measure => exact meas HW1.out HQ.out
                  · have hd6 : decide ((q : Int) < (rows.length : Int) + (p : Int)) = false := decide_eq_false (by omega)
                    have hd6' : decide (q < rows.length + p) = false := decide_eq_false hql
                    clear hql hq
                    go_wp2
                    go_ret
                    exact ⟨rfl, below_step HB2.out (below_then HBK7.out.below HBK7.out.base HB9.out)⟩
                --ENDTAIL
            · have hd3 : decide ((i : Int) < (lost.length : Int)) = false := decide_eq_false (by omega)
              have hd3' : decide (i < lost.length) = false := decide_eq_false hil
              have HGP : Aside0 (gone.length ≤ p) := ⟨by rw [HGL.out]; exact hi2⟩
              have HLS := Aside0.mk (HGS.out.lost rfl HRL.out HP.out HRS.out HRI.out HGP.out)
              obtain ⟨A11, c11, e11, hc11, hC11⟩ := Kd.R_reads (R_of_own HBK.out.o11)
              obtain rfl := e11
              rw [lensI_length] at hc11 hC11 HBK ⊢
              obtain rfl := HGL.out
              obtain ⟨_, hc16, hC16⟩ := Kd.R_reads' (R_of_own HBK.out.o16)
              have HC11 := Aside0.mk hC11
              have HH11 := Aside0.mk hc11
              have HC16 := Aside0.mk hC16
              have HH16 := Aside0.mk hc16
              have HNL : Aside0 ((rows ++ madeL rows p).length = rows.length + p) := ⟨by rw [List.length_append, HML.out]⟩
              clear hi hi2 hc11 hC11 hc16 hC16
              go_wp2_with (first
                | (go_at_call 16; (with_reducible refine (restore_back _ _ _ _ _ _ _ _ rows m8 m9 gone rows.length p _ ?r0 ?r1 HC11.out HH11.out ?r2 ?r3 HC16.out HH16.out HLS.out HGS.out.rng ?r4).mono ?_); (case r0 => exact HBK.out.r8.toC HBK.out.o8); (case r1 => exact own_le HBK.out.o8); (case r2 => exact HBK.out.r9.toC HBK.out.o9); (case r3 => exact Nat.le_refl _); (case r4 => have := HGP.out; have := HP.out; omega); rintro e w7 ⟨v7, hs1, hs2, b1, b2, rfl, hrr, hb⟩; obtain ⟨A7, c7, rfl, hc7, hC7⟩ := hrr.reads; rw [HNL.out] at hc7 hC7 ⊢; have HC7 := Aside0.mk hC7; have HBK7 := Aside0.mk (HBK.out.moved hb); clear hrr hc7 hC7 hb))
              go_loopw [21] (fun v21 wr => ∃ i : Nat, i ≤ rows.length + p ∧ v21 = .int .i64 (i : Int) ∧ Aside0 (Below w7.heap.size w7 wr)) (fun v21 _ => rows.length + p - (intOf v21).toNat)
              case atStart => exact ⟨0, Nat.zero_le _, rfl, ⟨Below.refl _ _⟩⟩
              case round =>
                obtain ⟨q, hq, rfl, HB9⟩ := hrel
                by_cases hql : q < rows.length + p
                · have hd6 : decide ((q : Int) < (rows.length : Int) + (p : Int)) = true := decide_eq_true (by omega)
                  have hd6' : decide (q < rows.length + p) = true := decide_eq_true hql
                  have hC9 := Kd.C_below HC7.out HB9.out
                  obtain ⟨ad, B2, d2, e2, hx2, hl2, hk2⟩ := at_L2 hC9 (q : Int) (by omega) (by omega)
                  cases e2
                  rw [rdL_nat] at hx2 hl2 hk2
                  rw [Int.toNat_natCast] at hx2
                  have hbk9 := HBK7.out.moved HB9.out
                  obtain ⟨g13, rfl⟩ := own_some hbk9.o13 (by omega)
                  have hw9 := (own_str hbk9.o13 (m := rows ++ madeL rows p) rfl (i := q) (by rw [HNL.out]; exact hql))
                  generalize (rows ++ madeL rows p).getD q [] = r at *
                  have kst := fun n => Kd.C_string (P := Try.prog) (c := d2) Try.underlying41 Try.underlying5 Try.underlying9 (Kd.C_drewN hk2 n)
                  generalize strOfNums r = s at *
                  have HW1 := Aside0.mk (wr1 (i := q) hql (by have := HRL.out; have := HP.out; omega))
                  have HQ := Aside0.mk hql
                  have hq1 : (q : Int) < (rows.length : Int) + (p : Int) := by omega
                  have hq2 : (q : Int) < ((rows.length + p : Nat) : Int) := by omega
                  clear hql hq hl2 hk2 hC9 hbk9
                  go_wp2_with (fail)
                  go_quiet (fail)
                  clear kst hw9 hx2
                  go_wp2
                  go_roundw
                  case rel => exact ⟨q + 1, HQ.out, by rw [HW1.out], ⟨pw_below_drewN HB9.out _⟩⟩
                  case measure => exact meas HW1.out HQ.out
                · have hd6 : decide ((q : Int) < (rows.length : Int) + (p : Int)) = false := decide_eq_false (by omega)
                  have hd6' : decide (q < rows.length + p) = false := decide_eq_false hql
                  clear hql hq
                  go_wp2
                  go_ret
                  exact ⟨rfl, below_step HB2.out (below_then HBK7.out.below HBK7.out.base HB9.out)⟩
end Go.Proofs.Ytdhajlkiiphlfaa.Par
