/- A part of a proof: see the text's own remark. No conditions beyond its theorems' own. -/
import Derived.Test.YtdleoljbnjjdgaaSame04
/-! FieldCauchys: matrices that came out, as lists of headers and rows -/
namespace Go.Proofs.Ytdleoljbnjjdgaa.Bok
open Go.RowKit Go.Proofs.Ytdleoljbnjjdgaa.QCFieldCauchys Go.Proofs.YtdleoljbnjjdgaaW.PrintWords Go.Proofs.YtdleoljbnjjdgaaW.PrintLast Go.Proofs.YtdleoljbnjjdgaaW.PrintMore
set_option linter.unusedVariables false
set_option linter.unusedSimpArgs false
theorem sameL_self (m : List (List Int)) : sameL m m = true := by
  unfold sameL
  rw [if_pos rfl]
  unfold sameB
  rw [List.all_eq_true]
  intro j _
  exact decide_eq_true rfl
/-- a matrix of one's own: its headers; no block twice; none from b on -/
structure Ma (w : World) (a b : Nat) (v : Value) (hs : List Hdr) (m : List (List Int)) : Prop where
  own : w.ownsRow a 29 1 v hs.length (encs hdV hs)
  al : Al w a hs m
  ltv : ∀ k, v.ownBlock = some k → k < b
  lth : ∀ (i : Nat) hd k, hs[i]? = some hd → (hdV hd).ownBlock = some k → k < b
def toH : Value → Hdr
  | .slice a n c => (a, n, c)
  | _ => (none, 0, 0)
theorem ma_of_S {w : World} {base : Nat} {v : Value} {m : List (List Int)} (h : Kd.S (Kd.slice 5 (Kd.int .u8)) 29 w base (fun _ => True) v m) : ∃ hs : List Hdr, Ma w base w.heap.size v hs m := by
  obtain ⟨f, h0, inner, ho, hr⟩ := h
  have hlen := hr.1
  rw [List.length_zipIdx] at hlen ho
  have hl1 : inner.length = m.length := by rw [hlen]; exact Nat.mul_one _
  have hM : ∀ (i : Nat) hd r, inner[i]? = some hd → m[i]? = some r → Kd.R (Kd.int .u8) 5 w base (fun k => (True ∧ some k ≠ v.ownBlock) ∧ f k = i) hd r := by
    intro i hd r hi hm
    have h1 := hr.2 i (r, i) (Kd.zip_at hm)
    obtain ⟨u, hv, hR⟩ := h1
    have hlt : i < inner.length := (List.getElem?_eq_some_iff.1 hi).1
    have e1 : ((inner.drop (i * 1)).take 1) = [u] := hv
    rw [Nat.mul_one, List.drop_eq_getElem_cons hlt] at e1
    have e2 : inner[i] = u := by
      have := congrArg List.head? e1
      rw [List.take_succ_cons] at this
      exact Option.some.inj this
    rw [List.getElem?_eq_getElem hlt, e2] at hi
    obtain rfl := Option.some.inj hi
    exact hR
  have hform : ∀ (i : Nat) u, inner[i]? = some u → hdV (toH u) = u := fun i u hi => by
    have hlt : i < m.length := by rw [← hl1]; exact (List.getElem?_eq_some_iff.1 hi).1
    obtain ⟨A, c, e⟩ := Kd.R_slice (hM i u _ hi (List.getElem?_eq_getElem hlt))
    rw [e]; rfl
  have henc : encs hdV (inner.map toH) = inner := by
    unfold encs
    rw [List.map_map]
    apply List.ext_getElem?
    intro i
    rw [List.getElem?_map]
    cases hi : inner[i]? with
    | none => rfl
    | some u => exact congrArg some (hform i u hi)
  have hget : ∀ (i : Nat) hd, (inner.map toH)[i]? = some hd → inner[i]? = some (hdV hd) := fun i hd hi => by
    rw [List.getElem?_map] at hi
    obtain ⟨u, hu, rfl⟩ := Option.map_eq_some_iff.1 hi
    rw [hu, hform i u hu]
  refine ⟨inner.map toH, ?_, ⟨by rw [List.length_map, hl1], fun i hd r hi hm => own_of_R (hM i _ r (hget i hd hi) hm), fun i j h1 h2 hi hj hij => ?_⟩, fun k hk => ?_, fun i hd k hi hk => ?_⟩
  · rw [henc, List.length_map, hl1]
    exact ho
  · cases e : (hdV h1).ownBlock with
    | none => exact .inl rfl
    | some k =>
      refine .inr fun e2 => hij ?_
      have l1 : i < m.length := by rw [← hl1]; exact (List.getElem?_eq_some_iff.1 (hget i h1 hi)).1
      have l2 : j < m.length := by rw [← hl1]; exact (List.getElem?_eq_some_iff.1 (hget j h2 hj)).1
      have f1 := ((hM i _ _ (hget i h1 hi) (List.getElem?_eq_getElem l1)).1 k e).2
      have f2 := ((hM j _ _ (hget j h2 hj) (List.getElem?_eq_getElem l2)).1 k e2.symm).2
      rw [← f1, ← f2]
  · exact own_lt ho k hk
  · have l1 : i < m.length := by rw [← hl1]; exact (List.getElem?_eq_some_iff.1 (hget i hd hi)).1
    exact own_lt (own_of_R (hM i _ _ (hget i hd hi) (List.getElem?_eq_getElem l1))) k hk
theorem Ma.below {w w' : World} {a b : Nat} {v : Value} {hs : List Hdr} {m : List (List Int)} (h : Ma w a b v hs m) (hb : Below w.heap.size w w') : Ma w' a b v hs m := ⟨own_below5 h.own hb, h.al.same5 (Same5.of_below hb), h.ltv, h.lth⟩
theorem Ma.rows {w : World} {a b : Nat} {v : Value} {hs : List Hdr} {m : List (List Int)} (h : Ma w a b v hs m) (hm : ∀ r ∈ m, r.length ≤ 1000) : Rows5 w hs m := ⟨h.al.len, fun i hd r h1 h2 => by
  have ho := h.al.own i hd r h1 h2
  obtain ⟨A, n, c⟩ := hd
  have := row5_own (A := A) (n := n) (c := c) ho (by have := hm r (List.mem_of_getElem? h2); omega)
  obtain ⟨h3, rfl⟩ := this
  exact h3⟩
/-- rows of elder and of younger blocks -/
theorem Al.app {w : World} {B M : Nat} {h1 h2 : List Hdr} {m1 m2 : List (List Int)} (a1 : Al w B h1 m1) (a2 : Al w M h2 m2) (hBM : B ≤ M) (hlt : ∀ (i : Nat) hd k, h1[i]? = some hd → (hdV hd).ownBlock = some k → k < M) : Al w B (h1 ++ h2) (m1 ++ m2) := by
  have hsp : ∀ {α : Type} (l1 l2 : List α) (i : Nat) x, (l1 ++ l2)[i]? = some x → (i < l1.length ∧ l1[i]? = some x) ∨ (l1.length ≤ i ∧ l2[i - l1.length]? = some x) := fun l1 l2 i x h => by
    by_cases e : i < l1.length
    · rw [List.getElem?_append_left e] at h; exact .inl ⟨e, h⟩
    · rw [List.getElem?_append_right (by omega)] at h; exact .inr ⟨by omega, h⟩
  have hge : ∀ (i : Nat) hd k, h2[i]? = some hd → (hdV hd).ownBlock = some k → M ≤ k := fun i hd k hi hk => by
    have hl : i < m2.length := by rw [← a2.len]; exact (List.getElem?_eq_some_iff.1 hi).1
    exact own_base (a2.own i hd _ hi (List.getElem?_eq_getElem hl)) k hk
  have hcross : ∀ (i j : Nat) x y, h1[i]? = some x → h2[j]? = some y → (hdV x).ownBlock = none ∨ (hdV x).ownBlock ≠ (hdV y).ownBlock := fun i j x y hi hj => by
    cases e : (hdV x).ownBlock with
    | none => exact .inl rfl
    | some k =>
      refine .inr fun e2 => ?_
      have := hlt i x k hi e
      have := hge j y k hj e2.symm
      omega
  refine ⟨by rw [List.length_append, List.length_append, a1.len, a2.len], fun i hd r hi hr => ?_, fun i j x y hi hj hij => ?_⟩
  · rcases hsp h1 h2 i hd hi with ⟨e, h⟩ | ⟨e, h⟩
    · rw [List.getElem?_append_left (by rw [← a1.len]; exact e)] at hr
      exact a1.own i hd r h hr
    · rw [List.getElem?_append_right (by rw [← a1.len]; exact e), ← a1.len] at hr
      exact own_weaken (a2.own _ hd r h hr) hBM
  · rcases hsp h1 h2 i x hi with ⟨e, h⟩ | ⟨e, h⟩
    · rcases hsp h1 h2 j y hj with ⟨e', h'⟩ | ⟨e', h'⟩
      · exact a1.ap i j x y h h' hij
      · exact hcross i _ x y h h'
    · rcases hsp h1 h2 j y hj with ⟨e', h'⟩ | ⟨e', h'⟩
      · exact apart_symm (hcross j _ y x h' h)
      · exact a2.ap _ _ x y h h' (by omega)
theorem Al.weaken {w : World} {B B' : Nat} {hl : List Hdr} {cs : List (List Int)} (h : Al w B hl cs) (hb : B' ≤ B) : Al w B' hl cs := ⟨h.len, fun i hd r h1 h2 => own_weaken (h.own i hd r h1 h2) hb, h.ap⟩
theorem ne_of_apart {u v : Value} (h : u.ownBlock = none ∨ u.ownBlock ≠ v.ownBlock) {j : Nat} (hj : v.ownBlock = some j) : some j ≠ u.ownBlock := fun e => by
  rcases h with h | h
  · rw [← e] at h; cases h
  · exact h (e.symm.trans hj.symm)
theorem apart_of_lt {w : World} {M m : Nat} {v v' : Value} {t' : Nat} {ys : List Value} (h1 : ∀ k, v.ownBlock = some k → k < M) (h2 : w.ownsRow M t' 1 v' m ys) : v.ownBlock = none ∨ v.ownBlock ≠ v'.ownBlock := by
  cases e : v.ownBlock with
  | none => exact .inl rfl
  | some k =>
    refine .inr fun e2 => ?_
    have := h1 k e
    have := own_base h2 k e2.symm
    omega
end Go.Proofs.Ytdleoljbnjjdgaa.Bok
