/- A part of a proof: see the text's own remark. No conditions beyond its theorems' own. -/
import Derived.Test.YtdhajlkiiphlfaaCopied
/-! rows of rows that are one's own, told plainly: the headers' block, each header's row, no block twice -/
namespace Go.Proofs.Ytdhajlkiiphlfaa.Solve
open Go.RowKit Go.Proofs.YtdhajlkiiphlfaaW.PrintWords
structure Mx (w : World) (base : Nat) (ok : Nat → Prop) (g cap : Nat) (hs : List Value) (m : List (List Int)) : Prop where
  base_le : base ≤ g
  okg : ok g
  len : hs.length = m.length
  outer : ∃ cur, w.heap[g]? = some (.cells cur 41 (0, 0)) ∧ cur.size = cap ∧ hs.length ≤ cap ∧ cap ≤ maxLen ∧ ∀ i, i < hs.length → cur[i]? = hs[i]?
  row : ∀ (i : Nat) h r, hs[i]? = some h → m[i]? = some r → Kd.R (Kd.int .u8) 5 w base (fun k => ok k ∧ k ≠ g) h r
  apart : ∀ (i j : Nat) h1 h2 k, hs[i]? = some h1 → hs[j]? = some h2 → h1.ownBlock = some k → h2.ownBlock = some k → i = j
namespace Mx
variable {w w' : World} {base g cap : Nat} {ok S : Nat → Prop} {hs : List Value} {m : List (List Int)}
theorem of_S {n : Nat} (h : Kd.S (Kd.slice 5 (Kd.int .u8)) 41 w base ok (.slice (some ⟨g, 0, none⟩) n cap) m) : n = m.length ∧ ∃ hs, Mx w base ok g cap hs m := by
  obtain ⟨f, h0, inner, ho, hr⟩ := h
  have hlen := hr.1
  rw [List.length_zipIdx] at hlen ho
  have hl1 : inner.length = m.length := by rw [hlen]; exact Nat.mul_one _
  obtain ⟨_, hc⟩ := ho
  rcases hc with ⟨hv, _⟩ | ⟨g', cap', cur, hv, hb, hh, hnc, hcm, hcs, ht⟩
  · cases hv
  · injection hv with ha hn hc
    injection ha with ha
    injection ha with hg
    subst hg; subst hc
    have hs1 : cur.size = cap := by rw [hcs]; exact Nat.mul_one _
    have ht1 : cur.toList.take m.length = inner := by rw [← ht]; congr 1; exact (Nat.mul_one _).symm
    have hM : ∀ (i : Nat) hd r, inner[i]? = some hd → m[i]? = some r → Kd.R (Kd.int .u8) 5 w base (fun k => (ok k ∧ some k ≠ (Value.slice (some ⟨g, 0, none⟩) n cap).ownBlock) ∧ f k = i) hd r := by
      intro i hd r hi hm
      have h1 := hr.2 i (r, i) (Kd.zip_at hm)
      obtain ⟨v, hv, hR⟩ := h1
      have hlt : i < inner.length := (List.getElem?_eq_some_iff.1 hi).1
      have e1 : ((inner.drop (i * 1)).take 1) = [v] := hv
      rw [Nat.mul_one, List.drop_eq_getElem_cons hlt] at e1
      have e2 : inner[i] = v := by
        have := congrArg List.head? e1
        rw [List.take_succ_cons] at this
        exact Option.some.inj this
      rw [List.getElem?_eq_getElem hlt, e2] at hi
      obtain rfl := Option.some.inj hi
      exact hR
    refine ⟨hn, inner, hb, h0 g rfl, hl1, ⟨cur, hh, hs1, by omega, hcm, fun i hi => ?_⟩, fun i hd r hi hm => ?_, fun i j h1 h2 k hi hj hk1 hk2 => ?_⟩
    · rw [← ht1, List.getElem?_take, if_pos (by omega), Array.getElem?_toList]
    · exact Kd.R_mono (hM i hd r hi hm) (fun k hk => ⟨hk.1.1, fun e => hk.1.2 (by rw [e]; rfl)⟩)
    · have l1 : i < m.length := by rw [← hl1]; exact (List.getElem?_eq_some_iff.1 hi).1
      have l2 : j < m.length := by rw [← hl1]; exact (List.getElem?_eq_some_iff.1 hj).1
      have f1 := ((hM i h1 _ hi (List.getElem?_eq_getElem l1)).1 k hk1).2
      have f2 := ((hM j h2 _ hj (List.getElem?_eq_getElem l2)).1 k hk2).2
      rw [← f1, ← f2]
open Classical in
theorem to_S (h : Mx w base ok g cap hs m) : Kd.S (Kd.slice 5 (Kd.int .u8)) 41 w base ok (.slice (some ⟨g, 0, none⟩) m.length cap) m := by
  obtain ⟨cur, hh, hcs, hlc, hcm, hcur⟩ := h.outer
  have hl := h.len
  refine ⟨fun k => if hk : ∃ i, ∃ hd : Value, hs[i]? = some hd ∧ hd.ownBlock = some k then hk.choose else 0, fun k hk => ?_, hs, ?_, ?_⟩
  · injection hk with hk; subst hk; exact h.okg
  · rw [List.length_zipIdx]
    refine ⟨by rw [hl]; exact (Nat.mul_one _).symm, .inr ⟨g, cap, cur, rfl, h.base_le, hh, by omega, hcm, by rw [hcs]; exact (Nat.mul_one _).symm, ?_⟩⟩
    show cur.toList.take (m.length * 1) = hs
    rw [Nat.mul_one]
    apply List.ext_getElem?
    intro i
    rw [List.getElem?_take]
    split
    · rw [Array.getElem?_toList, hcur i (by omega)]
    · rw [List.getElem?_eq_none (by omega)]
  · refine ⟨by rw [List.length_zipIdx, hl]; exact (Nat.mul_one _).symm, fun i p hp => ?_⟩
    rw [List.getElem?_zipIdx, Nat.zero_add] at hp
    obtain ⟨r, hr, rfl⟩ := Option.map_eq_some_iff.1 hp
    have hlt : i < m.length := (List.getElem?_eq_some_iff.1 hr).1
    have hlt2 : i < hs.length := by omega
    have hg := List.getElem?_eq_getElem hlt2
    refine ⟨hs[i], ?_, ?_⟩
    · show (hs.drop (i * 1)).take 1 = [hs[i]]
      rw [Nat.mul_one, List.drop_eq_getElem_cons hlt2]; rfl
    · have hR := h.row i _ r hg hr
      refine Kd.R_mono (Kd.R_tight rfl hR) (fun k hk => ⟨⟨(hR.1 k hk.symm).1, fun e => (hR.1 k hk.symm).2 (by injection e)⟩, ?_⟩)
      have hex : ∃ i, ∃ hd : Value, hs[i]? = some hd ∧ hd.ownBlock = some k := ⟨i, _, hg, hk.symm⟩
      show (if hk : ∃ i, ∃ hd : Value, hs[i]? = some hd ∧ hd.ownBlock = some k then hk.choose else 0) = i
      rw [dif_pos hex]
      obtain ⟨hd, h1, h2⟩ := hex.choose_spec
      exact h.apart _ i hd _ k h1 hg h2 hk.symm
theorem get (h : Mx w base ok g cap hs m) (i : Nat) (hi : i < m.length) : ∃ hd, hs[i]? = some hd ∧ w.cell? ⟨g, i, none⟩ = some hd ∧ w.frozen? ⟨g, i, none⟩ = false ∧ Kd.R (Kd.int .u8) 5 w base (fun k => ok k ∧ k ≠ g) hd m[i] := by
  obtain ⟨cur, hh, hcs, hlc, hcm, hcur⟩ := h.outer
  have hl := h.len
  have hg := List.getElem?_eq_getElem (show i < hs.length by omega)
  exact ⟨_, hg, by rw [blk_cell hh, hcur i (by omega), hg], blk_frozen hh i, h.row i _ _ hg (List.getElem?_eq_getElem hi)⟩
/-- what is not of it was written -/
theorem kept (h : Mx w base ok g cap hs m) (hk : Kept w w' S) (hn : ∀ k, ok k → ¬ S k) : Mx w' base ok g cap hs m := by
  obtain ⟨cur, hh, hx⟩ := h.outer
  exact ⟨h.base_le, h.okg, h.len, ⟨cur, blk_kept hh hk (hn g h.okg), hx⟩, fun i hd r h1 h2 => Kd.R_kept (h.row i hd r h1 h2) hk (fun k hk2 => hn k hk2.1), h.apart⟩
theorem below (h : Mx w base ok g cap hs m) (hb : Below w.heap.size w w') : Mx w' base ok g cap hs m := h.kept (Kept.of_below hb (fun _ => False)) (fun _ _ h => h)
/-- one row was written -/
theorem set (h : Mx w base ok g cap hs m) {i : Nat} {hd : Value} {r' : List Int} (hi : hs[i]? = some hd) (hk : Kept w w' (fun k => some k = hd.ownBlock)) (hR : Kd.R (Kd.int .u8) 5 w' base (fun _ => True) hd r') : Mx w' base ok g cap hs (m.set i r') := by
  obtain ⟨cur, hh, hx⟩ := h.outer
  have hl := h.len
  have hlt : i < m.length := by rw [← hl]; exact (List.getElem?_eq_some_iff.1 hi).1
  have hRi := h.row i hd _ hi (List.getElem?_eq_getElem hlt)
  have hng : ¬ (some g = hd.ownBlock) := fun e => (hRi.1 g e.symm).2 rfl
  refine ⟨h.base_le, h.okg, by rw [List.length_set]; exact hl, ⟨cur, blk_kept hh hk hng, hx⟩, fun j h2 r hj hr => ?_, h.apart⟩
  by_cases hij : i = j
  · subst hij
    rw [hi] at hj; obtain rfl := Option.some.inj hj
    rw [List.getElem?_set_self hlt] at hr; obtain rfl := Option.some.inj hr
    exact Kd.R_mono (Kd.R_tight rfl hR) (fun k hk => hRi.1 k hk.symm)
  · rw [List.getElem?_set_ne hij] at hr
    have hRj := Kd.R_tight rfl (h.row j h2 r hj hr)
    refine Kd.R_mono (Kd.R_kept hRj hk (fun k h3 h4 => hij (h.apart i j _ _ k hi hj h4.symm h3.symm))) (fun k hk => (h.row j h2 r hj hr).1 k hk.symm)
/-- two headers were changed for one another -/
theorem swap (h : Mx w base ok g cap hs m) {i j : Nat} {h1 h2 : Value} {r1 r2 : List Int} (hi : hs[i]? = some h1) (hj : hs[j]? = some h2) (mi : m[i]? = some r1) (mj : m[j]? = some r2) :
    Mx ((w.setCell ⟨g, i, none⟩ h2).setCell ⟨g, j, none⟩ h1) base ok g cap ((hs.set i h2).set j h1) ((m.set i r2).set j r1) := by
  obtain ⟨cur, hh, hcs, hlc, hcm, hcur⟩ := h.outer
  have hl := h.len
  have li : i < hs.length := (List.getElem?_eq_some_iff.1 hi).1
  have lj : j < hs.length := (List.getElem?_eq_some_iff.1 hj).1
  have hhs : ∀ t, ((hs.set i h2).set j h1)[t]? = if t = j then some h1 else if t = i then some h2 else hs[t]? := by
    intro t
    by_cases e1 : t = j
    · subst e1; rw [if_pos rfl, List.getElem?_set_self (by rw [List.length_set]; omega)]
    · rw [if_neg e1, List.getElem?_set_ne (Ne.symm e1)]
      by_cases e2 : t = i
      · subst e2; rw [if_pos rfl, List.getElem?_set_self li]
      · rw [if_neg e2, List.getElem?_set_ne (Ne.symm e2)]
  have hms : ∀ t, ((m.set i r2).set j r1)[t]? = if t = j then some r1 else if t = i then some r2 else m[t]? := by
    intro t
    by_cases e1 : t = j
    · subst e1; rw [if_pos rfl, List.getElem?_set_self (by rw [List.length_set]; omega)]
    · rw [if_neg e1, List.getElem?_set_ne (Ne.symm e1)]
      by_cases e2 : t = i
      · subst e2; rw [if_pos rfl, List.getElem?_set_self (by omega)]
      · rw [if_neg e2, List.getElem?_set_ne (Ne.symm e2)]
  -- where a place's header comes from
  have src : ∀ t hd r, ((hs.set i h2).set j h1)[t]? = some hd → ((m.set i r2).set j r1)[t]? = some r → ∃ s, hs[s]? = some hd ∧ m[s]? = some r ∧ s = (if t = j then i else if t = i then j else t) := by
    intro t hd r a b
    rw [hhs] at a; rw [hms] at b
    by_cases e1 : t = j
    · rw [if_pos e1] at a b ⊢
      obtain rfl := Option.some.inj a; obtain rfl := Option.some.inj b
      exact ⟨i, hi, mi, rfl⟩
    · rw [if_neg e1] at a b ⊢
      by_cases e2 : t = i
      · rw [if_pos e2] at a b ⊢
        obtain rfl := Option.some.inj a; obtain rfl := Option.some.inj b
        exact ⟨j, hj, mj, rfl⟩
      · rw [if_neg e2] at a b ⊢
        exact ⟨t, a, b, rfl⟩
  refine ⟨h.base_le, h.okg, by simp [hl], ⟨(cur.setIfInBounds i h2).setIfInBounds j h1, blk_set (blk_set hh i h2) j h1, by simp [hcs], by simp; omega, hcm, fun t ht => ?_⟩, fun t hd r a b => ?_, fun s t d1 d2 k a b ka kb => ?_⟩
  · rw [hhs]
    have ht' : t < hs.length := by simpa using ht
    rw [Array.getElem?_setIfInBounds, Array.getElem?_setIfInBounds]
    by_cases e1 : t = j
    · subst e1; simp; omega
    · rw [if_neg (Ne.symm e1), if_neg e1]
      by_cases e2 : t = i
      · subst e2; simp; omega
      · rw [if_neg (Ne.symm e2), if_neg e2, hcur t ht']
  · obtain ⟨s, hs1, ms1, _⟩ := src t hd r a b
    exact Kd.R_far (p := ⟨g, j, none⟩) (Kd.R_far (p := ⟨g, i, none⟩) (h.row s hd r hs1 ms1) (fun k hk => hk.2) h2) (fun k hk => hk.2) h1
  · have ls : s < hs.length := by have := (List.getElem?_eq_some_iff.1 a).1; simpa using this
    have lt : t < hs.length := by have := (List.getElem?_eq_some_iff.1 b).1; simpa using this
    obtain ⟨s', e1, _, e2⟩ := src s d1 _ a (List.getElem?_eq_getElem (by simp; omega))
    obtain ⟨t', e3, _, e4⟩ := src t d2 _ b (List.getElem?_eq_getElem (by simp; omega))
    have := h.apart s' t' d1 d2 k e1 e3 ka kb
    rw [e2, e4] at this
    split at this <;> split at this <;> (try split at this) <;> (try split at this) <;> omega
theorem base_down {base' : Nat} (h : Mx w base ok g cap hs m) (hb : base' ≤ base) : Mx w base' ok g cap hs m := ⟨Nat.le_trans hb h.base_le, h.okg, h.len, h.outer, fun i hd r a b => Kd.R_lower (h.row i hd r a b) hb, h.apart⟩
theorem mono {ok' : Nat → Prop} (h : Mx w base ok g cap hs m) (hk : ∀ k, ok k → ok' k) : Mx w base ok' g cap hs m := ⟨h.base_le, hk g h.okg, h.len, h.outer, fun i hd r a b => Kd.R_mono (h.row i hd r a b) (fun k h2 => ⟨hk k h2.1, h2.2⟩), h.apart⟩
end Mx
end Go.Proofs.Ytdhajlkiiphlfaa.Solve
