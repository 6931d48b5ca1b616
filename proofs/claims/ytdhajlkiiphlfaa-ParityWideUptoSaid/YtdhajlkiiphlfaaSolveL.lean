/- A part of a proof: see the text's own remark. No conditions beyond its theorems' own. -/
import Derived.Test.YtdhajlkiiphlfaaClears
/-! what field.Solve computes -/
namespace Go.Proofs.Ytdhajlkiiphlfaa.Solve
open Go.RowKit Go.Proofs.Ytdhajlkiiphlfaa.QBaseParityWide Go.Proofs.YtdhajlkiiphlfaaW.PrintWords
def findP (a : List (List Int)) (c : Nat) : Nat → Nat → Option Nat
  | 0, _ => none
  | d + 1, r => if rd (rd_L2 a r) c = 0 then findP a c d (r + 1) else some r
def swapL (l : List (List Int)) (c r : Nat) : List (List Int) := (l.set c (rd_L2 l r)).set r (rd_L2 l c)
def cols (n : Nat) : Nat → Nat → List (List Int) × List (List Int) → Option (List (List Int))
  | 0, _, q => some q.2
  | d + 1, c, q => match findP q.1 c (n - c) c with
    | none => none
    | some r => cols n d (c + 1) (clearsF n c (swapL q.1 c r) (swapL q.2 c r))
theorem Sh.swap {n m : Nat} {l : List (List Int)} (h : Sh n m l) {c r : Nat} (hc : c < n) (hr : r < n) : Sh n m (swapL l c r) := by
  obtain ⟨r1, f1, l1, i1⟩ := h.at_ hc
  obtain ⟨r2, f2, l2, i2⟩ := h.at_ hr
  unfold swapL
  rw [rowZ f1, rowZ f2]
  exact (h.set c l2 i2).set r l1 i1
theorem clearsF_sh {n nx c : Nat} {a x : List (List Int)} (ha : Sh n n a) (hx : Sh n nx x) (hc : c < n) : Sh n n (clearsF n c a x).1 ∧ Sh n nx (clearsF n c a x).2 := by
  obtain ⟨r1, f1, l1, i1⟩ := ha.at_ hc
  obtain ⟨r2, f2, l2, i2⟩ := hx.at_ hc
  unfold clearsF
  rw [rowZ f1, rowZ f2]
  exact elim_sh (q := (a.set c _, x.set c _)) (ha.set c (by rw [scaleR_length, l1]) (scaleR_in _ _ i1)) (hx.set c (by rw [scaleR_length, l2]) (scaleR_in _ _ i2)) hc n (Nat.le_refl _)
theorem findP_lt {a : List (List Int)} {c : Nat} : ∀ {d s r : Nat}, findP a c d s = some r → s ≤ r ∧ r < s + d
  | 0, s, r, h => by simp [findP] at h
  | d + 1, s, r, h => by
    unfold findP at h
    split at h
    · have := findP_lt h; omega
    · injection h with h; omega
theorem Two.swapA {w0 w : World} {okA okX : Nat → Prop} {ga ca : Nat} {ha : List Value} {a : List (List Int)} {gx cx : Nat} {hx : List Value} {x : List (List Int)} (h : Two w0 w okA okX ga ca ha a gx cx hx x) {c r : Nat} {h1 h2 : Value} {r1 r2 : List Int} (hi : ha[c]? = some h1) (hj : ha[r]? = some h2) (mi : a[c]? = some r1) (mj : a[r]? = some r2) :
    Two w0 ((w.setCell ⟨ga, c, none⟩ h2).setCell ⟨ga, r, none⟩ h1) okA okX ga ca ((ha.set c h2).set r h1) (swapL a c r) gx cx hx x := by
  have e : swapL a c r = (a.set c r2).set r r1 := by unfold swapL; rw [rowZ mi, rowZ mj]
  rw [e]
  refine ⟨h.A.swap hi hj mi mj, ?_, (h.B.setCell h.A.base_le _).setCell h.A.base_le _, h.D⟩
  have hk : Kept w ((w.setCell ⟨ga, c, none⟩ h2).setCell ⟨ga, r, none⟩ h1) (fun k => k = ga) := Kept.setCell (S := fun k => k = ga) (p := ⟨ga, r, none⟩) (Kept.setCell (S := fun k => k = ga) (p := ⟨ga, c, none⟩) (Kept.refl w (fun k => k = ga)) (.inl rfl) _) (.inl rfl) _
  exact h.X.kept hk (fun k hk2 e => h.D k (by rw [e]; exact h.A.okg) hk2)
theorem all_l0 (l : List (List Int)) (a : Int) (hl : l.length ≤ 140737488355328) : ∀ (d i k : Nat), i + d = l.length → d < k → field_all.l0 k a l (l.length : Int) (i : Int) = some ((l.drop i).all (fun r => (r.length : Int) == a))
  | 0, i, k, hi, hk => by
    obtain ⟨k, rfl⟩ : ∃ k', k = k' + 1 := ⟨k - 1, by omega⟩
    unfold field_all.l0
    rw [if_neg (by omega), List.drop_of_length_le (by omega)]; rfl
  | d + 1, i, k, hi, hk => by
    obtain ⟨k, rfl⟩ : ∃ k', k = k' + 1 := ⟨k - 1, by omega⟩
    have hlt : i < l.length := by omega
    unfold field_all.l0
    rw [if_pos (by omega), if_pos (by omega), if_pos (by omega), rowZ (List.getElem?_eq_getElem hlt), List.drop_eq_getElem_cons hlt, List.all_cons]
    by_cases h : ((l[i].length : Nat) : Int) = a
    · rw [if_pos h, w64 (by omega) (by omega), show (i : Int) + 1 = ((i + 1 : Nat) : Int) by omega, all_l0 l a hl d (i + 1) k (by omega) (by omega), beq_iff_eq.mpr h, Bool.true_and]
    · rw [if_neg h, beq_eq_false_iff_ne.mpr h, Bool.false_and]
theorem all_f (k : Nat) (l : List (List Int)) (a : Int) (hl : l.length ≤ 140737488355328) (hk : l.length < k) : field_all.f k l a = some (l.all (fun r => (r.length : Int) == a)) := by
  have := all_l0 l a hl l.length 0 k (by omega) hk
  rw [List.drop_zero] at this
  exact this
theorem all_true (k n m : Nat) (l : List (List Int)) (h : ∀ r ∈ l, r.length = m) (hl : l.length = n) (hn : n ≤ 256) (hk : 256 < k) : field_all.f k l (m : Int) = some true := by
  rw [all_f k l m (by omega) (by omega)]
  congr 1
  rw [List.all_eq_true]
  intro r hr
  rw [h r hr]
  exact beq_self_eq_true _
theorem width_true (k n m : Nat) (l : List (List Int)) (h : ∀ r ∈ l, r.length = m) (hl : l.length = n) (hn : n ≤ 256) (hk : 256 < k) : ∃ m' : Int, field_width.f k l = some (m', true) := by
  unfold field_width.f
  by_cases h0 : (l.length : Int) > 0
  · rw [if_pos h0, if_pos h0]
    have e : rd_L2 l 0 = l[0]'(by omega) := rowZ (j := 0) (List.getElem?_eq_getElem (by omega))
    rw [e, h _ (List.getElem_mem _), all_true k n m l h hl hn hk]
    exact ⟨_, rfl⟩
  · rw [if_neg h0]
    have e : l = [] := List.eq_nil_of_length_eq_zero (by omega)
    subst e
    rw [all_f k [] 0 (by simp) (by simp; omega)]
    exact ⟨_, rfl⟩
end Go.Proofs.Ytdhajlkiiphlfaa.Solve
