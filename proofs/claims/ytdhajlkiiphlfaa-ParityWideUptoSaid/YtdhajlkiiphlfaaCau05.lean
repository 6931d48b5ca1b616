/- What field.Cauchy answers; whichever part of such a matrix can be solved. No conditions. -/
import Derived.Test.YtdhajlkiiphlfaaBridge2
import Derived.Test.YtdhajlkiiphlfaaBits
namespace Go.Proofs.Ytdhajlkiiphlfaa.Cau
open Go.RowKit Go.Proofs.Ytdhajlkiiphlfaa.QBaseParityWide Go.Proofs.YtdhajlkiiphlfaaW.PrintWords Go.Proofs.YtdhajlkiiphlfaaW.PrintLast
open Go.Proofs.Ytdhajlkiiphlfaa.Math Go.Proofs.Ytdhajlkiiphlfaa.Solve Go.Proofs.Ytdhajlkiiphlfaa.Bits
theorem rowQ {l : List (List Int)} {j : Nat} {r : List Int} (h : l[j]? = some r) : rd_L2 l (j : Int) = r := by unfold rd_L2; rw [Int.toNat_natCast, List.getD_eq_getElem?_getD, h]; rfl
theorem Sh.snoc {n m : Nat} {l : List (List Int)} (h : Sh n m l) {r : List Int} (h1 : r.length = m) (h2 : ∀ y ∈ r, In8 y) : Sh (n + 1) m (l ++ [r]) := by
  refine ⟨by rw [List.length_append, h.len]; rfl, fun q hq => ?_, fun q hq => ?_⟩
  · rcases List.mem_append.1 hq with hq | hq
    · exact h.row q hq
    · rw [List.mem_singleton] at hq; subst hq; exact h1
  · rcases List.mem_append.1 hq with hq | hq
    · exact h.el q hq
    · rw [List.mem_singleton] at hq; subst hq; exact h2
theorem Sh.nil {m : Nat} : Sh 0 m [] := ⟨rfl, (fun _ h => nomatch h), (fun _ h => nomatch h)⟩
theorem rep_in (w : Nat) : ∀ y ∈ List.replicate w (0 : Int), In8 y := fun y hy => by rw [List.eq_of_mem_replicate hy]; exact ⟨by omega, by omega⟩
theorem rd_in {l : List Int} (h : ∀ y ∈ l, In8 y) (i : Int) : In8 (rd l i) := by
  unfold rd
  rw [List.getD_eq_getElem?_getD]
  cases e : l[i.toNat]? with
  | none => exact ⟨by decide, by decide⟩
  | some y => exact h y (List.mem_of_getElem? e)
theorem set_in {l : List Int} (h : ∀ y ∈ l, In8 y) (i : Nat) {x : Int} (hx : In8 x) : ∀ y ∈ l.set i x, In8 y := fun y hy => (List.mem_or_eq_of_mem_set hy).elim (h y) (fun e => e ▸ hx)
theorem w1 (j : Nat) (h : j ≤ 100000000) : wrap64 ((j : Int) + 1) = ((j + 1 : Nat) : Int) := by rw [w64 (by omega) (by omega)]; omega
theorem w1' (j : Nat) (h : j ≤ 100000000) : wrap64 (1 + (j : Int)) = ((1 + j : Nat) : Int) := by rw [w64 (by omega) (by omega)]; omega
theorem w255 (i : Nat) (h : i < 256) : wrap64 (255 - (i : Int)) % 256 = ((255 - i : Nat) : Int) := by rw [w64 (by omega) (by omega)]; omega
theorem tmod_nat (x n : Nat) : Int.tmod (x : Int) (n : Int) = ((x % n : Nat) : Int) := by rw [Int.tmod_eq_emod_of_nonneg (by omega)]; exact (Int.natCast_emod x n).symm
theorem mod256 (i : Nat) (h : i < 256) : (i : Int) % 256 = (i : Int) := by omega
theorem emod_in (z : Int) : In8 (z % 256) := ⟨Int.emod_nonneg _ (by decide), Int.emod_lt_of_pos _ (by decide)⟩
theorem rd_set (l : List Int) (j c : Nat) (x : Int) (hj : j < l.length) : rd (l.set j x) (c : Int) = if c = j then x else rd l (c : Int) := by
  unfold rd
  rw [Int.toNat_natCast, List.getD_eq_getElem?_getD, List.getD_eq_getElem?_getD]
  by_cases e : c = j
  · subst e; rw [if_pos rfl, List.getElem?_set_self hj]; rfl
  · rw [if_neg e, List.getElem?_set_ne (Ne.symm e)]
/-! field.Cauchy -/
theorem cauchy_l1 (C : Nat) (hC : C ≤ 256) (out : List (List Int)) (ho : out.length < 5864062014805) (i : Nat) (hi : i < 256) (R L : Int) : ∀ (d j k : Nat) (row : List Int), j + d = C → row.length = C → (∀ y ∈ row, In8 y) → (∀ c, c < j → rd row (c : Int) = invZ (xorZ ((255 - i : Nat) : Int) (c : Int))) → d + 20 < k →
    ∃ row', row'.length = C ∧ (∀ y ∈ row', In8 y) ∧ (∀ c, c < C → rd row' (c : Int) = invZ (xorZ ((255 - i : Nat) : Int) (c : Int))) ∧ field_Cauchy.l1 k L out (i : Int) row R (i : Int) (C : Int) (j : Int) = field_Cauchy.l0 (k - d - 1) L (out ++ [row']) R (wrap64 ((i : Int) + 1)) := by
  intro d
  induction d with
  | zero =>
    intro j k row hj hr h8 hs hk
    obtain ⟨k, rfl⟩ : ∃ m, k = m + 1 := ⟨k - 1, by omega⟩
    obtain rfl : j = C := by omega
    refine ⟨row, hr, h8, hs, ?_⟩
    rw [field_Cauchy.l1, if_neg (by omega), if_pos ho]
    rfl
  | succ d ih =>
    intro j k row hj hr h8 hs hk
    obtain ⟨k, rfl⟩ : ∃ m, k = m + 1 := ⟨k - 1, by omega⟩
    have hjC : j < C := by omega
    have c1 : (j : Int) < (C : Int) := by omega
    have e : k + 1 - (d + 1) - 1 = k - d - 1 := by omega
    have g2 : (0 : Int) ≤ (j : Int) := by omega
    have g3 : j + 1 + d = C := by omega
    have g4 : d + 20 < k := by omega
    have gk : 17 ≤ k := by omega
    have h255 : 255 - i < 256 := by omega
    have hj8 : j < 256 := by omega
    have hx : Go.bits .xor .u8 ((255 - i : Nat) : Int) (j : Int) = xorZ ((255 - i : Nat) : Int) (j : Int) := by
      unfold xorZ
      exact xor_u8 _ _ h255 hj8
    have hx8 : In8 (xorZ ((255 - i : Nat) : Int) (j : Int)) := xorZ_in (In8.of h255) (In8.of hj8)
    obtain ⟨row', p1, p2, p3, p4⟩ := ih (j + 1) k (row.set j (invZ (xorZ ((255 - i : Nat) : Int) (j : Int)))) g3 (by rw [List.length_set]; exact hr) (set_in h8 _ (invZ_in hx8)) (fun c hc => by
      rw [rd_set _ _ _ _ (by omega)]
      by_cases ec : c = j
      · rw [if_pos ec, ec]
      · rw [if_neg ec]; exact hs c (by omega)) g4
    refine ⟨row', p1, p2, p3, ?_⟩
    have c2 := w1 j (by omega)
    have c3 := w255 i hi
    have c4 := mod256 j hj8
    rw [field_Cauchy.l1, if_pos c1, c3, c4, hx, Inv_z hx8 gk, Option.bind_some, if_pos g2, if_pos (by rw [hr]; exact c1), c2, Int.toNat_natCast, p4, e]
theorem cauchy_l0 (R C : Nat) (hR : R + C ≤ 256) : ∀ (d i k : Nat) (out : List (List Int)), i + d = R → Sh i C out → (∀ a c, a < i → c < C → rd (rd_L2 out (a : Int)) (c : Int) = invZ (xorZ ((255 - a : Nat) : Int) (c : Int))) → 300 * d + 300 ≤ k →
    ∃ m, field_Cauchy.l0 k (C : Int) out (R : Int) (i : Int) = some (m, 0) ∧ Sh R C m ∧ (∀ a c, a < R → c < C → rd (rd_L2 m (a : Int)) (c : Int) = invZ (xorZ ((255 - a : Nat) : Int) (c : Int))) := by
  intro d
  induction d with
  | zero =>
    intro i k out hi ho hs hk
    obtain ⟨k, rfl⟩ : ∃ m, k = m + 1 := ⟨k - 1, by omega⟩
    obtain rfl : i = R := by omega
    refine ⟨out, ?_, ho, hs⟩
    rw [field_Cauchy.l0, if_neg (by omega)]
  | succ d ih =>
    intro i k out hi ho hs hk
    obtain ⟨k, rfl⟩ : ∃ m, k = m + 1 := ⟨k - 1, by omega⟩
    have c0 : 300 * d + 300 ≤ k - C - 1 := by omega
    have c1 : (i : Int) < (R : Int) := by omega
    have c4 : (0 : Int) ≤ (C : Int) := by omega
    have g1 : i + 1 + d = R := by omega
    have c3 : (C : Int).toNat ≤ 281474976710656 := by rw [Int.toNat_natCast]; omega
    obtain ⟨row, r1, r2, r3, r4⟩ := cauchy_l1 C (by omega) out (by rw [ho.len]; omega) i (by omega) (R : Int) (C : Int) C 0 k (List.replicate C 0) (Nat.zero_add C) List.length_replicate (rep_in C) (fun c hc => by omega) (by omega)
    have ho2 := Sh.snoc ho r1 r2
    obtain ⟨m, m1, m2, m3⟩ := ih (i + 1) (k - C - 1) (out ++ [row]) g1 ho2 (fun a c ha hc => by
      by_cases e : a = i
      · have hg : (out ++ [row])[a]? = some row := by rw [e, List.getElem?_append_right (by rw [ho.len]; exact Nat.le_refl _), ho.len, Nat.sub_self]; rfl
        rw [rowQ hg, r3 c hc, e]
      · obtain ⟨ra, h1, _, _⟩ := ho.at_ (show a < i by omega)
        have hg : (out ++ [row])[a]? = some ra := by rw [List.getElem?_append_left (by rw [ho.len]; omega)]; exact h1
        have := hs a c (by omega) hc
        rw [rowQ h1] at this
        rw [rowQ hg, this]) c0
    refine ⟨m, ?_, m2, m3⟩
    have c2 := w1 i (by clear r4 r3; omega)
    rw [field_Cauchy.l0, if_pos c1, if_pos c4, if_pos c3, Int.toNat_natCast, Option.bind_some, List.length_replicate]
    have r5 := r4
    rw [show ((0 : Nat) : Int) = 0 from rfl] at r5
    rw [r5, c2, m1]
theorem cauchy_f (R C : Nat) (h1 : 1 ≤ R) (h2 : 1 ≤ C) (hR : R + C ≤ 256) (k : Nat) (hk : 80000 ≤ k) :
    ∃ m, field_Cauchy.f k (R : Int) (C : Int) = some (m, 0) ∧ Sh R C m ∧ (∀ a c, a < R → c < C → rd (rd_L2 m (a : Int)) (c : Int) = invZ (xorZ ((255 - a : Nat) : Int) (c : Int))) := by
  obtain ⟨m, m1, m2, m3⟩ := cauchy_l0 R C hR R 0 (k - 1) [] (by omega) Sh.nil (fun a c ha => by omega) (by omega)
  refine ⟨m, ?_, m2, m3⟩
  have hw : wrap64 ((R : Int) + (C : Int)) = ((R + C : Nat) : Int) := by rw [w64 (by omega) (by omega)]; omega
  unfold field_Cauchy.f
  rw [hw, if_neg (by clear hw; omega), if_neg (by clear hw; omega), if_neg (by clear hw; omega), if_neg (by clear hw; omega), decide_eq_false (by clear hw; omega)]
  obtain ⟨k, rfl⟩ : ∃ m, k = m + 1 := ⟨k - 1, by clear hw; omega⟩
  rw [field_Cauchy.j0, if_neg (by decide)]
  exact m1
theorem solved (K : Nat) (a b : Nat → El) (ha : ∀ i j, i < K → j < K → i ≠ j → a i ≠ a j) (hb : ∀ i j, i < K → j < K → i ≠ j → b i ≠ b j) (hab : ∀ i j, i < K → j < K → a i ≠ b j)
    (P W : List (List Int)) (hP : Sh K K P) {nx : Nat} (hW : Sh K nx W) (hv : ∀ i j, i < K → j < K → fn P i j = (a i + b j).inv) : ∃ y, cols K K 0 (P, W) = some y ∧ Sh K nx y ∧ ∀ i c, i < K → c < nx → El.sum K (fun t => fn P i t * fn y t c) = fn W i c := by
  have sp := solve_spec hP hW
  cases hc : cols K K 0 (P, W) with
  | none =>
    rw [hc] at sp
    obtain ⟨Y, ⟨i, hi, hY⟩, hk⟩ := sp
    exact absurd (El.cauchy_kernel K a b Y ha hb hab (fun i hi => by
      have := hk i hi
      unfold El.dot at this
      rw [← this]
      exact El.sum_congr fun j hj => by rw [hv i j hi hj, El.mul_comm]) i hi) hY
  | some y =>
    rw [hc] at sp
    exact ⟨y, rfl, sp.1, fun i c hi hcc => (sp.2 (fun t => fn y t c) c hcc).2 (fun _ _ => rfl) i hi⟩
end Go.Proofs.Ytdhajlkiiphlfaa.Cau
