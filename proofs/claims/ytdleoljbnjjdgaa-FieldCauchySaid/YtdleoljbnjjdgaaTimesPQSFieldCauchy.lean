/- A part of a proof: see the text's own remark. No conditions beyond its theorems' own. -/
import Derived.Test.YtdleoljbnjjdgaaQSFieldCauchyx4
import Derived.Test.YtdleoljbnjjdgaaBridge2
/-! what field.Times answers, as linear algebra; the small functions beside it -/
namespace Go.Proofs.Ytdleoljbnjjdgaa.TQSFieldCauchy
open Go.RowKit Go.Proofs.Ytdleoljbnjjdgaa.QSFieldCauchy Go.Proofs.YtdleoljbnjjdgaaW.PrintWords Go.Proofs.Ytdleoljbnjjdgaa.Math Go.Proofs.Ytdleoljbnjjdgaa.Solve
theorem e_Mul : @field_Mul.f = @QBaseFieldCauchy.field_Mul.f := by kernel_rfl
theorem e_Inv : @field_Inv.f = @QBaseFieldCauchy.field_Inv.f := by kernel_rfl
theorem e_add : @field_add.f = @QBaseFieldCauchy.field_add.f := by kernel_rfl
theorem e_all : @field_all.f = @QBaseFieldCauchy.field_all.f := by kernel_rfl
theorem e_width : @field_width.f = @QBaseFieldCauchy.field_width.f := by kernel_rfl
theorem rowQ {l : List (List Int)} {j : Nat} {r : List Int} (h : l[j]? = some r) : rd_L1 l (j : Int) = r := by unfold rd_L1; rw [Int.toNat_natCast, List.getD_eq_getElem?_getD, h]; rfl
theorem Sh.snoc {n m : Nat} {l : List (List Int)} (h : Sh n m l) {r : List Int} (h1 : r.length = m) (h2 : ∀ y ∈ r, In8 y) : Sh (n + 1) m (l ++ [r]) := by
  refine ⟨by rw [List.length_append, h.len]; rfl, fun q hq => ?_, fun q hq => ?_⟩
  · rcases List.mem_append.1 hq with hq | hq
    · exact h.row q hq
    · rw [List.mem_singleton] at hq; subst hq; exact h1
  · rcases List.mem_append.1 hq with hq | hq
    · exact h.el q hq
    · rw [List.mem_singleton] at hq; subst hq; exact h2
theorem Sh.nil {m : Nat} : Sh 0 m [] := ⟨rfl, (fun _ h => nomatch h), (fun _ h => nomatch h)⟩
theorem fn_snoc {n m : Nat} {l : List (List Int)} (h : Sh n m l) (r : List Int) (a c : Nat) (ha : a ≤ n) : fn (l ++ [r]) a c = if a = n then elO (rd r (c : Int)) else fn l a c := by
  by_cases e : a = n
  · subst e
    rw [if_pos rfl]
    have hg : (l ++ [r])[a]? = some r := by rw [List.getElem?_append_right (by rw [h.len]; exact Nat.le_refl _), h.len, Nat.sub_self]; rfl
    unfold fn
    rw [rowZ hg]
  · rw [if_neg e]
    have hl : a < l.length := by rw [h.len]; omega
    unfold fn
    rw [rowZ (List.getElem?_append_left hl |>.trans (List.getElem?_eq_getElem hl)), rowZ (List.getElem?_eq_getElem hl)]
theorem times_l1 {n w : Nat} (X : List (List Int)) (hX : Sh n w X) (row : List Int) (hr : row.length = n) (h8 : ∀ y ∈ row, In8 y) (hw : w ≤ 140737488355328) (hn : n ≤ 256) (out M : List (List Int)) (L i : Int) (ho : out.length < 5864062014805) : ∀ (d j k : Nat) (acc : List Int), j + d = n → acc.length = w → (∀ y ∈ acc, In8 y) → (∀ c, c < w → elO (rd acc (c : Int)) = El.sum j (fun t => elO (rd row (t : Int)) * fn X t c)) → d + w + 20 ≤ k →
    ∃ acc', acc'.length = w ∧ (∀ y ∈ acc', In8 y) ∧ (∀ c, c < w → elO (rd acc' (c : Int)) = El.sum n (fun t => elO (rd row (t : Int)) * fn X t c)) ∧ field_Times.l1 k X (w : Int) out acc M L i row (n : Int) (j : Int) = field_Times.l0 (k - d - 1) X (w : Int) (out ++ [acc']) M L (wrap64 (i + 1))
  | 0, j, k, acc, hj, ha, h8a, hs, hk => by
    obtain ⟨k, rfl⟩ : ∃ m, k = m + 1 := ⟨k - 1, by omega⟩
    obtain rfl : j = n := by omega
    refine ⟨acc, ha, h8a, hs, ?_⟩
    rw [field_Times.l1, if_neg (by omega), if_pos ho]
    rfl
  | d + 1, j, k, acc, hj, ha, h8a, hs, hk => by
    obtain ⟨k, rfl⟩ : ∃ m, k = m + 1 := ⟨k - 1, by omega⟩
    have hjn : j < n := by omega
    obtain ⟨Xj, hXj, lX, iX⟩ := hX.at_ hjn
    have hy := List.getElem?_eq_getElem (show j < row.length by omega)
    have hb8 : In8 (row[j]'(by omega)) := h8 _ (List.getElem_mem _)
    have hrd : rd row (j : Int) = row[j]'(by omega) := elZ hy
    have hstep : ∃ acc1, field_add.f k acc (rd_L1 X (j : Int)) (rd row (j : Int)) = some acc1 ∧ acc1.length = w ∧ (∀ y ∈ acc1, In8 y) ∧ ∀ c, c < w → elO (rd acc1 (c : Int)) = El.sum (j + 1) (fun t => elO (rd row (t : Int)) * fn X t c) := by
      rw [rowQ hXj, hrd]
      by_cases h0 : row[j]'(by omega) = 0
      · refine ⟨acc, ?_, ha, h8a, fun c hc => ?_⟩
        · unfold field_add.f; rw [if_pos h0]
        · rw [hs c hc]
          show _ = El.sum j _ + elO (rd row (j : Int)) * fn X j c
          rw [hrd, h0, elO_zero, El.zero_mul, El.add_zero]
      · refine ⟨addR acc Xj (row[j]'(by omega)), ?_, by rw [addR_length _ _ _ (by omega), ha], addR_in _ _ _ hb8 h8a, fun c hc => ?_⟩
        · rw [e_add]; exact Solve.add_f k acc Xj _ hb8 h0 h8a iX (by omega) (by omega) (by omega)
        · rw [fn_add hb8 h8a iX (by omega) (by omega), hs c hc]
          show _ = El.sum j _ + elO (rd row (j : Int)) * fn X j c
          rw [hrd]
          unfold fn
          rw [rowZ hXj]
    obtain ⟨acc1, e1, l1, i1, s1⟩ := hstep
    obtain ⟨acc', p1, p2, p3, p4⟩ := times_l1 X hX row hr h8 hw hn out M L i ho d (j + 1) k acc1 (by omega) l1 i1 s1 (by omega)
    refine ⟨acc', p1, p2, p3, ?_⟩
    rw [field_Times.l1, if_pos (by omega), if_pos (by omega), if_pos (by omega), if_pos (by rw [hX.len]; omega), e1, Option.bind_some, w64 (by omega) (by omega), show (j : Int) + 1 = ((j + 1 : Nat) : Int) by omega, p4, show k + 1 - (d + 1) - 1 = k - d - 1 by omega]
theorem rep_in (w : Nat) : ∀ y ∈ List.replicate w (0 : Int), In8 y := fun y hy => by rw [List.eq_of_mem_replicate hy]; exact ⟨by omega, by omega⟩
theorem rep_rd (w c : Nat) : rd (List.replicate w (0 : Int)) (c : Int) = 0 := by
  unfold rd
  rw [Int.toNat_natCast, List.getD_eq_getElem?_getD, List.getElem?_replicate]
  split <;> rfl
set_option maxRecDepth 8000 in
theorem times_l0 {p n w : Nat} (M X : List (List Int)) (hM : Sh p n M) (hX : Sh n w X) (hw : w ≤ 140737488355328) (hn : n ≤ 256) (hp : p ≤ 256) : ∀ (d i k : Nat) (out : List (List Int)), i + d = p → Sh i w out → (∀ a c, a < i → c < w → fn out a c = El.sum n (fun t => fn M a t * fn X t c)) → 300 * d + (w + 300) ≤ k →
    ∃ u, field_Times.l0 k X (w : Int) out M (p : Int) (i : Int) = some (u, 0) ∧ Sh p w u ∧ ∀ a c, a < p → c < w → fn u a c = El.sum n (fun t => fn M a t * fn X t c) := by
  intro d
  induction d with
  | zero =>
    intro i k out hi ho hs hk
    obtain ⟨k, rfl⟩ : ∃ m, k = m + 1 := ⟨k - 1, by omega⟩
    obtain rfl : i = p := by omega
    refine ⟨out, ?_, ho, hs⟩
    rw [field_Times.l0, if_neg (by omega)]
  | succ d ih =>
    intro i k out hi ho hs hk
    obtain ⟨k, rfl⟩ : ∃ m, k = m + 1 := ⟨k - 1, by omega⟩
    obtain ⟨row, hrow, lr, ir⟩ := hM.at_ (show i < p by omega)
    have c0 : 300 * d + (w + 300) ≤ k - n - 1 := by
      have h1 : 300 * d + 300 + (w + 300) ≤ k + 1 := by rw [Nat.mul_add, Nat.mul_one] at hk; exact hk
      clear hk hs ih
      generalize 300 * d = e at h1 ⊢
      omega
    have c1 : (i : Int) < (p : Int) := by omega
    have c2 : (0 : Int) ≤ (i : Int) := by omega
    have c3 : (0 : Int) ≤ (w : Int) := by omega
    have c4 : (w : Int).toNat ≤ 281474976710656 := by rw [Int.toNat_natCast]; omega
    have c5 : wrap64 ((i : Int) + 1) = ((i + 1 : Nat) : Int) := by rw [w64 (by omega) (by omega)]; omega
    have c6 : (i : Int) < (M.length : Int) := by rw [hM.len]; exact c1
    obtain ⟨acc, p1, p2, p3, p4⟩ := times_l1 X hX row lr ir hw hn out M (p : Int) (i : Int) (by rw [ho.len]; omega) n 0 k (List.replicate w 0) (by omega) List.length_replicate (rep_in w) (fun c _ => by rw [rep_rd]; exact elO_zero) (by omega)
    have ho2 : Sh (i + 1) w (out ++ [acc]) := Sh.snoc ho p1 p2
    obtain ⟨u, q1, q2, q3⟩ := ih (i + 1) (k - n - 1) (out ++ [acc]) (by omega) ho2 (fun a c ha hc => by
      rw [fn_snoc ho acc a c (by omega)]
      by_cases e : a = i
      · rw [if_pos e, p3 c hc]
        subst e
        refine El.sum_congr fun t ht => ?_
        unfold fn
        rw [rowZ hrow]
      · rw [if_neg e, hs a c (by omega) hc]) c0
    refine ⟨u, ?_, q2, q3⟩
    rw [field_Times.l0, if_pos c1, if_pos c2, if_pos c6, if_pos c3, if_pos c4, rowQ hrow, lr, Int.toNat_natCast]
    have p5 := p4
    rw [show ((0 : Nat) : Int) = 0 from rfl] at p5
    rw [p5, c5, q1]
/-- field.Times of fitting shapes -/
theorem times_f {p n w : Nat} (M X : List (List Int)) (hM : Sh p n M) (hX : Sh n w X) (h0 : 0 < n) (hw : w ≤ 140737488355328) (hn : n ≤ 256) (hp : p ≤ 256) (k : Nat) (hk : 80000 + w ≤ k) :
    ∃ u, field_Times.f k M X = some (u, 0) ∧ Sh p w u ∧ ∀ a c, a < p → c < w → fn u a c = El.sum n (fun t => fn M a t * fn X t c) := by
  obtain ⟨u, q1, q2, q3⟩ := times_l0 M X hM hX hw hn hp p 0 (k - 1) [] (by omega) Sh.nil (fun a c ha => by omega) (by omega)
  refine ⟨u, ?_, q2, q3⟩
  obtain ⟨r0, hr0, lr0, _⟩ := hX.at_ h0
  have hall : field_all.f k X (w : Int) = some true := by rw [e_all]; exact all_true k n w X hX.row hX.len hn (by omega)
  have hall2 : field_all.f k M (n : Int) = some true := by rw [e_all]; exact all_true k p n M hM.row hM.len hp (by omega)
  have hwid : field_width.f k X = some ((w : Int), true) := by
    unfold field_width.f
    rw [if_pos (by rw [hX.len]; omega), if_pos (by rw [hX.len]; omega)]
    have e : rd_L1 X 0 = r0 := rowQ (j := 0) hr0
    rw [e, lr0, hall]; rfl
  unfold field_Times.f
  rw [hwid, Option.bind_some]
  show (if true = true then _ else _) = _
  rw [if_pos rfl, if_neg (by rw [hM.len]; omega), if_neg (by rw [hX.len]; omega), hX.len, hall2, Option.bind_some]
  show field_Times.j0 k M X (w : Int) false = _
  obtain ⟨k, rfl⟩ : ∃ m, k = m + 1 := ⟨k - 1, by omega⟩
  rw [field_Times.j0, if_neg (by decide), hM.len]
  exact q1
theorem alive_f (k : Nat) (hk : 17 ≤ k) : dailieslaw04_alive.f k = some true := by
  unfold dailieslaw04_alive.f
  rw [e_Mul, e_Inv, show (2 : Int) = ((2 : Nat) : Int) from rfl, show (128 : Int) = ((128 : Nat) : Int) from rfl, Mul_f k 2 128 (by decide) (by decide) (by omega), Inv_f k 2 (by decide) hk, Option.bind_some, Option.bind_some]
  decide +kernel
theorem pick_f (a n : Int) (h0 : -9223372036854775808 ≤ a) (h1 : a ≤ 9223372036854775807) (hn : 0 < n) : ∃ c, dailieslaw04_pick.f a n = some c ∧ 0 ≤ c ∧ c < n := by
  unfold dailieslaw04_pick.f
  by_cases h : a < 0
  · rw [if_pos h, if_neg (by omega), w64 (n := a + 1) (by omega) (by omega), w64 (by omega) (by omega)]
    refine ⟨_, rfl, ?_, ?_⟩
    · rw [Int.tmod_eq_emod_of_nonneg (by omega)]; exact Int.emod_nonneg _ (by omega)
    · rw [Int.tmod_eq_emod_of_nonneg (by omega)]; exact Int.emod_lt_of_pos _ hn
  · rw [if_neg h, if_neg (by omega)]
    refine ⟨_, rfl, ?_, ?_⟩
    · rw [Int.tmod_eq_emod_of_nonneg (by omega)]; exact Int.emod_nonneg _ (by omega)
    · rw [Int.tmod_eq_emod_of_nonneg (by omega)]; exact Int.emod_lt_of_pos _ hn
theorem same_refl (a : List (List Int)) (h : a.length ≤ 140737488355328) : dailieslaw04_same.f a a = some true := by
  unfold dailieslaw04_same.f
  rw [if_pos h]
  congr 1
  unfold Solve.sameL Solve.sameB
  rw [if_pos rfl, List.all_eq_true]
  intro j _
  exact decide_eq_true rfl
theorem Fit.of {n w : Nat} {m v : List (List Int)} (h0 : 0 < n) (hn : n ≤ 256) (hw : w ≤ 140737488355328) (hm : Sh n n m) (hv : Sh n w v) : Fit m v := ⟨n, w, h0, hn, hw, hm, hv⟩
theorem solve_none {n w : Nat} {m v : List (List Int)} (h0 : 0 < n) (hn : n ≤ 256) (hw : w ≤ 140737488355328) (hm : Sh n n m) (hv : Sh n w v) (h : cols n n 0 (m, v) = none) : field_Solve.f m v = some ([], 43) := by
  show solveF m v = _
  rw [solveF_fit (Fit.of h0 hn hw hm hv), hm.len, h]
theorem solve_some {n w : Nat} {m v l : List (List Int)} (h0 : 0 < n) (hn : n ≤ 256) (hw : w ≤ 140737488355328) (hm : Sh n n m) (hv : Sh n w v) (h : cols n n 0 (m, v) = some l) : field_Solve.f m v = some (l, 0) := by
  show solveF m v = _
  rw [solveF_fit (Fit.of h0 hn hw hm hv), hm.len, h]
end Go.Proofs.Ytdleoljbnjjdgaa.TQSFieldCauchy
