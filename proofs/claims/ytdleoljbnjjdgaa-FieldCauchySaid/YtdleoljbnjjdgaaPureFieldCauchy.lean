/- Whichever rows and columns of a Cauchy matrix are taken, as many of each: that part can be solved: for every input the law FieldCauchy is true. No conditions. -/
import Derived.Test.YtdleoljbnjjdgaaQSFieldCauchyx4
import Derived.Test.YtdleoljbnjjdgaaTimesPQSFieldCauchy
namespace Go.Proofs.Ytdleoljbnjjdgaa.Pure
open Go.RowKit Go.Proofs.Ytdleoljbnjjdgaa.QSFieldCauchy Go.Proofs.YtdleoljbnjjdgaaW.PrintWords Go.Proofs.YtdleoljbnjjdgaaW.PrintLast
open Go.Proofs.Ytdleoljbnjjdgaa.Math Go.Proofs.Ytdleoljbnjjdgaa.Solve Go.Proofs.Ytdleoljbnjjdgaa.TQSFieldCauchy Go.Proofs.Ytdleoljbnjjdgaa.Bits
theorem rd_in {l : List Int} (h : ∀ y ∈ l, In8 y) (i : Int) : In8 (rd l i) := by
  unfold rd
  rw [List.getD_eq_getElem?_getD]
  cases e : l[i.toNat]? with
  | none => exact ⟨by decide, by decide⟩
  | some y => exact h y (List.mem_of_getElem? e)
theorem set_in {l : List Int} (h : ∀ y ∈ l, In8 y) (i : Nat) {x : Int} (hx : In8 x) : ∀ y ∈ l.set i x, In8 y := fun y hy => (List.mem_or_eq_of_mem_set hy).elim (h y) (fun e => e ▸ hx)
theorem w1 (j : Nat) (h : j ≤ 100000000) : wrap64 ((j : Int) + 1) = ((j + 1 : Nat) : Int) := by rw [w64 (by omega) (by omega)]; omega
theorem w1' (j : Nat) (h : j ≤ 100000000) : wrap64 (1 + (j : Int)) = ((1 + j : Nat) : Int) := by rw [w64 (by omega) (by omega)]; omega
theorem w255 (i : Nat) (h : i < 256) : wrap64 (255 - (i : Int)) % 256 = ((255 - i : Nat) : Int) := by rw [w64 (by omega) (by omega)]; omega
theorem tmod_nat (x n : Nat) : Int.tmod (x : Int) (n : Int) = ((x % n : Nat) : Int) := by rw [Int.tmod_eq_emod_of_nonneg (by omega)]; exact (Int.natCast_emod x n).symm
theorem mod256 (i : Nat) (h : i < 256) : (i : Int) % 256 = (i : Int) := by omega
theorem emod_in (z : Int) : In8 (z % 256) := ⟨Int.emod_nonneg _ (by decide), Int.emod_lt_of_pos _ (by decide)⟩
theorem rd_set (l : List Int) (j c : Nat) (x : Int) (hj : j < l.length) : rd (l.set j x) (c : Int) = if c = j then x else rd l (c : Int) := by
  unfold rd
  rw [Int.toNat_natCast, List.getD_eq_getElem?_getD, List.getD_eq_getElem?_getD]
  by_cases e : c = j
  · subst e; rw [if_pos rfl, List.getElem?_set_self hj]; rfl
  · rw [if_neg e, List.getElem?_set_ne (Ne.symm e)]
/-! field.Cauchy -/
theorem cauchy_l1 (C : Nat) (hC : C ≤ 256) (out : List (List Int)) (ho : out.length < 5864062014805) (i : Nat) (hi : i < 256) (R L : Int) : ∀ (d j k : Nat) (row : List Int), j + d = C → row.length = C → (∀ y ∈ row, In8 y) → (∀ c, c < j → rd row (c : Int) = invZ (xorZ ((255 - i : Nat) : Int) (c : Int))) → d + 20 < k →
    ∃ row', row'.length = C ∧ (∀ y ∈ row', In8 y) ∧ (∀ c, c < C → rd row' (c : Int) = invZ (xorZ ((255 - i : Nat) : Int) (c : Int))) ∧ field_Cauchy.l1 k L out (i : Int) row R (i : Int) (C : Int) (j : Int) = field_Cauchy.l0 (k - d - 1) L (out ++ [row']) R (wrap64 ((i : Int) + 1)) := by
  intro d
  induction d with
  | zero =>
    intro j k row hj hr h8 hs hk
    obtain ⟨k, rfl⟩ : ∃ m, k = m + 1 := ⟨k - 1, by omega⟩
    obtain rfl : j = C := by omega
    refine ⟨row, hr, h8, hs, ?_⟩
    rw [field_Cauchy.l1, if_neg (by omega), if_pos ho]
    rfl
  | succ d ih =>
    intro j k row hj hr h8 hs hk
    obtain ⟨k, rfl⟩ : ∃ m, k = m + 1 := ⟨k - 1, by omega⟩
    have hjC : j < C := by omega
    have c1 : (j : Int) < (C : Int) := by omega
    have e : k + 1 - (d + 1) - 1 = k - d - 1 := by omega
    have g2 : (0 : Int) ≤ (j : Int) := by omega
    have g3 : j + 1 + d = C := by omega
    have g4 : d + 20 < k := by omega
    have gk : 17 ≤ k := by omega
    have h255 : 255 - i < 256 := by omega
    have hj8 : j < 256 := by omega
    have hx : Go.bits .xor .u8 ((255 - i : Nat) : Int) (j : Int) = xorZ ((255 - i : Nat) : Int) (j : Int) := by
      unfold xorZ
      exact xor_u8 _ _ h255 hj8
    have hx8 : In8 (xorZ ((255 - i : Nat) : Int) (j : Int)) := xorZ_in (In8.of h255) (In8.of hj8)
    obtain ⟨row', p1, p2, p3, p4⟩ := ih (j + 1) k (row.set j (invZ (xorZ ((255 - i : Nat) : Int) (j : Int)))) g3 (by rw [List.length_set]; exact hr) (set_in h8 _ (invZ_in hx8)) (fun c hc => by
      rw [rd_set _ _ _ _ (by omega)]
      by_cases ec : c = j
      · rw [if_pos ec, ec]
      · rw [if_neg ec]; exact hs c (by omega)) g4
    refine ⟨row', p1, p2, p3, ?_⟩
    have c2 := w1 j (by omega)
    have c3 := w255 i hi
    have c4 := mod256 j hj8
    rw [field_Cauchy.l1, if_pos c1, c3, c4, hx, e_Inv, Inv_z hx8 gk, Option.bind_some, if_pos g2, if_pos (by rw [hr]; exact c1), c2, Int.toNat_natCast, p4, e]
theorem cauchy_l0 (R C : Nat) (hR : R + C ≤ 256) : ∀ (d i k : Nat) (out : List (List Int)), i + d = R → Sh i C out → (∀ a c, a < i → c < C → rd (rd_L1 out (a : Int)) (c : Int) = invZ (xorZ ((255 - a : Nat) : Int) (c : Int))) → 300 * d + 300 ≤ k →
    ∃ m, field_Cauchy.l0 k (C : Int) out (R : Int) (i : Int) = some (m, 0) ∧ Sh R C m ∧ (∀ a c, a < R → c < C → rd (rd_L1 m (a : Int)) (c : Int) = invZ (xorZ ((255 - a : Nat) : Int) (c : Int))) := by
  intro d
  induction d with
  | zero =>
    intro i k out hi ho hs hk
    obtain ⟨k, rfl⟩ : ∃ m, k = m + 1 := ⟨k - 1, by omega⟩
    obtain rfl : i = R := by omega
    refine ⟨out, ?_, ho, hs⟩
    rw [field_Cauchy.l0, if_neg (by omega)]
  | succ d ih =>
    intro i k out hi ho hs hk
    obtain ⟨k, rfl⟩ : ∃ m, k = m + 1 := ⟨k - 1, by omega⟩
    have c0 : 300 * d + 300 ≤ k - C - 1 := by omega
    have c1 : (i : Int) < (R : Int) := by omega
    have c4 : (0 : Int) ≤ (C : Int) := by omega
    have g1 : i + 1 + d = R := by omega
    have c3 : (C : Int).toNat ≤ 281474976710656 := by rw [Int.toNat_natCast]; omega
    obtain ⟨row, r1, r2, r3, r4⟩ := cauchy_l1 C (by omega) out (by rw [ho.len]; omega) i (by omega) (R : Int) (C : Int) C 0 k (List.replicate C 0) (Nat.zero_add C) List.length_replicate (rep_in C) (fun c hc => by omega) (by omega)
    have ho2 := TQSFieldCauchy.Sh.snoc ho r1 r2
    obtain ⟨m, m1, m2, m3⟩ := ih (i + 1) (k - C - 1) (out ++ [row]) g1 ho2 (fun a c ha hc => by
      by_cases e : a = i
      · have hg : (out ++ [row])[a]? = some row := by rw [e, List.getElem?_append_right (by rw [ho.len]; exact Nat.le_refl _), ho.len, Nat.sub_self]; rfl
        rw [rowQ hg, r3 c hc, e]
      · obtain ⟨ra, h1, _, _⟩ := ho.at_ (show a < i by omega)
        have hg : (out ++ [row])[a]? = some ra := by rw [List.getElem?_append_left (by rw [ho.len]; omega)]; exact h1
        have := hs a c (by omega) hc
        rw [rowQ h1] at this
        rw [rowQ hg, this]) c0
    refine ⟨m, ?_, m2, m3⟩
    have c2 := w1 i (by clear r4 r3; omega)
    rw [field_Cauchy.l0, if_pos c1, if_pos c4, if_pos c3, Int.toNat_natCast, Option.bind_some, List.length_replicate]
    have r5 := r4
    rw [show ((0 : Nat) : Int) = 0 from rfl] at r5
    rw [r5, c2, m1]
theorem cauchy_f (R C : Nat) (h1 : 1 ≤ R) (h2 : 1 ≤ C) (hR : R + C ≤ 256) (k : Nat) (hk : 80000 ≤ k) :
    ∃ m, field_Cauchy.f k (R : Int) (C : Int) = some (m, 0) ∧ Sh R C m ∧ (∀ a c, a < R → c < C → rd (rd_L1 m (a : Int)) (c : Int) = invZ (xorZ ((255 - a : Nat) : Int) (c : Int))) := by
  obtain ⟨m, m1, m2, m3⟩ := cauchy_l0 R C hR R 0 (k - 1) [] (by omega) Sh.nil (fun a c ha => by omega) (by omega)
  refine ⟨m, ?_, m2, m3⟩
  have hw : wrap64 ((R : Int) + (C : Int)) = ((R + C : Nat) : Int) := by rw [w64 (by omega) (by omega)]; omega
  unfold field_Cauchy.f
  rw [hw, if_neg (by clear hw; omega), if_neg (by clear hw; omega), if_neg (by clear hw; omega), if_neg (by clear hw; omega), decide_eq_false (by clear hw; omega)]
  obtain ⟨k, rfl⟩ : ∃ m, k = m + 1 := ⟨k - 1, by clear hw; omega⟩
  rw [field_Cauchy.j0, if_neg (by decide)]
  exact m1
/-! what is chosen -/
theorem taken_l0 (l : List Int) (v : Int) (hl : l.length ≤ 1000) : ∀ (d i k : Nat), i + d = l.length → d < k → dailieslaw04_taken.l0 k l v (i : Int) = some (decide (v ∈ l.drop i)) := by
  intro d
  induction d with
  | zero =>
    intro i k hi hk
    obtain ⟨k, rfl⟩ : ∃ m, k = m + 1 := ⟨k - 1, by omega⟩
    rw [dailieslaw04_taken.l0, if_neg (by omega), List.drop_of_length_le (by omega)]
    simp
  | succ d ih =>
    intro i k hi hk
    obtain ⟨k, rfl⟩ : ∃ m, k = m + 1 := ⟨k - 1, by omega⟩
    have hlt : i < l.length := by omega
    have hz : rd l (i : Int) = l[i] := elZ (List.getElem?_eq_getElem hlt)
    have g1 : i + 1 + d = l.length := by omega
    have g2 : d < k := by omega
    rw [dailieslaw04_taken.l0, if_pos (by omega), if_pos (by omega), hz, w1 i (by omega), ih (i + 1) k g1 g2, List.drop_eq_getElem_cons hlt]
    by_cases h : l[i] = v
    · rw [if_pos h, decide_eq_true]
      rw [h]; exact List.mem_cons_self
    · rw [if_neg h]
      congr 1
      have hiff : v ∈ l.drop (i + 1) ↔ v ∈ l[i] :: l.drop (i + 1) := ⟨List.mem_cons_of_mem _, fun hm => (List.mem_cons.1 hm).elim (fun e => absurd e.symm h) id⟩
      by_cases hm : v ∈ l.drop (i + 1)
      · rw [decide_eq_true hm, decide_eq_true (hiff.1 hm)]
      · rw [decide_eq_false hm, decide_eq_false (fun x => hm (hiff.2 x))]
theorem taken_f (k : Nat) (l : List Int) (v : Int) (hl : l.length ≤ 1000) (hk : l.length < k) : dailieslaw04_taken.f k l v = some (decide (v ∈ l)) := by
  have := taken_l0 l v hl l.length 0 k (by omega) hk
  rw [List.drop_zero] at this
  exact this
theorem nodup_le : ∀ (L M : List Int), L.Nodup → (∀ x ∈ L, x ∈ M) → L.length ≤ M.length
  | [], _, _, _ => Nat.zero_le _
  | a :: L, M, h, hs => by
    have ha := hs a List.mem_cons_self
    have hn := List.nodup_cons.1 h
    have := nodup_le L (M.erase a) hn.2 (fun x hx => (List.mem_erase_of_ne (fun e : x = a => hn.1 (by rw [← e]; exact hx))).2 (hs x (List.mem_cons_of_mem _ hx)))
    rw [List.length_erase_of_mem ha] at this
    have hp : 0 < M.length := List.length_pos_of_mem ha
    rw [List.length_cons]
    omega
theorem mod_inj {x n s t : Nat} (hs : s < n) (ht : t < n) (h : (x + s) % n = (x + t) % n) : s = t := by
  have key : ∀ s t, s < t → t < n → (x + s) % n = (x + t) % n → False := by
    intro s t hst htn e
    have h1 : (x + t - (x + s)) % n = 0 := Nat.sub_mod_eq_zero_of_mod_eq e.symm
    rw [show x + t - (x + s) = t - s by omega, Nat.mod_eq_of_lt (by omega)] at h1
    omega
  rcases Nat.lt_trichotomy s t with h1 | h1 | h1
  · exact (key s t h1 ht h).elim
  · exact h1
  · exact (key t s h1 hs h.symm).elim
theorem free (out : List Int) (x n : Nat) (h : out.length < n) : ∃ t, t ≤ out.length ∧ (((x + t) % n : Nat) : Int) ∉ out := by
  apply Classical.byContradiction
  intro hno
  have hall : ∀ t, t ≤ out.length → (((x + t) % n : Nat) : Int) ∈ out := fun t ht => Classical.byContradiction fun e => hno ⟨t, ht, e⟩
  have hl := nodup_le ((List.range (out.length + 1)).map (fun t => (((x + t) % n : Nat) : Int))) out (by
    rw [List.nodup_iff_pairwise_ne, List.pairwise_map]
    refine List.Pairwise.imp_of_mem ?_ (List.nodup_iff_pairwise_ne.1 List.nodup_range)
    intro a b ha hb hab e
    rw [List.mem_range] at ha hb
    exact hab (mod_inj (by omega) (by omega) (Int.ofNat.inj e))) (fun y hy => by
    obtain ⟨t, ht, rfl⟩ := List.mem_map.1 hy
    rw [List.mem_range] at ht
    exact hall t (by omega))
  rw [List.length_map, List.length_range] at hl
  omega
theorem chosen_l1 (raw : List Int) (n K : Nat) (hn0 : 0 < n) (i : Int) (out : List Int) (ho : out.length < n) (hn : n ≤ 256) : ∀ (d x k : Nat), (∃ t, t ≤ d ∧ (((x + t) % n : Nat) : Int) ∉ out) → x + d ≤ 10000 → d + 300 < k →
    ∃ y k' : Nat, y < n ∧ (y : Int) ∉ out ∧ k ≤ k' + d + 1 ∧ dailieslaw04_chosen.l1 k raw (n : Int) (K : Int) out i (x : Int) = dailieslaw04_chosen.l0 k' raw (n : Int) (K : Int) (out ++ [(y : Int)]) (wrap64 (i + 1)) := by
  intro d
  induction d with
  | zero =>
    rintro x k ⟨t, ht, hno⟩ hx hk
    obtain ⟨k, rfl⟩ : ∃ m, k = m + 1 := ⟨k - 1, by omega⟩
    obtain rfl : t = 0 := by omega
    rw [Nat.add_zero] at hno
    refine ⟨x % n, k, Nat.mod_lt _ hn0, hno, by omega, ?_⟩
    rw [dailieslaw04_chosen.l1, if_neg (by omega), tmod_nat, taken_f k out _ (by omega) (by omega), Option.bind_some, decide_eq_false hno, if_neg (by decide), if_pos (by omega)]
  | succ d ih =>
    rintro x k ⟨t, ht, hno⟩ hx hk
    obtain ⟨k, rfl⟩ : ∃ m, k = m + 1 := ⟨k - 1, by omega⟩
    by_cases h : ((x % n : Nat) : Int) ∈ out
    · have ht0 : t ≠ 0 := fun e => hno (by rw [e]; exact h)
      obtain ⟨y, k', h1, h2, h3, h4⟩ := ih (x + 1) k ⟨t - 1, by omega, by rw [show x + 1 + (t - 1) = x + t by omega]; exact hno⟩ (by omega) (by omega)
      refine ⟨y, k', h1, h2, by omega, ?_⟩
      rw [dailieslaw04_chosen.l1, if_neg (by omega), tmod_nat, taken_f k out _ (by omega) (by omega), Option.bind_some, decide_eq_true h, if_pos rfl, w1 x (by omega), h4]
    · refine ⟨x % n, k, Nat.mod_lt _ hn0, h, by omega, ?_⟩
      rw [dailieslaw04_chosen.l1, if_neg (by omega), tmod_nat, taken_f k out _ (by omega) (by omega), Option.bind_some, decide_eq_false h, if_neg (by decide), if_pos (by omega)]
/-- so many numbers below n, none twice -/
structure Some_ (n m : Nat) (l : List Int) : Prop where
  len : l.length = m
  el : ∀ y ∈ l, 0 ≤ y ∧ y < n
  nodup : l.Nodup
theorem i64_raw {raw : List Int} (h : ∀ x ∈ raw, (Lit.int .i64 x).wf = true) (i : Int) : -9223372036854775808 ≤ rd raw i ∧ rd raw i ≤ 9223372036854775807 := by
  unfold rd
  rw [List.getD_eq_getElem?_getD]
  cases e : raw[i.toNat]? with
  | none => exact ⟨by decide, by decide⟩
  | some y => exact i64_range (h y (List.mem_of_getElem? e))
theorem chosen_l0 (raw : List Int) (hraw : ∀ x ∈ raw, (Lit.int .i64 x).wf = true) (n K : Nat) (hn0 : 0 < n) (hn : n ≤ 256) (hK : K ≤ n) : ∀ (d i k : Nat) (out : List Int), i + d = K → Some_ n i out → 1000 * d + 1000 ≤ k →
    ∃ r, dailieslaw04_chosen.l0 k raw (n : Int) (K : Int) out (i : Int) = some r ∧ Some_ n K r := by
  intro d
  induction d with
  | zero =>
    intro i k out hi ho hk
    obtain ⟨k, rfl⟩ : ∃ m, k = m + 1 := ⟨k - 1, by omega⟩
    obtain rfl : i = K := by omega
    refine ⟨out, ?_, ho⟩
    rw [dailieslaw04_chosen.l0, if_neg (by rw [ho.len]; omega)]
  | succ d ih =>
    intro i k out hi ho hk
    obtain ⟨k, rfl⟩ : ∃ m, k = m + 1 := ⟨k - 1, by omega⟩
    obtain ⟨k, rfl⟩ : ∃ m, k = m + 1 := ⟨k - 1, by omega⟩
    have hol := ho.len
    have from_ : ∀ x : Nat, x < n → ∃ r, dailieslaw04_chosen.j1 (k + 1) raw (n : Int) (K : Int) out (i : Int) (x : Int) = some r ∧ Some_ n K r := by
      intro x hx
      obtain ⟨y, k', h1, h2, h3, h4⟩ := chosen_l1 raw n K hn0 (i : Int) out (by omega) hn out.length x k (free out x n (by omega)) (by omega) (by omega)
      have ho2 : Some_ n (i + 1) (out ++ [(y : Int)]) := by
        refine ⟨by rw [List.length_append, hol]; rfl, fun z hz => ?_, ?_⟩
        · rcases List.mem_append.1 hz with hz | hz
          · exact ho.el z hz
          · rw [List.mem_singleton] at hz; subst hz; exact ⟨by omega, by omega⟩
        · rw [List.nodup_append]
          refine ⟨ho.nodup, by simp, fun a ha b hb e => ?_⟩
          rw [List.mem_singleton] at hb
          subst hb; subst e
          exact h2 ha
      obtain ⟨r, r1, r2⟩ := ih (i + 1) k' (out ++ [(y : Int)]) (by omega) ho2 (by omega)
      refine ⟨r, ?_, r2⟩
      rw [dailieslaw04_chosen.j1, h4, w1 i (by clear h4; omega), r1]
    rw [dailieslaw04_chosen.l0, if_pos (by rw [hol]; omega)]
    by_cases h : (i : Int) < (raw.length : Int)
    · obtain ⟨c, e, c0, cn⟩ := pick_f (rd raw (i : Int)) (n : Int) (i64_raw hraw _).1 (i64_raw hraw _).2 (by omega)
      obtain ⟨c, rfl⟩ : ∃ c' : Nat, c = c' := ⟨c.toNat, by omega⟩
      rw [if_pos h, if_pos (by omega), e, Option.bind_some]
      exact from_ c (by omega)
    · rw [if_neg h]
      exact from_ i (by omega)
theorem chosen_f (raw : List Int) (hraw : ∀ x ∈ raw, (Lit.int .i64 x).wf = true) (n K : Nat) (hn0 : 0 < n) (hn : n ≤ 256) (hK : K ≤ n) (k : Nat) (hk : 300000 ≤ k) : ∃ r, dailieslaw04_chosen.f k raw (n : Int) (K : Int) = some r ∧ Some_ n K r :=
  chosen_l0 raw hraw n K hn0 hn hK K 0 k [] (by omega) ⟨rfl, (fun _ h => nomatch h), List.nodup_nil⟩ (by omega)
theorem Some_.at_ {n m : Nat} {l : List Int} (h : Some_ n m l) {i : Nat} (hi : i < m) : ∃ y : Nat, rd l (i : Int) = (y : Int) ∧ y < n ∧ l[i]? = some (y : Int) := by
  have hg := List.getElem?_eq_getElem (show i < l.length by rw [h.len]; exact hi)
  have he := h.el _ (List.getElem_mem (show i < l.length by rw [h.len]; exact hi))
  refine ⟨(l[i]'(by rw [h.len]; exact hi)).toNat, ?_, by omega, ?_⟩
  · rw [elZ hg]; omega
  · rw [hg]; congr 1; omega
theorem Some_.ne {n m : Nat} {l : List Int} (h : Some_ n m l) {i j : Nat} (hi : i < m) (hj : j < m) (hij : i ≠ j) : rd l (i : Int) ≠ rd l (j : Int) := by
  have hl := h.len
  have g1 := List.getElem?_eq_getElem (show i < l.length by omega)
  have g2 := List.getElem?_eq_getElem (show j < l.length by omega)
  rw [elZ g1, elZ g2]
  intro e
  exact hij ((List.getElem_inj h.nodup).1 e)
/-! the part, and what is asked of it -/
theorem part_l1 {R C : Nat} (M : List (List Int)) (hM : Sh R C M) (K : Nat) (hK : K ≤ 256) (r s : List Int) (hr : Some_ R K r) (hs : Some_ C K s) (P W : List (List Int)) (hP : P.length < 5864062014805) (hW : W.length < 5864062014805) (i : Nat) (hi : i < K) : ∀ (d j k : Nat) (row : List Int), j + d = K → row.length = K → (∀ y ∈ row, In8 y) → (∀ c, c < j → rd row (c : Int) = rd (rd_L1 M (rd r (i : Int))) (rd s (c : Int))) → d < k →
    ∃ row', row'.length = K ∧ (∀ y ∈ row', In8 y) ∧ (∀ c, c < K → rd row' (c : Int) = rd (rd_L1 M (rd r (i : Int))) (rd s (c : Int))) ∧ dailieslaw04_FieldCauchy.l1 k (K : Int) M r s P W (i : Int) row (j : Int) = dailieslaw04_FieldCauchy.l0 (k - d - 1) (K : Int) M r s (P ++ [row']) (W ++ [[(i : Int) % 256, wrap64 (3 * (i : Int)) % 256]]) (wrap64 ((i : Int) + 1)) := by
  intro d
  induction d with
  | zero =>
    intro j k row hj hl h8 hv hk
    obtain ⟨k, rfl⟩ : ∃ m, k = m + 1 := ⟨k - 1, by omega⟩
    obtain rfl : j = K := by omega
    refine ⟨row, hl, h8, hv, ?_⟩
    rw [dailieslaw04_FieldCauchy.l1, if_neg (by omega), if_pos hP, if_pos hW]
    rfl
  | succ d ih =>
    intro j k row hj hl h8 hv hk
    obtain ⟨k, rfl⟩ : ∃ m, k = m + 1 := ⟨k - 1, by omega⟩
    have hjK : j < K := by omega
    obtain ⟨a, ea, ha, _⟩ := hr.at_ hi
    obtain ⟨b, eb, hb, _⟩ := hs.at_ hjK
    obtain ⟨ra, hra, lra, ira⟩ := hM.at_ ha
    have c1 : (j : Int) < (K : Int) := by omega
    have e : k + 1 - (d + 1) - 1 = k - d - 1 := by omega
    have g2 : (0 : Int) ≤ (j : Int) := by omega
    have g3 : j + 1 + d = K := by omega
    have g4 : d < k := by omega
    have g5 : (j : Int) < (s.length : Int) := by rw [hs.len]; exact c1
    have g6 : (0 : Int) ≤ (i : Int) := by omega
    have g7 : (i : Int) < (r.length : Int) := by rw [hr.len]; omega
    have g8 : (0 : Int) ≤ (a : Int) := by omega
    have g9 : (a : Int) < (M.length : Int) := by rw [hM.len]; omega
    have g10 : ¬ ((b : Int) ≥ (ra.length : Int)) := by omega
    have g11 : (0 : Int) ≤ (b : Int) := by omega
    have g12 : (b : Int) < (ra.length : Int) := by omega
    have g13 : (j : Int) < (row.length : Int) := by omega
    have hset : ∀ c, c < j + 1 → rd (row.set j (rd ra (b : Int))) (c : Int) = rd (rd_L1 M (rd r (i : Int))) (rd s (c : Int)) := by
      intro c hc
      rw [rd_set _ _ _ _ (by omega)]
      by_cases ec : c = j
      · rw [if_pos ec, ec, ea, eb, rowQ hra]
      · rw [if_neg ec]; exact hv c (by omega)
    obtain ⟨row', p1, p2, p3, p4⟩ := ih (j + 1) k (row.set j (rd ra (b : Int))) g3 (by rw [List.length_set]; exact hl) (set_in h8 _ (rd_in ira _)) hset g4
    refine ⟨row', p1, p2, p3, ?_⟩
    rw [dailieslaw04_FieldCauchy.l1, if_pos c1, if_pos g2, if_pos g5, if_pos g6, if_pos g7, ea, if_pos g8, if_pos g9, rowQ hra, eb, if_neg g10, if_pos g11, if_pos g12, if_pos g13, Int.toNat_natCast, w1 j (by clear p4; omega), p4, e]
theorem solved (K : Nat) (a b : Nat → El) (ha : ∀ i j, i < K → j < K → i ≠ j → a i ≠ a j) (hb : ∀ i j, i < K → j < K → i ≠ j → b i ≠ b j) (hab : ∀ i j, i < K → j < K → a i ≠ b j)
    (P W : List (List Int)) (hP : Sh K K P) (hW : Sh K 2 W) (hv : ∀ i j, i < K → j < K → fn P i j = (a i + b j).inv) : ∃ y, cols K K 0 (P, W) = some y ∧ Sh K 2 y ∧ ∀ i c, i < K → c < 2 → El.sum K (fun t => fn P i t * fn y t c) = fn W i c := by
  have sp := solve_spec hP hW
  cases hc : cols K K 0 (P, W) with
  | none =>
    rw [hc] at sp
    obtain ⟨Y, ⟨i, hi, hY⟩, hk⟩ := sp
    exact absurd (El.cauchy_kernel K a b Y ha hb hab (fun i hi => by
      have := hk i hi
      unfold El.dot at this
      rw [← this]
      exact El.sum_congr fun j hj => by rw [hv i j hi hj, El.mul_comm]) i hi) hY
  | some y =>
    rw [hc] at sp
    exact ⟨y, rfl, sp.1, fun i c hi hcc => (sp.2 (fun t => fn y t c) c hcc).2 (fun _ _ => rfl) i hi⟩
theorem part_l0 {R C : Nat} (hRC : R + C ≤ 256) (M : List (List Int)) (hM : Sh R C M) (hMv : ∀ a c, a < R → c < C → rd (rd_L1 M (a : Int)) (c : Int) = invZ (xorZ ((255 - a : Nat) : Int) (c : Int))) (K : Nat) (h0 : 0 < K) (hK : K ≤ 256) (r s : List Int) (hr : Some_ R K r) (hs : Some_ C K s) : ∀ (d i k : Nat) (P W : List (List Int)), i + d = K → Sh i K P → Sh i 2 W → (∀ a c, a < i → c < K → fn P a c = (elO ((255 - (rd r (a : Int)).toNat : Nat) : Int) + elO (rd s (c : Int))).inv) → 400 * d + 90000 ≤ k →
    dailieslaw04_FieldCauchy.l0 k (K : Int) M r s P W (i : Int) = some true := by
  intro d
  induction d with
  | zero =>
    intro i k P W hi hP hW hv hk
    obtain ⟨k, rfl⟩ : ∃ m, k = m + 1 := ⟨k - 1, by omega⟩
    obtain rfl : i = K := by omega
    obtain ⟨y, y1, y2, y3⟩ := solved i (fun a => elO ((255 - (rd r (a : Int)).toNat : Nat) : Int)) (fun c => elO (rd s (c : Int))) (fun a c ha hc hne e => by
      obtain ⟨p, ep, hp, _⟩ := hr.at_ ha
      obtain ⟨q, eq, hq, _⟩ := hr.at_ hc
      have hne2 := hr.ne ha hc hne
      simp only [ep, eq, Int.toNat_natCast] at e hne2
      have := elO_inj (In8.of (n := 255 - p) (by omega)) (In8.of (n := 255 - q) (by omega)) e
      omega) (fun a c ha hc hne e => by
      obtain ⟨p, ep, hp, _⟩ := hs.at_ ha
      obtain ⟨q, eq, hq, _⟩ := hs.at_ hc
      have hne2 := hs.ne ha hc hne
      simp only [ep, eq] at e hne2
      exact hne2 (elO_inj (In8.of (n := p) (by omega)) (In8.of (n := q) (by omega)) e)) (fun a c ha hc e => by
      obtain ⟨p, ep, hp, _⟩ := hr.at_ ha
      obtain ⟨q, eq, hq, _⟩ := hs.at_ hc
      simp only [ep, eq, Int.toNat_natCast] at e
      have := elO_inj (In8.of (n := 255 - p) (by omega)) (In8.of (n := q) (by omega)) e
      omega) P W hP hW (fun a c ha hc => hv a c ha hc)
    obtain ⟨u, u1, u2, u3⟩ := times_f P y hP y2 h0 (by omega) hK hK k (by omega)
    have eu : u = W := eq_of_fn u2 hW (fun a c ha hc => by rw [u3 a c ha hc, y3 a c ha hc])
    subst eu
    rw [dailieslaw04_FieldCauchy.l0, if_neg (by omega), solve_some h0 hK (by omega) hP hW y1, Option.bind_some]
    show ((field_Times.f k P y).bind fun bt166 => ((dailieslaw04_same.f bt166.1 u).bind fun t170 => (if (0 : Int) = 0 then (if bt166.2 = 0 then (some t170) else (some false)) else (some false)))) = some true
    rw [u1, Option.bind_some, same_refl _ (by rw [hW.len]; omega), Option.bind_some, if_pos rfl, if_pos rfl]
  | succ d ih =>
    intro i k P W hi hP hW hv hk
    obtain ⟨k, rfl⟩ : ∃ m, k = m + 1 := ⟨k - 1, by omega⟩
    have hiK : i < K := by omega
    have c0 : 400 * d + 90000 ≤ k - K - 1 := by omega
    have c1 : (i : Int) < (K : Int) := by omega
    have c4 : (0 : Int) ≤ (K : Int) := by omega
    have g1 : i + 1 + d = K := by omega
    have c3 : (K : Int).toNat ≤ 281474976710656 := by rw [Int.toNat_natCast]; omega
    obtain ⟨row, r1, r2, r3, r4⟩ := part_l1 M hM K hK r s hr hs P W (by rw [hP.len]; omega) (by rw [hW.len]; omega) i hiK K 0 k (List.replicate K 0) (Nat.zero_add K) List.length_replicate (rep_in K) (fun c hc => by omega) (by omega)
    have hP2 := TQSFieldCauchy.Sh.snoc hP r1 r2
    have hW2 : Sh (i + 1) 2 (W ++ [[(i : Int) % 256, wrap64 (3 * (i : Int)) % 256]]) := TQSFieldCauchy.Sh.snoc hW rfl (fun y hy => by
      rcases List.mem_cons.1 hy with e | hy
      · rw [e]; exact emod_in _
      · rw [List.mem_singleton.1 hy]; exact emod_in _)
    have := ih (i + 1) (k - K - 1) (P ++ [row]) _ g1 hP2 hW2 (fun a c ha hc => by
      rw [fn_snoc hP row a c (by omega)]
      by_cases e : a = i
      · rw [if_pos e, r3 c hc]
        subst e
        obtain ⟨p, ep, hp, _⟩ := hr.at_ hiK
        obtain ⟨q, eq, hq, _⟩ := hs.at_ hc
        have i1 : In8 ((255 - p : Nat) : Int) := In8.of (by omega)
        have i2 : In8 ((q : Nat) : Int) := In8.of (by omega)
        rw [ep, eq, hMv p q hp hq, elO_inv (xorZ_in i1 i2), elO_xor i1 i2, Int.toNat_natCast]
      · rw [if_neg e]; exact hv a c (by omega) hc) c0
    rw [dailieslaw04_FieldCauchy.l0, if_pos c1, if_pos c4, if_pos c3, Int.toNat_natCast]
    have r5 := r4
    rw [show ((0 : Nat) : Int) = 0 from rfl] at r5
    rw [r5, w1 i (by clear r5 r4 r3; omega)]
    exact this
theorem j2_true (raw1 raw2 : List Int) (h1 : ∀ x ∈ raw1, (Lit.int .i64 x).wf = true) (h2 : ∀ x ∈ raw2, (Lit.int .i64 x).wf = true) (R C K : Nat) (hR : 1 ≤ R) (hC : 1 ≤ C) (hRC : R + C ≤ 256) (hK0 : 0 < K) (hKR : K ≤ R) (hKC : K ≤ C) (k : Nat) (hk : 400000 ≤ k) : dailieslaw04_FieldCauchy.j2 k raw1 raw2 true (R : Int) (C : Int) (K : Int) = some true := by
  obtain ⟨k, rfl⟩ : ∃ m, k = m + 1 := ⟨k - 1, by omega⟩
  obtain ⟨k, rfl⟩ : ∃ m, k = m + 1 := ⟨k - 1, by omega⟩
  obtain ⟨M, m1, m2, m3⟩ := cauchy_f R C hR hC hRC (k + 1) (by omega)
  obtain ⟨r, r1, r2⟩ := chosen_f raw1 h1 R K (by omega) (by omega) hKR k (by omega)
  obtain ⟨s, s1, s2⟩ := chosen_f raw2 h2 C K (by omega) (by omega) hKC k (by omega)
  have hl := part_l0 hRC M m2 m3 K hK0 (by omega) r s r2 s2 K 0 k [] [] (by omega) Sh.nil Sh.nil (fun a c ha => by omega) (by omega)
  rw [dailieslaw04_FieldCauchy.j2, m1, Option.bind_some, if_pos rfl]
  show (if (0 : Int) = 0 then dailieslaw04_FieldCauchy.j3 (k + 1) raw1 raw2 (R : Int) (C : Int) (K : Int) M ((M.length : Int) != (R : Int)) else _) = _
  rw [if_pos rfl, dailieslaw04_FieldCauchy.j3, if_neg (by rw [m2.len]; simp), r1, Option.bind_some, s1, Option.bind_some]
  exact hl
theorem mn_nat (a b : Nat) : mn (a : Int) (b : Int) = ((min a b : Nat) : Int) := by unfold mn; split <;> omega
theorem j1_true (raw0 raw1 raw2 : List Int) (h0 : ∀ x ∈ raw0, (Lit.int .i64 x).wf = true) (h1 : ∀ x ∈ raw1, (Lit.int .i64 x).wf = true) (h2 : ∀ x ∈ raw2, (Lit.int .i64 x).wf = true) (R C : Nat) (hR : 1 ≤ R) (hC : 1 ≤ C) (hRC : R + C ≤ 256) (k : Nat) (hk : 400001 ≤ k) : dailieslaw04_FieldCauchy.j1 k raw0 raw1 raw2 true (R : Int) (C : Int) 2 = some true := by
  obtain ⟨k, rfl⟩ : ∃ m, k = m + 1 := ⟨k - 1, by omega⟩
  rw [dailieslaw04_FieldCauchy.j1, mn_nat, show (2 : Int) = ((2 : Nat) : Int) from rfl, mn_nat, mn_nat]
  by_cases h : (raw0.length : Int) > ((2 : Nat) : Int)
  · obtain ⟨c, e, c0, cn⟩ := pick_f (rd raw0 ((2 : Nat) : Int)) ((min R C : Nat) : Int) (i64_raw h0 _).1 (i64_raw h0 _).2 (by omega)
    obtain ⟨c, rfl⟩ : ∃ c' : Nat, c = c' := ⟨c.toNat, by omega⟩
    rw [if_pos h, if_pos h, e, Option.bind_some, w1' c (by omega)]
    exact j2_true raw1 raw2 h1 h2 R C (1 + c) hR hC hRC (by omega) (by omega) (by omega) k (by omega)
  · rw [if_neg h]
    exact j2_true raw1 raw2 h1 h2 R C (min (min 2 R) C) hR hC hRC (by omega) (by omega) (by omega) k (by omega)
theorem j0_true (raw0 raw1 raw2 : List Int) (h0 : ∀ x ∈ raw0, (Lit.int .i64 x).wf = true) (h1 : ∀ x ∈ raw1, (Lit.int .i64 x).wf = true) (h2 : ∀ x ∈ raw2, (Lit.int .i64 x).wf = true) (R C : Nat) (hR : 1 ≤ R) (hR2 : R ≤ 255) (hC : 1 ≤ C) (hRC : R + C ≤ 256) (k : Nat) (hk : 400002 ≤ k) : dailieslaw04_FieldCauchy.j0 k raw0 raw1 raw2 true (R : Int) (C : Int) 2 = some true := by
  obtain ⟨k, rfl⟩ : ∃ m, k = m + 1 := ⟨k - 1, by omega⟩
  have hw : wrap64 (256 - (R : Int)) = ((256 - R : Nat) : Int) := by rw [w64 (by omega) (by omega)]; omega
  rw [dailieslaw04_FieldCauchy.j0, hw]
  clear hw
  by_cases h : (raw0.length : Int) > 1
  · obtain ⟨c, e, c0, cn⟩ := pick_f (rd raw0 1) ((256 - R : Nat) : Int) (i64_raw h0 _).1 (i64_raw h0 _).2 (by omega)
    obtain ⟨c, rfl⟩ : ∃ c' : Nat, c = c' := ⟨c.toNat, by omega⟩
    rw [if_pos h, if_pos h, e, Option.bind_some, w1' c (by omega)]
    exact j1_true raw0 raw1 raw2 h0 h1 h2 R (1 + c) hR (by omega) (by omega) k (by omega)
  · rw [if_neg h]
    exact j1_true raw0 raw1 raw2 h0 h1 h2 R C hR hC hRC k (by omega)
theorem cauchy_true (raw0 raw1 raw2 : List Int) (h0 : ∀ x ∈ raw0, (Lit.int .i64 x).wf = true) (h1 : ∀ x ∈ raw1, (Lit.int .i64 x).wf = true) (h2 : ∀ x ∈ raw2, (Lit.int .i64 x).wf = true) (k : Nat) (hk : 400002 ≤ k) : dailieslaw04_FieldCauchy.f k raw0 raw1 raw2 = some true := by
  unfold dailieslaw04_FieldCauchy.f
  rw [alive_f k (by omega), Option.bind_some]
  by_cases h : (raw0.length : Int) > 0
  · obtain ⟨c, e, c0, cn⟩ := pick_f (rd raw0 0) 255 (i64_raw h0 _).1 (i64_raw h0 _).2 (by omega)
    obtain ⟨c, rfl⟩ : ∃ c' : Nat, c = c' := ⟨c.toNat, by omega⟩
    have hw : wrap64 (256 - ((1 + c : Nat) : Int)) = ((256 - (1 + c) : Nat) : Int) := by rw [w64 (by omega) (by omega)]; omega
    rw [if_pos h, if_pos h, e, Option.bind_some, w1' c (by clear hw; omega), hw, show (4 : Int) = ((4 : Nat) : Int) from rfl, mn_nat]
    clear hw
    exact j0_true raw0 raw1 raw2 h0 h1 h2 (1 + c) (min 4 (256 - (1 + c))) (by omega) (by omega) (by omega) (by omega) k hk
  · rw [if_neg h]
    exact j0_true raw0 raw1 raw2 h0 h1 h2 3 4 (by omega) (by omega) (by omega) (by omega) k hk
theorem FieldCauchy : dailieslaw04_FieldCauchy.Pure := by
  intro l0 l1 l2 _ _ h0 _ _ h1 _ _ h2
  exact ⟨400002, cauchy_true l0 l1 l2 h0 h1 h2 400002 (Nat.le_refl _)⟩
end Go.Proofs.Ytdleoljbnjjdgaa.Pure
