/- What is solved, multiplied, is there again, and a matrix with a row that stands twice cannot be solved: for every input the law FieldThere is true. No conditions. -/
import Derived.Test.YtdleoljbnjjdgaaQSFieldTherex3
import Derived.Test.YtdleoljbnjjdgaaTimesPQSFieldThere
namespace Go.Proofs.Ytdleoljbnjjdgaa.Pure
open Go.RowKit Go.Proofs.Ytdleoljbnjjdgaa.QSFieldThere Go.Proofs.YtdleoljbnjjdgaaW.PrintWords Go.Proofs.YtdleoljbnjjdgaaW.PrintLast
open Go.Proofs.Ytdleoljbnjjdgaa.Math Go.Proofs.Ytdleoljbnjjdgaa.Solve Go.Proofs.Ytdleoljbnjjdgaa.TQSFieldThere
theorem rd_in {l : List Int} (h : ∀ y ∈ l, In8 y) (i : Int) : In8 (rd l i) := by
  unfold rd
  rw [List.getD_eq_getElem?_getD]
  cases e : l[i.toNat]? with
  | none => exact ⟨by decide, by decide⟩
  | some y => exact h y (List.mem_of_getElem? e)
theorem set_in {l : List Int} (h : ∀ y ∈ l, In8 y) (i : Nat) {x : Int} (hx : In8 x) : ∀ y ∈ l.set i x, In8 y := fun y hy => (List.mem_or_eq_of_mem_set hy).elim (h y) (fun e => e ▸ hx)
theorem prod_le {i n : Nat} (hi : i ≤ 256) (hn : n ≤ 300) : i * n ≤ 76800 := Nat.mul_le_mul hi hn
theorem w0 (q : Nat) (h : q ≤ 100000000) : wrap64 (q : Int) = (q : Int) := w64 (by omega) (by omega)
theorem w1 (j : Nat) (h : j ≤ 100000000) : wrap64 ((j : Int) + 1) = ((j + 1 : Nat) : Int) := by rw [w64 (by omega) (by omega)]; omega
theorem w2 (q j : Nat) (h : q + j ≤ 100000000) : wrap64 ((q : Int) + (j : Int)) = ((q + j : Nat) : Int) := by rw [w64 (by omega) (by omega)]; omega
theorem w5 (n q j : Nat) (hl : n ≤ 140737488351232) (h : q + j ≤ 100000000) (h2 : ((q + j : Nat) : Int) < (n : Int)) : wrap64 (wrap64 (wrap64 ((n : Int) - 1) - (q : Int)) - (j : Int)) = ((n - 1 - q - j : Nat) : Int) := by
  rw [w64 (n := (n : Int) - 1) (by omega) (by omega), w64 (n := (n : Int) - 1 - (q : Int)) (by omega) (by omega), w64 (by omega) (by omega)]; omega
theorem square_l1 (l : List Int) (h8 : ∀ y ∈ l, In8 y) (n i : Nat) (hn : n ≤ 256) (hi : i ≤ 256) (out : List (List Int)) (ho : out.length < 5864062014805) : ∀ (d j k : Nat) (row : List Int), j + d = n → row.length = n → (∀ y ∈ row, In8 y) → d < k →
    ∃ row', row'.length = n ∧ (∀ y ∈ row', In8 y) ∧ dailieslaw04_square.l1 k l (n : Int) out (i : Int) row (j : Int) = dailieslaw04_square.l0 (k - d - 1) l (n : Int) (out ++ [row']) (wrap64 ((i : Int) + 1)) := by
  have hq := prod_le hi (show n ≤ 300 by omega)
  have eq : (i : Int) * (n : Int) = ((i * n : Nat) : Int) := (Int.natCast_mul _ _).symm
  generalize i * n = q at hq eq
  intro d
  induction d with
  | zero =>
    intro j k row hj hr hr8 hk
    obtain ⟨k, rfl⟩ : ∃ m, k = m + 1 := ⟨k - 1, by omega⟩
    obtain rfl : j = n := by omega
    refine ⟨row, hr, hr8, ?_⟩
    rw [dailieslaw04_square.l1, if_neg (by omega), if_pos ho]
    rfl
  | succ d ih =>
    intro j k row hj hr hr8 hk
    obtain ⟨k, rfl⟩ : ∃ m, k = m + 1 := ⟨k - 1, by omega⟩
    have c1 : (j : Int) < (n : Int) := by omega
    have e : k + 1 - (d + 1) - 1 = k - d - 1 := by omega
    have g1 : (0 : Int) ≤ ((q + j : Nat) : Int) := by omega
    have g2 : (0 : Int) ≤ (j : Int) := by omega
    have g3 : j + 1 + d = n := by omega
    have g4 : d < k := by omega
    have hqj : q + j ≤ 100000000 := by omega
    have hq0 : q ≤ 100000000 := by omega
    have c2 := w1 j (by omega)
    have c3 : wrap64 (wrap64 ((i : Int) * (n : Int)) + (j : Int)) = ((q + j : Nat) : Int) := by rw [eq, w0 q hq0, w2 q j hqj]
    rw [dailieslaw04_square.l1, if_pos c1, c3, c2, e]
    by_cases h : ((q + j : Nat) : Int) < (l.length : Int)
    · rw [if_pos h, if_pos g1, if_pos g2, if_pos (by rw [hr]; exact c1)]
      exact ih (j + 1) k _ g3 (by rw [List.length_set]; exact hr) (set_in hr8 _ (rd_in h8 _)) g4
    · rw [if_neg h]
      exact ih (j + 1) k _ g3 hr hr8 g4
theorem square_l0 (l : List Int) (h8 : ∀ y ∈ l, In8 y) (n : Nat) (hn : n ≤ 256) : ∀ (d i k : Nat) (out : List (List Int)), i + d = n → Sh i n out → 300 * d + 300 ≤ k →
    ∃ m, dailieslaw04_square.l0 k l (n : Int) out (i : Int) = some m ∧ Sh n n m := by
  intro d
  induction d with
  | zero =>
    intro i k out hi ho hk
    obtain ⟨k, rfl⟩ : ∃ m, k = m + 1 := ⟨k - 1, by omega⟩
    obtain rfl : i = n := by omega
    refine ⟨out, ?_, ho⟩
    rw [dailieslaw04_square.l0, if_neg (by omega)]
  | succ d ih =>
    intro i k out hi ho hk
    obtain ⟨k, rfl⟩ : ∃ m, k = m + 1 := ⟨k - 1, by omega⟩
    have c0 : 300 * d + 300 ≤ k - n - 1 := by omega
    have c1 : (i : Int) < (n : Int) := by omega
    have c4 : (0 : Int) ≤ (n : Int) := by omega
    have g1 : i + 1 + d = n := by omega
    have c2 := w1 i (by omega)
    have c3 : (n : Int).toNat ≤ 281474976710656 := by rw [Int.toNat_natCast]; omega
    obtain ⟨row, r1, r2, r3⟩ := square_l1 l h8 n i hn (by clear c2; omega) out (by rw [ho.len]; clear c2; omega) n 0 k (List.replicate n 0) (Nat.zero_add n) List.length_replicate (rep_in n) (by clear c2; omega)
    obtain ⟨m, m1, m2⟩ := ih (i + 1) (k - n - 1) (out ++ [row]) g1 (TQSFieldThere.Sh.snoc ho r1 r2) c0
    refine ⟨m, ?_, m2⟩
    rw [dailieslaw04_square.l0, if_pos c1, if_pos c4, if_pos c3, Int.toNat_natCast]
    have r4 := r3
    rw [show ((0 : Nat) : Int) = 0 from rfl] at r4
    rw [r4, c2, m1]
theorem wide_l1 (l : List Int) (h8 : ∀ y ∈ l, In8 y) (hl : l.length ≤ 140737488351232) (n w i : Nat) (hw : w ≤ 300) (hi : i ≤ 256) (out : List (List Int)) (ho : out.length < 5864062014805) : ∀ (d j k : Nat) (row : List Int), j + d = w → row.length = w → (∀ y ∈ row, In8 y) → d < k →
    ∃ row', row'.length = w ∧ (∀ y ∈ row', In8 y) ∧ dailieslaw04_wide.l1 k l (n : Int) (w : Int) out (i : Int) row (j : Int) = dailieslaw04_wide.l0 (k - d - 1) l (n : Int) (w : Int) (out ++ [row']) (wrap64 ((i : Int) + 1)) := by
  have hq := prod_le hi hw
  have eq : (i : Int) * (w : Int) = ((i * w : Nat) : Int) := (Int.natCast_mul _ _).symm
  generalize i * w = q at hq eq
  intro d
  induction d with
  | zero =>
    intro j k row hj hr hr8 hk
    obtain ⟨k, rfl⟩ : ∃ m, k = m + 1 := ⟨k - 1, by omega⟩
    obtain rfl : j = w := by omega
    refine ⟨row, hr, hr8, ?_⟩
    rw [dailieslaw04_wide.l1, if_neg (by omega), if_pos ho]
    rfl
  | succ d ih =>
    intro j k row hj hr hr8 hk
    obtain ⟨k, rfl⟩ : ∃ m, k = m + 1 := ⟨k - 1, by omega⟩
    have c1 : (j : Int) < (w : Int) := by omega
    have e : k + 1 - (d + 1) - 1 = k - d - 1 := by omega
    have g2 : (0 : Int) ≤ (j : Int) := by omega
    have g3 : j + 1 + d = w := by omega
    have g4 : d < k := by omega
    have hqj : q + j ≤ 100000000 := by omega
    have c2 := w1 j (by omega)
    have c4 : wrap64 ((i : Int) * (w : Int)) = (q : Int) := by rw [eq, w0 q (by clear c2; omega)]
    have c3 := w2 q j hqj
    rw [dailieslaw04_wide.l1, if_pos c1, c4, c3, c2, e]
    by_cases h : ((q + j : Nat) : Int) < (l.length : Int)
    · have c5 := w5 l.length q j hl hqj h
      have g5 : (0 : Int) ≤ ((l.length - 1 - q - j : Nat) : Int) := Int.natCast_nonneg _
      have g6 : ((l.length - 1 - q - j : Nat) : Int) < (l.length : Int) := by clear c2 c3 c4 c5; omega
      rw [if_pos h, c5, if_pos g5, if_pos g6, if_pos g2, if_pos (by rw [hr]; exact c1)]
      exact ih (j + 1) k _ g3 (by rw [List.length_set]; exact hr) (set_in hr8 _ (rd_in h8 _)) g4
    · rw [if_neg h]
      exact ih (j + 1) k _ g3 hr hr8 g4
theorem wide_l0 (l : List Int) (h8 : ∀ y ∈ l, In8 y) (hl : l.length ≤ 140737488351232) (n w : Nat) (hn : n ≤ 256) (hw : w ≤ 300) : ∀ (d i k : Nat) (out : List (List Int)), i + d = n → Sh i w out → 400 * d + 400 ≤ k →
    ∃ m, dailieslaw04_wide.l0 k l (n : Int) (w : Int) out (i : Int) = some m ∧ Sh n w m := by
  intro d
  induction d with
  | zero =>
    intro i k out hi ho hk
    obtain ⟨k, rfl⟩ : ∃ m, k = m + 1 := ⟨k - 1, by omega⟩
    obtain rfl : i = n := by omega
    refine ⟨out, ?_, ho⟩
    rw [dailieslaw04_wide.l0, if_neg (by omega)]
  | succ d ih =>
    intro i k out hi ho hk
    obtain ⟨k, rfl⟩ : ∃ m, k = m + 1 := ⟨k - 1, by omega⟩
    have c0 : 400 * d + 400 ≤ k - w - 1 := by omega
    have c1 : (i : Int) < (n : Int) := by omega
    have c4 : (0 : Int) ≤ (w : Int) := by omega
    have g1 : i + 1 + d = n := by omega
    have c3 : (w : Int).toNat ≤ 281474976710656 := by rw [Int.toNat_natCast]; omega
    obtain ⟨row, r1, r2, r3⟩ := wide_l1 l h8 hl n w i hw (by omega) out (by rw [ho.len]; omega) w 0 k (List.replicate w 0) (Nat.zero_add w) List.length_replicate (rep_in w) (by omega)
    have c2 := w1 i (by clear r3; omega)
    obtain ⟨m, m1, m2⟩ := ih (i + 1) (k - w - 1) (out ++ [row]) g1 (TQSFieldThere.Sh.snoc ho r1 r2) c0
    refine ⟨m, ?_, m2⟩
    rw [dailieslaw04_wide.l0, if_pos c1, if_pos c4, if_pos c3, Int.toNat_natCast]
    have r4 := r3
    rw [show ((0 : Nat) : Int) = 0 from rfl] at r4
    rw [r4, c2, m1]
theorem j1_true {n w : Nat} (h0 : 0 < n) (hn : n ≤ 256) (hw : w ≤ 300) (m x : List (List Int)) (hm : Sh n n m) (hx : Sh n w x) (a2 : Int) (h1 : -9223372036854775808 ≤ a2) (h2 : a2 ≤ 9223372036854775807) (k : Nat) (hk : 0 < k) : dailieslaw04_FieldThere.j1 k a2 (n : Int) m x = some true := by
  obtain ⟨k, rfl⟩ : ∃ j, k = j + 1 := ⟨k - 1, by omega⟩
  obtain ⟨c, e, c0, cn⟩ := pick_f a2 (n : Int) h1 h2 (by omega)
  obtain ⟨c, rfl⟩ : ∃ c' : Nat, c = c' := ⟨c.toNat, by omega⟩
  rw [dailieslaw04_FieldThere.j1, e, Option.bind_some, if_neg (by omega), w64 (by omega) (by omega)]
  have eL : Int.tmod ((c : Int) + 1) (n : Int) = (((c + 1) % n : Nat) : Int) := by rw [Int.tmod_eq_emod_of_nonneg (by omega)]; exact (Int.natCast_emod (c + 1) n).symm
  rw [eL]
  by_cases hd : (((c + 1) % n : Nat) : Int) = (c : Int)
  · rw [if_pos hd]
  · have hlt : (c + 1) % n < n := Nat.mod_lt _ h0
    obtain ⟨r, hr, lr, ir⟩ := hm.at_ (show c < n by omega)
    have f1 : ([] : List Int).length + r.length < 140737488355328 := by rw [lr]; show 0 + n < _; omega
    rw [if_neg hd, Option.bind_some, if_pos c0, if_pos (by rw [hm.len]; exact cn), rowQ hr, if_pos f1, if_pos (Int.natCast_nonneg _), if_pos (by rw [hm.len]; exact Int.ofNat_lt.2 hlt), Int.toNat_natCast]
    have hm2 : Sh n n (m.set ((c + 1) % n) r) := hm.set _ lr ir
    have hne : c ≠ (c + 1) % n := fun e => hd (by rw [← e])
    have hno := none_of_twice (v := x) hm2 (show c < n by omega) hlt hne (fun j hj => by
      rw [fn_set (by rw [hm.len]; exact hlt), fn_set (by rw [hm.len]; exact hlt), if_neg hne, if_pos rfl]
      unfold fn
      rw [rowZ hr])
    rw [show ([] : List Int) ++ r = r from rfl, solve_none h0 hn (by omega) hm2 hx hno]
    rfl
theorem u8_in {l : List Int} (h : ∀ x ∈ l, (Lit.int .u8 x).wf = true) : ∀ y ∈ l, In8 y := fun y hy => by
  obtain ⟨n, rfl, hn⟩ := u8_nat (h y hy)
  exact In8.of hn
theorem there_f (l : List Int) (h8 : ∀ y ∈ l, In8 y) (hl : l.length ≤ 140737488351232) (a1 a2 : Int) (h1 : -9223372036854775808 ≤ a1 ∧ a1 ≤ 9223372036854775807) (h2 : -9223372036854775808 ≤ a2 ∧ a2 ≤ 9223372036854775807) (k : Nat) (hk : 200000 ≤ k) : dailieslaw04_FieldThere.f k l a1 a2 = some true := by
  obtain ⟨p, ep, p0, pn⟩ := pick_f a1 256 h1.1 h1.2 (by decide)
  obtain ⟨p, rfl⟩ : ∃ c' : Nat, p = c' := ⟨p.toNat, by omega⟩
  obtain ⟨q, eq, q0, qn⟩ := pick_f a2 300 h2.1 h2.2 (by decide)
  obtain ⟨q, rfl⟩ : ∃ c' : Nat, q = c' := ⟨q.toNat, by omega⟩
  obtain ⟨n, en⟩ : ∃ n, n = 1 + p := ⟨_, rfl⟩
  obtain ⟨w, ew⟩ : ∃ w, w = 1 + q := ⟨_, rfl⟩
  have e1 : wrap64 (1 + (p : Int)) = (n : Int) := by rw [w64 (by omega) (by omega)]; omega
  have e2 : wrap64 (1 + (q : Int)) = (w : Int) := by rw [w64 (by omega) (by omega)]; omega
  have h0 : 0 < n := by omega
  have hn : n ≤ 256 := by omega
  have hw0 : 0 < w := by omega
  have hw : w ≤ 300 := by omega
  have hw2 : w ≤ 140737488355328 := by omega
  clear en ew
  obtain ⟨m, m1, hm⟩ := square_l0 l h8 n hn n 0 k [] (by omega) Sh.nil (by omega)
  obtain ⟨x, x1, hx⟩ := wide_l0 l h8 hl n w hn hw n 0 k [] (by omega) Sh.nil (by omega)
  obtain ⟨v, v1, hv, fv⟩ := times_f m x hm hx h0 hw2 hn hn k (by omega)
  have hs : dailieslaw04_square.f k l (n : Int) = some m := m1
  have hd : dailieslaw04_wide.f k l (n : Int) (w : Int) = some x := x1
  unfold dailieslaw04_FieldThere.f
  rw [alive_f k (by omega), Option.bind_some, ep, Option.bind_some, e1, hs, Option.bind_some, eq, Option.bind_some, e2, hd, Option.bind_some, v1, Option.bind_some]
  obtain ⟨k', ek⟩ : ∃ k', k = k' + 1 := ⟨k - 1, by omega⟩
  have hj1 := j1_true h0 hn hw m x hm hx a2 h2.1 h2.2 k' (by omega)
  have sp := solve_spec hm hv
  cases hc : cols n n 0 (m, v) with
  | none =>
    rw [solve_none h0 hn hw2 hm hv hc, Option.bind_some, if_pos rfl, ek, dailieslaw04_FieldThere.j0]
    show (if (false = true) then _ else _) = _
    rw [if_neg (by decide), if_neg (by decide), if_pos (by decide)]
    rw [if_pos (by decide)]
    exact hj1
  | some y =>
    rw [hc] at sp
    have ey : y = x := eq_of_fn sp.1 hx (fun i j hi hj => ((sp.2 (fun i => fn x i j) j hj).1 (fun i hi => (fv i j hi hj).symm) i hi).symm)
    subst ey
    have hi := cols_indep (n := n) n 0 m m v y rfl
    rw [hc] at hi
    obtain ⟨z, hz⟩ := Option.isSome_iff_exists.1 hi.symm
    have sz := solve_spec hm hx
    rw [hz] at sz
    obtain ⟨u, u1, hu, fu⟩ := times_f m z hm sz.1 h0 hw2 hn hn k' (by omega)
    have eu : u = y := eq_of_fn hu hx (fun i j hi hj => by
      rw [fu i j hi hj]
      exact (sz.2 (fun i => fn z i j) j hj).2 (fun _ _ => rfl) i hi)
    subst eu
    rw [solve_some h0 hn hw2 hm hv hc, Option.bind_some, if_pos rfl, ek, dailieslaw04_FieldThere.j0]
    show (if (false = true) then _ else _) = _
    rw [if_neg (by decide), if_pos rfl, same_refl _ (by rw [hx.len]; omega), Option.bind_some, solve_some h0 hn hw2 hm hx hz, Option.bind_some, u1, Option.bind_some, same_refl _ (by rw [hx.len]; omega), Option.bind_some, if_pos rfl, if_pos rfl, if_pos rfl, if_pos rfl]
    exact hj1
theorem FieldThere : dailieslaw04_FieldThere.Pure := by
  intro l a1 a2 _ hl h8 h1 h2
  exact ⟨200000, there_f l (u8_in h8) (by omega) a1 a2 (i64_range h1) (i64_range h2) 200000 (Nat.le_refl _)⟩
end Go.Proofs.Ytdleoljbnjjdgaa.Pure
