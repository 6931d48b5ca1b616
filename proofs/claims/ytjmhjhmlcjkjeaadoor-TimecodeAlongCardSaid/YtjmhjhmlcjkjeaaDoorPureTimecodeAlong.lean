/- Convert never falls; to the same rate it changes nothing; to a rate that is not slower, and back, it is the frame or the one ahead of it: for every input the law TimecodeAlong is true. No conditions. -/
import Derived.Test.YtjmhjhmlcjkjeaaDoorQTTimecodeAlongx2
import Derived.Test.YtjmhjhmlcjkjeaaDoorTimeCQTTimecodeAlong
namespace Go.Proofs.YtjmhjhmlcjkjeaaDoor.Pure
open Go.RowKit Go.Proofs.YtjmhjhmlcjkjeaaDoor.QTTimecodeAlong Go.Proofs.YtjmhjhmlcjkjeaaDoorW.PrintWords Go.Proofs.YtjmhjhmlcjkjeaaDoorW.PrintLast Go.Proofs.YtjmhjhmlcjkjeaaDoor.TQTTimecodeAlong
open Go.Proofs.YtjmhjhmlcjkjeaaDoor (Tab.row)
theorem place_f (a n : Int) (h0 : -9223372036854775808 ≤ a) (h1 : a ≤ 9223372036854775807) (hn : 0 < n) : ∃ c, dailieslaw18_place.f a n = some c ∧ 0 ≤ c ∧ c < n := by
  unfold dailieslaw18_place.f
  by_cases h : a < 0
  · rw [if_pos h, if_neg (by omega), w64 (n := a + 1) (by omega) (by omega), w64 (by omega) (by omega)]
    refine ⟨_, rfl, ?_, ?_⟩
    · rw [Int.tmod_eq_emod_of_nonneg (by omega)]; exact Int.emod_nonneg _ (by omega)
    · rw [Int.tmod_eq_emod_of_nonneg (by omega)]; exact Int.emod_lt_of_pos _ hn
  · rw [if_neg h, if_neg (by omega)]
    refine ⟨_, rfl, ?_, ?_⟩
    · rw [Int.tmod_eq_emod_of_nonneg (by omega)]; exact Int.emod_nonneg _ (by omega)
    · rw [Int.tmod_eq_emod_of_nonneg (by omega)]; exact Int.emod_lt_of_pos _ hn
def slows : List Int := [24024000, 25025000, 30030000, 30000000, 50050000, 60060000, 60000000]
theorem slow_le {p q : Nat} (h1 : 1 ≤ p) (h7 : p ≤ 7) (g1 : 1 ≤ q) (g7 : q ≤ 7) : ¬ rd slows ((q : Int) - 1) < rd slows ((p : Int) - 1) → (Tab.row p).2.1 * (Tab.row q).2.2.1 ≤ (Tab.row p).2.2.1 * (Tab.row q).2.1 := by
  rcases seven h1 h7 with rfl | rfl | rfl | rfl | rfl | rfl | rfl <;> rcases seven g1 g7 with rfl | rfl | rfl | rfl | rfl | rfl | rfl <;> decide +kernel
/-- there and back -/
theorem there (n X Y : Int) (_ : 0 ≤ n) (hY : 0 < Y) (hXY : Y ≤ X) : n * X / Y * Y / X = n ∨ n * X / Y * Y / X = n - 1 := by
  have h1 : n * X / Y * Y ≤ n * X := Int.ediv_mul_le _ (by omega)
  have h2 : n * X < (n * X / Y + 1) * Y := Int.lt_ediv_add_one_mul_self _ hY
  rw [Int.add_mul, Int.one_mul] at h2
  generalize n * X / Y * Y = b at h1 h2
  have u1 : b / X ≤ n := Int.ediv_le_of_le_mul (by omega) h1
  have u2 : n - 1 ≤ b / X := Int.le_ediv_of_mul_le (by omega) (by rw [Int.sub_mul, Int.one_mul]; omega)
  omega
theorem mul_assoc3 (n a b : Int) : n * a * b = n * (a * b) := Int.mul_assoc n a b
theorem conv_self {p : Nat} (h1 : 1 ≤ p) (h7 : p ≤ 7) (n : Int) (hn : 0 ≤ n ∧ n < day p) : conv p p n = (n, 0) := by
  have c := den_range h1 h7 h1 h7
  have e : n * (Tab.row p).2.2.1 * (Tab.row p).2.1 / ((Tab.row p).2.1 * (Tab.row p).2.2.1) = n := by
    rw [mul_assoc3, Int.mul_comm (Tab.row p).2.2.1]
    exact Int.mul_ediv_cancel _ (by omega)
  unfold conv
  rw [if_pos hn, e, if_pos hn.2]
theorem conv_in {p q : Nat} {n : Int} (hn : 0 ≤ n ∧ n < day p) : conv p q n = if n * (Tab.row p).2.2.1 * (Tab.row q).2.1 / ((Tab.row p).2.1 * (Tab.row q).2.2.1) < day q then (n * (Tab.row p).2.2.1 * (Tab.row q).2.1 / ((Tab.row p).2.1 * (Tab.row q).2.2.1), 0) else (0, 184) := by
  unfold conv
  exact if_pos hn
theorem j2_true {p q : Nat} (h1 : 1 ≤ p) (h7 : p ≤ 7) (g1 : 1 ≤ q) (g7 : q ≤ 7) (n : Int) (hn : 0 ≤ n ∧ n < day p) (k : Nat) (hk : 10 ≤ k) : dailieslaw18_TimecodeAlong.j2 k n (p : Int) (q : Int) (conv p q n).1 (conv p q n).2 false = some true := by
  have a := row_range h1 h7
  have b := row_range g1 g7
  have c := den_range h1 h7 g1 g7
  have c2 := den_range g1 g7 h1 h7
  have dp := day_range h1 h7
  obtain ⟨k, rfl⟩ : ∃ j, k = j + 1 := ⟨k - 1, by omega⟩
  rw [dailieslaw18_TimecodeAlong.j2, if_neg (by decide)]
  show (if (conv p q n).2 = 0 then (if 0 ≤ (wrap64 ((q : Int) - 1)) then (if (wrap64 ((q : Int) - 1)) < (slows.length : Int) then (if 0 ≤ (wrap64 ((p : Int) - 1)) then (if (wrap64 ((p : Int) - 1)) < (slows.length : Int) then (if (rd slows (wrap64 ((q : Int) - 1))) < (rd slows (wrap64 ((p : Int) - 1))) then (some true) else ((timecode_Convert.f k (q : Int) (p : Int) (conv p q n).1).bind fun bt144 => (if bt144.2 = 0 then (if bt144.1 = n then (some true) else (some (bt144.1 == (wrap64 (n - 1))))) else (some false)))) else (none)) else (none)) else (none)) else (none)) else (some true)) = some true
  rw [conv_in hn]
  by_cases hq : n * (Tab.row p).2.2.1 * (Tab.row q).2.1 / ((Tab.row p).2.1 * (Tab.row q).2.2.1) < day q
  · rw [if_pos hq]
    have hlen : (slows.length : Int) = 7 := rfl
    have x1 : (0 : Int) ≤ (q : Int) - 1 := by omega
    have x2 : (q : Int) - 1 < 7 := by omega
    have x3 : (0 : Int) ≤ (p : Int) - 1 := by omega
    have x4 : (p : Int) - 1 < 7 := by omega
    have xq : -9223372036854775808 ≤ (q : Int) - 1 ∧ (q : Int) - 1 ≤ 9223372036854775807 := by omega
    have xp : -9223372036854775808 ≤ (p : Int) - 1 ∧ (p : Int) - 1 ≤ 9223372036854775807 := by omega
    have xn : -9223372036854775808 ≤ n - 1 ∧ n - 1 ≤ 9223372036854775807 := by omega
    rw [if_pos rfl, w64 xq.1 xq.2, w64 xp.1 xp.2, hlen, if_pos x1, if_pos x2, if_pos x3, if_pos x4]
    by_cases hs : rd slows ((q : Int) - 1) < rd slows ((p : Int) - 1)
    · rw [if_pos hs]
    · rw [if_neg hs, conv_f g1 g7 h1 h7 _ (by omega), Option.bind_some]
      have hXY := slow_le h1 h7 g1 g7 hs
      have hX : (Tab.row q).2.1 * (Tab.row p).2.2.1 = (Tab.row p).2.2.1 * (Tab.row q).2.1 := Int.mul_comm _ _
      have hY : (Tab.row q).2.2.1 * (Tab.row p).2.1 = (Tab.row p).2.1 * (Tab.row q).2.2.1 := Int.mul_comm _ _
      rw [mul_assoc3] at hq ⊢
      have q0 : 0 ≤ n * ((Tab.row p).2.2.1 * (Tab.row q).2.1) / ((Tab.row p).2.1 * (Tab.row q).2.2.1) := Int.ediv_nonneg (Int.mul_nonneg hn.1 (by omega)) (by omega)
      have ht := there n ((Tab.row p).2.2.1 * (Tab.row q).2.1) ((Tab.row p).2.1 * (Tab.row q).2.2.1) hn.1 (by omega) hXY
      have hge : 0 ≤ n * ((Tab.row p).2.2.1 * (Tab.row q).2.1) / ((Tab.row p).2.1 * (Tab.row q).2.2.1) * ((Tab.row p).2.1 * (Tab.row q).2.2.1) / ((Tab.row p).2.2.1 * (Tab.row q).2.1) := Int.ediv_nonneg (Int.mul_nonneg q0 (by omega)) (by omega)
      rw [conv_in ⟨q0, hq⟩, mul_assoc3 (n * ((Tab.row p).2.2.1 * (Tab.row q).2.1) / ((Tab.row p).2.1 * (Tab.row q).2.2.1)), hX, hY]
      generalize n * ((Tab.row p).2.2.1 * (Tab.row q).2.1) / ((Tab.row p).2.1 * (Tab.row q).2.2.1) * ((Tab.row p).2.1 * (Tab.row q).2.2.1) / ((Tab.row p).2.2.1 * (Tab.row q).2.1) = d at ht hge ⊢
      have ea : (if d < day p then (d, (0 : Int)) else (0, 184)) = (d, 0) := if_pos (by omega)
      rw [ea]
      show (if (0 : Int) = 0 then (if d = n then some true else some (d == wrap64 (n - 1))) else some false) = some true
      rw [if_pos rfl]
      by_cases hd : d = n
      · rw [if_pos hd]
      · rw [if_neg hd, w64 xn.1 xn.2, beq_iff_eq.2 (by omega)]
  · rw [if_neg hq, if_neg (by decide)]
theorem j1_true {p q : Nat} (h1 : 1 ≤ p) (h7 : p ≤ 7) (g1 : 1 ≤ q) (g7 : q ≤ 7) (m n : Int) (hm : 0 ≤ m ∧ m < day p) (hn : 0 ≤ n ∧ n < day p) (hmn : m ≤ n) (k : Nat) (hk : 12 ≤ k) : dailieslaw18_TimecodeAlong.j1 k m n (p : Int) (q : Int) = some true := by
  obtain ⟨k, rfl⟩ : ∃ j, k = j + 1 := ⟨k - 1, by omega⟩
  have a := row_range h1 h7
  have b := row_range g1 g7
  have c := den_range h1 h7 g1 g7
  have j2 := j2_true h1 h7 g1 g7 n hn k (by omega)
  have hmono : m * (Tab.row p).2.2.1 * (Tab.row q).2.1 / ((Tab.row p).2.1 * (Tab.row q).2.2.1) ≤ n * (Tab.row p).2.2.1 * (Tab.row q).2.1 / ((Tab.row p).2.1 * (Tab.row q).2.2.1) :=
    Int.ediv_le_ediv (by omega) (Int.mul_le_mul_of_nonneg_right (Int.mul_le_mul_of_nonneg_right hmn (by omega)) (by omega))
  rw [dailieslaw18_TimecodeAlong.j1, conv_f h1 h7 g1 g7 m (by omega), Option.bind_some, conv_f h1 h7 g1 g7 n (by omega), Option.bind_some, conv_f h1 h7 h1 h7 n (by omega), Option.bind_some, conv_self h1 h7 n hn]
  show (if (0 : Int) = 0 then (if n = n then _ else _) else _) = _
  rw [if_pos rfl, if_pos rfl]
  rw [conv_in hn] at j2 ⊢
  rw [conv_in hm]
  generalize m * (Tab.row p).2.2.1 * (Tab.row q).2.1 / ((Tab.row p).2.1 * (Tab.row q).2.2.1) = Qm at hmono ⊢
  generalize n * (Tab.row p).2.2.1 * (Tab.row q).2.1 / ((Tab.row p).2.1 * (Tab.row q).2.2.1) = Qn at hmono j2 ⊢
  by_cases hq : Qn < day q
  · have hq2 : Qm < day q := by omega
    rw [if_pos hq] at j2 ⊢
    rw [if_pos hq2, if_pos rfl, if_pos rfl]
    show (if Qm > Qn then _ else (if (0 : Int) = 184 then _ else _)) = _
    rw [if_neg (by omega), if_neg (by decide)]
    exact j2
  · rw [if_neg hq] at j2 ⊢
    by_cases hq2 : Qm < day q
    · rw [if_pos hq2, if_pos rfl]
      show (if (184 : Int) = 0 then _ else (if (0 : Int) = 184 then _ else _)) = _
      rw [if_neg (by decide), if_neg (by decide)]
      exact j2
    · rw [if_neg hq2, if_neg (by decide), if_pos rfl]
      exact j2
theorem perDay {p : Nat} (h1 : 1 ≤ p) (h7 : p ≤ 7) : timecode_PerDay.f (p : Int) = some (day p, 0) := by
  unfold timecode_PerDay.f
  rw [find_f h1 h7, Option.bind_some]
  show (if true = true then (timecode_rate_perDay.f (Tab.row p).1 (Tab.row p).2.1 (Tab.row p).2.2.1 (Tab.row p).2.2.2).bind _ else _) = _
  rw [if_pos rfl, perDay_f h1 h7]; rfl
theorem along_f (a0 a1 m n : Int) (w0 : (Lit.int .i64 a0).wf = true) (w1 : (Lit.int .i64 a1).wf = true) (w2 : (Lit.int .i64 m).wf = true) (w3 : (Lit.int .i64 n).wf = true) (k : Nat) (hk : 20 ≤ k) : dailieslaw18_TimecodeAlong.f k a0 a1 m n = some true := by
  have r0 := i64_range w0
  have r1 := i64_range w1
  have r2 := i64_range w2
  have r3 := i64_range w3
  obtain ⟨p, ep, p0, p7⟩ := place_f a0 7 r0.1 r0.2 (by decide)
  obtain ⟨q, eq, q0, q7⟩ := place_f a1 7 r1.1 r1.2 (by decide)
  obtain ⟨P, eP⟩ : ∃ P : Nat, (P : Int) = 1 + p := ⟨(1 + p).toNat, by omega⟩
  obtain ⟨Q, eQ⟩ : ∃ Q : Nat, (Q : Int) = 1 + q := ⟨(1 + q).toNat, by omega⟩
  have h1 : 1 ≤ P := by omega
  have h7 : P ≤ 7 := by omega
  have g1 : 1 ≤ Q := by omega
  have g7 : Q ≤ 7 := by omega
  have hd := day_range h1 h7
  have wP : wrap64 (1 + p) = (P : Int) := by rw [w64 (by omega) (by omega), eP]
  have wQ : wrap64 (1 + q) = (Q : Int) := by rw [w64 (by clear wP; omega) (by clear wP; omega), eQ]
  obtain ⟨k, rfl⟩ : ∃ j, k = j + 1 := ⟨k - 1, by clear wP wQ; omega⟩
  have hk2 : 12 ≤ k := by clear wP wQ; omega
  have hd0 : 0 < day P := by clear wP wQ; omega
  have hd1 : ¬ day P < 1 := by clear wP wQ; omega
  obtain ⟨m', em, m0, m7⟩ := place_f m (day P) r2.1 r2.2 hd0
  obtain ⟨n', en, n0, n7⟩ := place_f n (day P) r3.1 r3.2 hd0
  unfold dailieslaw18_TimecodeAlong.f
  rw [show dailieslaw18_shown.f = some true from rfl, Option.bind_some, ep, Option.bind_some, eq, Option.bind_some, wP, wQ, perDay h1 h7, Option.bind_some, if_pos rfl, if_pos rfl]
  show dailieslaw18_TimecodeAlong.j0 (k + 1) m n (P : Int) (Q : Int) (day P) (decide (day P < 1)) = _
  rw [decide_eq_false hd1, dailieslaw18_TimecodeAlong.j0, if_neg (by decide), em, Option.bind_some, en, Option.bind_some]
  by_cases h : m' > n'
  · rw [if_pos h]
    exact j1_true h1 h7 g1 g7 n' m' ⟨n0, n7⟩ ⟨m0, m7⟩ (by clear wP wQ; omega) k hk2
  · rw [if_neg h]
    exact j1_true h1 h7 g1 g7 m' n' ⟨m0, m7⟩ ⟨n0, n7⟩ (by clear wP wQ; omega) k hk2
end Go.Proofs.YtjmhjhmlcjkjeaaDoor.Pure
