/- A part of a proof: see the text's own remark. No conditions beyond its theorems' own. -/
import Derived.Test.YtjmhjhmlcjkjeaaDoorTimePQUTimecodeNumbers
/-! plain facts on a frame's name -/
namespace Go.Proofs.YtjmhjhmlcjkjeaaDoor.TQUTimecodeNumbers
open Go.RowKit Go.Proofs.YtjmhjhmlcjkjeaaDoor.QUTimecodeNumbers Go.Proofs.YtjmhjhmlcjkjeaaDoorW.PrintWords Go.Proofs.YtjmhjhmlcjkjeaaDoorW.PrintLast
open Go.Proofs.YtjmhjhmlcjkjeaaDoor (Tab.row)
/-- names in a second; names that a minute leaves out -/
def cn (p : Nat) : Nat := match p with
  | 1 => 24 | 2 => 25 | 5 => 50 | 6 => 60 | 7 => 60 | _ => 30
def dn (p : Nat) : Nat := match p with
  | 4 => 2 | 7 => 4 | _ => 0
theorem row_c {p : Nat} (h1 : 1 ≤ p) (h7 : p ≤ 7) : (Tab.row p).1 = (cn p : Int) ∧ (Tab.row p).2.2.2 = (dn p : Int) := by
  rcases seven h1 h7 with rfl | rfl | rfl | rfl | rfl | rfl | rfl <;> decide +kernel
theorem cd_range {p : Nat} (h1 : 1 ≤ p) (h7 : p ≤ 7) : 24 ≤ cn p ∧ cn p ≤ 60 ∧ dn p ≤ 4 ∧ (dn p = 0 ∨ (cn p = 30 ∧ dn p = 2) ∨ (cn p = 60 ∧ dn p = 4)) := by
  rcases seven h1 h7 with rfl | rfl | rfl | rfl | rfl | rfl | rfl <;> decide +kernel
/-- how many are left out ahead -/
def drp (c d n : Nat) : Nat := (9 * (n / (600 * c - 9 * d)) + if 60 * c ≤ n % (600 * c - 9 * d) then 1 + (n % (600 * c - 9 * d) - 60 * c) / (60 * c - d) else 0) * d
theorem tdiv_nat (x n : Nat) : Int.tdiv (x : Int) (n : Int) = ((x / n : Nat) : Int) := by rw [Int.tdiv_eq_ediv_of_nonneg (by omega)]; exact (Int.natCast_ediv x n).symm
theorem tmod_nat (x n : Nat) : Int.tmod (x : Int) (n : Int) = ((x % n : Nat) : Int) := by rw [Int.tmod_eq_emod_of_nonneg (by omega)]; exact (Int.natCast_emod x n).symm
theorem wn (x : Nat) (h : x ≤ 1000000000) : wrap64 (x : Int) = (x : Int) := w64 (by omega) (by omega)
theorem w60 (c : Nat) (h : c ≤ 100000) : wrap64 (60 * (c : Int)) = ((60 * c : Nat) : Int) := by rw [w64 (by omega) (by omega)]; omega
theorem w9 (a : Nat) (h : a ≤ 100000) : wrap64 (9 * wrap64 (a : Int)) = ((9 * a : Nat) : Int) := by rw [wn a (by omega), w64 (by omega) (by omega)]; omega
theorem wsub (r x : Nat) (h : x ≤ r) (hr : r ≤ 1000000000) : wrap64 ((r : Int) - (x : Int)) = ((r - x : Nat) : Int) := by rw [w64 (by omega) (by omega)]; omega
theorem wone (x : Nat) (h : x ≤ 1000000) : wrap64 (1 + (x : Int)) = ((1 + x : Nat) : Int) := by rw [w64 (by omega) (by omega)]; omega
theorem wadd (x y : Nat) (h : x + y ≤ 1000000000) : wrap64 ((x : Int) + (y : Int)) = ((x + y : Nat) : Int) := by rw [w64 (by omega) (by omega)]; omega
theorem wmul (x d : Nat) (h : x ≤ 110000) (hd : d ≤ 4) : wrap64 ((x : Int) * (d : Int)) = ((x * d : Nat) : Int) := by
  have : x * d ≤ 110000 * 4 := Nat.mul_le_mul h hd
  rw [← Int.natCast_mul, wn _ (by omega)]
theorem day_n {p : Nat} (h1 : 1 ≤ p) (h7 : p ≤ 7) : day p = ((86400 * cn p - 1296 * dn p : Nat) : Int) := by
  rcases seven h1 h7 with rfl | rfl | rfl | rfl | rfl | rfl | rfl <;> decide +kernel
/-- the frame's place among all names -/
theorem place_cases (c d n : Nat) (hc : 24 ≤ c ∧ c ≤ 60) (hcd : d = 0 ∨ (c = 30 ∧ d = 2) ∨ (c = 60 ∧ d = 4)) :
    drp c d n = d * (((n + drp c d n) / c / 60) - ((n + drp c d n) / c / 60) / 10) ∧ ¬ ((n + drp c d n) / c / 60 % 10 ≠ 0 ∧ (n + drp c d n) / c % 60 = 0 ∧ (n + drp c d n) % c < d) := by
  rcases hcd with rfl | ⟨rfl, rfl⟩ | ⟨rfl, rfl⟩
  · refine ⟨by unfold drp; rw [Nat.mul_zero, Nat.zero_mul], fun h => by omega⟩
  · obtain ⟨t, r, hr, rfl⟩ : ∃ t r, r < 17982 ∧ n = 17982 * t + r := ⟨n / 17982, n % 17982, by omega, by omega⟩
    have e1 : (17982 * t + r) / 17982 = t := by omega
    have e2 : (17982 * t + r) % 17982 = r := by omega
    have ed : drp 30 2 (17982 * t + r) = (9 * t + if 1800 ≤ r then 1 + (r - 1800) / 1798 else 0) * 2 := by
      unfold drp
      rw [show 600 * 30 - 9 * 2 = 17982 from rfl, show 60 * 30 = 1800 from rfl, show 1800 - 2 = 1798 from rfl, e1, e2]
    rw [ed]
    by_cases h : 1800 ≤ r
    · rw [if_pos h]
      obtain ⟨j, x, hx, hj, rfl⟩ : ∃ j x, x < 1798 ∧ j < 9 ∧ r = 1800 + 1798 * j + x := ⟨(r - 1800) / 1798, (r - 1800) % 1798, by omega, by omega, by omega⟩
      have e3 : (1800 + 1798 * j + x - 1800) / 1798 = j := by omega
      rw [e3]
      have e4 : 17982 * t + (1800 + 1798 * j + x) + (9 * t + (1 + j)) * 2 = 18000 * t + 1800 * (1 + j) + (x + 2) := by omega
      have e6 : (18000 * t + 1800 * (1 + j) + (x + 2)) / 30 = 60 * (10 * t + (1 + j)) + (x + 2) / 30 := by omega
      have e7 : (60 * (10 * t + (1 + j)) + (x + 2) / 30) / 60 = 10 * t + (1 + j) := by omega
      have e8 : (10 * t + (1 + j)) / 10 = t := by omega
      rw [e4, e6, e7, e8]
      omega
    · rw [if_neg h]
      have e4 : 17982 * t + r + (9 * t + 0) * 2 = 18000 * t + r := by omega
      rw [e4]
      omega
  · obtain ⟨t, r, hr, rfl⟩ : ∃ t r, r < 35964 ∧ n = 35964 * t + r := ⟨n / 35964, n % 35964, by omega, by omega⟩
    have e1 : (35964 * t + r) / 35964 = t := by omega
    have e2 : (35964 * t + r) % 35964 = r := by omega
    have ed : drp 60 4 (35964 * t + r) = (9 * t + if 3600 ≤ r then 1 + (r - 3600) / 3596 else 0) * 4 := by
      unfold drp
      rw [show 600 * 60 - 9 * 4 = 35964 from rfl, show 60 * 60 = 3600 from rfl, show 3600 - 4 = 3596 from rfl, e1, e2]
    rw [ed]
    by_cases h : 3600 ≤ r
    · rw [if_pos h]
      obtain ⟨j, x, hx, hj, rfl⟩ : ∃ j x, x < 3596 ∧ j < 9 ∧ r = 3600 + 3596 * j + x := ⟨(r - 3600) / 3596, (r - 3600) % 3596, by omega, by omega, by omega⟩
      have e3 : (3600 + 3596 * j + x - 3600) / 3596 = j := by omega
      rw [e3]
      have e4 : 35964 * t + (3600 + 3596 * j + x) + (9 * t + (1 + j)) * 4 = 36000 * t + 3600 * (1 + j) + (x + 4) := by omega
      have e6 : (36000 * t + 3600 * (1 + j) + (x + 4)) / 60 = 60 * (10 * t + (1 + j)) + (x + 4) / 60 := by omega
      have e7 : (60 * (10 * t + (1 + j)) + (x + 4) / 60) / 60 = 10 * t + (1 + j) := by omega
      have e8 : (10 * t + (1 + j)) / 10 = t := by omega
      rw [e4, e6, e7, e8]
      omega
    · rw [if_neg h]
      have e4 : 35964 * t + r + (9 * t + 0) * 4 = 36000 * t + r := by omega
      rw [e4]
      omega
/-- a day's names are below a day -/
theorem place_lt (c d n : Nat) (hc : 24 ≤ c ∧ c ≤ 60) (hcd : d = 0 ∨ (c = 30 ∧ d = 2) ∨ (c = 60 ∧ d = 4)) (hn : n < 86400 * c - 1296 * d) : n + drp c d n < 86400 * c := by
  rcases hcd with rfl | ⟨rfl, rfl⟩ | ⟨rfl, rfl⟩
  · have : drp c 0 n = 0 := by unfold drp; rw [Nat.mul_zero]
    omega
  · unfold drp
    rw [show 600 * 30 - 9 * 2 = 17982 from rfl, show 60 * 30 = 1800 from rfl, show 1800 - 2 = 1798 from rfl]
    split <;> omega
  · unfold drp
    rw [show 600 * 60 - 9 * 4 = 35964 from rfl, show 60 * 60 = 3600 from rfl, show 3600 - 4 = 3596 from rfl]
    split <;> omega
/-- places rise as numbers do -/
theorem place_mono (c d m n : Nat) (hcd : d = 0 ∨ (c = 30 ∧ d = 2) ∨ (c = 60 ∧ d = 4)) (h : m < n) : m + drp c d m < n + drp c d n := by
  rcases hcd with rfl | ⟨rfl, rfl⟩ | ⟨rfl, rfl⟩
  · have e : ∀ x, drp c 0 x = 0 := fun x => by unfold drp; rw [Nat.mul_zero]
    rw [e, e]; omega
  · unfold drp
    rw [show 600 * 30 - 9 * 2 = 17982 from rfl, show 60 * 30 = 1800 from rfl, show 1800 - 2 = 1798 from rfl]
    split <;> split <;> omega
  · unfold drp
    rw [show 600 * 60 - 9 * 4 = 35964 from rfl, show 60 * 60 = 3600 from rfl, show 3600 - 4 = 3596 from rfl]
    split <;> split <;> omega
theorem dropped_f {p : Nat} (h1 : 1 ≤ p) (h7 : p ≤ 7) (n : Nat) (hn : n ≤ 5184000) : timecode_rate_dropped.f (Tab.row p).1 (Tab.row p).2.1 (Tab.row p).2.2.1 (Tab.row p).2.2.2 (n : Int) = some ((drp (cn p) (dn p) n : Nat) : Int) := by
  obtain ⟨hc, hd⟩ := row_c h1 h7
  obtain ⟨c0, c1, d0, _⟩ := cd_range h1 h7
  rw [hc, hd]
  generalize cn p = c at c0 c1
  generalize dn p = d at d0
  generalize (Tab.row p).2.1 = b
  generalize (Tab.row p).2.2.1 = e
  have hT : timecode_rate_perTen.f (c : Int) b e (d : Int) = some ((600 * c - 9 * d : Nat) : Int) := by
    unfold timecode_rate_perTen.f
    rw [w64 (n := 600 * (c : Int)) (by omega) (by omega), w64 (n := 9 * (d : Int)) (by omega) (by omega), w64 (by omega) (by omega)]
    congr 1; omega
  have hM : timecode_rate_perMinute.f (c : Int) b e (d : Int) = some ((60 * c - d : Nat) : Int) := by
    unfold timecode_rate_perMinute.f
    rw [w64 (n := 60 * (c : Int)) (by omega) (by omega), w64 (by omega) (by omega)]
    congr 1; omega
  obtain ⟨T, hTe⟩ : ∃ T, T = 600 * c - 9 * d := ⟨_, rfl⟩
  obtain ⟨M, hMe⟩ : ∃ M, M = 60 * c - d := ⟨_, rfl⟩
  have hT0 : 14364 ≤ T ∧ T ≤ 36000 := by omega
  have hM0 : 1436 ≤ M ∧ M ≤ 3600 := by omega
  have hq : n / T ≤ 400 := by
    have : n / T ≤ n / 14364 := Nat.div_le_div_left hT0.1 (by decide)
    omega
  have hr : n % T < T := Nat.mod_lt _ (by omega)
  have hj : (n % T - 60 * c) / M ≤ n % T - 60 * c := Nat.div_le_self _ _
  rw [← hTe] at hT
  rw [← hMe] at hM
  unfold timecode_rate_dropped.f drp
  rw [hT, Option.bind_some, if_neg (by omega), Option.bind_some, if_neg (by omega), tmod_nat, tdiv_nat, ← hTe, ← hMe]
  generalize n / T = a at hq ⊢
  generalize n % T = r at hr hj ⊢
  have e60 := w60 c (by omega)
  have e9 := w9 a (by omega)
  rw [e60, e9]
  by_cases h : 60 * c ≤ r
  · rw [if_pos (show (r : Int) ≥ ((60 * c : Nat) : Int) from Int.ofNat_le.2 h), hM, Option.bind_some, if_neg (by clear e60 e9; omega), if_pos h]
    have es := wsub r (60 * c) h (by clear e60 e9; omega)
    rw [es, tdiv_nat]
    generalize (r - 60 * c) / M = J at hj ⊢
    have hJ : J ≤ 100000 := by clear e60 e9 es; omega
    have ha : 9 * a + (1 + J) ≤ 110000 := by clear e60 e9 es; omega
    rw [wn J (by clear e60 e9 es; omega), wone J (by clear e60 e9 es; omega), wadd (9 * a) (1 + J) (by clear e60 e9 es; omega), wmul (9 * a + (1 + J)) d ha d0]
  · rw [if_neg (fun h2 => h (Int.ofNat_le.1 h2)), if_neg h, Nat.add_zero, wmul (9 * a) d (by clear e60 e9; omega) d0]
end Go.Proofs.YtjmhjhmlcjkjeaaDoor.TQUTimecodeNumbers
