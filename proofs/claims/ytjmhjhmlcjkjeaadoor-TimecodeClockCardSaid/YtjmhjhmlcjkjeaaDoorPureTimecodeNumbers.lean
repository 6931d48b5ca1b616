/- PerDay, Name, Dropped and Seconds of any rate and any number answer as the document's: for every input the law TimecodeNumbers is true. No conditions. -/
import Derived.Test.YtjmhjhmlcjkjeaaDoorNumbers18
import Derived.Test.YtjmhjhmlcjkjeaaDoorTimeMQUTimecodeNumbers
import Derived.Test.YtjmhjhmlcjkjeaaDoorTimeRQUTimecodeNumbers
namespace Go.Proofs.YtjmhjhmlcjkjeaaDoor.Pure
open Go.RowKit Go.Proofs.YtjmhjhmlcjkjeaaDoor.QUTimecodeNumbers Go.Proofs.YtjmhjhmlcjkjeaaDoorW.PrintWords Go.Proofs.YtjmhjhmlcjkjeaaDoorW.PrintLast Go.Proofs.YtjmhjhmlcjkjeaaDoor.TQUTimecodeNumbers
open Go.Proofs.YtjmhjhmlcjkjeaaDoor (Tab.row)
def outs (d : Int) : Nat → Int
  | 0 => 0
  | m + 1 => outs d m + lft d m
theorem outs_closed (d : Int) : ∀ m : Nat, outs d m = d * ((m - (m + 9) / 10 : Nat) : Int)
  | 0 => by simp [outs]
  | m + 1 => by
    have e : outs d (m + 1) = outs d m + lft d m := rfl
    rw [e, outs_closed d m]
    unfold lft
    by_cases h : m % 10 = 0
    · rw [if_pos h, show m + 1 - (m + 1 + 9) / 10 = m - (m + 9) / 10 by omega]; omega
    · rw [if_neg h, show m + 1 - (m + 1 + 9) / 10 = (m - (m + 9) / 10) + 1 by omega, show (((m - (m + 9) / 10) + 1 : Nat) : Int) = ((m - (m + 9) / 10 : Nat) : Int) + 1 by omega, Int.mul_add, Int.mul_one]
theorem outs_range {d : Int} (hd : 0 ≤ d ∧ d ≤ 4) : ∀ m : Nat, 0 ≤ outs d m ∧ outs d m ≤ 4 * m
  | 0 => by simp [outs]
  | m + 1 => by
    have e : outs d (m + 1) = outs d m + lft d m := rfl
    have ih := outs_range hd m
    rw [e]
    unfold lft
    split <;> omega
theorem mins_le {c d : Int} (hc : 24 ≤ c ∧ c ≤ 60) (hd : 0 ≤ d ∧ d ≤ 4) : ∀ (e m : Nat), mins c d m ≤ mins c d (m + e)
  | 0, m => Int.le_refl _
  | e + 1, m => by
    have ih := mins_le hc hd e m
    have h : mins c d (m + (e + 1)) = mins c d (m + e) + 60 * c - lft d (m + e) := rfl
    rw [h]
    unfold lft
    split <;> omega
theorem placed_l0 {p : Nat} (h1 : 1 ≤ p) (h7 : p ≤ 7) (n : Int) (hn : 0 ≤ n ∧ n ≤ 5184000) (M : Nat) (hM : M < 1440) (x0 : 0 ≤ n - mins (Tab.row p).1 (Tab.row p).2.2.2 M) (x1 : n - mins (Tab.row p).1 (Tab.row p).2.2.2 M < 60 * (Tab.row p).1 - lft (Tab.row p).2.2.2 M) :
    ∀ (e m k : Nat), m + e = M → e < k → dailiesref18_placed.l0 k (p : Int) (n - mins (Tab.row p).1 (Tab.row p).2.2.2 m) (outs (Tab.row p).2.2.2 m) (m : Int) = some ((M : Int), n - mins (Tab.row p).1 (Tab.row p).2.2.2 M + lft (Tab.row p).2.2.2 M, outs (Tab.row p).2.2.2 (M + 1)) := by
  have hr := row_range h1 h7
  have hle := mins_le (c := (Tab.row p).1) (d := (Tab.row p).2.2.2) (by omega) (by omega)
  have hor := outs_range (d := (Tab.row p).2.2.2) (by omega)
  have hmr := mins_range (c := (Tab.row p).1) (d := (Tab.row p).2.2.2) (by omega) (by omega)
  have hl : ∀ m, 0 ≤ lft (Tab.row p).2.2.2 m ∧ lft (Tab.row p).2.2.2 m ≤ 4 := fun m => by unfold lft; split <;> omega
  intro e
  induction e with
  | zero =>
    intro m k hm hk
    obtain ⟨k, rfl⟩ : ∃ j, k = j + 1 := ⟨k - 1, by omega⟩
    obtain rfl : m = M := by omega
    have hlt : (m : Int) < 1440 := by omega
    have eo : outs (Tab.row p).2.2.2 (m + 1) = outs (Tab.row p).2.2.2 m + lft (Tab.row p).2.2.2 m := rfl
    have hlm := hl m
    have hom := hor m
    rw [dailiesref18_placed.l0, if_pos hlt, left_f h1 h7, Option.bind_some, count_f h1 h7, Option.bind_some, Option.bind_some, Option.bind_some, eo]
    generalize lft (Tab.row p).2.2.2 m = f at *
    generalize outs (Tab.row p).2.2.2 m = o at *
    generalize n - mins (Tab.row p).1 (Tab.row p).2.2.2 m = x at *
    generalize (Tab.row p).1 = c at *
    have g1 : wrap64 (60 * c) = 60 * c := w64 (by omega) (by omega)
    rw [g1]
    clear g1
    have g2 : wrap64 (60 * c - f) = 60 * c - f := w64 (by omega) (by omega)
    rw [g2, if_pos x1]
    clear g2
    rw [w64 (n := x + f) (by omega) (by omega), w64 (n := o + f) (by omega) (by omega)]
  | succ e ih =>
    intro m k hm hk
    obtain ⟨k, rfl⟩ : ∃ j, k = j + 1 := ⟨k - 1, by omega⟩
    have hlt : (m : Int) < 1440 := by omega
    have hge := hle e (m + 1)
    rw [show m + 1 + e = M by omega] at hge
    have hi := ih (m + 1) k (by omega) (by omega)
    have em : mins (Tab.row p).1 (Tab.row p).2.2.2 (m + 1) = mins (Tab.row p).1 (Tab.row p).2.2.2 m + 60 * (Tab.row p).1 - lft (Tab.row p).2.2.2 m := rfl
    have eo : outs (Tab.row p).2.2.2 (m + 1) = outs (Tab.row p).2.2.2 m + lft (Tab.row p).2.2.2 m := rfl
    have hlm := hl m
    have hom := hor m
    have hmm := hmr m
    rw [dailiesref18_placed.l0, if_pos hlt, left_f h1 h7, Option.bind_some, count_f h1 h7, Option.bind_some, Option.bind_some]
    have g1 : wrap64 (60 * (Tab.row p).1) = 60 * (Tab.row p).1 := w64 (by omega) (by omega)
    rw [g1]
    clear g1
    have g2 : wrap64 (60 * (Tab.row p).1 - lft (Tab.row p).2.2.2 m) = 60 * (Tab.row p).1 - lft (Tab.row p).2.2.2 m := w64 (by omega) (by omega)
    rw [g2, if_neg (by clear g2; omega)]
    clear g2
    have g3 : wrap64 (n - mins (Tab.row p).1 (Tab.row p).2.2.2 m - (60 * (Tab.row p).1 - lft (Tab.row p).2.2.2 m)) = n - mins (Tab.row p).1 (Tab.row p).2.2.2 (m + 1) := by rw [w64 (by omega) (by omega), em]; omega
    have g4 : wrap64 (outs (Tab.row p).2.2.2 m + lft (Tab.row p).2.2.2 m) = outs (Tab.row p).2.2.2 (m + 1) := by rw [w64 (by clear g3; omega) (by clear g3; omega), eo]
    have g5 : wrap64 ((m : Int) + 1) = ((m + 1 : Nat) : Int) := by rw [w64 (by clear g3 g4; omega) (by clear g3 g4; omega)]; clear g3 g4; omega
    rw [g3, g4, g5]
    exact hi
/-- where a frame's name stands: its minute, its place in it, what is left out -/
theorem placed_f {p : Nat} (h1 : 1 ≤ p) (h7 : p ≤ 7) (n : Nat) (hn : (n : Int) < day p) {k : Nat} (hk : 1450 ≤ k) :
    dailiesref18_placed.f k (p : Int) (n : Int) = some ((((n + drp (cn p) (dn p) n) / cn p / 60 : Nat) : Int), ((cn p * ((n + drp (cn p) (dn p) n) / cn p % 60) + (n + drp (cn p) (dn p) n) % cn p : Nat) : Int), ((drp (cn p) (dn p) n : Nat) : Int)) := by
  have hdr := day_range h1 h7
  have hcd := cd_range h1 h7
  have hlt : n + drp (cn p) (dn p) n < 86400 * cn p := place_lt (cn p) (dn p) n ⟨hcd.1, hcd.2.1⟩ hcd.2.2.2 (by rw [day_n h1 h7] at hn; omega)
  obtain ⟨pa, pb⟩ := place_cases (cn p) (dn p) n ⟨hcd.1, hcd.2.1⟩ hcd.2.2.2
  obtain ⟨hc, hd⟩ := row_c h1 h7
  obtain ⟨D, eD⟩ : ∃ D, D = drp (cn p) (dn p) n := ⟨_, rfl⟩
  obtain ⟨N, eN⟩ : ∃ N, N = n + D := ⟨_, rfl⟩
  rw [← eD, ← eN] at pa pb hlt ⊢
  have hS : N / cn p < 86400 := Nat.div_lt_of_lt_mul (by rw [Nat.mul_comm]; exact hlt)
  have hF : N % cn p < cn p := Nat.mod_lt _ (by omega)
  have hdm := Nat.div_add_mod N (cn p)
  generalize N % cn p = F at *
  generalize N / cn p = S at *
  obtain ⟨M, eM⟩ : ∃ M, M = S / 60 := ⟨_, rfl⟩
  obtain ⟨s, es⟩ : ∃ s, s = S % 60 := ⟨_, rfl⟩
  rw [← eM] at pa pb
  rw [← es] at pb
  rw [← eM, ← es]
  have hSe : S = 60 * M + s := by omega
  have e1 : cn p * S = cn p * (60 * M) + cn p * s := by rw [hSe, Nat.mul_add]
  have hs59 : cn p * s ≤ cn p * 59 := Nat.mul_le_mul_left _ (by omega)
  have emin := mins_closed (Tab.row p).1 (Tab.row p).2.2.2 M
  have eout := outs_closed (Tab.row p).2.2.2 (M + 1)
  rw [hc, hd] at emin
  rw [hd] at eout
  have e2 : 60 * (cn p : Int) * (M : Int) = ((cn p * (60 * M) : Nat) : Int) := by rw [Int.mul_comm 60, Int.mul_assoc, Int.natCast_mul, Int.natCast_mul]; rfl
  have e3 : (dn p : Int) * ((M - (M + 9) / 10 : Nat) : Int) = ((dn p * (M - (M + 9) / 10) : Nat) : Int) := (Int.natCast_mul _ _).symm
  have e4 : (dn p : Int) * ((M + 1 - (M + 1 + 9) / 10 : Nat) : Int) = ((dn p * (M + 1 - (M + 1 + 9) / 10) : Nat) : Int) := (Int.natCast_mul _ _).symm
  rw [e2, e3] at emin
  rw [e4, show M + 1 - (M + 1 + 9) / 10 = M - M / 10 by omega, ← pa] at eout
  -- what the minute's head leaves out
  have hlf : ((dn p * (M - M / 10) : Nat) : Int) = ((dn p * (M - (M + 9) / 10) : Nat) : Int) + lft (dn p : Int) M ∧ 0 ≤ lft (dn p : Int) M ∧ lft (dn p : Int) M ≤ ((cn p * s + F : Nat) : Int) := by
    unfold lft
    by_cases h : M % 10 = 0
    · rw [if_pos h, show M - M / 10 = M - (M + 9) / 10 by omega]
      exact ⟨by omega, by omega, by omega⟩
    · rw [if_neg h, show M - M / 10 = (M - (M + 9) / 10) + 1 by omega, Nat.mul_add, Nat.mul_one]
      refine ⟨by omega, by omega, ?_⟩
      by_cases hs0 : s = 0
      · have : ¬ F < dn p := fun hf => pb ⟨h, hs0, hf⟩
        rw [hs0, Nat.mul_zero]
        omega
      · have : cn p * 1 ≤ cn p * s := Nat.mul_le_mul_left _ (by omega)
        omega
  obtain ⟨l1, l2, l3⟩ := hlf
  have hx : (n : Int) - mins (cn p : Int) (dn p : Int) M = ((cn p * s + F : Nat) : Int) - lft (dn p : Int) M := by
    rw [emin]; omega
  have h := placed_l0 h1 h7 (n : Int) (by omega) M (by omega) (by rw [hc, hd, hx]; omega) (by rw [hc, hd, hx]; omega) M 0 k (by omega) (by omega)
  rw [hc, hd, hx, eout] at h
  rw [show ((cn p * s + F : Nat) : Int) - lft (dn p : Int) M + lft (dn p : Int) M = ((cn p * s + F : Nat) : Int) by omega] at h
  have h0 : (n : Int) - mins (cn p : Int) (dn p : Int) 0 = (n : Int) := by show (n : Int) - 0 = _; omega
  rw [h0] at h
  exact h
theorem str_append (xs ys : List Int) : strOfNums xs ++ strOfNums ys = strOfNums (xs ++ ys) := by
  apply ByteArray.ext
  rw [ByteArray.data_append]
  unfold strOfNums
  rw [List.map_append]
  simp
theorem str_one (x : Int) (b : UInt8) (h : UInt8.ofNat x.toNat = b) : (⟨#[b]⟩ : ByteArray) = strOfNums [x] := by subst h; rfl
theorem refTwo_f (x : Nat) (hx : x < 100) : dailiesref18_two.f (x : Int) = some (strOfNums [((48 + x / 10 : Nat) : Int), ((48 + x % 10 : Nat) : Int)]) := by
  unfold dailiesref18_two.f
  have e1 : Int.tdiv (x : Int) 10 = ((x / 10 : Nat) : Int) := tdiv_nat x 10
  have e2 : Int.tmod (x : Int) 10 = ((x % 10 : Nat) : Int) := tmod_nat x 10
  have e3 : wrap64 (48 + wrap64 ((x / 10 : Nat) : Int)) % 256 = ((48 + x / 10 : Nat) : Int) := by rw [wn (x / 10) (by omega), w64 (by omega) (by omega)]; omega
  have e4 : wrap64 (48 + ((x % 10 : Nat) : Int)) % 256 = ((48 + x % 10 : Nat) : Int) := by rw [w64 (by omega) (by omega)]; omega
  rw [e1, e2, e3, e4]
theorem behind_f {p : Nat} (h1 : 1 ≤ p) (h7 : p ≤ 7) : dailiesref18_behind.f (p : Int) = some (strOfNums [((mkn p : Nat) : Int)]) := by
  rcases seven h1 h7 with rfl | rfl | rfl | rfl | rfl | rfl | rfl <;> decide +kernel
theorem refName_f {p : Nat} (h1 : 1 ≤ p) (h7 : p ≤ 7) (n : Nat) (hn : (n : Int) < day p) {k : Nat} (hk : 1450 ≤ k) : dailiesref18_Name.f k (p : Int) (n : Int) = some (nameS (mkn p) (cn p) (n + drp (cn p) (dn p) n), 0) := by
  have hcd := cd_range h1 h7
  have hlt : n + drp (cn p) (dn p) n < 86400 * cn p := place_lt (cn p) (dn p) n ⟨hcd.1, hcd.2.1⟩ hcd.2.2.2 (by rw [day_n h1 h7] at hn; omega)
  have hc := (row_c h1 h7).1
  unfold dailiesref18_Name.f
  rw [asked_f h1 h7 _ hk, Option.bind_some, if_pos (if_pos ⟨by omega, hn⟩), placed_f h1 h7 n hn hk, Option.bind_some]
  obtain ⟨c, ec⟩ : ∃ c, c = cn p := ⟨_, rfl⟩
  obtain ⟨N, eN⟩ : ∃ N, N = n + drp (cn p) (dn p) n := ⟨_, rfl⟩
  rw [← eN] at hlt ⊢
  rw [← ec] at hlt hcd hc ⊢
  show ((dailiesref18_two.f (wrap64 (Int.tdiv ((N / c / 60 : Nat) : Int) 60))).bind _) = _
  have hS : N / c < 86400 := Nat.div_lt_of_lt_mul (by rw [Nat.mul_comm]; exact hlt)
  have hF : N % c < c := Nat.mod_lt _ (by omega)
  unfold nameS nameL
  have hFl : N % c < 100 := by omega
  generalize N % c = F at hF hFl ⊢
  generalize N / c = S at hS ⊢
  have x1 : Int.tdiv ((S / 60 : Nat) : Int) 60 = ((S / 3600 : Nat) : Int) := by have h := tdiv_nat (S / 60) 60; rw [Nat.div_div_eq_div_mul] at h; exact h
  have x2 : Int.tmod ((S / 60 : Nat) : Int) 60 = ((S / 60 % 60 : Nat) : Int) := tmod_nat (S / 60) 60
  have x3 : Int.tdiv ((c * (S % 60) + F : Nat) : Int) (c : Int) = ((S % 60 : Nat) : Int) := by rw [tdiv_nat, Nat.mul_add_div (by omega), Nat.div_eq_of_lt hF, Nat.add_zero]
  have x4 : Int.tmod ((c * (S % 60) + F : Nat) : Int) (c : Int) = ((F : Nat) : Int) := by rw [tmod_nat, Nat.mul_add_mod, Nat.mod_eq_of_lt hF]
  have hc0 : ¬ ((c : Int) = 0) := by omega
  have a1 : S / 3600 < 100 := by omega
  have a2 : S / 60 % 60 < 100 := by omega
  have a3 : S % 60 < 100 := by omega
  have a4 : S / 3600 ≤ 1000000000 := by omega
  have a5 : S % 60 ≤ 1000000000 := by omega
  have e58 : (⟨#[58]⟩ : ByteArray) = strOfNums [((58 : Nat) : Int)] := str_one _ _ rfl
  rw [x1, wn _ a4, refTwo_f _ a1, Option.bind_some, if_pos (by rw [strOfNums_size]; show 2 + 1 ≤ _; decide)]
  show ((dailiesref18_two.f (Int.tmod ((S / 60 : Nat) : Int) 60)).bind _) = _
  rw [x2, refTwo_f _ a2, Option.bind_some, e58, str_append, if_pos (by rw [strOfNums_size, strOfNums_size]; show 3 + 2 ≤ _; decide), str_append, if_pos (by rw [strOfNums_size]; show 5 + 1 ≤ _; decide), count_f h1 h7, hc, Option.bind_some, if_neg hc0]
  show ((dailiesref18_two.f (wrap64 (Int.tdiv ((c * (S % 60) + F : Nat) : Int) (c : Int)))).bind _) = _
  rw [x3, wn _ a5, refTwo_f _ a3, Option.bind_some, str_append, if_pos (by rw [strOfNums_size, strOfNums_size]; show 6 + 2 ≤ _; decide), str_append, behind_f h1 h7, Option.bind_some, if_pos (by rw [strOfNums_size, strOfNums_size]; show 8 + 1 ≤ _; decide), str_append, Option.bind_some, if_neg hc0]
  show ((dailiesref18_two.f (Int.tmod ((c * (S % 60) + F : Nat) : Int) (c : Int))).bind _) = _
  rw [x4, refTwo_f _ hFl, Option.bind_some, if_pos (by rw [strOfNums_size, strOfNums_size]; show 9 + 2 ≤ _; decide), str_append]
  rfl
def nz : Ieee.Datum → Bool
  | .number _ m _ => m != 0
  | _ => false
theorem nz_of {d : Ieee.Datum} (h : nz d = true) : ∃ t m j, d = .number t m j ∧ m ≠ 0 := by
  cases d with
  | number t m j => exact ⟨t, m, j, rfl, bne_iff_ne.1 h⟩
  | infinity s => cases h
  | nan s f => cases h
theorem num_read {p : Nat} (h1 : 1 ≤ p) (h7 : p ≤ 7) : ∃ t m j, Ieee.double.read (floatOfInt .f64 (Tab.row p).2.1) = .number t m j ∧ m ≠ 0 := by
  apply nz_of
  rcases seven h1 h7 with rfl | rfl | rfl | rfl | rfl | rfl | rfl <;> decide +kernel
theorem zero_order : Ieee.double.order 0 0 = some .eq := Fl.order_self (by unfold Fl.Num; decide +kernel)
theorem numbers_true (r n : Int) (w : World) (hG : Tab.TabAt w) :
    Calls Tryd.prog 5 #[.int .i64 r, .int .i64 n] w fun e w' => e = .returned (.bool true) ∧ Below w.heap.size w w' := by
  by_cases hr : 1 ≤ r ∧ r ≤ 7
  · obtain ⟨p, rfl⟩ : ∃ p : Nat, r = p := ⟨r.toNat, by omega⟩
    have h1 : 1 ≤ p := by omega
    have h7 : p ≤ 7 := by omega
    have hp : timecode_PerDay.f (p : Int) = some (day p, 0) := by
      unfold timecode_PerDay.f
      rw [find_f h1 h7, Option.bind_some]
      show (if true = true then (timecode_rate_perDay.f (Tab.row p).1 (Tab.row p).2.1 (Tab.row p).2.2.1 (Tab.row p).2.2.2).bind _ else _) = _
      rw [if_pos rfl, perDay_f h1 h7]; rfl
    have rp := refDay_f h1 h7 (k := 2000) (by decide)
    have hask := asked_f h1 h7 n (k := 2000) (by decide)
    by_cases hn : 0 ≤ n ∧ n < day p
    · obtain ⟨m, rfl⟩ : ∃ m : Nat, n = m := ⟨n.toNat, by omega⟩
      rw [if_pos hn] at hask
      have hdr := day_range h1 h7
      have hof : timecode_of.f (p : Int) (m : Int) = some ((Tab.row p).1, (Tab.row p).2.1, (Tab.row p).2.2.1, (Tab.row p).2.2.2, 0) := by
        unfold timecode_of.f
        rw [find_f h1 h7, Option.bind_some]
        show (if true = true then (if (m : Int) < 0 then some (0, 0, 0, 0, 184) else ((timecode_rate_perDay.f (Tab.row p).1 (Tab.row p).2.1 (Tab.row p).2.2.1 (Tab.row p).2.2.2).bind fun t118 => (if (m : Int) ≥ t118 then (some (0, 0, 0, 0, 184)) else (some ((Tab.row p).1, (Tab.row p).2.1, (Tab.row p).2.2.1, (Tab.row p).2.2.2, 0))))) else _) = _
        rw [if_pos rfl, if_neg (by omega), perDay_f h1 h7, Option.bind_some, if_neg (by omega)]
      have hd : timecode_Dropped.f (p : Int) (m : Int) = some (((drp (cn p) (dn p) m : Nat) : Int), 0) := by
        unfold timecode_Dropped.f
        rw [hof, Option.bind_some]
        show (if (0 : Int) = 0 then ((timecode_rate_dropped.f (Tab.row p).1 (Tab.row p).2.1 (Tab.row p).2.2.1 (Tab.row p).2.2.2 (m : Int)).bind _) else _) = _
        rw [if_pos rfl, dropped_f h1 h7 m (by omega)]; rfl
      have rd_ : dailiesref18_Dropped.f 2000 (p : Int) (m : Int) = some (((drp (cn p) (dn p) m : Nat) : Int), 0) := by
        unfold dailiesref18_Dropped.f
        rw [hask, Option.bind_some, if_pos rfl, placed_f h1 h7 m hn.2 (by decide)]; rfl
      obtain ⟨tt, mm, j, hy, hm0⟩ := num_read h1 h7
      obtain ⟨q, hq, hqn⟩ := Fl.div_some (f := Ieee.double) (x := floatOfInt .f64 (wrap64 ((m : Int) * (Tab.row p).2.2.1))) (Fl.num_int _) hy hm0
      exact Tab.numbers_calls 2000 (p : Int) (m : Int) (day p) 0 _ 0 _ q w hG hp rp (name_f h1 h7 m hn.2) (refName_f h1 h7 m hn.2 (by decide)) hd rd_
        (fun w hG => Tab.secs_ok (p : Int) (m : Int) _ _ _ _ q w hG hof hq) (fun w => Tab.refSecs_ok 2000 (p : Int) (m : Int) _ _ q w hask (speed_f h1 h7 (by decide)) hq) (Fl.order_self hqn)
    · rw [if_neg hn] at hask
      have hof : timecode_of.f (p : Int) n = some (0, 0, 0, 0, 184) := by
        unfold timecode_of.f
        rw [find_f h1 h7, Option.bind_some]
        show (if true = true then (if n < 0 then some (0, 0, 0, 0, 184) else ((timecode_rate_perDay.f (Tab.row p).1 (Tab.row p).2.1 (Tab.row p).2.2.1 (Tab.row p).2.2.2).bind fun t118 => (if n ≥ t118 then (some (0, 0, 0, 0, 184)) else (some ((Tab.row p).1, (Tab.row p).2.1, (Tab.row p).2.2.1, (Tab.row p).2.2.2, 0))))) else _) = _
        rw [if_pos rfl]
        by_cases h : n < 0
        · rw [if_pos h]
        · rw [if_neg h, perDay_f h1 h7, Option.bind_some, if_pos (by omega)]
      have hnm : timecode_Name.f (p : Int) n = some (⟨#[]⟩, 184) := by unfold timecode_Name.f; rw [hof]; rfl
      have rnm : dailiesref18_Name.f 2000 (p : Int) n = some (⟨#[]⟩, 184) := by unfold dailiesref18_Name.f; rw [hask]; rfl
      have hd : timecode_Dropped.f (p : Int) n = some (0, 184) := by unfold timecode_Dropped.f; rw [hof]; rfl
      have rd_ : dailiesref18_Dropped.f 2000 (p : Int) n = some (0, 184) := by unfold dailiesref18_Dropped.f; rw [hask]; rfl
      exact Tab.numbers_calls 2000 (p : Int) n (day p) 0 _ 184 0 0 w hG hp rp hnm rnm hd rd_
        (fun w hG => Tab.secs_bad (p : Int) n 184 _ _ _ _ w hG hof (by decide)) (fun w => Tab.refSecs_bad 2000 (p : Int) n 184 w hask (by decide)) zero_order
  · have hfo : timecode_find.f r = some (0, 0, 0, 0, false) := find_out (by omega)
    have hrate : dailiesref18_Rate.f r = some false := by rw [rate_f, decide_eq_false hr]
    have hp : timecode_PerDay.f r = some (0, 181) := by unfold timecode_PerDay.f; rw [hfo]; rfl
    have rp : dailiesref18_PerDay.f 2000 r = some (0, 181) := by unfold dailiesref18_PerDay.f; rw [hrate]; rfl
    have hask : dailiesref18_asked.f 2000 r n = some 181 := by unfold dailiesref18_asked.f; rw [rp]; rfl
    have hof : timecode_of.f r n = some (0, 0, 0, 0, 181) := by unfold timecode_of.f; rw [hfo]; rfl
    have hnm : timecode_Name.f r n = some (⟨#[]⟩, 181) := by unfold timecode_Name.f; rw [hof]; rfl
    have rnm : dailiesref18_Name.f 2000 r n = some (⟨#[]⟩, 181) := by unfold dailiesref18_Name.f; rw [hask]; rfl
    have hd : timecode_Dropped.f r n = some (0, 181) := by unfold timecode_Dropped.f; rw [hof]; rfl
    have rd_ : dailiesref18_Dropped.f 2000 r n = some (0, 181) := by unfold dailiesref18_Dropped.f; rw [hask]; rfl
    exact Tab.numbers_calls 2000 r n 0 181 _ 181 0 0 w hG hp rp hnm rnm hd rd_
      (fun w hG => Tab.secs_bad r n 181 _ _ _ _ w hG hof (by decide)) (fun w => Tab.refSecs_bad 2000 r n 181 w hask (by decide)) zero_order
end Go.Proofs.YtjmhjhmlcjkjeaaDoor.Pure
