/- A part of a proof: see the text's own remark. No conditions beyond its theorems' own. -/
import Derived.Test.YtjmhjhmlcjkjeaaDoorTimeNQUTimecodeNumbers
/-! a frame's name, as bytes; read back; in order -/
namespace Go.Proofs.YtjmhjhmlcjkjeaaDoor.TQUTimecodeNumbers
open Go.RowKit Go.Proofs.YtjmhjhmlcjkjeaaDoor.QUTimecodeNumbers Go.Proofs.YtjmhjhmlcjkjeaaDoorW.PrintWords Go.Proofs.YtjmhjhmlcjkjeaaDoorW.PrintLast
open Go.Proofs.YtjmhjhmlcjkjeaaDoor (Tab.row Tab.by_ Tab.fits Tab.formG Tab.formF Tab.readF Tab.numF Tab.pt)
theorem two_f (l : List Int) (x : Nat) (hx : x < 100) (hl : l.length ≤ 1000) : timecode_two.f l (x : Int) = some (l ++ [((48 + x / 10 : Nat) : Int), ((48 + x % 10 : Nat) : Int)]) := by
  unfold timecode_two.f
  have e1 : Int.tdiv (x : Int) 10 = ((x / 10 : Nat) : Int) := tdiv_nat x 10
  have e2 : Int.tmod (x : Int) 10 = ((x % 10 : Nat) : Int) := tmod_nat x 10
  have e3 : wrap64 (48 + wrap64 ((x / 10 : Nat) : Int)) % 256 = ((48 + x / 10 : Nat) : Int) := by rw [wn (x / 10) (by omega), w64 (by omega) (by omega)]; omega
  have e4 : wrap64 (48 + ((x % 10 : Nat) : Int)) % 256 = ((48 + x % 10 : Nat) : Int) := by rw [w64 (by omega) (by omega)]; omega
  rw [e1, e2, e3, e4, Option.bind_some, if_pos]
  show l.length + 2 < _
  clear e3 e4
  omega
/-- the eleven bytes of the N-th name -/
def nameL (mk c N : Nat) : List Nat := [48 + N / c / 3600 / 10, 48 + N / c / 3600 % 10, 58, 48 + N / c / 60 % 60 / 10, 48 + N / c / 60 % 60 % 10, 58, 48 + N / c % 60 / 10, 48 + N / c % 60 % 10, mk, 48 + N % c / 10, 48 + N % c % 10]
def nameS (mk c N : Nat) : ByteArray := strOfNums ((nameL mk c N).map fun x => ((x : Nat) : Int))
def mkn (p : Nat) : Nat := if 0 < dn p then 59 else 58
theorem name_f {p : Nat} (h1 : 1 ≤ p) (h7 : p ≤ 7) (n : Nat) (hn : (n : Int) < day p) : timecode_Name.f (p : Int) (n : Int) = some (nameS (mkn p) (cn p) (n + drp (cn p) (dn p) n), 0) := by
  have hdr := day_range h1 h7
  have hcd := cd_range h1 h7
  have hlt : n + drp (cn p) (dn p) n < 86400 * cn p := place_lt (cn p) (dn p) n ⟨hcd.1, hcd.2.1⟩ hcd.2.2.2 (by rw [day_n h1 h7] at hn; omega)
  have hof : timecode_of.f (p : Int) (n : Int) = some ((Tab.row p).1, (Tab.row p).2.1, (Tab.row p).2.2.1, (Tab.row p).2.2.2, 0) := by
    unfold timecode_of.f
    rw [find_f h1 h7, Option.bind_some]
    show (if true = true then (if (n : Int) < 0 then some (0, 0, 0, 0, 184) else ((timecode_rate_perDay.f (Tab.row p).1 (Tab.row p).2.1 (Tab.row p).2.2.1 (Tab.row p).2.2.2).bind fun t118 => (if (n : Int) ≥ t118 then (some (0, 0, 0, 0, 184)) else (some ((Tab.row p).1, (Tab.row p).2.1, (Tab.row p).2.2.1, (Tab.row p).2.2.2, 0))))) else _) = _
    rw [if_pos rfl, if_neg (by omega), perDay_f h1 h7, Option.bind_some, if_neg (by omega)]
  have hmark : timecode_rate_mark.f (Tab.row p).1 (Tab.row p).2.1 (Tab.row p).2.2.1 (Tab.row p).2.2.2 = some ((mkn p : Nat) : Int) := by
    unfold timecode_rate_mark.f mkn
    rw [(row_c h1 h7).2]
    by_cases h : 0 < dn p
    · rw [if_pos (by omega), if_pos h]; rfl
    · rw [if_neg (by omega), if_neg h]; rfl
  have hc := (row_c h1 h7).1
  unfold timecode_Name.f
  rw [hof, Option.bind_some]
  show (if (0 : Int) = 0 then ((timecode_rate_dropped.f (Tab.row p).1 (Tab.row p).2.1 (Tab.row p).2.2.1 (Tab.row p).2.2.2 (n : Int)).bind _) else _) = _
  rw [if_pos rfl, dropped_f h1 h7 n (by omega), Option.bind_some]
  show (if (Tab.row p).1 = 0 then none else _) = _
  obtain ⟨c, ec⟩ : ∃ c, c = cn p := ⟨_, rfl⟩
  obtain ⟨D, eD⟩ : ∃ D, D = drp (cn p) (dn p) n := ⟨_, rfl⟩
  obtain ⟨N, eN⟩ : ∃ N, N = n + D := ⟨_, rfl⟩
  have hc24 : 24 ≤ c ∧ c ≤ 60 := by omega
  have hN : N < 86400 * c := by rw [eN, eD, ec]; exact hlt
  have hN2 : N ≤ 5184000 := by omega
  rw [← eD, ← eN, ← ec, if_neg (by rw [hc]; omega), wadd n D (by omega), ← eN]
  show ((timecode_two.f [] (wrap64 (Int.tdiv (wrap64 (Int.tdiv (N : Int) (Tab.row p).1)) 3600))).bind _) = _
  rw [hc, ← ec, tdiv_nat, tmod_nat]
  have hS : N / c < 86400 := Nat.div_lt_of_lt_mul (by rw [Nat.mul_comm]; exact hN)
  have hF : N % c < c := Nat.mod_lt _ (by omega)
  have hFl : N % c < 100 := by omega
  unfold nameS nameL
  generalize N % c = F at hF hFl ⊢
  generalize N / c = S at hS ⊢
  have x1 : Int.tdiv (S : Int) 3600 = ((S / 3600 : Nat) : Int) := tdiv_nat S 3600
  have x2 : Int.tdiv (S : Int) 60 = ((S / 60 : Nat) : Int) := tdiv_nat S 60
  have x3 : Int.tmod ((S / 60 : Nat) : Int) 60 = ((S / 60 % 60 : Nat) : Int) := tmod_nat (S / 60) 60
  have x4 : Int.tmod (S : Int) 60 = ((S % 60 : Nat) : Int) := tmod_nat S 60
  rw [wn S (by omega), x1, wn (S / 3600) (by omega), x2, wn (S / 60) (by omega), x3, x4, two_f [] (S / 3600) (by omega) (by decide), Option.bind_some, if_pos (by simp), two_f _ (S / 60 % 60) (by omega) (by simp), Option.bind_some, if_pos (by simp), two_f _ (S % 60) (by omega) (by simp), Option.bind_some]
  show ((timecode_rate_mark.f (c : Int) (Tab.row p).2.1 (Tab.row p).2.2.1 (Tab.row p).2.2.2).bind _) = _
  have hmark2 := hmark
  rw [hc, ← ec] at hmark2
  rw [hmark2, Option.bind_some, if_pos (by simp), two_f _ F hFl (by simp), Option.bind_some]
  rfl
theorem u8_of (x : Nat) (h : x < 256) : (UInt8.ofNat (Int.toNat ((x : Nat) : Int))).toNat = x := by
  rw [Int.toNat_natCast]
  show x % 256 = x
  omega
theorem nameS_size (mk c N : Nat) : (nameS mk c N).size = 11 := by unfold nameS; rw [strOfNums_size]; rfl
/-- the bytes of a name -/
theorem by_name {mk c N : Nat} (hmk : mk < 256) (hN : N / c < 86400) (hF : N % c < 100) :
    Tab.by_ (nameS mk c N) 0 = 48 + N / c / 3600 / 10 ∧ Tab.by_ (nameS mk c N) 1 = 48 + N / c / 3600 % 10 ∧ Tab.by_ (nameS mk c N) 2 = 58 ∧ Tab.by_ (nameS mk c N) 3 = 48 + N / c / 60 % 60 / 10 ∧ Tab.by_ (nameS mk c N) 4 = 48 + N / c / 60 % 60 % 10 ∧ Tab.by_ (nameS mk c N) 5 = 58 ∧ Tab.by_ (nameS mk c N) 6 = 48 + N / c % 60 / 10 ∧ Tab.by_ (nameS mk c N) 7 = 48 + N / c % 60 % 10 ∧ Tab.by_ (nameS mk c N) 8 = mk ∧ Tab.by_ (nameS mk c N) 9 = 48 + N % c / 10 ∧ Tab.by_ (nameS mk c N) 10 = 48 + N % c % 10 := by
  unfold nameS nameL Tab.by_
  generalize N % c = F at hF ⊢
  generalize N / c = S at hN ⊢
  refine ⟨u8_of _ (by omega), u8_of _ (by omega), u8_of 58 (by omega), u8_of _ (by omega), u8_of _ (by omega), u8_of 58 (by omega), u8_of _ (by omega), u8_of _ (by omega), u8_of _ hmk, u8_of _ (by omega), u8_of _ (by omega)⟩
theorem fit_digit {d : Int} {i x : Nat} (h8 : i ≠ 8) (h3 : i % 3 ≠ 2) (h1 : 48 ≤ x) (h2 : x ≤ 57) : Tab.fits d i x = true := by
  unfold Tab.fits
  rw [if_neg h8, if_neg h3, decide_eq_true h1, decide_eq_true h2]; rfl
theorem fit_colon {d : Int} {i : Nat} (h8 : i ≠ 8) (h3 : i % 3 = 2) : Tab.fits d i 58 = true := by
  unfold Tab.fits
  rw [if_neg h8, if_pos h3]; rfl
theorem form_name {p : Nat} (h1 : 1 ≤ p) (h7 : p ≤ 7) {N : Nat} (hN : N < 86400 * cn p) : Tab.formF (Tab.row p).2.2.2 (nameS (mkn p) (cn p) N) = -1 := by
  have hcd := cd_range h1 h7
  have hS : N / cn p < 86400 := Nat.div_lt_of_lt_mul (by rw [Nat.mul_comm]; exact hN)
  have hF : N % cn p < cn p := Nat.mod_lt _ (by omega)
  have hmk : mkn p < 256 := by unfold mkn; split <;> decide
  obtain ⟨b0, b1, b2, b3, b4, b5, b6, b7, b8, b9, b10⟩ := by_name (mk := mkn p) hmk hS (by omega)
  have f8 : Tab.fits (Tab.row p).2.2.2 8 (mkn p) = true := by
    rw [(row_c h1 h7).2]
    unfold Tab.fits mkn
    rw [if_pos rfl]
    by_cases h : 0 < dn p
    · rw [if_pos h, if_pos (by omega)]; rfl
    · rw [if_neg h, if_neg (by omega)]; rfl
  have hsz : (nameS (mkn p) (cn p) N).size = 11 := nameS_size _ _ _
  unfold Tab.formF
  rw [hsz]
  generalize nameS (mkn p) (cn p) N = s at hsz b0 b1 b2 b3 b4 b5 b6 b7 b8 b9 b10
  have hF2 : N % cn p < 60 := by omega
  generalize N % cn p = F at hF2 b9 b10
  generalize N / cn p = S at hS b0 b1 b3 b4 b6 b7
  rw [Tab.formG_ok (by decide) (by rw [b0]; exact fit_digit (by decide) (by decide) (by omega) (by omega)),
    Tab.formG_ok (by decide) (by rw [b1]; exact fit_digit (by decide) (by decide) (by omega) (by omega)),
    Tab.formG_ok (by decide) (by rw [b2]; exact fit_colon (by decide) (by decide)),
    Tab.formG_ok (by decide) (by rw [b3]; exact fit_digit (by decide) (by decide) (by omega) (by omega)),
    Tab.formG_ok (by decide) (by rw [b4]; exact fit_digit (by decide) (by decide) (by omega) (by omega)),
    Tab.formG_ok (by decide) (by rw [b5]; exact fit_colon (by decide) (by decide)),
    Tab.formG_ok (by decide) (by rw [b6]; exact fit_digit (by decide) (by decide) (by omega) (by omega)),
    Tab.formG_ok (by decide) (by rw [b7]; exact fit_digit (by decide) (by decide) (by omega) (by omega)),
    Tab.formG_ok (by decide) (by rw [b8]; exact f8),
    Tab.formG_ok (by decide) (by rw [b9]; exact fit_digit (by decide) (by decide) (by omega) (by omega)),
    Tab.formG_ok (by decide) (by rw [b10]; exact fit_digit (by decide) (by decide) (by omega) (by omega))]
  rfl
/-- a name's number is the frame's -/
theorem num_name {p : Nat} (h1 : 1 ≤ p) (h7 : p ≤ 7) (n : Nat) (hn : (n : Int) < day p) : Tab.numF (p : Int) (nameS (mkn p) (cn p) (n + drp (cn p) (dn p) n)) = ((n : Int), 0, 0) := by
  have hcd := cd_range h1 h7
  have hlt : n + drp (cn p) (dn p) n < 86400 * cn p := place_lt (cn p) (dn p) n ⟨hcd.1, hcd.2.1⟩ hcd.2.2.2 (by rw [day_n h1 h7] at hn; omega)
  obtain ⟨pc1, pc2⟩ := place_cases (cn p) (dn p) n ⟨hcd.1, hcd.2.1⟩ hcd.2.2.2
  have hfo := form_name h1 h7 hlt
  have hmk : mkn p < 256 := by unfold mkn; split <;> decide
  obtain ⟨hc, hd⟩ := row_c h1 h7
  unfold Tab.numF
  rw [if_neg (by omega), if_neg (by omega), Int.toNat_natCast]
  unfold Tab.readF
  rw [hfo, if_neg (by decide), hc, hd]
  obtain ⟨N, eN⟩ : ∃ N, N = n + drp (cn p) (dn p) n := ⟨_, rfl⟩
  rw [← eN] at hlt pc1 pc2 ⊢
  have hS : N / cn p < 86400 := Nat.div_lt_of_lt_mul (by rw [Nat.mul_comm]; exact hlt)
  have hF : N % cn p < cn p := Nat.mod_lt _ (by omega)
  have hdm := Nat.div_add_mod N (cn p)
  obtain ⟨b0, b1, b2, b3, b4, b5, b6, b7, b8, b9, b10⟩ := by_name (mk := mkn p) hmk hS (by omega)
  generalize nameS (mkn p) (cn p) N = s at b0 b1 b2 b3 b4 b5 b6 b7 b8 b9 b10
  have hF2 : N % cn p < 60 := by omega
  generalize N % cn p = F at *
  generalize N / cn p = S at *
  have p0 : Tab.pt s 0 = ((S / 3600 : Nat) : Int) := by unfold Tab.pt; rw [b0, b1]; omega
  have p3 : Tab.pt s 3 = ((S / 60 % 60 : Nat) : Int) := by unfold Tab.pt; rw [b3, b4]; omega
  have p6 : Tab.pt s 6 = ((S % 60 : Nat) : Int) := by unfold Tab.pt; rw [b6, b7]; omega
  have p9 : Tab.pt s 9 = ((F : Nat) : Int) := by unfold Tab.pt; rw [b9, b10]; omega
  rw [p0, p3, p6, p9, if_neg (by omega), if_neg (by omega), if_neg (by omega), if_neg (by omega)]
  have hno : ¬ ((((S / 60 % 60 : Nat) : Int)) % 10 ≠ 0 ∧ ((S % 60 : Nat) : Int) = 0 ∧ ((F : Nat) : Int) < (dn p : Int)) := by
    rintro ⟨z1, z2, z3⟩
    exact pc2 ⟨by omega, by omega, by omega⟩
  rw [if_neg hno]
  have e1 : 60 * (60 * ((S / 3600 : Nat) : Int) + ((S / 60 % 60 : Nat) : Int)) + ((S % 60 : Nat) : Int) = (S : Int) := by omega
  have e2 : 60 * ((S / 3600 : Nat) : Int) + ((S / 60 % 60 : Nat) : Int) = ((S / 60 : Nat) : Int) := by omega
  have e3 : ((S / 60 : Nat) : Int) - ((S / 60 : Nat) : Int) / 10 = ((S / 60 - S / 60 / 10 : Nat) : Int) := by omega
  have e4 : (cn p : Int) * (S : Int) = ((cn p * S : Nat) : Int) := (Int.natCast_mul _ _).symm
  have e5 : (dn p : Int) * ((S / 60 - S / 60 / 10 : Nat) : Int) = ((dn p * (S / 60 - S / 60 / 10) : Nat) : Int) := (Int.natCast_mul _ _).symm
  rw [e1, e2, e3, e4, e5, ← pc1]
  have e6 : ((cn p * S : Nat) : Int) + (F : Int) - ((drp (cn p) (dn p) n : Nat) : Int) = (n : Int) := by omega
  rw [e6]
end Go.Proofs.YtjmhjhmlcjkjeaaDoor.TQUTimecodeNumbers
