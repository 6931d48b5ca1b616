/- A part of a proof: see the text's own remark. No conditions beyond its theorems' own. -/
import Derived.WalkLawsBesides
import Derived.Laws.FloatBits
/-! floats: a quotient of whole numbers is a number, and equal to itself -/
namespace Go.Proofs.YtjmhjhmlcjkjeaaDoor.Fl
open Ieee
theorem word_mod (f : Format) (neg : Bool) {r : Nat} (h : r < f.signWeight) : f.word neg r % f.signWeight = r := by
  unfold Format.word
  cases neg
  · exact Nat.mod_eq_of_lt h
  · show (f.signWeight + r) % f.signWeight = r
    rw [Nat.add_mod_left]; exact Nat.mod_eq_of_lt h
/-- what reads as no NaN -/
def Num (f : Format) (x : Nat) : Prop := (f.read x).isNaN = false
theorem num_word (f : Format) (neg : Bool) {r : Nat} (h : r ≤ f.infRung) : Num f (f.word neg r) := by
  have hs : r < f.signWeight := Nat.lt_of_le_of_lt h f.infRung_lt
  unfold Num Format.read
  simp only [word_mod f neg hs]
  split
  · rfl
  · split
    · rfl
    · split
      · rfl
      · rename_i h1 h2 h3
        omega
theorem num_nearest (f : Format) (neg : Bool) (mag : Nat) (place : Int) : Num f (f.nearest neg mag place) := by
  unfold Format.nearest
  dsimp only
  split
  · exact num_word f neg (Nat.zero_le _)
  · exact num_word f neg (Nat.min_le_right _ _)
theorem num_write (f : Format) {d : Datum} (h : d.isNaN = false) : Num f (f.write d) := by
  cases d with
  | number neg mag place => exact num_nearest f neg mag place
  | infinity neg => exact num_word f neg (Nat.le_refl _)
  | nan neg fr => cases h
theorem cmp_self (a : Int) : compare a a = .eq := by
  show compareOfLessAndEq a a = .eq
  unfold compareOfLessAndEq
  rw [if_neg (Int.lt_irrefl a), if_pos rfl]
theorem cmp_selfN (a : Nat) : compare a a = .eq := by
  show compareOfLessAndEq a a = .eq
  unfold compareOfLessAndEq
  rw [if_neg (Nat.lt_irrefl a), if_pos rfl]
theorem order_self {f : Format} {x : Nat} (h : Num f x) : f.order x x = some .eq := by
  unfold Num at h
  unfold Format.order
  cases e : f.read x with
  | nan s t => rw [e] at h; cases h
  | infinity s => show some (compare s.toNat s.toNat) = _; rw [cmp_selfN]
  | number s m i => show some (compare _ _) = _; rw [cmp_self]
theorem div_some {f : Format} {x y : Nat} (hx : Num f x) {t : Bool} {n : Nat} {j : Int} (hy : f.read y = .number t n j) (hn : n ≠ 0) : ∃ r, f.div x y = some r ∧ Num f r := by
  unfold Num at hx
  unfold Format.div
  rw [hy]
  cases e : f.read x with
  | nan s t => rw [e] at hx; cases hx
  | infinity s => exact ⟨_, rfl, num_write f rfl⟩
  | number s m i =>
    show ∃ r, Option.map f.write (if n = 0 then _ else some (Datum.number (s ^^ t) _ _)) = some r ∧ _
    rw [if_neg hn]
    exact ⟨_, rfl, num_write f rfl⟩
theorem num_int (n : Int) : Num double (floatOfInt .f64 n) := num_write double (d := .number (n < 0) n.natAbs 0) rfl
end Go.Proofs.YtjmhjhmlcjkjeaaDoor.Fl
