/- A name's number is the frame's, and names rise as numbers do: for every input the law TimecodeBack is true. No conditions. -/
import Derived.Test.YtjmhjhmlcjkjeaaDoorBack18
namespace Go.Proofs.YtjmhjhmlcjkjeaaDoor.Pure
open Go.RowKit Go.Proofs.YtjmhjhmlcjkjeaaDoor.QTTimecodeBack Go.Proofs.YtjmhjhmlcjkjeaaDoorW.PrintWords Go.Proofs.YtjmhjhmlcjkjeaaDoorW.PrintLast Go.Proofs.YtjmhjhmlcjkjeaaDoor.TQTTimecodeBack
open Go.Proofs.YtjmhjhmlcjkjeaaDoor (Tab.row)
theorem place_f (a n : Int) (h0 : -9223372036854775808 ≤ a) (h1 : a ≤ 9223372036854775807) (hn : 0 < n) : ∃ c, dailieslaw18_place.f a n = some c ∧ 0 ≤ c ∧ c < n := by
  unfold dailieslaw18_place.f
  by_cases h : a < 0
  · rw [if_pos h, if_neg (by omega), w64 (n := a + 1) (by omega) (by omega), w64 (by omega) (by omega)]
    refine ⟨_, rfl, ?_, ?_⟩
    · rw [Int.tmod_eq_emod_of_nonneg (by omega)]; exact Int.emod_nonneg _ (by omega)
    · rw [Int.tmod_eq_emod_of_nonneg (by omega)]; exact Int.emod_lt_of_pos _ hn
  · rw [if_neg h, if_neg (by omega)]
    refine ⟨_, rfl, ?_, ?_⟩
    · rw [Int.tmod_eq_emod_of_nonneg (by omega)]; exact Int.emod_nonneg _ (by omega)
    · rw [Int.tmod_eq_emod_of_nonneg (by omega)]; exact Int.emod_lt_of_pos _ hn
theorem perDay {p : Nat} (h1 : 1 ≤ p) (h7 : p ≤ 7) : timecode_PerDay.f (p : Int) = some (day p, 0) := by
  unfold timecode_PerDay.f
  rw [find_f h1 h7, Option.bind_some]
  show (if true = true then (timecode_rate_perDay.f (Tab.row p).1 (Tab.row p).2.1 (Tab.row p).2.2.1 (Tab.row p).2.2.2).bind _ else _) = _
  rw [if_pos rfl, perDay_f h1 h7]; rfl
theorem back_true (a0 a1 a2 : Int) (w0 : (Lit.int .i64 a0).wf = true) (w1 : (Lit.int .i64 a1).wf = true) (w2 : (Lit.int .i64 a2).wf = true) (w : World) (hG : Tab.TabAt w) :
    Calls Tryd.prog 3 #[.int .i64 a0, .int .i64 a1, .int .i64 a2] w fun e w' => e = .returned (.bool true) ∧ Below w.heap.size w w' := by
  have r0 := i64_range w0
  have r1 := i64_range w1
  have r2 := i64_range w2
  obtain ⟨q, eq, q0, q7⟩ := place_f a0 7 r0.1 r0.2 (by decide)
  obtain ⟨p, ep⟩ : ∃ P : Nat, (P : Int) = 1 + q := ⟨(1 + q).toNat, by omega⟩
  have h1 : 1 ≤ p := by omega
  have h7 : p ≤ 7 := by omega
  have hd := day_range h1 h7
  obtain ⟨m, em, m0, m1⟩ := place_f a1 (day p) r1.1 r1.2 (by omega)
  obtain ⟨n, en, n0, n1⟩ := place_f a2 (day p) r2.1 r2.2 (by omega)
  obtain ⟨m, rfl⟩ : ∃ x : Nat, m = x := ⟨m.toNat, by omega⟩
  obtain ⟨n, rfl⟩ : ∃ x : Nat, n = x := ⟨n.toNat, by omega⟩
  have hcd := cd_range h1 h7
  have hmk : mkn p < 256 := by unfold mkn; split <;> decide
  have hlm : m + drp (cn p) (dn p) m < 86400 * cn p := place_lt (cn p) (dn p) m ⟨hcd.1, hcd.2.1⟩ hcd.2.2.2 (by rw [day_n h1 h7] at m1; omega)
  have hln : n + drp (cn p) (dn p) n < 86400 * cn p := place_lt (cn p) (dn p) n ⟨hcd.1, hcd.2.1⟩ hcd.2.2.2 (by rw [day_n h1 h7] at n1; omega)
  have hmn := place_mono (cn p) (dn p) m n hcd.2.2.2
  have hnm := place_mono (cn p) (dn p) n m hcd.2.2.2
  have hc0 : 0 < cn p := by omega
  have hc1 : cn p ≤ 100 := by omega
  have hnd : ¬ day p < 1 := by omega
  have e1 : decide (m + drp (cn p) (dn p) m < n + drp (cn p) (dn p) n) = decide ((m : Int) < (n : Int)) := by
    apply decide_eq_decide.2
    rcases Nat.lt_trichotomy m n with h | h | h
    · exact ⟨fun _ => by omega, fun _ => hmn h⟩
    · subst h; exact ⟨fun h => by omega, fun h => by omega⟩
    · have := hnm h; exact ⟨fun h2 => by omega, fun h2 => by omega⟩
  have e2 : decide (m + drp (cn p) (dn p) m = n + drp (cn p) (dn p) n) = ((m : Int) == (n : Int)) := by
    rcases Nat.lt_trichotomy m n with h | h | h
    · have := hmn h; rw [decide_eq_false (by omega), beq_eq_false_iff_ne.2 (by omega)]
    · subst h; rw [decide_eq_true rfl, beq_self_eq_true]
    · have := hnm h; rw [decide_eq_false (by omega), beq_eq_false_iff_ne.2 (by omega)]
  exact Tab.back_calls a0 a1 a2 q (day p) m n p (nameS (mkn p) (cn p) (m + drp (cn p) (dn p) m)) (nameS (mkn p) (cn p) (n + drp (cn p) (dn p) n)) w hG eq (by rw [w64 (by omega) (by omega), ep]) (perDay h1 h7) hnd em en
    (name_f h1 h7 m m1) (name_f h1 h7 n n1) (by rw [nameS_size]; decide) (by rw [nameS_size]; decide) (num_name h1 h7 m m1) (num_name h1 h7 n n1)
    (by rw [nameS_less hc0 hc1 hmk hlm hln, e1]) (by rw [nameS_eq hc0 hc1 hmk hlm hln, e2])
end Go.Proofs.YtjmhjhmlcjkjeaaDoor.Pure
