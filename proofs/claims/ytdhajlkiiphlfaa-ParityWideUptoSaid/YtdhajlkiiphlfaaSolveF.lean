/- A part of a proof: see the text's own remark. No conditions beyond its theorems' own. -/
import Derived.Test.YtdhajlkiiphlfaaSolveW
/-! field.Solve's contract, as the printer takes it -/
namespace Go.Proofs.Ytdhajlkiiphlfaa.Solve
open Go.RowKit Go.Proofs.Ytdhajlkiiphlfaa.QBaseParityWide Go.Proofs.YtdhajlkiiphlfaaW.PrintWords
def Fit (l0 l1 : List (List Int)) : Prop := ∃ n nx, 0 < n ∧ n ≤ 256 ∧ nx ≤ 140737488355328 ∧ Sh n n l0 ∧ Sh n nx l1
def in8B (r : List Int) : Bool := r.all fun y => decide (0 ≤ y ∧ y < 256)
def fitB (l0 l1 : List (List Int)) : Bool := decide (0 < l0.length ∧ l0.length ≤ 256 ∧ l1.length = l0.length ∧ (l1.headD []).length ≤ 140737488355328) && (l0.all fun r => decide (r.length = l0.length) && in8B r) && (l1.all fun r => decide (r.length = (l1.headD []).length) && in8B r)
theorem in8B_iff {r : List Int} : in8B r = true ↔ ∀ y ∈ r, In8 y := by
  unfold in8B In8
  rw [List.all_eq_true]
  exact ⟨fun h y hy => of_decide_eq_true (h y hy), fun h y hy => decide_eq_true (h y hy)⟩
theorem sh_iff {l : List (List Int)} {m : Nat} : (l.all fun r => decide (r.length = m) && in8B r) = true ↔ Sh l.length m l := by
  rw [List.all_eq_true]
  constructor
  · intro h
    refine ⟨rfl, fun r hr => ?_, fun r hr => ?_⟩
    · have := h r hr; rw [Bool.and_eq_true] at this; exact of_decide_eq_true this.1
    · have := h r hr; rw [Bool.and_eq_true] at this; exact in8B_iff.1 this.2
  · intro h r hr
    rw [Bool.and_eq_true]
    exact ⟨decide_eq_true (h.row r hr), in8B_iff.2 (h.el r hr)⟩
theorem fitB_iff {l0 l1 : List (List Int)} : fitB l0 l1 = true ↔ Fit l0 l1 := by
  unfold fitB
  rw [Bool.and_eq_true, Bool.and_eq_true, decide_eq_true_eq, sh_iff, sh_iff]
  constructor
  · rintro ⟨⟨⟨h1, h2, h3, h4⟩, s0⟩, s1⟩
    exact ⟨_, _, h1, h2, h4, s0, h3 ▸ s1⟩
  · rintro ⟨n, nx, h1, h2, h3, s0, s1⟩
    have e0 := s0.len
    have e1 := s1.len
    have e2 : (l1.headD []).length = nx := by
      cases l1 with
      | nil => simp at e1; omega
      | cons r _ => exact s1.row r (by simp)
    rw [e0, e1, e2]
    exact ⟨⟨⟨h1, h2, rfl, h3⟩, s0⟩, s1⟩
def solveF (l0 l1 : List (List Int)) : Option (List (List Int) × Int) :=
  if fitB l0 l1 = true then (match cols l0.length l0.length 0 (l0, l1) with
    | none => some ([], 43)
    | some l => some (l, 0)) else none
theorem solveF_fit {l0 l1 : List (List Int)} (h : Fit l0 l1) : solveF l0 l1 = (match cols l0.length l0.length 0 (l0, l1) with
    | none => some ([], 43)
    | some l => some (l, 0)) := by unfold solveF; rw [if_pos (fitB_iff.2 h)]
theorem solveF_calls (A0 : Option Addr) (c0 : Nat) (l0 : List (List Int)) (A1 : Option Addr) (c1 : Nat) (l1 : List (List Int)) (r1 : List (List Int)) (r2 : Int) (w : World) (hr0 : Kd.C (Kd.slice 5 (Kd.int .u8)) w A0 l0.length l0) (hc0 : l0.length ≤ c0) (hr1 : Kd.C (Kd.slice 5 (Kd.int .u8)) w A1 l1.length l1) (hc1 : l1.length ≤ c1) (h : solveF l0 l1 = some (r1, r2)) :
    Calls Try.prog 35 #[.slice A0 l0.length c0, .slice A1 l1.length c1] w fun e w' => ∃ v0_ : Value, e = .returned (.tuple #[v0_, .int .i64 r2]) ∧ Kd.S (Kd.slice 5 (Kd.int .u8)) 41 w' w.heap.size (fun _ => True) v0_ r1 ∧ Below w.heap.size w w' := by
  by_cases hf : Fit l0 l1
  · rw [solveF_fit hf] at h
    obtain ⟨n, nx, hn0, hn, hnx, s0, s1⟩ := hf
    have hl := s0.len
    rw [hl] at h
    refine (solve_pos n nx l0 l1 A0 A1 c0 c1 w hr0 hc0 hr1 hc1 hn0 hn hnx s0 s1 _ rfl).mono ?_
    intro e w' hp
    generalize cols n n 0 (l0, l1) = R at h hp
    cases R with
    | none =>
      obtain ⟨rfl, hb⟩ := hp
      simp only [Option.some.injEq, Prod.mk.injEq] at h
      obtain ⟨rfl, rfl⟩ := h
      exact ⟨_, rfl, Kd.S_nil _ _ _ _ _, hb⟩
    | some l =>
      obtain ⟨⟨v0, rfl, hs⟩, hb⟩ := hp
      simp only [Option.some.injEq, Prod.mk.injEq] at h
      obtain ⟨rfl, rfl⟩ := h
      exact ⟨v0, rfl, hs, hb⟩
  · unfold solveF at h
    rw [if_neg (fun e => hf (fitB_iff.1 e))] at h
    cases h
end Go.Proofs.Ytdhajlkiiphlfaa.Solve
