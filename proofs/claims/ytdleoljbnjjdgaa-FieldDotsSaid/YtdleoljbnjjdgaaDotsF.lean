/- A part of a proof: see the text's own remark. No conditions beyond its theorems' own. -/
import Derived.Test.YtdleoljbnjjdgaaDots
import Derived.Test.YtdleoljbnjjdgaaDotsM
/-! the law FieldDots, walked: as the printer takes it -/
namespace Go.Proofs.Ytdleoljbnjjdgaa.DotsW
open Go.RowKit Go.Proofs.YtdleoljbnjjdgaaW.PrintWords Go.Proofs.Ytdleoljbnjjdgaa.QBaseFieldDots
def okB (l : List Int) : Bool := decide (l.length ≤ 140737488351232) && l.all fun x => decide (0 ≤ x ∧ x < 256)
theorem okB_iff {l : List Int} : okB l = true ↔ l.length ≤ 140737488351232 ∧ ∀ x ∈ l, 0 ≤ x ∧ x < 256 := by
  unfold okB
  rw [Bool.and_eq_true, decide_eq_true_eq, List.all_eq_true]
  exact ⟨fun h => ⟨h.1, fun x hx => of_decide_eq_true (h.2 x hx)⟩, fun h => ⟨h.1, fun x hx => decide_eq_true (h.2 x hx)⟩⟩
def dotsF (l0 l1 : List Int) : Option Bool := if okB l0 = true ∧ okB l1 = true then some true else none
theorem dotsF_calls (A0 : Option Addr) (c0 : Nat) (l0 : List Int) (A1 : Option Addr) (c1 : Nat) (l1 : List Int) (r : Bool) (w : World) (hr0 : Kd.C (Kd.int .u8) w A0 l0.length l0) (hc0 : l0.length ≤ c0) (hr1 : Kd.C (Kd.int .u8) w A1 l1.length l1) (hc1 : l1.length ≤ c1) (h : dotsF l0 l1 = some r) :
    Calls Try.prog 5 #[.slice A0 l0.length c0, .slice A1 l1.length c1] w fun e w' => e = .returned (.bool r) ∧ Below w.heap.size w w' := by
  unfold dotsF at h
  split at h
  · rename_i hk
    obtain rfl := Option.some.inj h
    obtain ⟨b0, h0⟩ := okB_iff.1 hk.1
    obtain ⟨b1, h1⟩ := okB_iff.1 hk.2
    obtain ⟨r1, r2, d1, d2⟩ := DotsM.Dot_f l0 l1 h0 h1 b0 (l0.length + 100) (by omega)
    obtain ⟨s1, s2, e1, e2⟩ := DotsM.Dot_f (l0.map xo) (l1.map xo) (fun x hx => by obtain ⟨y, hy, rfl⟩ := List.mem_map.1 hx; exact xo_in (h0 y hy)) (fun x hx => by obtain ⟨y, hy, rfl⟩ := List.mem_map.1 hx; exact xo_in (h1 y hy)) (by rw [List.length_map]; exact b0) (l0.length + 100) (by rw [List.length_map]; omega)
    exact dots_calls (l0.length + 100) A0 c0 l0 A1 c1 l1 r1 r2 s1 s2 w hr0 hc0 hr1 hc1 b0 b1 (DotsM.alive_f _ (by omega)) d1 d2 e1 e2
  · cases h
end Go.Proofs.Ytdleoljbnjjdgaa.DotsW
