/- For every input the law TimecodeReads is true: the row under the condition that the table of the rates reads as listed, and the card that ties this to the program's text. -/
import Derived.Test.YtjmhjhmlcjkjeaaDoorRows
import Derived.Test.YtjmhjhmlcjkjeaaDoorReads18
import Derived.Test.YtjmhjhmlcjkjeaaDoorTie
import Derived.Test.YtjmhjhmlcjkjeaaDoorCards
import Derived.LaidMore
import Derived.Stop.Joined
import Derived.SevenTiedAt
import Derived.WalkKit
import Derived.ProofKit
import Derived.OpenShut
import Derived.ShutString
import Derived.ChangeOld
import Derived.Below
import Derived.SizedLaws
namespace Go.Proofs.YtjmhjhmlcjkjeaaDoor.timecodeReads
open Go.ChangeShapes Go.WideShapes Go.ChangeAt Go.RowKit
open Go.ChangeMaps (open_string shut_string)
set_option linter.unusedVariables false
theorem own : ownKnob Tryd.prog.godebug = none := by kernel_rfl
/-- The heap that the program's own initialisers leave meets the condition. -/
theorem door_met (os : Os) (args : Array Value) : laidMetH Tryd.prog Rows.timecodeReadsRow.laid ((World.doorLaid Tryd.prog 400 os).forCall (fun _ _ => 0) ⟨#[], args, []⟩).memory :=
  laidMetH_of_parts3 (fuel := 8) (laidMet_of_run' 8 (by kernel_rfl) (by kernel_rfl)) (by kernel_rfl) (by kernel_rfl)
theorem tab_of_laid {W : World} (h : laidMetH Tryd.prog Rows.timecodeReadsRow.laid W) : Tab.TabAt W := Tab.tabAt_of_laid h.1
theorem et : Tryd.prog.globalNamed "errors.errorType" = some 1 := by kernel_rfl
theorem rt : (Tryd.prog.cutTypes.find? (·.1 == "internal/reflectlite.rtype")).map (·.2) = some 99 := by kernel_rfl
theorem oneRow : ((List.range 143).filter fun t => Tryd.prog.rowNamed t [101, 114, 114, 111, 114]) = [31] := by kernel_rfl
theorem tsize : Tryd.prog.types.size = 143 := by kernel_rfl
/-- The cell of errors.errorType. -/
theorem hand_of_laid {W : World} (h : laidMetH Tryd.prog Rows.timecodeReadsRow.laid W) : Tab.HandAt W := by
  have h' : laidMet Tryd.prog [("dailies/timecode.table", Rows.laid_dailies_timecode_table)] W ∧ handlesMet Tryd.prog [("errors.errorType", Rows.laid_errors_errorType)] W := h
  obtain ⟨name, u, ty, e1, e2, e3, e4, e5⟩ := h'.2 _ (List.mem_singleton.2 rfl)
  have en : name = [101, 114, 114, 111, 114] := (Option.some.inj e1).symm
  subst en
  obtain rfl := Option.some.inj (rt.symm.trans e2)
  have hm : ty ∈ (List.range 143).filter fun t => Tryd.prog.rowNamed t [101, 114, 114, 111, 114] := List.mem_filter.2 ⟨List.mem_range.2 (by rw [← tsize]; exact e3), e4⟩
  rw [oneRow] at hm
  obtain rfl := List.mem_singleton.1 hm
  have hh : typeHandle Tryd.prog 31 = .pointer (some ⟨2, 31, none⟩) := by kernel_rfl
  rw [hh] at e5
  have hc : W.cell? ⟨1, 0, none⟩ = some (.iface 99 (.agg #[.pointer (some ⟨2, 31, none⟩)])) := by simpa using World.var?_cell et e5 0
  refine ⟨?_, hc⟩
  rcases Nat.lt_or_ge 1 W.heap.size with h1 | h1
  · exact h1
  · simp [World.cell?, Array.getElem?_eq_none h1] at hc
set_option maxRecDepth 100000 in
theorem lifted (os : Os) (started : os.Started) (H : Type) (enc : TypeId × Value → H) :
    ReturnsInHanded {} Tryd.checked os 8 .any (fun w args => (Rows.timecodeReadsSpec.pre enc Tryd.prog Tryd.f8 [] false w args ∧ laidMetH Tryd.prog Rows.timecodeReadsRow.laid w) ∧ sizedMet enc Tryd.prog Tryd.f8 (OpenSpec.ofChange Rows.timecodeReadsSpec) false w args) (Rows.timecodeReadsSpec.post enc Tryd.prog Tryd.f8 false true false false) := by
  refine returnsInHanded_of_change_and (C := Tryd.checked) (X := fun w _ => laidMetH Tryd.prog Rows.timecodeReadsRow.laid w) (fun _ _ _ hh h => h.of_heap hh) own started (by kernel_rfl) Tryd.func8
    (ChangeSpec.witness_shaped (enc := enc) (C := Tryd.checked) (os := os) (X := fun w _ => laidMetH Tryd.prog Rows.timecodeReadsRow.laid w) false (World.doorLaid Tryd.prog 400 os) #[.int .i64 0, .string ⟨#[]⟩, .string ⟨#[]⟩] 8 rfl (World.shaped_of_RefB (by kernel_rfl) (by kernel_rfl)) (by kernel_rfl) (by kernel_rfl) (by kernel_rfl) (door_met os _)) ?_
  intro W base args ds gs before hval0 hW hcnd hsz0 hL _
  have hsz : (DataW.weightsEach Tryd.prog (Tryd.f8.params.toList ++ Rows.timecodeReadsSpec.plain.varTypes Tryd.prog) (ds ++ gs)).all (· ≤ reachBytes) = true := hsz0
  have hval : ∀ (j : Nat) t v, Tryd.f8.params[j]? = some t → args[j]? = some v → Value.okWide Tryd.prog W .any base t v := hval0
  have hW' := hW
  obtain ⟨p, q, hA0, hV, rfl, hfz, hnd⟩ := hW
  have hA : DataW.TrodAll enc Tryd.prog W 0 (fun _ => true) true Tryd.f8.params.toList args.toList ds p := hA0
  rw [Tryd.params8] at hA hval hsz
  obtain ⟨v0, vs0, d0, ds0, p0, q0, hargs, rfl, rfl, h0, r0⟩ := trodAll_cons hA
  obtain ⟨v1, vs1, d1, ds1, p1, q1, rfl, rfl, rfl, h1, r1⟩ := trodAll_cons r0
  obtain ⟨v2, vs2, d2, ds2, p2, q2, rfl, rfl, rfl, h2, r2⟩ := trodAll_cons r1
  obtain ⟨rfl, rfl, rfl⟩ := trodAll_nil r2
  obtain rfl : args = #[v0, v1, v2] := by cases args; simp_all
  obtain ⟨rfl, rfl⟩ := trodVars_none hV
  obtain ⟨a0, rfl, rfl, rfl, w0⟩ := open_int Tryd.underlying23 (hval 0 23 v0 rfl rfl) h0
  obtain ⟨a1, rfl, rfl, rfl, w1⟩ := open_string Tryd.underlying9 (hval 1 9 v1 rfl rfl) h1
  obtain ⟨a2, rfl, rfl, rfl, w2⟩ := open_string Tryd.underlying9 (hval 2 9 v2 rfl rfl) h2
  have z1 : a1.size ≤ 140737488355328 := Nat.le_trans (sized_string hsz (j := 1) (t := 9) (bytes := a1.data.toList) rfl rfl) (by decide)
  have z2 : a2.size ≤ 140737488355328 := Nat.le_trans (sized_string hsz (j := 2) (t := 9) (bytes := a2.data.toList) rfl rfl) (by decide)
  clear hA0 hval0 hsz0 hsz
  have hG := tab_of_laid hL
  have hH := hand_of_laid hL
  refine (Reads18.reads_true a0 a1 a2 z1 z2 W hG hH).mono fun e W' ⟨he, bel⟩ => ?_
  subst he
  exact ⟨_, rfl, _, _, _, [], _, [], hW', trodAll_mk1 (shut_bool Tryd.underlying4 _), (trodAll_cons_mk (shut_int Tryd.underlying23 w0) (trodAll_cons_mk (shut_string Tryd.underlying9 w1) (trodAll_cons_mk (shut_string Tryd.underlying9 w2) trodAll_mk0))), rfl, bel.frame _, fun h => by cases h⟩
theorem over : Rows.timecodeReadsRow.holds Tryd.pinned (OpenSpec.ofChange Rows.timecodeReadsSpec) :=
  OpenClaim.holds_of_wide 8 Tryd.f8 rfl rfl rfl rfl rfl rfl rfl ⟨rfl, rfl, rfl, rfl, rfl⟩ rfl rfl rfl rfl rfl (by kernel_rfl) Tryd.func8 (by kernel_rfl)
    (of_decide_eq_true (by kernel_rfl)) (by unfold Func.isWrapper; first | (rw [if_pos (by decide +kernel)]; kernel_rfl) | (rw [if_neg (by decide +kernel)]; exact ⟨rfl, rfl⟩))
    (fun os started H enc _ => lifted os started H enc)
theorem proved : Rows.TimecodeReadsSaid := over
/-- The tied card. -/
theorem card : Claim7.holds Tryd.pinned (.plain (OpenSpec.ofChange Rows.timecodeReadsSpec)) Rows.timecodeReadsCard :=
  Claim7.holds_tied_plain_at .later [] [.handle, .data] true (true, "6c896fbda61ced21a95e259483043d9333b2030e9b428651e9d81825994c16fb") true
    proved (fun _ h => by cases h) (by kernel_rfl) (fun _ h => by cases h) timecodeReads_row_tie rfl ⟨rfl, rfl⟩ (by kernel_rfl) rfl
    (fun f fn hf hfn => by
      obtain rfl : f = 8 := Option.some.inj ((show Tryd.prog.funcNamed Rows.timecodeReadsRow.func = some 8 by kernel_rfl).symm.trans hf) |>.symm
      obtain rfl : fn = Tryd.f8 := (Option.some.inj (Tryd.func8.symm.trans hfn)).symm
      exact ⟨by kernel_rfl, fun j t ht => by
        have hall : (Tryd.f8.params.all fun t => !(Tryd.prog.wantsStandIn t)) = true := by kernel_rfl
        have h1 := Array.all_eq_true'.1 hall t (Array.mem_of_getElem? ht)
        exact Bool.eq_false_iff.2 fun e => by have e2 : Tryd.prog.wantsStandIn t = true := e; rw [e2] at h1; cases h1⟩)
    (by kernel_rfl)
end Go.Proofs.YtjmhjhmlcjkjeaaDoor.timecodeReads
namespace Go.Proofs.YtjmhjhmlcjkjeaaDoor
/-- The card, under a short name, for the claim. -/
theorem timecodeReads_card_holds : Rows.TimecodeReadsCardSaid := timecodeReads.card
#print axioms timecodeReads_card_holds
end Go.Proofs.YtjmhjhmlcjkjeaaDoor
