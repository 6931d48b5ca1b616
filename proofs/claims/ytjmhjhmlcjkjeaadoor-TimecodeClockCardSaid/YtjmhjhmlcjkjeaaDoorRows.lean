/-
  NARROWER THAN 'FOR EVERY INPUT', by the rows' own cells (each row's printed sentence says how): TimecodeBack: laid · TimecodeConverts: laid · TimecodeNumbers: laid · TimecodeClock: laid · TimecodeAlong: laid · TimecodeReads: laid.
  DERIVED. THE GIVEN ROWS OF THIS SEAT. 6 by the template 'for every input the law returns true; each argument reads behind the call as it read before'; 0 by the template 'total and deterministic' (their statements: YtjmhjhmlcjkjeaaDoorTotals.lean).
  GIVEN WITH THE SEED: the statements are not yours to turn. If you find one false, say at which input.
  Laid BY PROGRAM, IN A SANDBOX (cutbox-rows.mjs): the forced cells as the released guide's own fill.sh prints them over the translation f52980d11dfea393… (all of the seat's roots in one cut). By AI agents, Wed Nov 11 2026. No macro, syntax, notation, axiom, sorry.
-/
import Derived.Test.YtjmhjhmlcjkjeaaDoorChecked
import GoSem.Claim
import GoSem.ClaimJoined
import GoSem.ClaimMapViews
import Derived.JoinedTies
import Derived.KernelRfl
namespace Go.Proofs.YtjmhjhmlcjkjeaaDoor
/- THE CELL 'sum', in the pinned program and in every row, IS THE sha256 OF THE DUMP (.gsa) THAT YtjmhjhmlcjkjeaaDoorProg.lean LOADS. Nothing in Lean hashes anything: it is a label: what it is worth is what the hold of that sum in a sandbox is worth. -/
noncomputable def Tryd.pinned : Pinned := { name := "ytjmhjhmlcjkjeaadoor", sum := "f52980d11dfea39365fb4d285661d059824a4ae384e229c6e1b1581e9c3446f5", checked := Tryd.checked }
namespace Rows
def none {H : Type} : Left H := { results := [], args := [] }

/- WHAT THE LISTED PACKAGE-LEVEL VARIABLES READ AS WHEN THE CALL BEGINS. Each datum BY PROGRAM (the guide's laid-datum.mjs) off the statement by which the dump's own 'gosem.cut.vars' lays the variable. In a bare row this is a premise. The card (YtjmhjhmlcjkjeaaDoorCards.lean) ties it to the program's text. -/
def laid_dailies_timecode_table {H : Type} : DataW H := .agg [.agg [.lit (.int .i64 0), .lit (.int .i64 0), .lit (.int .i64 0), .lit (.int .i64 0)], .agg [.lit (.int .i64 24), .lit (.int .i64 24), .lit (.int .i64 1), .lit (.int .i64 0)], .agg [.lit (.int .i64 25), .lit (.int .i64 25), .lit (.int .i64 1), .lit (.int .i64 0)], .agg [.lit (.int .i64 30), .lit (.int .i64 30), .lit (.int .i64 1), .lit (.int .i64 0)], .agg [.lit (.int .i64 30), .lit (.int .i64 30000), .lit (.int .i64 1001), .lit (.int .i64 2)], .agg [.lit (.int .i64 50), .lit (.int .i64 50), .lit (.int .i64 1), .lit (.int .i64 0)], .agg [.lit (.int .i64 60), .lit (.int .i64 60), .lit (.int .i64 1), .lit (.int .i64 0)], .agg [.lit (.int .i64 60), .lit (.int .i64 60000), .lit (.int .i64 1001), .lit (.int .i64 4)]]
def laid_errors_errorType {H : Type} : DataW H := .iface "internal/reflectlite.rtype" (.agg [.ptr (.lit (.string [101, 114, 114, 111, 114]))])

/-- 'dailieslaw18.TimecodeBack': WHATEVER THE INPUT: true; the input reads as it did. -/
def timecodeBackSpec : ChangeSpec := { name := "timecodeBack", fn := fun _ => fun
  | [d1, d2, d3] => { results := [.lit (.bool true)], args := [d1, d2, d3] }
  | _ => none }
def timecodeBackRow : OpenClaim := { program := "ytjmhjhmlcjkjeaadoor", sum := "f52980d11dfea39365fb4d285661d059824a4ae384e229c6e1b1581e9c3446f5", func := "dailies/dailieslaw18.TimecodeBack", spec := "timecodeBack", unfollowed := true, recurses := true, named := ["dailies/timecode.table"], apart := false, laid := [("dailies/timecode.table", laid_dailies_timecode_table)] }
def TimecodeBackSaid : Prop := timecodeBackRow.holds Tryd.pinned (OpenSpec.ofChange timecodeBackSpec)

/-- ITS FALSE NEIGHBOUR: 'it returns false'. Refute it at one input. -/
def timecodeBackWrong : ChangeSpec := { name := "timecodeBack", fn := fun _ => fun
  | [d1, d2, d3] => { results := [.lit (.bool false)], args := [d1, d2, d3] }
  | _ => none }
def TimecodeBackWrongFalsely : Prop := timecodeBackRow.holds Tryd.pinned (OpenSpec.ofChange timecodeBackWrong)

/-- 'dailieslaw18.TimecodeConverts': WHATEVER THE INPUT: true; the input reads as it did. -/
def timecodeConvertsSpec : ChangeSpec := { name := "timecodeConverts", fn := fun _ => fun
  | [d1, d2, d3] => { results := [.lit (.bool true)], args := [d1, d2, d3] }
  | _ => none }
def timecodeConvertsRow : OpenClaim := { program := "ytjmhjhmlcjkjeaadoor", sum := "f52980d11dfea39365fb4d285661d059824a4ae384e229c6e1b1581e9c3446f5", func := "dailies/dailieslaw18.TimecodeConverts", spec := "timecodeConverts", unfollowed := true, recurses := true, named := ["dailies/timecode.table"], apart := false, laid := [("dailies/timecode.table", laid_dailies_timecode_table)] }
def TimecodeConvertsSaid : Prop := timecodeConvertsRow.holds Tryd.pinned (OpenSpec.ofChange timecodeConvertsSpec)

/-- ITS FALSE NEIGHBOUR: 'it returns false'. Refute it at one input. -/
def timecodeConvertsWrong : ChangeSpec := { name := "timecodeConverts", fn := fun _ => fun
  | [d1, d2, d3] => { results := [.lit (.bool false)], args := [d1, d2, d3] }
  | _ => none }
def TimecodeConvertsWrongFalsely : Prop := timecodeConvertsRow.holds Tryd.pinned (OpenSpec.ofChange timecodeConvertsWrong)

/-- 'dailieslaw18.TimecodeNumbers': WHATEVER THE INPUT: true; the input reads as it did. -/
def timecodeNumbersSpec : ChangeSpec := { name := "timecodeNumbers", fn := fun _ => fun
  | [d1, d2] => { results := [.lit (.bool true)], args := [d1, d2] }
  | _ => none }
def timecodeNumbersRow : OpenClaim := { program := "ytjmhjhmlcjkjeaadoor", sum := "f52980d11dfea39365fb4d285661d059824a4ae384e229c6e1b1581e9c3446f5", func := "dailies/dailieslaw18.TimecodeNumbers", spec := "timecodeNumbers", unfollowed := true, recurses := true, named := ["dailies/timecode.table"], apart := false, laid := [("dailies/timecode.table", laid_dailies_timecode_table)] }
def TimecodeNumbersSaid : Prop := timecodeNumbersRow.holds Tryd.pinned (OpenSpec.ofChange timecodeNumbersSpec)

/-- ITS FALSE NEIGHBOUR: 'it returns false'. Refute it at one input. -/
def timecodeNumbersWrong : ChangeSpec := { name := "timecodeNumbers", fn := fun _ => fun
  | [d1, d2] => { results := [.lit (.bool false)], args := [d1, d2] }
  | _ => none }
def TimecodeNumbersWrongFalsely : Prop := timecodeNumbersRow.holds Tryd.pinned (OpenSpec.ofChange timecodeNumbersWrong)

/-- 'dailieslaw18.TimecodeClock': WHATEVER THE INPUT: true; the input reads as it did. -/
def timecodeClockSpec : ChangeSpec := { name := "timecodeClock", fn := fun _ => fun
  | [d1, d2] => { results := [.lit (.bool true)], args := [d1, d2] }
  | _ => none }
def timecodeClockRow : OpenClaim := { program := "ytjmhjhmlcjkjeaadoor", sum := "f52980d11dfea39365fb4d285661d059824a4ae384e229c6e1b1581e9c3446f5", func := "dailies/dailieslaw18.TimecodeClock", spec := "timecodeClock", unfollowed := true, recurses := true, named := ["dailies/timecode.table"], apart := false, laid := [("dailies/timecode.table", laid_dailies_timecode_table)] }
def TimecodeClockSaid : Prop := timecodeClockRow.holds Tryd.pinned (OpenSpec.ofChange timecodeClockSpec)

/-- ITS FALSE NEIGHBOUR: 'it returns false'. Refute it at one input. -/
def timecodeClockWrong : ChangeSpec := { name := "timecodeClock", fn := fun _ => fun
  | [d1, d2] => { results := [.lit (.bool false)], args := [d1, d2] }
  | _ => none }
def TimecodeClockWrongFalsely : Prop := timecodeClockRow.holds Tryd.pinned (OpenSpec.ofChange timecodeClockWrong)

/-- 'dailieslaw18.TimecodeAlong': WHATEVER THE INPUT: true; the input reads as it did. -/
def timecodeAlongSpec : ChangeSpec := { name := "timecodeAlong", fn := fun _ => fun
  | [d1, d2, d3] => { results := [.lit (.bool true)], args := [d1, d2, d3] }
  | _ => none }
def timecodeAlongRow : OpenClaim := { program := "ytjmhjhmlcjkjeaadoor", sum := "f52980d11dfea39365fb4d285661d059824a4ae384e229c6e1b1581e9c3446f5", func := "dailies/dailieslaw18.TimecodeAlong", spec := "timecodeAlong", unfollowed := true, recurses := true, named := ["dailies/timecode.table"], apart := false, laid := [("dailies/timecode.table", laid_dailies_timecode_table)] }
def TimecodeAlongSaid : Prop := timecodeAlongRow.holds Tryd.pinned (OpenSpec.ofChange timecodeAlongSpec)

/-- ITS FALSE NEIGHBOUR: 'it returns false'. Refute it at one input. -/
def timecodeAlongWrong : ChangeSpec := { name := "timecodeAlong", fn := fun _ => fun
  | [d1, d2, d3] => { results := [.lit (.bool false)], args := [d1, d2, d3] }
  | _ => none }
def TimecodeAlongWrongFalsely : Prop := timecodeAlongRow.holds Tryd.pinned (OpenSpec.ofChange timecodeAlongWrong)

/-- 'dailieslaw18.TimecodeReads': WHATEVER THE INPUT: true; the input reads as it did. -/
def timecodeReadsSpec : ChangeSpec := { name := "timecodeReads", fn := fun _ => fun
  | [d1, d2, d3] => { results := [.lit (.bool true)], args := [d1, d2, d3] }
  | _ => none }
def timecodeReadsRow : OpenClaim := { program := "ytjmhjhmlcjkjeaadoor", sum := "f52980d11dfea39365fb4d285661d059824a4ae384e229c6e1b1581e9c3446f5", func := "dailies/dailieslaw18.TimecodeReads", spec := "timecodeReads", inPlace := ["internal/reflectlite.ValueOf", "(internal/reflectlite.Value).Type", "(internal/reflectlite.Value).IsNil", "internal/reflectlite.TypeOf", "(internal/reflectlite.Value).Elem", "(internal/reflectlite.Value).Set"], unfollowed := true, recurses := true, named := ["dailies/timecode.table", "errors.errorType"], apart := false, laid := [("errors.errorType", laid_errors_errorType), ("dailies/timecode.table", laid_dailies_timecode_table)] }
def TimecodeReadsSaid : Prop := timecodeReadsRow.holds Tryd.pinned (OpenSpec.ofChange timecodeReadsSpec)

/-- ITS FALSE NEIGHBOUR: 'it returns false'. Refute it at one input. -/
def timecodeReadsWrong : ChangeSpec := { name := "timecodeReads", fn := fun _ => fun
  | [d1, d2, d3] => { results := [.lit (.bool false)], args := [d1, d2, d3] }
  | _ => none }
def TimecodeReadsWrongFalsely : Prop := timecodeReadsRow.holds Tryd.pinned (OpenSpec.ofChange timecodeReadsWrong)

/- THE SECOND FORM. 'bulk': how many values and letters a reading holds, each counted each time it is reached (what is shared counts as often as it is met; a slice's spare places count too). A statement '..UptoSaid' is the law's where the arguments, and the package variables that the reading takes, are together of bulk at most 1048576: NARROWER than '..Said'. Prove '..Said' where nothing that the law and all that it calls make is longer than what came in: it says more and counts as full. Else prove '..UptoSaid'. A law counts once. -/
mutual
def uptoBulk {H : Type} : DataW H → Nat
  | .lit (.string bytes) => bytes.length + 1
  | .lit _ => 1
  | .nil => 1
  | .ptr d => uptoBulk d + 1
  | .slice elems spare => uptoBulkAll elems + uptoBulkAll spare + 1
  | .agg parts => uptoBulkAll parts + 1
  | .iface _ d => uptoBulk d + 1
  | .map entries => uptoBulkEntries entries + 1
  | .held _ => 1
def uptoBulkAll {H : Type} : List (DataW H) → Nat
  | [] => 0
  | d :: r => uptoBulk d + uptoBulkAll r
def uptoBulkEntries {H : Type} : List (Lit × DataW H) → Nat
  | [] => 0
  | x :: r => uptoBulkEntry x + uptoBulkEntries r
def uptoBulkEntry {H : Type} : Lit × DataW H → Nat
  | (.string bytes, d) => bytes.length + uptoBulk d + 1
  | (_, d) => uptoBulk d + 1
 end
def uptoSmall : (H : Type) → List (DataW H) → Bool := fun _ ds => decide (uptoBulkAll ds ≤ 1048576)
def OpenSpec.upto (s : _root_.Go.ChangeSpec) : _root_.Go.OpenSpec := { _root_.Go.OpenSpec.ofChange s with cond := some uptoSmall }

/-- 'dailieslaw18.TimecodeBack', WHERE WHAT IT READS IS OF BULK AT MOST 1048576: true; the input reads as it did. -/
def timecodeBackUptoRow : OpenClaim := { program := "ytjmhjhmlcjkjeaadoor", sum := "f52980d11dfea39365fb4d285661d059824a4ae384e229c6e1b1581e9c3446f5", func := "dailies/dailieslaw18.TimecodeBack", spec := "timecodeBack", unfollowed := true, recurses := true, named := ["dailies/timecode.table"], apart := false, laid := [("dailies/timecode.table", laid_dailies_timecode_table)], narrowed := true }
def TimecodeBackUptoSaid : Prop := timecodeBackUptoRow.holds Tryd.pinned (OpenSpec.upto timecodeBackSpec)

/-- 'dailieslaw18.TimecodeConverts', WHERE WHAT IT READS IS OF BULK AT MOST 1048576: true; the input reads as it did. -/
def timecodeConvertsUptoRow : OpenClaim := { program := "ytjmhjhmlcjkjeaadoor", sum := "f52980d11dfea39365fb4d285661d059824a4ae384e229c6e1b1581e9c3446f5", func := "dailies/dailieslaw18.TimecodeConverts", spec := "timecodeConverts", unfollowed := true, recurses := true, named := ["dailies/timecode.table"], apart := false, laid := [("dailies/timecode.table", laid_dailies_timecode_table)], narrowed := true }
def TimecodeConvertsUptoSaid : Prop := timecodeConvertsUptoRow.holds Tryd.pinned (OpenSpec.upto timecodeConvertsSpec)

/-- 'dailieslaw18.TimecodeNumbers', WHERE WHAT IT READS IS OF BULK AT MOST 1048576: true; the input reads as it did. -/
def timecodeNumbersUptoRow : OpenClaim := { program := "ytjmhjhmlcjkjeaadoor", sum := "f52980d11dfea39365fb4d285661d059824a4ae384e229c6e1b1581e9c3446f5", func := "dailies/dailieslaw18.TimecodeNumbers", spec := "timecodeNumbers", unfollowed := true, recurses := true, named := ["dailies/timecode.table"], apart := false, laid := [("dailies/timecode.table", laid_dailies_timecode_table)], narrowed := true }
def TimecodeNumbersUptoSaid : Prop := timecodeNumbersUptoRow.holds Tryd.pinned (OpenSpec.upto timecodeNumbersSpec)

/-- 'dailieslaw18.TimecodeClock', WHERE WHAT IT READS IS OF BULK AT MOST 1048576: true; the input reads as it did. -/
def timecodeClockUptoRow : OpenClaim := { program := "ytjmhjhmlcjkjeaadoor", sum := "f52980d11dfea39365fb4d285661d059824a4ae384e229c6e1b1581e9c3446f5", func := "dailies/dailieslaw18.TimecodeClock", spec := "timecodeClock", unfollowed := true, recurses := true, named := ["dailies/timecode.table"], apart := false, laid := [("dailies/timecode.table", laid_dailies_timecode_table)], narrowed := true }
def TimecodeClockUptoSaid : Prop := timecodeClockUptoRow.holds Tryd.pinned (OpenSpec.upto timecodeClockSpec)

/-- 'dailieslaw18.TimecodeAlong', WHERE WHAT IT READS IS OF BULK AT MOST 1048576: true; the input reads as it did. -/
def timecodeAlongUptoRow : OpenClaim := { program := "ytjmhjhmlcjkjeaadoor", sum := "f52980d11dfea39365fb4d285661d059824a4ae384e229c6e1b1581e9c3446f5", func := "dailies/dailieslaw18.TimecodeAlong", spec := "timecodeAlong", unfollowed := true, recurses := true, named := ["dailies/timecode.table"], apart := false, laid := [("dailies/timecode.table", laid_dailies_timecode_table)], narrowed := true }
def TimecodeAlongUptoSaid : Prop := timecodeAlongUptoRow.holds Tryd.pinned (OpenSpec.upto timecodeAlongSpec)

/-- 'dailieslaw18.TimecodeReads', WHERE WHAT IT READS IS OF BULK AT MOST 1048576: true; the input reads as it did. -/
def timecodeReadsUptoRow : OpenClaim := { program := "ytjmhjhmlcjkjeaadoor", sum := "f52980d11dfea39365fb4d285661d059824a4ae384e229c6e1b1581e9c3446f5", func := "dailies/dailieslaw18.TimecodeReads", spec := "timecodeReads", inPlace := ["internal/reflectlite.ValueOf", "(internal/reflectlite.Value).Type", "(internal/reflectlite.Value).IsNil", "internal/reflectlite.TypeOf", "(internal/reflectlite.Value).Elem", "(internal/reflectlite.Value).Set"], unfollowed := true, recurses := true, named := ["dailies/timecode.table", "errors.errorType"], apart := false, laid := [("errors.errorType", laid_errors_errorType), ("dailies/timecode.table", laid_dailies_timecode_table)], narrowed := true }
def TimecodeReadsUptoSaid : Prop := timecodeReadsUptoRow.holds Tryd.pinned (OpenSpec.upto timecodeReadsSpec)

end Rows
end Go.Proofs.YtjmhjhmlcjkjeaaDoor
