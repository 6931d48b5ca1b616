/-
  No cell of these rows narrows 'for every input' (looked for: loops, veiled, ifaces, maps, wideKeys, modest, calm, conditions, laid).
  DERIVED. THE GIVEN ROWS OF THIS SEAT. 8 by the template 'for every input the law returns true; each argument reads behind the call as it read before'; 0 by the template 'total and deterministic' (their statements: YtdleoljbnjjdgaaTotals.lean).
  GIVEN WITH THE SEED: the statements are not yours to turn. If you find one false, say at which input.
  Laid BY PROGRAM, IN A SANDBOX (cutbox-rows.mjs): the forced cells as the released guide's own fill.sh prints them over the translation dd2b746f48ac5c51… (all of the seat's roots in one cut). By AI agents, Wed Nov 11 2026. No macro, syntax, notation, axiom, sorry.
-/
import Derived.Test.YtdleoljbnjjdgaaChecked
import GoSem.Claim
import GoSem.ClaimJoined
import GoSem.ClaimMapViews
import Derived.JoinedTies
import Derived.KernelRfl
namespace Go.Proofs.Ytdleoljbnjjdgaa
/- THE CELL 'sum', in the pinned program and in every row, IS THE sha256 OF THE DUMP (.gsa) THAT YtdleoljbnjjdgaaProg.lean LOADS. Nothing in Lean hashes anything: it is a label: what it is worth is what the hold of that sum in a sandbox is worth. -/
noncomputable def Try.pinned : Pinned := { name := "ytdleoljbnjjdgaa", sum := "dd2b746f48ac5c51f88977d93f38d90b4e93941fec4fd6873e364d4de4c77fb7", checked := Try.checked }
namespace Rows
def none {H : Type} : Left H := { results := [], args := [] }

/-- 'dailieslaw04.FieldNames': WHATEVER THE INPUT: true; the input reads as it did. -/
def fieldNamesSpec : ChangeSpec := { name := "fieldNames", fn := fun _ => fun
  | [] => { results := [.lit (.bool true)], args := [] }
  | _ => none }
def fieldNamesRow : OpenClaim := { program := "ytdleoljbnjjdgaa", sum := "dd2b746f48ac5c51f88977d93f38d90b4e93941fec4fd6873e364d4de4c77fb7", func := "dailies/dailieslaw04.FieldNames", spec := "fieldNames", apart := false }
def FieldNamesSaid : Prop := fieldNamesRow.holds Try.pinned (OpenSpec.ofChange fieldNamesSpec)

/-- ITS FALSE NEIGHBOUR: 'it returns false'. Refute it at one input. -/
def fieldNamesWrong : ChangeSpec := { name := "fieldNames", fn := fun _ => fun
  | [] => { results := [.lit (.bool false)], args := [] }
  | _ => none }
def FieldNamesWrongFalsely : Prop := fieldNamesRow.holds Try.pinned (OpenSpec.ofChange fieldNamesWrong)

/-- 'dailieslaw04.FieldLaws': WHATEVER THE INPUT: true; the input reads as it did. -/
def fieldLawsSpec : ChangeSpec := { name := "fieldLaws", fn := fun _ => fun
  | [d1, d2, d3] => { results := [.lit (.bool true)], args := [d1, d2, d3] }
  | _ => none }
def fieldLawsRow : OpenClaim := { program := "ytdleoljbnjjdgaa", sum := "dd2b746f48ac5c51f88977d93f38d90b4e93941fec4fd6873e364d4de4c77fb7", func := "dailies/dailieslaw04.FieldLaws", spec := "fieldLaws", apart := false }
def FieldLawsSaid : Prop := fieldLawsRow.holds Try.pinned (OpenSpec.ofChange fieldLawsSpec)

/-- ITS FALSE NEIGHBOUR: 'it returns false'. Refute it at one input. -/
def fieldLawsWrong : ChangeSpec := { name := "fieldLaws", fn := fun _ => fun
  | [d1, d2, d3] => { results := [.lit (.bool false)], args := [d1, d2, d3] }
  | _ => none }
def FieldLawsWrongFalsely : Prop := fieldLawsRow.holds Try.pinned (OpenSpec.ofChange fieldLawsWrong)

/-- 'dailieslaw04.FieldDots': WHATEVER THE INPUT: true; the input reads as it did. -/
def fieldDotsSpec : ChangeSpec := { name := "fieldDots", fn := fun _ => fun
  | [d1, d2] => { results := [.lit (.bool true)], args := [d1, d2] }
  | _ => none }
def fieldDotsRow : OpenClaim := { program := "ytdleoljbnjjdgaa", sum := "dd2b746f48ac5c51f88977d93f38d90b4e93941fec4fd6873e364d4de4c77fb7", func := "dailies/dailieslaw04.FieldDots", spec := "fieldDots", apart := false }
def FieldDotsSaid : Prop := fieldDotsRow.holds Try.pinned (OpenSpec.ofChange fieldDotsSpec)

/-- ITS FALSE NEIGHBOUR: 'it returns false'. Refute it at one input. -/
def fieldDotsWrong : ChangeSpec := { name := "fieldDots", fn := fun _ => fun
  | [d1, d2] => { results := [.lit (.bool false)], args := [d1, d2] }
  | _ => none }
def FieldDotsWrongFalsely : Prop := fieldDotsRow.holds Try.pinned (OpenSpec.ofChange fieldDotsWrong)

/-- 'dailieslaw04.FieldPowers': WHATEVER THE INPUT: true; the input reads as it did. -/
def fieldPowersSpec : ChangeSpec := { name := "fieldPowers", fn := fun _ => fun
  | [d1, d2, d3] => { results := [.lit (.bool true)], args := [d1, d2, d3] }
  | _ => none }
def fieldPowersRow : OpenClaim := { program := "ytdleoljbnjjdgaa", sum := "dd2b746f48ac5c51f88977d93f38d90b4e93941fec4fd6873e364d4de4c77fb7", func := "dailies/dailieslaw04.FieldPowers", spec := "fieldPowers", apart := false }
def FieldPowersSaid : Prop := fieldPowersRow.holds Try.pinned (OpenSpec.ofChange fieldPowersSpec)

/-- ITS FALSE NEIGHBOUR: 'it returns false'. Refute it at one input. -/
def fieldPowersWrong : ChangeSpec := { name := "fieldPowers", fn := fun _ => fun
  | [d1, d2, d3] => { results := [.lit (.bool false)], args := [d1, d2, d3] }
  | _ => none }
def FieldPowersWrongFalsely : Prop := fieldPowersRow.holds Try.pinned (OpenSpec.ofChange fieldPowersWrong)

/-- 'dailieslaw04.FieldCauchys': WHATEVER THE INPUT: true; the input reads as it did. -/
def fieldCauchysSpec : ChangeSpec := { name := "fieldCauchys", fn := fun _ => fun
  | [d1, d2] => { results := [.lit (.bool true)], args := [d1, d2] }
  | _ => none }
def fieldCauchysRow : OpenClaim := { program := "ytdleoljbnjjdgaa", sum := "dd2b746f48ac5c51f88977d93f38d90b4e93941fec4fd6873e364d4de4c77fb7", func := "dailies/dailieslaw04.FieldCauchys", spec := "fieldCauchys", apart := false }
def FieldCauchysSaid : Prop := fieldCauchysRow.holds Try.pinned (OpenSpec.ofChange fieldCauchysSpec)

/-- ITS FALSE NEIGHBOUR: 'it returns false'. Refute it at one input. -/
def fieldCauchysWrong : ChangeSpec := { name := "fieldCauchys", fn := fun _ => fun
  | [d1, d2] => { results := [.lit (.bool false)], args := [d1, d2] }
  | _ => none }
def FieldCauchysWrongFalsely : Prop := fieldCauchysRow.holds Try.pinned (OpenSpec.ofChange fieldCauchysWrong)

/-- 'dailieslaw04.FieldOne': WHATEVER THE INPUT: true; the input reads as it did. -/
def fieldOneSpec : ChangeSpec := { name := "fieldOne", fn := fun _ => fun
  | [d1, d2, d3] => { results := [.lit (.bool true)], args := [d1, d2, d3] }
  | _ => none }
def fieldOneRow : OpenClaim := { program := "ytdleoljbnjjdgaa", sum := "dd2b746f48ac5c51f88977d93f38d90b4e93941fec4fd6873e364d4de4c77fb7", func := "dailies/dailieslaw04.FieldOne", spec := "fieldOne", apart := false }
def FieldOneSaid : Prop := fieldOneRow.holds Try.pinned (OpenSpec.ofChange fieldOneSpec)

/-- ITS FALSE NEIGHBOUR: 'it returns false'. Refute it at one input. -/
def fieldOneWrong : ChangeSpec := { name := "fieldOne", fn := fun _ => fun
  | [d1, d2, d3] => { results := [.lit (.bool false)], args := [d1, d2, d3] }
  | _ => none }
def FieldOneWrongFalsely : Prop := fieldOneRow.holds Try.pinned (OpenSpec.ofChange fieldOneWrong)

/-- 'dailieslaw04.FieldThere': WHATEVER THE INPUT: true; the input reads as it did. -/
def fieldThereSpec : ChangeSpec := { name := "fieldThere", fn := fun _ => fun
  | [d1, d2, d3] => { results := [.lit (.bool true)], args := [d1, d2, d3] }
  | _ => none }
def fieldThereRow : OpenClaim := { program := "ytdleoljbnjjdgaa", sum := "dd2b746f48ac5c51f88977d93f38d90b4e93941fec4fd6873e364d4de4c77fb7", func := "dailies/dailieslaw04.FieldThere", spec := "fieldThere", apart := false }
def FieldThereSaid : Prop := fieldThereRow.holds Try.pinned (OpenSpec.ofChange fieldThereSpec)

/-- ITS FALSE NEIGHBOUR: 'it returns false'. Refute it at one input. -/
def fieldThereWrong : ChangeSpec := { name := "fieldThere", fn := fun _ => fun
  | [d1, d2, d3] => { results := [.lit (.bool false)], args := [d1, d2, d3] }
  | _ => none }
def FieldThereWrongFalsely : Prop := fieldThereRow.holds Try.pinned (OpenSpec.ofChange fieldThereWrong)

/-- 'dailieslaw04.FieldCauchy': WHATEVER THE INPUT: true; the input reads as it did. -/
def fieldCauchySpec : ChangeSpec := { name := "fieldCauchy", fn := fun _ => fun
  | [d1, d2, d3] => { results := [.lit (.bool true)], args := [d1, d2, d3] }
  | _ => none }
def fieldCauchyRow : OpenClaim := { program := "ytdleoljbnjjdgaa", sum := "dd2b746f48ac5c51f88977d93f38d90b4e93941fec4fd6873e364d4de4c77fb7", func := "dailies/dailieslaw04.FieldCauchy", spec := "fieldCauchy", apart := false }
def FieldCauchySaid : Prop := fieldCauchyRow.holds Try.pinned (OpenSpec.ofChange fieldCauchySpec)

/-- ITS FALSE NEIGHBOUR: 'it returns false'. Refute it at one input. -/
def fieldCauchyWrong : ChangeSpec := { name := "fieldCauchy", fn := fun _ => fun
  | [d1, d2, d3] => { results := [.lit (.bool false)], args := [d1, d2, d3] }
  | _ => none }
def FieldCauchyWrongFalsely : Prop := fieldCauchyRow.holds Try.pinned (OpenSpec.ofChange fieldCauchyWrong)

/- THE SECOND FORM. 'bulk': how many values and letters a reading holds, each counted each time it is reached (what is shared counts as often as it is met; a slice's spare places count too). A statement '..UptoSaid' is the law's where the arguments, and the package variables that the reading takes, are together of bulk at most 1048576: NARROWER than '..Said'. Prove '..Said' where nothing that the law and all that it calls make is longer than what came in: it says more and counts as full. Else prove '..UptoSaid'. A law counts once. -/
mutual
def uptoBulk {H : Type} : DataW H → Nat
  | .lit (.string bytes) => bytes.length + 1
  | .lit _ => 1
  | .nil => 1
  | .ptr d => uptoBulk d + 1
  | .slice elems spare => uptoBulkAll elems + uptoBulkAll spare + 1
  | .agg parts => uptoBulkAll parts + 1
  | .iface _ d => uptoBulk d + 1
  | .map entries => uptoBulkEntries entries + 1
  | .held _ => 1
def uptoBulkAll {H : Type} : List (DataW H) → Nat
  | [] => 0
  | d :: r => uptoBulk d + uptoBulkAll r
def uptoBulkEntries {H : Type} : List (Lit × DataW H) → Nat
  | [] => 0
  | x :: r => uptoBulkEntry x + uptoBulkEntries r
def uptoBulkEntry {H : Type} : Lit × DataW H → Nat
  | (.string bytes, d) => bytes.length + uptoBulk d + 1
  | (_, d) => uptoBulk d + 1
 end
def uptoSmall : (H : Type) → List (DataW H) → Bool := fun _ ds => decide (uptoBulkAll ds ≤ 1048576)
def OpenSpec.upto (s : _root_.Go.ChangeSpec) : _root_.Go.OpenSpec := { _root_.Go.OpenSpec.ofChange s with cond := some uptoSmall }

/-- 'dailieslaw04.FieldNames', WHERE WHAT IT READS IS OF BULK AT MOST 1048576: true; the input reads as it did. -/
def fieldNamesUptoRow : OpenClaim := { program := "ytdleoljbnjjdgaa", sum := "dd2b746f48ac5c51f88977d93f38d90b4e93941fec4fd6873e364d4de4c77fb7", func := "dailies/dailieslaw04.FieldNames", spec := "fieldNames", apart := false, narrowed := true }
def FieldNamesUptoSaid : Prop := fieldNamesUptoRow.holds Try.pinned (OpenSpec.upto fieldNamesSpec)

/-- 'dailieslaw04.FieldLaws', WHERE WHAT IT READS IS OF BULK AT MOST 1048576: true; the input reads as it did. -/
def fieldLawsUptoRow : OpenClaim := { program := "ytdleoljbnjjdgaa", sum := "dd2b746f48ac5c51f88977d93f38d90b4e93941fec4fd6873e364d4de4c77fb7", func := "dailies/dailieslaw04.FieldLaws", spec := "fieldLaws", apart := false, narrowed := true }
def FieldLawsUptoSaid : Prop := fieldLawsUptoRow.holds Try.pinned (OpenSpec.upto fieldLawsSpec)

/-- 'dailieslaw04.FieldDots', WHERE WHAT IT READS IS OF BULK AT MOST 1048576: true; the input reads as it did. -/
def fieldDotsUptoRow : OpenClaim := { program := "ytdleoljbnjjdgaa", sum := "dd2b746f48ac5c51f88977d93f38d90b4e93941fec4fd6873e364d4de4c77fb7", func := "dailies/dailieslaw04.FieldDots", spec := "fieldDots", apart := false, narrowed := true }
def FieldDotsUptoSaid : Prop := fieldDotsUptoRow.holds Try.pinned (OpenSpec.upto fieldDotsSpec)

/-- 'dailieslaw04.FieldPowers', WHERE WHAT IT READS IS OF BULK AT MOST 1048576: true; the input reads as it did. -/
def fieldPowersUptoRow : OpenClaim := { program := "ytdleoljbnjjdgaa", sum := "dd2b746f48ac5c51f88977d93f38d90b4e93941fec4fd6873e364d4de4c77fb7", func := "dailies/dailieslaw04.FieldPowers", spec := "fieldPowers", apart := false, narrowed := true }
def FieldPowersUptoSaid : Prop := fieldPowersUptoRow.holds Try.pinned (OpenSpec.upto fieldPowersSpec)

/-- 'dailieslaw04.FieldCauchys', WHERE WHAT IT READS IS OF BULK AT MOST 1048576: true; the input reads as it did. -/
def fieldCauchysUptoRow : OpenClaim := { program := "ytdleoljbnjjdgaa", sum := "dd2b746f48ac5c51f88977d93f38d90b4e93941fec4fd6873e364d4de4c77fb7", func := "dailies/dailieslaw04.FieldCauchys", spec := "fieldCauchys", apart := false, narrowed := true }
def FieldCauchysUptoSaid : Prop := fieldCauchysUptoRow.holds Try.pinned (OpenSpec.upto fieldCauchysSpec)

/-- 'dailieslaw04.FieldOne', WHERE WHAT IT READS IS OF BULK AT MOST 1048576: true; the input reads as it did. -/
def fieldOneUptoRow : OpenClaim := { program := "ytdleoljbnjjdgaa", sum := "dd2b746f48ac5c51f88977d93f38d90b4e93941fec4fd6873e364d4de4c77fb7", func := "dailies/dailieslaw04.FieldOne", spec := "fieldOne", apart := false, narrowed := true }
def FieldOneUptoSaid : Prop := fieldOneUptoRow.holds Try.pinned (OpenSpec.upto fieldOneSpec)

/-- 'dailieslaw04.FieldThere', WHERE WHAT IT READS IS OF BULK AT MOST 1048576: true; the input reads as it did. -/
def fieldThereUptoRow : OpenClaim := { program := "ytdleoljbnjjdgaa", sum := "dd2b746f48ac5c51f88977d93f38d90b4e93941fec4fd6873e364d4de4c77fb7", func := "dailies/dailieslaw04.FieldThere", spec := "fieldThere", apart := false, narrowed := true }
def FieldThereUptoSaid : Prop := fieldThereUptoRow.holds Try.pinned (OpenSpec.upto fieldThereSpec)

/-- 'dailieslaw04.FieldCauchy', WHERE WHAT IT READS IS OF BULK AT MOST 1048576: true; the input reads as it did. -/
def fieldCauchyUptoRow : OpenClaim := { program := "ytdleoljbnjjdgaa", sum := "dd2b746f48ac5c51f88977d93f38d90b4e93941fec4fd6873e364d4de4c77fb7", func := "dailies/dailieslaw04.FieldCauchy", spec := "fieldCauchy", apart := false, narrowed := true }
def FieldCauchyUptoSaid : Prop := fieldCauchyUptoRow.holds Try.pinned (OpenSpec.upto fieldCauchySpec)

end Rows
end Go.Proofs.Ytdleoljbnjjdgaa
