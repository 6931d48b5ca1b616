/-
  No cell of these rows narrows 'for every input' (looked for: loops, veiled, ifaces, maps, wideKeys, modest, calm, conditions, laid).
  DERIVED. THE GIVEN ROWS OF THIS SEAT. 6 by the template 'for every input the law returns true; each argument reads behind the call as it read before'; 0 by the template 'total and deterministic' (their statements: YtdhajlkiiphlfaaTotals.lean).
  GIVEN WITH THE SEED: the statements are not yours to turn. If you find one false, say at which input.
  Laid BY PROGRAM, IN A SANDBOX (cutbox-rows.mjs): the forced cells as the released guide's own fill.sh prints them over the translation bce84ea2d044002a… (all of the seat's roots in one cut). By AI agents, Wed Nov 11 2026. No macro, syntax, notation, axiom, sorry.
-/
import Derived.Test.YtdhajlkiiphlfaaChecked
import GoSem.Claim
import GoSem.ClaimJoined
import GoSem.ClaimMapViews
import Derived.JoinedTies
import Derived.KernelRfl
namespace Go.Proofs.Ytdhajlkiiphlfaa
/- THE CELL 'sum', in the pinned program and in every row, IS THE sha256 OF THE DUMP (.gsa) THAT YtdhajlkiiphlfaaProg.lean LOADS. Nothing in Lean hashes anything: it is a label: what it is worth is what the hold of that sum in a sandbox is worth. -/
noncomputable def Try.pinned : Pinned := { name := "ytdhajlkiiphlfaa", sum := "bce84ea2d044002a06240cb7d71ab49f425a4c9724b7d9ba1ced270a3b6e55fd", checked := Try.checked }
namespace Rows
def none {H : Type} : Left H := { results := [], args := [] }

/-- 'dailieslaw05.ParityNames': WHATEVER THE INPUT: true; the input reads as it did. -/
def parityNamesSpec : ChangeSpec := { name := "parityNames", fn := fun _ => fun
  | [] => { results := [.lit (.bool true)], args := [] }
  | _ => none }
def parityNamesRow : OpenClaim := { program := "ytdhajlkiiphlfaa", sum := "bce84ea2d044002a06240cb7d71ab49f425a4c9724b7d9ba1ced270a3b6e55fd", func := "dailies/dailieslaw05.ParityNames", spec := "parityNames", apart := false }
def ParityNamesSaid : Prop := parityNamesRow.holds Try.pinned (OpenSpec.ofChange parityNamesSpec)

/-- ITS FALSE NEIGHBOUR: 'it returns false'. Refute it at one input. -/
def parityNamesWrong : ChangeSpec := { name := "parityNames", fn := fun _ => fun
  | [] => { results := [.lit (.bool false)], args := [] }
  | _ => none }
def ParityNamesWrongFalsely : Prop := parityNamesRow.holds Try.pinned (OpenSpec.ofChange parityNamesWrong)

/-- 'dailieslaw05.ParityPlays': WHATEVER THE INPUT: true; the input reads as it did. -/
def parityPlaysSpec : ChangeSpec := { name := "parityPlays", fn := fun _ => fun
  | [d] => { results := [.lit (.bool true)], args := [d] }
  | _ => none }
def parityPlaysRow : OpenClaim := { program := "ytdhajlkiiphlfaa", sum := "bce84ea2d044002a06240cb7d71ab49f425a4c9724b7d9ba1ced270a3b6e55fd", func := "dailies/dailieslaw05.ParityPlays", spec := "parityPlays", apart := false }
def ParityPlaysSaid : Prop := parityPlaysRow.holds Try.pinned (OpenSpec.ofChange parityPlaysSpec)

/-- ITS FALSE NEIGHBOUR: 'it returns false'. Refute it at one input. -/
def parityPlaysWrong : ChangeSpec := { name := "parityPlays", fn := fun _ => fun
  | [d] => { results := [.lit (.bool false)], args := [d] }
  | _ => none }
def ParityPlaysWrongFalsely : Prop := parityPlaysRow.holds Try.pinned (OpenSpec.ofChange parityPlaysWrong)

/-- 'dailieslaw05.ParityBack': WHATEVER THE INPUT: true; the input reads as it did. -/
def parityBackSpec : ChangeSpec := { name := "parityBack", fn := fun _ => fun
  | [d1, d2, d3] => { results := [.lit (.bool true)], args := [d1, d2, d3] }
  | _ => none }
def parityBackRow : OpenClaim := { program := "ytdhajlkiiphlfaa", sum := "bce84ea2d044002a06240cb7d71ab49f425a4c9724b7d9ba1ced270a3b6e55fd", func := "dailies/dailieslaw05.ParityBack", spec := "parityBack", apart := false }
def ParityBackSaid : Prop := parityBackRow.holds Try.pinned (OpenSpec.ofChange parityBackSpec)

/-- ITS FALSE NEIGHBOUR: 'it returns false'. Refute it at one input. -/
def parityBackWrong : ChangeSpec := { name := "parityBack", fn := fun _ => fun
  | [d1, d2, d3] => { results := [.lit (.bool false)], args := [d1, d2, d3] }
  | _ => none }
def ParityBackWrongFalsely : Prop := parityBackRow.holds Try.pinned (OpenSpec.ofChange parityBackWrong)

/-- 'dailieslaw05.ParitySums': WHATEVER THE INPUT: true; the input reads as it did. -/
def paritySumsSpec : ChangeSpec := { name := "paritySums", fn := fun _ => fun
  | [d1, d2, d3, d4] => { results := [.lit (.bool true)], args := [d1, d2, d3, d4] }
  | _ => none }
def paritySumsRow : OpenClaim := { program := "ytdhajlkiiphlfaa", sum := "bce84ea2d044002a06240cb7d71ab49f425a4c9724b7d9ba1ced270a3b6e55fd", func := "dailies/dailieslaw05.ParitySums", spec := "paritySums", apart := false }
def ParitySumsSaid : Prop := paritySumsRow.holds Try.pinned (OpenSpec.ofChange paritySumsSpec)

/-- ITS FALSE NEIGHBOUR: 'it returns false'. Refute it at one input. -/
def paritySumsWrong : ChangeSpec := { name := "paritySums", fn := fun _ => fun
  | [d1, d2, d3, d4] => { results := [.lit (.bool false)], args := [d1, d2, d3, d4] }
  | _ => none }
def ParitySumsWrongFalsely : Prop := paritySumsRow.holds Try.pinned (OpenSpec.ofChange paritySumsWrong)

/-- 'dailieslaw05.ParityWide': WHATEVER THE INPUT: true; the input reads as it did. -/
def parityWideSpec : ChangeSpec := { name := "parityWide", fn := fun _ => fun
  | [d1, d2, d3] => { results := [.lit (.bool true)], args := [d1, d2, d3] }
  | _ => none }
def parityWideRow : OpenClaim := { program := "ytdhajlkiiphlfaa", sum := "bce84ea2d044002a06240cb7d71ab49f425a4c9724b7d9ba1ced270a3b6e55fd", func := "dailies/dailieslaw05.ParityWide", spec := "parityWide", apart := false }
def ParityWideSaid : Prop := parityWideRow.holds Try.pinned (OpenSpec.ofChange parityWideSpec)

/-- ITS FALSE NEIGHBOUR: 'it returns false'. Refute it at one input. -/
def parityWideWrong : ChangeSpec := { name := "parityWide", fn := fun _ => fun
  | [d1, d2, d3] => { results := [.lit (.bool false)], args := [d1, d2, d3] }
  | _ => none }
def ParityWideWrongFalsely : Prop := parityWideRow.holds Try.pinned (OpenSpec.ofChange parityWideWrong)

/-- 'dailieslaw05.ParityLong': WHATEVER THE INPUT: true; the input reads as it did. -/
def parityLongSpec : ChangeSpec := { name := "parityLong", fn := fun _ => fun
  | [d] => { results := [.lit (.bool true)], args := [d] }
  | _ => none }
def parityLongRow : OpenClaim := { program := "ytdhajlkiiphlfaa", sum := "bce84ea2d044002a06240cb7d71ab49f425a4c9724b7d9ba1ced270a3b6e55fd", func := "dailies/dailieslaw05.ParityLong", spec := "parityLong", apart := false }
def ParityLongSaid : Prop := parityLongRow.holds Try.pinned (OpenSpec.ofChange parityLongSpec)

/-- ITS FALSE NEIGHBOUR: 'it returns false'. Refute it at one input. -/
def parityLongWrong : ChangeSpec := { name := "parityLong", fn := fun _ => fun
  | [d] => { results := [.lit (.bool false)], args := [d] }
  | _ => none }
def ParityLongWrongFalsely : Prop := parityLongRow.holds Try.pinned (OpenSpec.ofChange parityLongWrong)

/- THE SECOND FORM. 'bulk': how many values and letters a reading holds, each counted each time it is reached (what is shared counts as often as it is met; a slice's spare places count too). A statement '..UptoSaid' is the law's where the arguments, and the package variables that the reading takes, are together of bulk at most 1048576: NARROWER than '..Said'. Prove '..Said' where nothing that the law and all that it calls make is longer than what came in: it says more and counts as full. Else prove '..UptoSaid'. A law counts once. -/
mutual
def uptoBulk {H : Type} : DataW H → Nat
  | .lit (.string bytes) => bytes.length + 1
  | .lit _ => 1
  | .nil => 1
  | .ptr d => uptoBulk d + 1
  | .slice elems spare => uptoBulkAll elems + uptoBulkAll spare + 1
  | .agg parts => uptoBulkAll parts + 1
  | .iface _ d => uptoBulk d + 1
  | .map entries => uptoBulkEntries entries + 1
  | .held _ => 1
def uptoBulkAll {H : Type} : List (DataW H) → Nat
  | [] => 0
  | d :: r => uptoBulk d + uptoBulkAll r
def uptoBulkEntries {H : Type} : List (Lit × DataW H) → Nat
  | [] => 0
  | x :: r => uptoBulkEntry x + uptoBulkEntries r
def uptoBulkEntry {H : Type} : Lit × DataW H → Nat
  | (.string bytes, d) => bytes.length + uptoBulk d + 1
  | (_, d) => uptoBulk d + 1
 end
def uptoSmall : (H : Type) → List (DataW H) → Bool := fun _ ds => decide (uptoBulkAll ds ≤ 1048576)
def OpenSpec.upto (s : _root_.Go.ChangeSpec) : _root_.Go.OpenSpec := { _root_.Go.OpenSpec.ofChange s with cond := some uptoSmall }

/-- 'dailieslaw05.ParityNames', WHERE WHAT IT READS IS OF BULK AT MOST 1048576: true; the input reads as it did. -/
def parityNamesUptoRow : OpenClaim := { program := "ytdhajlkiiphlfaa", sum := "bce84ea2d044002a06240cb7d71ab49f425a4c9724b7d9ba1ced270a3b6e55fd", func := "dailies/dailieslaw05.ParityNames", spec := "parityNames", apart := false, narrowed := true }
def ParityNamesUptoSaid : Prop := parityNamesUptoRow.holds Try.pinned (OpenSpec.upto parityNamesSpec)

/-- 'dailieslaw05.ParityPlays', WHERE WHAT IT READS IS OF BULK AT MOST 1048576: true; the input reads as it did. -/
def parityPlaysUptoRow : OpenClaim := { program := "ytdhajlkiiphlfaa", sum := "bce84ea2d044002a06240cb7d71ab49f425a4c9724b7d9ba1ced270a3b6e55fd", func := "dailies/dailieslaw05.ParityPlays", spec := "parityPlays", apart := false, narrowed := true }
def ParityPlaysUptoSaid : Prop := parityPlaysUptoRow.holds Try.pinned (OpenSpec.upto parityPlaysSpec)

/-- 'dailieslaw05.ParityBack', WHERE WHAT IT READS IS OF BULK AT MOST 1048576: true; the input reads as it did. -/
def parityBackUptoRow : OpenClaim := { program := "ytdhajlkiiphlfaa", sum := "bce84ea2d044002a06240cb7d71ab49f425a4c9724b7d9ba1ced270a3b6e55fd", func := "dailies/dailieslaw05.ParityBack", spec := "parityBack", apart := false, narrowed := true }
def ParityBackUptoSaid : Prop := parityBackUptoRow.holds Try.pinned (OpenSpec.upto parityBackSpec)

/-- 'dailieslaw05.ParitySums', WHERE WHAT IT READS IS OF BULK AT MOST 1048576: true; the input reads as it did. -/
def paritySumsUptoRow : OpenClaim := { program := "ytdhajlkiiphlfaa", sum := "bce84ea2d044002a06240cb7d71ab49f425a4c9724b7d9ba1ced270a3b6e55fd", func := "dailies/dailieslaw05.ParitySums", spec := "paritySums", apart := false, narrowed := true }
def ParitySumsUptoSaid : Prop := paritySumsUptoRow.holds Try.pinned (OpenSpec.upto paritySumsSpec)

/-- 'dailieslaw05.ParityWide', WHERE WHAT IT READS IS OF BULK AT MOST 1048576: true; the input reads as it did. -/
def parityWideUptoRow : OpenClaim := { program := "ytdhajlkiiphlfaa", sum := "bce84ea2d044002a06240cb7d71ab49f425a4c9724b7d9ba1ced270a3b6e55fd", func := "dailies/dailieslaw05.ParityWide", spec := "parityWide", apart := false, narrowed := true }
def ParityWideUptoSaid : Prop := parityWideUptoRow.holds Try.pinned (OpenSpec.upto parityWideSpec)

/-- 'dailieslaw05.ParityLong', WHERE WHAT IT READS IS OF BULK AT MOST 1048576: true; the input reads as it did. -/
def parityLongUptoRow : OpenClaim := { program := "ytdhajlkiiphlfaa", sum := "bce84ea2d044002a06240cb7d71ab49f425a4c9724b7d9ba1ced270a3b6e55fd", func := "dailies/dailieslaw05.ParityLong", spec := "parityLong", apart := false, narrowed := true }
def ParityLongUptoSaid : Prop := parityLongUptoRow.holds Try.pinned (OpenSpec.upto parityLongSpec)

end Rows
end Go.Proofs.Ytdhajlkiiphlfaa
