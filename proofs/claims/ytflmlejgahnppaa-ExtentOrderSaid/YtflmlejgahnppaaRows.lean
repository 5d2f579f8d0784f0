/-
  No cell of these rows narrows 'for every input' (looked for: loops, veiled, ifaces, maps, wideKeys, modest, calm, conditions, laid).
  DERIVED. THE GIVEN ROWS OF THIS SEAT. 3 by the template 'for every input the law returns true; each argument reads behind the call as it read before'; 0 by the template 'total and deterministic' (their statements: YtflmlejgahnppaaTotals.lean).
  GIVEN WITH THE SEED: the statements are not yours to turn. If you find one false, say at which input.
  Laid BY PROGRAM, IN A SANDBOX (cutbox-rows.mjs): the forced cells as the released guide's own fill.sh prints them over the translation e3e8851c901547dd… (all of the seat's roots in one cut). By AI agents, Wed Nov 11 2026. No macro, syntax, notation, axiom, sorry.
-/
import Derived.Test.YtflmlejgahnppaaChecked
import GoSem.Claim
import GoSem.ClaimJoined
import GoSem.ClaimMapViews
import Derived.JoinedTies
import Derived.KernelRfl
namespace Go.Proofs.Ytflmlejgahnppaa
/- THE CELL 'sum', in the pinned program and in every row, IS THE sha256 OF THE DUMP (.gsa) THAT YtflmlejgahnppaaProg.lean LOADS. Nothing in Lean hashes anything: it is a label: what it is worth is what the hold of that sum in a sandbox is worth. -/
noncomputable def Try.pinned : Pinned := { name := "ytflmlejgahnppaa", sum := "e3e8851c901547ddc1a05b0ee91dd71b993d5b73aff59626a24cb7d56c54df60", checked := Try.checked }
namespace Rows
def none {H : Type} : Left H := { results := [], args := [] }

/-- 'oakumlaw11.ExtentTells': WHATEVER THE INPUT: true; the input reads as it did. -/
def extentTellsSpec : ChangeSpec := { name := "extentTells", fn := fun _ => fun
  | [d1, d2, d3] => { results := [.lit (.bool true)], args := [d1, d2, d3] }
  | _ => none }
def extentTellsRow : OpenClaim := { program := "ytflmlejgahnppaa", sum := "e3e8851c901547ddc1a05b0ee91dd71b993d5b73aff59626a24cb7d56c54df60", func := "oakum/oakumlaw11.ExtentTells", spec := "extentTells", unfollowed := true, recurses := true, apart := false }
def ExtentTellsSaid : Prop := extentTellsRow.holds Try.pinned (OpenSpec.ofChange extentTellsSpec)

/-- ITS FALSE NEIGHBOUR: 'it returns false'. Refute it at one input. -/
def extentTellsWrong : ChangeSpec := { name := "extentTells", fn := fun _ => fun
  | [d1, d2, d3] => { results := [.lit (.bool false)], args := [d1, d2, d3] }
  | _ => none }
def ExtentTellsWrongFalsely : Prop := extentTellsRow.holds Try.pinned (OpenSpec.ofChange extentTellsWrong)

/-- 'oakumlaw11.ExtentWhole': WHATEVER THE INPUT: true; the input reads as it did. -/
def extentWholeSpec : ChangeSpec := { name := "extentWhole", fn := fun _ => fun
  | [d1, d2, d3] => { results := [.lit (.bool true)], args := [d1, d2, d3] }
  | _ => none }
def extentWholeRow : OpenClaim := { program := "ytflmlejgahnppaa", sum := "e3e8851c901547ddc1a05b0ee91dd71b993d5b73aff59626a24cb7d56c54df60", func := "oakum/oakumlaw11.ExtentWhole", spec := "extentWhole", unfollowed := true, recurses := true, apart := false }
def ExtentWholeSaid : Prop := extentWholeRow.holds Try.pinned (OpenSpec.ofChange extentWholeSpec)

/-- ITS FALSE NEIGHBOUR: 'it returns false'. Refute it at one input. -/
def extentWholeWrong : ChangeSpec := { name := "extentWhole", fn := fun _ => fun
  | [d1, d2, d3] => { results := [.lit (.bool false)], args := [d1, d2, d3] }
  | _ => none }
def ExtentWholeWrongFalsely : Prop := extentWholeRow.holds Try.pinned (OpenSpec.ofChange extentWholeWrong)

/-- 'oakumlaw11.ExtentOrder': WHATEVER THE INPUT: true; the input reads as it did. -/
def extentOrderSpec : ChangeSpec := { name := "extentOrder", fn := fun _ => fun
  | [d1, d2, d3] => { results := [.lit (.bool true)], args := [d1, d2, d3] }
  | _ => none }
def extentOrderRow : OpenClaim := { program := "ytflmlejgahnppaa", sum := "e3e8851c901547ddc1a05b0ee91dd71b993d5b73aff59626a24cb7d56c54df60", func := "oakum/oakumlaw11.ExtentOrder", spec := "extentOrder", unfollowed := true, recurses := true, apart := false }
def ExtentOrderSaid : Prop := extentOrderRow.holds Try.pinned (OpenSpec.ofChange extentOrderSpec)

/-- ITS FALSE NEIGHBOUR: 'it returns false'. Refute it at one input. -/
def extentOrderWrong : ChangeSpec := { name := "extentOrder", fn := fun _ => fun
  | [d1, d2, d3] => { results := [.lit (.bool false)], args := [d1, d2, d3] }
  | _ => none }
def ExtentOrderWrongFalsely : Prop := extentOrderRow.holds Try.pinned (OpenSpec.ofChange extentOrderWrong)

/- THE SECOND FORM. 'bulk': how many values and letters a reading holds, each counted each time it is reached (what is shared counts as often as it is met; a slice's spare places count too). A statement '..UptoSaid' is the law's where the arguments, and the package variables that the reading takes, are together of bulk at most 1048576: NARROWER than '..Said'. Prove '..Said' where nothing that the law and all that it calls make is longer than what came in: it says more and counts as full. Else prove '..UptoSaid'. A law counts once. -/
mutual
def uptoBulk {H : Type} : DataW H → Nat
  | .lit (.string bytes) => bytes.length + 1
  | .lit _ => 1
  | .nil => 1
  | .ptr d => uptoBulk d + 1
  | .slice elems spare => uptoBulkAll elems + uptoBulkAll spare + 1
  | .agg parts => uptoBulkAll parts + 1
  | .iface _ d => uptoBulk d + 1
  | .map entries => uptoBulkEntries entries + 1
  | .held _ => 1
def uptoBulkAll {H : Type} : List (DataW H) → Nat
  | [] => 0
  | d :: r => uptoBulk d + uptoBulkAll r
def uptoBulkEntries {H : Type} : List (Lit × DataW H) → Nat
  | [] => 0
  | x :: r => uptoBulkEntry x + uptoBulkEntries r
def uptoBulkEntry {H : Type} : Lit × DataW H → Nat
  | (.string bytes, d) => bytes.length + uptoBulk d + 1
  | (_, d) => uptoBulk d + 1
 end
def uptoSmall : (H : Type) → List (DataW H) → Bool := fun _ ds => decide (uptoBulkAll ds ≤ 1048576)
def OpenSpec.upto (s : _root_.Go.ChangeSpec) : _root_.Go.OpenSpec := { _root_.Go.OpenSpec.ofChange s with cond := some uptoSmall }

/-- 'oakumlaw11.ExtentTells', WHERE WHAT IT READS IS OF BULK AT MOST 1048576: true; the input reads as it did. -/
def extentTellsUptoRow : OpenClaim := { program := "ytflmlejgahnppaa", sum := "e3e8851c901547ddc1a05b0ee91dd71b993d5b73aff59626a24cb7d56c54df60", func := "oakum/oakumlaw11.ExtentTells", spec := "extentTells", unfollowed := true, recurses := true, apart := false, narrowed := true }
def ExtentTellsUptoSaid : Prop := extentTellsUptoRow.holds Try.pinned (OpenSpec.upto extentTellsSpec)

/-- 'oakumlaw11.ExtentWhole', WHERE WHAT IT READS IS OF BULK AT MOST 1048576: true; the input reads as it did. -/
def extentWholeUptoRow : OpenClaim := { program := "ytflmlejgahnppaa", sum := "e3e8851c901547ddc1a05b0ee91dd71b993d5b73aff59626a24cb7d56c54df60", func := "oakum/oakumlaw11.ExtentWhole", spec := "extentWhole", unfollowed := true, recurses := true, apart := false, narrowed := true }
def ExtentWholeUptoSaid : Prop := extentWholeUptoRow.holds Try.pinned (OpenSpec.upto extentWholeSpec)

/-- 'oakumlaw11.ExtentOrder', WHERE WHAT IT READS IS OF BULK AT MOST 1048576: true; the input reads as it did. -/
def extentOrderUptoRow : OpenClaim := { program := "ytflmlejgahnppaa", sum := "e3e8851c901547ddc1a05b0ee91dd71b993d5b73aff59626a24cb7d56c54df60", func := "oakum/oakumlaw11.ExtentOrder", spec := "extentOrder", unfollowed := true, recurses := true, apart := false, narrowed := true }
def ExtentOrderUptoSaid : Prop := extentOrderUptoRow.holds Try.pinned (OpenSpec.upto extentOrderSpec)

end Rows
end Go.Proofs.Ytflmlejgahnppaa
