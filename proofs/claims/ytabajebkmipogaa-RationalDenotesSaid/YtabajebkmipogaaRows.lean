/-
  No cell of these rows narrows 'for every input' (looked for: loops, veiled, ifaces, maps, wideKeys, modest, calm, conditions, laid).
  DERIVED. THE GIVEN ROWS OF THIS SEAT. 6 by the template 'for every input the law returns true; each argument reads behind the call as it read before'; 0 by the template 'total and deterministic' (their statements: YtabajebkmipogaaTotals.lean).
  GIVEN WITH THE SEED: the statements are not yours to turn. If you find one false, say at which input.
  Laid BY PROGRAM, IN A SANDBOX (cutbox-rows.mjs): the forced cells as the released guide's own fill.sh prints them over the translation 391b334701669dd5… (all of the seat's roots in one cut). By AI agents, Wed Nov 11 2026. No macro, syntax, notation, axiom, sorry.
-/
import Derived.Test.YtabajebkmipogaaChecked
import GoSem.Claim
import GoSem.ClaimJoined
import GoSem.ClaimMapViews
import Derived.JoinedTies
import Derived.KernelRfl
namespace Go.Proofs.Ytabajebkmipogaa
/- THE CELL 'sum', in the pinned program and in every row, IS THE sha256 OF THE DUMP (.gsa) THAT YtabajebkmipogaaProg.lean LOADS. Nothing in Lean hashes anything: it is a label: what it is worth is what the hold of that sum in a sandbox is worth. -/
noncomputable def Try.pinned : Pinned := { name := "ytabajebkmipogaa", sum := "391b334701669dd58cb27a5ac2d8c4ccb09d6ccb33c081e7aa561868e683a915", checked := Try.checked }
namespace Rows
def none {H : Type} : Left H := { results := [], args := [] }

/-- 'exactppllaw02.RationalNormal': WHATEVER THE INPUT: true; the input reads as it did. -/
def rationalNormalSpec : ChangeSpec := { name := "rationalNormal", fn := fun _ => fun
  | [d1, d2] => { results := [.lit (.bool true)], args := [d1, d2] }
  | _ => none }
def rationalNormalRow : OpenClaim := { program := "ytabajebkmipogaa", sum := "391b334701669dd58cb27a5ac2d8c4ccb09d6ccb33c081e7aa561868e683a915", func := "exactppl/exactppllaw02.RationalNormal", spec := "rationalNormal", named := ["math/bits.overflowError"], apart := false }
def RationalNormalSaid : Prop := rationalNormalRow.holds Try.pinned (OpenSpec.ofChange rationalNormalSpec)

/-- ITS FALSE NEIGHBOUR: 'it returns false'. Refute it at one input. -/
def rationalNormalWrong : ChangeSpec := { name := "rationalNormal", fn := fun _ => fun
  | [d1, d2] => { results := [.lit (.bool false)], args := [d1, d2] }
  | _ => none }
def RationalNormalWrongFalsely : Prop := rationalNormalRow.holds Try.pinned (OpenSpec.ofChange rationalNormalWrong)

/-- 'exactppllaw02.RationalOrder': WHATEVER THE INPUT: true; the input reads as it did. -/
def rationalOrderSpec : ChangeSpec := { name := "rationalOrder", fn := fun _ => fun
  | [d] => { results := [.lit (.bool true)], args := [d] }
  | _ => none }
def rationalOrderRow : OpenClaim := { program := "ytabajebkmipogaa", sum := "391b334701669dd58cb27a5ac2d8c4ccb09d6ccb33c081e7aa561868e683a915", func := "exactppl/exactppllaw02.RationalOrder", spec := "rationalOrder", named := ["math/bits.overflowError"], apart := false }
def RationalOrderSaid : Prop := rationalOrderRow.holds Try.pinned (OpenSpec.ofChange rationalOrderSpec)

/-- ITS FALSE NEIGHBOUR: 'it returns false'. Refute it at one input. -/
def rationalOrderWrong : ChangeSpec := { name := "rationalOrder", fn := fun _ => fun
  | [d] => { results := [.lit (.bool false)], args := [d] }
  | _ => none }
def RationalOrderWrongFalsely : Prop := rationalOrderRow.holds Try.pinned (OpenSpec.ofChange rationalOrderWrong)

/-- 'exactppllaw02.RationalDenotes': WHATEVER THE INPUT: true; the input reads as it did. -/
def rationalDenotesSpec : ChangeSpec := { name := "rationalDenotes", fn := fun _ => fun
  | [d1, d2, d3] => { results := [.lit (.bool true)], args := [d1, d2, d3] }
  | _ => none }
def rationalDenotesRow : OpenClaim := { program := "ytabajebkmipogaa", sum := "391b334701669dd58cb27a5ac2d8c4ccb09d6ccb33c081e7aa561868e683a915", func := "exactppl/exactppllaw02.RationalDenotes", spec := "rationalDenotes", named := ["math/bits.overflowError"], apart := false }
def RationalDenotesSaid : Prop := rationalDenotesRow.holds Try.pinned (OpenSpec.ofChange rationalDenotesSpec)

/-- ITS FALSE NEIGHBOUR: 'it returns false'. Refute it at one input. -/
def rationalDenotesWrong : ChangeSpec := { name := "rationalDenotes", fn := fun _ => fun
  | [d1, d2, d3] => { results := [.lit (.bool false)], args := [d1, d2, d3] }
  | _ => none }
def RationalDenotesWrongFalsely : Prop := rationalDenotesRow.holds Try.pinned (OpenSpec.ofChange rationalDenotesWrong)

/-- 'exactppllaw02.RationalField': WHATEVER THE INPUT: true; the input reads as it did. -/
def rationalFieldSpec : ChangeSpec := { name := "rationalField", fn := fun _ => fun
  | [d] => { results := [.lit (.bool true)], args := [d] }
  | _ => none }
def rationalFieldRow : OpenClaim := { program := "ytabajebkmipogaa", sum := "391b334701669dd58cb27a5ac2d8c4ccb09d6ccb33c081e7aa561868e683a915", func := "exactppl/exactppllaw02.RationalField", spec := "rationalField", named := ["math/bits.overflowError"], apart := false }
def RationalFieldSaid : Prop := rationalFieldRow.holds Try.pinned (OpenSpec.ofChange rationalFieldSpec)

/-- ITS FALSE NEIGHBOUR: 'it returns false'. Refute it at one input. -/
def rationalFieldWrong : ChangeSpec := { name := "rationalField", fn := fun _ => fun
  | [d] => { results := [.lit (.bool false)], args := [d] }
  | _ => none }
def RationalFieldWrongFalsely : Prop := rationalFieldRow.holds Try.pinned (OpenSpec.ofChange rationalFieldWrong)

/-- 'exactppllaw02.RationalTexts': WHATEVER THE INPUT: true; the input reads as it did. -/
def rationalTextsSpec : ChangeSpec := { name := "rationalTexts", fn := fun _ => fun
  | [d] => { results := [.lit (.bool true)], args := [d] }
  | _ => none }
def rationalTextsRow : OpenClaim := { program := "ytabajebkmipogaa", sum := "391b334701669dd58cb27a5ac2d8c4ccb09d6ccb33c081e7aa561868e683a915", func := "exactppl/exactppllaw02.RationalTexts", spec := "rationalTexts", inPlace := ["internal/bytealg.IndexByteString", "internal/bytealg.IndexString"], named := ["math/bits.overflowError", "internal/bytealg.MaxLen"], apart := false }
def RationalTextsSaid : Prop := rationalTextsRow.holds Try.pinned (OpenSpec.ofChange rationalTextsSpec)

/-- ITS FALSE NEIGHBOUR: 'it returns false'. Refute it at one input. -/
def rationalTextsWrong : ChangeSpec := { name := "rationalTexts", fn := fun _ => fun
  | [d] => { results := [.lit (.bool false)], args := [d] }
  | _ => none }
def RationalTextsWrongFalsely : Prop := rationalTextsRow.holds Try.pinned (OpenSpec.ofChange rationalTextsWrong)

/-- 'exactppllaw02.RationalRaw': WHATEVER THE INPUT: true; the input reads as it did. -/
def rationalRawSpec : ChangeSpec := { name := "rationalRaw", fn := fun _ => fun
  | [d1, d2, d3, d4, d5, d6] => { results := [.lit (.bool true)], args := [d1, d2, d3, d4, d5, d6] }
  | _ => none }
def rationalRawRow : OpenClaim := { program := "ytabajebkmipogaa", sum := "391b334701669dd58cb27a5ac2d8c4ccb09d6ccb33c081e7aa561868e683a915", func := "exactppl/exactppllaw02.RationalRaw", spec := "rationalRaw", inPlace := ["internal/bytealg.IndexByteString", "internal/bytealg.IndexString"], named := ["math/bits.overflowError", "internal/bytealg.MaxLen"], apart := false }
def RationalRawSaid : Prop := rationalRawRow.holds Try.pinned (OpenSpec.ofChange rationalRawSpec)

/-- ITS FALSE NEIGHBOUR: 'it returns false'. Refute it at one input. -/
def rationalRawWrong : ChangeSpec := { name := "rationalRaw", fn := fun _ => fun
  | [d1, d2, d3, d4, d5, d6] => { results := [.lit (.bool false)], args := [d1, d2, d3, d4, d5, d6] }
  | _ => none }
def RationalRawWrongFalsely : Prop := rationalRawRow.holds Try.pinned (OpenSpec.ofChange rationalRawWrong)

/- THE SECOND FORM. 'bulk': how many values and letters a reading holds, each counted each time it is reached (what is shared counts as often as it is met; a slice's spare places count too). A statement '..UptoSaid' is the law's where the arguments, and the package variables that the reading takes, are together of bulk at most 1048576: NARROWER than '..Said'. Prove '..Said' where nothing that the law and all that it calls make is longer than what came in: it says more and counts as full. Else prove '..UptoSaid'. A law counts once. -/
mutual
def uptoBulk {H : Type} : DataW H → Nat
  | .lit (.string bytes) => bytes.length + 1
  | .lit _ => 1
  | .nil => 1
  | .ptr d => uptoBulk d + 1
  | .slice elems spare => uptoBulkAll elems + uptoBulkAll spare + 1
  | .agg parts => uptoBulkAll parts + 1
  | .iface _ d => uptoBulk d + 1
  | .map entries => uptoBulkEntries entries + 1
  | .held _ => 1
def uptoBulkAll {H : Type} : List (DataW H) → Nat
  | [] => 0
  | d :: r => uptoBulk d + uptoBulkAll r
def uptoBulkEntries {H : Type} : List (Lit × DataW H) → Nat
  | [] => 0
  | x :: r => uptoBulkEntry x + uptoBulkEntries r
def uptoBulkEntry {H : Type} : Lit × DataW H → Nat
  | (.string bytes, d) => bytes.length + uptoBulk d + 1
  | (_, d) => uptoBulk d + 1
 end
def uptoSmall : (H : Type) → List (DataW H) → Bool := fun _ ds => decide (uptoBulkAll ds ≤ 1048576)
def OpenSpec.upto (s : _root_.Go.ChangeSpec) : _root_.Go.OpenSpec := { _root_.Go.OpenSpec.ofChange s with cond := some uptoSmall }

/-- 'exactppllaw02.RationalNormal', WHERE WHAT IT READS IS OF BULK AT MOST 1048576: true; the input reads as it did. -/
def rationalNormalUptoRow : OpenClaim := { program := "ytabajebkmipogaa", sum := "391b334701669dd58cb27a5ac2d8c4ccb09d6ccb33c081e7aa561868e683a915", func := "exactppl/exactppllaw02.RationalNormal", spec := "rationalNormal", named := ["math/bits.overflowError"], apart := false, narrowed := true }
def RationalNormalUptoSaid : Prop := rationalNormalUptoRow.holds Try.pinned (OpenSpec.upto rationalNormalSpec)

/-- 'exactppllaw02.RationalOrder', WHERE WHAT IT READS IS OF BULK AT MOST 1048576: true; the input reads as it did. -/
def rationalOrderUptoRow : OpenClaim := { program := "ytabajebkmipogaa", sum := "391b334701669dd58cb27a5ac2d8c4ccb09d6ccb33c081e7aa561868e683a915", func := "exactppl/exactppllaw02.RationalOrder", spec := "rationalOrder", named := ["math/bits.overflowError"], apart := false, narrowed := true }
def RationalOrderUptoSaid : Prop := rationalOrderUptoRow.holds Try.pinned (OpenSpec.upto rationalOrderSpec)

/-- 'exactppllaw02.RationalDenotes', WHERE WHAT IT READS IS OF BULK AT MOST 1048576: true; the input reads as it did. -/
def rationalDenotesUptoRow : OpenClaim := { program := "ytabajebkmipogaa", sum := "391b334701669dd58cb27a5ac2d8c4ccb09d6ccb33c081e7aa561868e683a915", func := "exactppl/exactppllaw02.RationalDenotes", spec := "rationalDenotes", named := ["math/bits.overflowError"], apart := false, narrowed := true }
def RationalDenotesUptoSaid : Prop := rationalDenotesUptoRow.holds Try.pinned (OpenSpec.upto rationalDenotesSpec)

/-- 'exactppllaw02.RationalField', WHERE WHAT IT READS IS OF BULK AT MOST 1048576: true; the input reads as it did. -/
def rationalFieldUptoRow : OpenClaim := { program := "ytabajebkmipogaa", sum := "391b334701669dd58cb27a5ac2d8c4ccb09d6ccb33c081e7aa561868e683a915", func := "exactppl/exactppllaw02.RationalField", spec := "rationalField", named := ["math/bits.overflowError"], apart := false, narrowed := true }
def RationalFieldUptoSaid : Prop := rationalFieldUptoRow.holds Try.pinned (OpenSpec.upto rationalFieldSpec)

/-- 'exactppllaw02.RationalTexts', WHERE WHAT IT READS IS OF BULK AT MOST 1048576: true; the input reads as it did. -/
def rationalTextsUptoRow : OpenClaim := { program := "ytabajebkmipogaa", sum := "391b334701669dd58cb27a5ac2d8c4ccb09d6ccb33c081e7aa561868e683a915", func := "exactppl/exactppllaw02.RationalTexts", spec := "rationalTexts", inPlace := ["internal/bytealg.IndexByteString", "internal/bytealg.IndexString"], named := ["math/bits.overflowError", "internal/bytealg.MaxLen"], apart := false, narrowed := true }
def RationalTextsUptoSaid : Prop := rationalTextsUptoRow.holds Try.pinned (OpenSpec.upto rationalTextsSpec)

/-- 'exactppllaw02.RationalRaw', WHERE WHAT IT READS IS OF BULK AT MOST 1048576: true; the input reads as it did. -/
def rationalRawUptoRow : OpenClaim := { program := "ytabajebkmipogaa", sum := "391b334701669dd58cb27a5ac2d8c4ccb09d6ccb33c081e7aa561868e683a915", func := "exactppl/exactppllaw02.RationalRaw", spec := "rationalRaw", inPlace := ["internal/bytealg.IndexByteString", "internal/bytealg.IndexString"], named := ["math/bits.overflowError", "internal/bytealg.MaxLen"], apart := false, narrowed := true }
def RationalRawUptoSaid : Prop := rationalRawUptoRow.holds Try.pinned (OpenSpec.upto rationalRawSpec)

end Rows
end Go.Proofs.Ytabajebkmipogaa
