/-
  No cell of these rows narrows 'for every input' (looked for: loops, veiled, ifaces, maps, wideKeys, modest, calm, conditions, laid).
  DERIVED. THE GIVEN ROWS OF THIS SEAT. 8 by the template 'for every input the law returns true; each argument reads behind the call as it read before'; 0 by the template 'total and deterministic' (their statements: YtcnaceleinmbcaaTotals.lean).
  GIVEN WITH THE SEED: the statements are not yours to turn. If you find one false, say at which input.
  Laid BY PROGRAM, IN A SANDBOX (cutbox-rows.mjs): the forced cells as the released guide's own fill.sh prints them over the translation 25788913668dc315… (all of the seat's roots in one cut). By AI agents, Wed Nov 11 2026. No macro, syntax, notation, axiom, sorry.
-/
import Derived.Test.YtcnaceleinmbcaaChecked
import GoSem.Claim
import GoSem.ClaimJoined
import GoSem.ClaimMapViews
import Derived.JoinedTies
import Derived.KernelRfl
namespace Go.Proofs.Ytcnaceleinmbcaa
/- THE CELL 'sum', in the pinned program and in every row, IS THE sha256 OF THE DUMP (.gsa) THAT YtcnaceleinmbcaaProg.lean LOADS. Nothing in Lean hashes anything: it is a label: what it is worth is what the hold of that sum in a sandbox is worth. -/
noncomputable def Try.pinned : Pinned := { name := "ytcnaceleinmbcaa", sum := "25788913668dc3159364b73ee8272339ba7d70e68f34408638eacc4ec58975a9", checked := Try.checked }
namespace Rows
def none {H : Type} : Left H := { results := [], args := [] }

/-- 'exactppllaw01.NaturalPowers': WHATEVER THE INPUT: true; the input reads as it did. -/
def naturalPowersSpec : ChangeSpec := { name := "naturalPowers", fn := fun _ => fun
  | [d1, d2, d3] => { results := [.lit (.bool true)], args := [d1, d2, d3] }
  | _ => none }
def naturalPowersRow : OpenClaim := { program := "ytcnaceleinmbcaa", sum := "25788913668dc3159364b73ee8272339ba7d70e68f34408638eacc4ec58975a9", func := "exactppl/exactppllaw01.NaturalPowers", spec := "naturalPowers", named := ["math/bits.overflowError"], apart := false }
def NaturalPowersSaid : Prop := naturalPowersRow.holds Try.pinned (OpenSpec.ofChange naturalPowersSpec)

/-- ITS FALSE NEIGHBOUR: 'it returns false'. Refute it at one input. -/
def naturalPowersWrong : ChangeSpec := { name := "naturalPowers", fn := fun _ => fun
  | [d1, d2, d3] => { results := [.lit (.bool false)], args := [d1, d2, d3] }
  | _ => none }
def NaturalPowersWrongFalsely : Prop := naturalPowersRow.holds Try.pinned (OpenSpec.ofChange naturalPowersWrong)

/-- 'exactppllaw01.NaturalDivides': WHATEVER THE INPUT: true; the input reads as it did. -/
def naturalDividesSpec : ChangeSpec := { name := "naturalDivides", fn := fun _ => fun
  | [d1, d2] => { results := [.lit (.bool true)], args := [d1, d2] }
  | _ => none }
def naturalDividesRow : OpenClaim := { program := "ytcnaceleinmbcaa", sum := "25788913668dc3159364b73ee8272339ba7d70e68f34408638eacc4ec58975a9", func := "exactppl/exactppllaw01.NaturalDivides", spec := "naturalDivides", named := ["math/bits.overflowError"], apart := false }
def NaturalDividesSaid : Prop := naturalDividesRow.holds Try.pinned (OpenSpec.ofChange naturalDividesSpec)

/-- ITS FALSE NEIGHBOUR: 'it returns false'. Refute it at one input. -/
def naturalDividesWrong : ChangeSpec := { name := "naturalDivides", fn := fun _ => fun
  | [d1, d2] => { results := [.lit (.bool false)], args := [d1, d2] }
  | _ => none }
def NaturalDividesWrongFalsely : Prop := naturalDividesRow.holds Try.pinned (OpenSpec.ofChange naturalDividesWrong)

/-- 'exactppllaw01.NaturalCommon': WHATEVER THE INPUT: true; the input reads as it did. -/
def naturalCommonSpec : ChangeSpec := { name := "naturalCommon", fn := fun _ => fun
  | [d1, d2, d3] => { results := [.lit (.bool true)], args := [d1, d2, d3] }
  | _ => none }
def naturalCommonRow : OpenClaim := { program := "ytcnaceleinmbcaa", sum := "25788913668dc3159364b73ee8272339ba7d70e68f34408638eacc4ec58975a9", func := "exactppl/exactppllaw01.NaturalCommon", spec := "naturalCommon", named := ["math/bits.overflowError"], apart := false }
def NaturalCommonSaid : Prop := naturalCommonRow.holds Try.pinned (OpenSpec.ofChange naturalCommonSpec)

/-- ITS FALSE NEIGHBOUR: 'it returns false'. Refute it at one input. -/
def naturalCommonWrong : ChangeSpec := { name := "naturalCommon", fn := fun _ => fun
  | [d1, d2, d3] => { results := [.lit (.bool false)], args := [d1, d2, d3] }
  | _ => none }
def NaturalCommonWrongFalsely : Prop := naturalCommonRow.holds Try.pinned (OpenSpec.ofChange naturalCommonWrong)

/-- 'exactppllaw01.NaturalInts': WHATEVER THE INPUT: true; the input reads as it did. -/
def naturalIntsSpec : ChangeSpec := { name := "naturalInts", fn := fun _ => fun
  | [d1, d2] => { results := [.lit (.bool true)], args := [d1, d2] }
  | _ => none }
def naturalIntsRow : OpenClaim := { program := "ytcnaceleinmbcaa", sum := "25788913668dc3159364b73ee8272339ba7d70e68f34408638eacc4ec58975a9", func := "exactppl/exactppllaw01.NaturalInts", spec := "naturalInts", named := ["math/bits.overflowError"], apart := false }
def NaturalIntsSaid : Prop := naturalIntsRow.holds Try.pinned (OpenSpec.ofChange naturalIntsSpec)

/-- ITS FALSE NEIGHBOUR: 'it returns false'. Refute it at one input. -/
def naturalIntsWrong : ChangeSpec := { name := "naturalInts", fn := fun _ => fun
  | [d1, d2] => { results := [.lit (.bool false)], args := [d1, d2] }
  | _ => none }
def NaturalIntsWrongFalsely : Prop := naturalIntsRow.holds Try.pinned (OpenSpec.ofChange naturalIntsWrong)

/-- 'exactppllaw01.NaturalDigits': WHATEVER THE INPUT: true; the input reads as it did. -/
def naturalDigitsSpec : ChangeSpec := { name := "naturalDigits", fn := fun _ => fun
  | [d1, d2] => { results := [.lit (.bool true)], args := [d1, d2] }
  | _ => none }
def naturalDigitsRow : OpenClaim := { program := "ytcnaceleinmbcaa", sum := "25788913668dc3159364b73ee8272339ba7d70e68f34408638eacc4ec58975a9", func := "exactppl/exactppllaw01.NaturalDigits", spec := "naturalDigits", named := ["math/bits.overflowError"], apart := false }
def NaturalDigitsSaid : Prop := naturalDigitsRow.holds Try.pinned (OpenSpec.ofChange naturalDigitsSpec)

/-- ITS FALSE NEIGHBOUR: 'it returns false'. Refute it at one input. -/
def naturalDigitsWrong : ChangeSpec := { name := "naturalDigits", fn := fun _ => fun
  | [d1, d2] => { results := [.lit (.bool false)], args := [d1, d2] }
  | _ => none }
def NaturalDigitsWrongFalsely : Prop := naturalDigitsRow.holds Try.pinned (OpenSpec.ofChange naturalDigitsWrong)

/-- 'exactppllaw01.NaturalRing': WHATEVER THE INPUT: true; the input reads as it did. -/
def naturalRingSpec : ChangeSpec := { name := "naturalRing", fn := fun _ => fun
  | [d1, d2, d3] => { results := [.lit (.bool true)], args := [d1, d2, d3] }
  | _ => none }
def naturalRingRow : OpenClaim := { program := "ytcnaceleinmbcaa", sum := "25788913668dc3159364b73ee8272339ba7d70e68f34408638eacc4ec58975a9", func := "exactppl/exactppllaw01.NaturalRing", spec := "naturalRing", named := ["math/bits.overflowError"], apart := false }
def NaturalRingSaid : Prop := naturalRingRow.holds Try.pinned (OpenSpec.ofChange naturalRingSpec)

/-- ITS FALSE NEIGHBOUR: 'it returns false'. Refute it at one input. -/
def naturalRingWrong : ChangeSpec := { name := "naturalRing", fn := fun _ => fun
  | [d1, d2, d3] => { results := [.lit (.bool false)], args := [d1, d2, d3] }
  | _ => none }
def NaturalRingWrongFalsely : Prop := naturalRingRow.holds Try.pinned (OpenSpec.ofChange naturalRingWrong)

/-- 'exactppllaw01.NaturalBuilt': WHATEVER THE INPUT: true; the input reads as it did. -/
def naturalBuiltSpec : ChangeSpec := { name := "naturalBuilt", fn := fun _ => fun
  | [d] => { results := [.lit (.bool true)], args := [d] }
  | _ => none }
def naturalBuiltRow : OpenClaim := { program := "ytcnaceleinmbcaa", sum := "25788913668dc3159364b73ee8272339ba7d70e68f34408638eacc4ec58975a9", func := "exactppl/exactppllaw01.NaturalBuilt", spec := "naturalBuilt", named := ["math/bits.overflowError"], apart := false }
def NaturalBuiltSaid : Prop := naturalBuiltRow.holds Try.pinned (OpenSpec.ofChange naturalBuiltSpec)

/-- ITS FALSE NEIGHBOUR: 'it returns false'. Refute it at one input. -/
def naturalBuiltWrong : ChangeSpec := { name := "naturalBuilt", fn := fun _ => fun
  | [d] => { results := [.lit (.bool false)], args := [d] }
  | _ => none }
def NaturalBuiltWrongFalsely : Prop := naturalBuiltRow.holds Try.pinned (OpenSpec.ofChange naturalBuiltWrong)

/-- 'exactppllaw01.NaturalRaw': WHATEVER THE INPUT: true; the input reads as it did. -/
def naturalRawSpec : ChangeSpec := { name := "naturalRaw", fn := fun _ => fun
  | [d1, d2, d3, d4] => { results := [.lit (.bool true)], args := [d1, d2, d3, d4] }
  | _ => none }
def naturalRawRow : OpenClaim := { program := "ytcnaceleinmbcaa", sum := "25788913668dc3159364b73ee8272339ba7d70e68f34408638eacc4ec58975a9", func := "exactppl/exactppllaw01.NaturalRaw", spec := "naturalRaw", named := ["math/bits.overflowError"], apart := false }
def NaturalRawSaid : Prop := naturalRawRow.holds Try.pinned (OpenSpec.ofChange naturalRawSpec)

/-- ITS FALSE NEIGHBOUR: 'it returns false'. Refute it at one input. -/
def naturalRawWrong : ChangeSpec := { name := "naturalRaw", fn := fun _ => fun
  | [d1, d2, d3, d4] => { results := [.lit (.bool false)], args := [d1, d2, d3, d4] }
  | _ => none }
def NaturalRawWrongFalsely : Prop := naturalRawRow.holds Try.pinned (OpenSpec.ofChange naturalRawWrong)

/- THE SECOND FORM. 'bulk': how many values and letters a reading holds, each counted each time it is reached (what is shared counts as often as it is met; a slice's spare places count too). A statement '..UptoSaid' is the law's where the arguments, and the package variables that the reading takes, are together of bulk at most 1048576: NARROWER than '..Said'. Prove '..Said' where nothing that the law and all that it calls make is longer than what came in: it says more and counts as full. Else prove '..UptoSaid'. A law counts once. -/
mutual
def uptoBulk {H : Type} : DataW H → Nat
  | .lit (.string bytes) => bytes.length + 1
  | .lit _ => 1
  | .nil => 1
  | .ptr d => uptoBulk d + 1
  | .slice elems spare => uptoBulkAll elems + uptoBulkAll spare + 1
  | .agg parts => uptoBulkAll parts + 1
  | .iface _ d => uptoBulk d + 1
  | .map entries => uptoBulkEntries entries + 1
  | .held _ => 1
def uptoBulkAll {H : Type} : List (DataW H) → Nat
  | [] => 0
  | d :: r => uptoBulk d + uptoBulkAll r
def uptoBulkEntries {H : Type} : List (Lit × DataW H) → Nat
  | [] => 0
  | x :: r => uptoBulkEntry x + uptoBulkEntries r
def uptoBulkEntry {H : Type} : Lit × DataW H → Nat
  | (.string bytes, d) => bytes.length + uptoBulk d + 1
  | (_, d) => uptoBulk d + 1
 end
def uptoSmall : (H : Type) → List (DataW H) → Bool := fun _ ds => decide (uptoBulkAll ds ≤ 1048576)
def OpenSpec.upto (s : _root_.Go.ChangeSpec) : _root_.Go.OpenSpec := { _root_.Go.OpenSpec.ofChange s with cond := some uptoSmall }

/-- 'exactppllaw01.NaturalPowers', WHERE WHAT IT READS IS OF BULK AT MOST 1048576: true; the input reads as it did. -/
def naturalPowersUptoRow : OpenClaim := { program := "ytcnaceleinmbcaa", sum := "25788913668dc3159364b73ee8272339ba7d70e68f34408638eacc4ec58975a9", func := "exactppl/exactppllaw01.NaturalPowers", spec := "naturalPowers", named := ["math/bits.overflowError"], apart := false, narrowed := true }
def NaturalPowersUptoSaid : Prop := naturalPowersUptoRow.holds Try.pinned (OpenSpec.upto naturalPowersSpec)

/-- 'exactppllaw01.NaturalDivides', WHERE WHAT IT READS IS OF BULK AT MOST 1048576: true; the input reads as it did. -/
def naturalDividesUptoRow : OpenClaim := { program := "ytcnaceleinmbcaa", sum := "25788913668dc3159364b73ee8272339ba7d70e68f34408638eacc4ec58975a9", func := "exactppl/exactppllaw01.NaturalDivides", spec := "naturalDivides", named := ["math/bits.overflowError"], apart := false, narrowed := true }
def NaturalDividesUptoSaid : Prop := naturalDividesUptoRow.holds Try.pinned (OpenSpec.upto naturalDividesSpec)

/-- 'exactppllaw01.NaturalCommon', WHERE WHAT IT READS IS OF BULK AT MOST 1048576: true; the input reads as it did. -/
def naturalCommonUptoRow : OpenClaim := { program := "ytcnaceleinmbcaa", sum := "25788913668dc3159364b73ee8272339ba7d70e68f34408638eacc4ec58975a9", func := "exactppl/exactppllaw01.NaturalCommon", spec := "naturalCommon", named := ["math/bits.overflowError"], apart := false, narrowed := true }
def NaturalCommonUptoSaid : Prop := naturalCommonUptoRow.holds Try.pinned (OpenSpec.upto naturalCommonSpec)

/-- 'exactppllaw01.NaturalInts', WHERE WHAT IT READS IS OF BULK AT MOST 1048576: true; the input reads as it did. -/
def naturalIntsUptoRow : OpenClaim := { program := "ytcnaceleinmbcaa", sum := "25788913668dc3159364b73ee8272339ba7d70e68f34408638eacc4ec58975a9", func := "exactppl/exactppllaw01.NaturalInts", spec := "naturalInts", named := ["math/bits.overflowError"], apart := false, narrowed := true }
def NaturalIntsUptoSaid : Prop := naturalIntsUptoRow.holds Try.pinned (OpenSpec.upto naturalIntsSpec)

/-- 'exactppllaw01.NaturalDigits', WHERE WHAT IT READS IS OF BULK AT MOST 1048576: true; the input reads as it did. -/
def naturalDigitsUptoRow : OpenClaim := { program := "ytcnaceleinmbcaa", sum := "25788913668dc3159364b73ee8272339ba7d70e68f34408638eacc4ec58975a9", func := "exactppl/exactppllaw01.NaturalDigits", spec := "naturalDigits", named := ["math/bits.overflowError"], apart := false, narrowed := true }
def NaturalDigitsUptoSaid : Prop := naturalDigitsUptoRow.holds Try.pinned (OpenSpec.upto naturalDigitsSpec)

/-- 'exactppllaw01.NaturalRing', WHERE WHAT IT READS IS OF BULK AT MOST 1048576: true; the input reads as it did. -/
def naturalRingUptoRow : OpenClaim := { program := "ytcnaceleinmbcaa", sum := "25788913668dc3159364b73ee8272339ba7d70e68f34408638eacc4ec58975a9", func := "exactppl/exactppllaw01.NaturalRing", spec := "naturalRing", named := ["math/bits.overflowError"], apart := false, narrowed := true }
def NaturalRingUptoSaid : Prop := naturalRingUptoRow.holds Try.pinned (OpenSpec.upto naturalRingSpec)

/-- 'exactppllaw01.NaturalBuilt', WHERE WHAT IT READS IS OF BULK AT MOST 1048576: true; the input reads as it did. -/
def naturalBuiltUptoRow : OpenClaim := { program := "ytcnaceleinmbcaa", sum := "25788913668dc3159364b73ee8272339ba7d70e68f34408638eacc4ec58975a9", func := "exactppl/exactppllaw01.NaturalBuilt", spec := "naturalBuilt", named := ["math/bits.overflowError"], apart := false, narrowed := true }
def NaturalBuiltUptoSaid : Prop := naturalBuiltUptoRow.holds Try.pinned (OpenSpec.upto naturalBuiltSpec)

/-- 'exactppllaw01.NaturalRaw', WHERE WHAT IT READS IS OF BULK AT MOST 1048576: true; the input reads as it did. -/
def naturalRawUptoRow : OpenClaim := { program := "ytcnaceleinmbcaa", sum := "25788913668dc3159364b73ee8272339ba7d70e68f34408638eacc4ec58975a9", func := "exactppl/exactppllaw01.NaturalRaw", spec := "naturalRaw", named := ["math/bits.overflowError"], apart := false, narrowed := true }
def NaturalRawUptoSaid : Prop := naturalRawUptoRow.holds Try.pinned (OpenSpec.upto naturalRawSpec)

end Rows
end Go.Proofs.Ytcnaceleinmbcaa
