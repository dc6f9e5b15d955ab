/-
  No cell of these rows narrows 'for every input' (looked for: loops, veiled, ifaces, maps, wideKeys, modest, calm, conditions, laid).
  DERIVED. THE GIVEN ROWS OF THIS SEAT. 7 by the template 'for every input the law returns true; each argument reads behind the call as it read before'; 0 by the template 'total and deterministic' (their statements: YtidonenkdibaoaaTotals.lean).
  GIVEN WITH THE SEED: the statements are not yours to turn. If you find one false, say at which input.
  Laid BY PROGRAM, IN A SANDBOX (cutbox-rows.mjs): the forced cells as the released guide's own fill.sh prints them over the translation 9fc1376b35aba124… (all of the seat's roots in one cut). By AI agents, Wed Nov 11 2026. No macro, syntax, notation, axiom, sorry.
-/
import Derived.Test.YtidonenkdibaoaaChecked
import GoSem.Claim
import GoSem.ClaimJoined
import GoSem.ClaimMapViews
import Derived.JoinedTies
import Derived.KernelRfl
namespace Go.Proofs.Ytidonenkdibaoaa
/- THE CELL 'sum', in the pinned program and in every row, IS THE sha256 OF THE DUMP (.gsa) THAT YtidonenkdibaoaaProg.lean LOADS. Nothing in Lean hashes anything: it is a label: what it is worth is what the hold of that sum in a sandbox is worth. -/
noncomputable def Try.pinned : Pinned := { name := "ytidonenkdibaoaa", sum := "9fc1376b35aba124e03740d5cc4c1ab7416fac9402f700ea75cd8edb3c8bf3bc", checked := Try.checked }
namespace Rows
def none {H : Type} : Left H := { results := [], args := [] }

/-- 'customslaw03.ShareExact': WHATEVER THE INPUT: true; the input reads as it did. -/
def shareExactSpec : ChangeSpec := { name := "shareExact", fn := fun _ => fun
  | [d1, d2, d3, d4] => { results := [.lit (.bool true)], args := [d1, d2, d3, d4] }
  | _ => none }
def shareExactRow : OpenClaim := { program := "ytidonenkdibaoaa", sum := "9fc1376b35aba124e03740d5cc4c1ab7416fac9402f700ea75cd8edb3c8bf3bc", func := "customs/customslaw03.ShareExact", spec := "shareExact", unfollowed := true, recurses := true, named := ["math/bits.divideError", "math/bits.overflowError"], apart := false }
def ShareExactSaid : Prop := shareExactRow.holds Try.pinned (OpenSpec.ofChange shareExactSpec)

/-- ITS FALSE NEIGHBOUR: 'it returns false'. Refute it at one input. -/
def shareExactWrong : ChangeSpec := { name := "shareExact", fn := fun _ => fun
  | [d1, d2, d3, d4] => { results := [.lit (.bool false)], args := [d1, d2, d3, d4] }
  | _ => none }
def ShareExactWrongFalsely : Prop := shareExactRow.holds Try.pinned (OpenSpec.ofChange shareExactWrong)

/-- 'customslaw03.ShareSum': WHATEVER THE INPUT: true; the input reads as it did. -/
def shareSumSpec : ChangeSpec := { name := "shareSum", fn := fun _ => fun
  | [d1, d2] => { results := [.lit (.bool true)], args := [d1, d2] }
  | _ => none }
def shareSumRow : OpenClaim := { program := "ytidonenkdibaoaa", sum := "9fc1376b35aba124e03740d5cc4c1ab7416fac9402f700ea75cd8edb3c8bf3bc", func := "customs/customslaw03.ShareSum", spec := "shareSum", unfollowed := true, recurses := true, named := ["math/bits.divideError", "math/bits.overflowError"], apart := false }
def ShareSumSaid : Prop := shareSumRow.holds Try.pinned (OpenSpec.ofChange shareSumSpec)

/-- ITS FALSE NEIGHBOUR: 'it returns false'. Refute it at one input. -/
def shareSumWrong : ChangeSpec := { name := "shareSum", fn := fun _ => fun
  | [d1, d2] => { results := [.lit (.bool false)], args := [d1, d2] }
  | _ => none }
def ShareSumWrongFalsely : Prop := shareSumRow.holds Try.pinned (OpenSpec.ofChange shareSumWrong)

/-- 'customslaw03.ShareOrder': WHATEVER THE INPUT: true; the input reads as it did. -/
def shareOrderSpec : ChangeSpec := { name := "shareOrder", fn := fun _ => fun
  | [d1, d2, d3] => { results := [.lit (.bool true)], args := [d1, d2, d3] }
  | _ => none }
def shareOrderRow : OpenClaim := { program := "ytidonenkdibaoaa", sum := "9fc1376b35aba124e03740d5cc4c1ab7416fac9402f700ea75cd8edb3c8bf3bc", func := "customs/customslaw03.ShareOrder", spec := "shareOrder", unfollowed := true, recurses := true, named := ["math/bits.divideError", "math/bits.overflowError"], apart := false }
def ShareOrderSaid : Prop := shareOrderRow.holds Try.pinned (OpenSpec.ofChange shareOrderSpec)

/-- ITS FALSE NEIGHBOUR: 'it returns false'. Refute it at one input. -/
def shareOrderWrong : ChangeSpec := { name := "shareOrder", fn := fun _ => fun
  | [d1, d2, d3] => { results := [.lit (.bool false)], args := [d1, d2, d3] }
  | _ => none }
def ShareOrderWrongFalsely : Prop := shareOrderRow.holds Try.pinned (OpenSpec.ofChange shareOrderWrong)

/-- 'customslaw03.ShareScaled': WHATEVER THE INPUT: true; the input reads as it did. -/
def shareScaledSpec : ChangeSpec := { name := "shareScaled", fn := fun _ => fun
  | [d1, d2, d3] => { results := [.lit (.bool true)], args := [d1, d2, d3] }
  | _ => none }
def shareScaledRow : OpenClaim := { program := "ytidonenkdibaoaa", sum := "9fc1376b35aba124e03740d5cc4c1ab7416fac9402f700ea75cd8edb3c8bf3bc", func := "customs/customslaw03.ShareScaled", spec := "shareScaled", unfollowed := true, recurses := true, named := ["math/bits.divideError", "math/bits.overflowError"], apart := false }
def ShareScaledSaid : Prop := shareScaledRow.holds Try.pinned (OpenSpec.ofChange shareScaledSpec)

/-- ITS FALSE NEIGHBOUR: 'it returns false'. Refute it at one input. -/
def shareScaledWrong : ChangeSpec := { name := "shareScaled", fn := fun _ => fun
  | [d1, d2, d3] => { results := [.lit (.bool false)], args := [d1, d2, d3] }
  | _ => none }
def ShareScaledWrongFalsely : Prop := shareScaledRow.holds Try.pinned (OpenSpec.ofChange shareScaledWrong)

/-- 'customslaw03.CapExact': WHATEVER THE INPUT: true; the input reads as it did. -/
def capExactSpec : ChangeSpec := { name := "capExact", fn := fun _ => fun
  | [d1, d2, d3, d4] => { results := [.lit (.bool true)], args := [d1, d2, d3, d4] }
  | _ => none }
def capExactRow : OpenClaim := { program := "ytidonenkdibaoaa", sum := "9fc1376b35aba124e03740d5cc4c1ab7416fac9402f700ea75cd8edb3c8bf3bc", func := "customs/customslaw03.CapExact", spec := "capExact", unfollowed := true, recurses := true, named := ["math/bits.divideError", "math/bits.overflowError"], apart := false }
def CapExactSaid : Prop := capExactRow.holds Try.pinned (OpenSpec.ofChange capExactSpec)

/-- ITS FALSE NEIGHBOUR: 'it returns false'. Refute it at one input. -/
def capExactWrong : ChangeSpec := { name := "capExact", fn := fun _ => fun
  | [d1, d2, d3, d4] => { results := [.lit (.bool false)], args := [d1, d2, d3, d4] }
  | _ => none }
def CapExactWrongFalsely : Prop := capExactRow.holds Try.pinned (OpenSpec.ofChange capExactWrong)

/-- 'customslaw03.CapBounds': WHATEVER THE INPUT: true; the input reads as it did. -/
def capBoundsSpec : ChangeSpec := { name := "capBounds", fn := fun _ => fun
  | [d1, d2, d3] => { results := [.lit (.bool true)], args := [d1, d2, d3] }
  | _ => none }
def capBoundsRow : OpenClaim := { program := "ytidonenkdibaoaa", sum := "9fc1376b35aba124e03740d5cc4c1ab7416fac9402f700ea75cd8edb3c8bf3bc", func := "customs/customslaw03.CapBounds", spec := "capBounds", unfollowed := true, recurses := true, named := ["math/bits.divideError", "math/bits.overflowError"], apart := false }
def CapBoundsSaid : Prop := capBoundsRow.holds Try.pinned (OpenSpec.ofChange capBoundsSpec)

/-- ITS FALSE NEIGHBOUR: 'it returns false'. Refute it at one input. -/
def capBoundsWrong : ChangeSpec := { name := "capBounds", fn := fun _ => fun
  | [d1, d2, d3] => { results := [.lit (.bool false)], args := [d1, d2, d3] }
  | _ => none }
def CapBoundsWrongFalsely : Prop := capBoundsRow.holds Try.pinned (OpenSpec.ofChange capBoundsWrong)

/-- 'customslaw03.SpreadSign': WHATEVER THE INPUT: true; the input reads as it did. -/
def spreadSignSpec : ChangeSpec := { name := "spreadSign", fn := fun _ => fun
  | [d1, d2, d3, d4] => { results := [.lit (.bool true)], args := [d1, d2, d3, d4] }
  | _ => none }
def spreadSignRow : OpenClaim := { program := "ytidonenkdibaoaa", sum := "9fc1376b35aba124e03740d5cc4c1ab7416fac9402f700ea75cd8edb3c8bf3bc", func := "customs/customslaw03.SpreadSign", spec := "spreadSign", unfollowed := true, recurses := true, named := ["math/bits.divideError", "math/bits.overflowError"], apart := false }
def SpreadSignSaid : Prop := spreadSignRow.holds Try.pinned (OpenSpec.ofChange spreadSignSpec)

/-- ITS FALSE NEIGHBOUR: 'it returns false'. Refute it at one input. -/
def spreadSignWrong : ChangeSpec := { name := "spreadSign", fn := fun _ => fun
  | [d1, d2, d3, d4] => { results := [.lit (.bool false)], args := [d1, d2, d3, d4] }
  | _ => none }
def SpreadSignWrongFalsely : Prop := spreadSignRow.holds Try.pinned (OpenSpec.ofChange spreadSignWrong)

/- THE SECOND FORM. 'bulk': how many values and letters a reading holds, each counted each time it is reached (what is shared counts as often as it is met; a slice's spare places count too). A statement '..UptoSaid' is the law's where the arguments, and the package variables that the reading takes, are together of bulk at most 1048576: NARROWER than '..Said'. Prove '..Said' where nothing that the law and all that it calls make is longer than what came in: it says more and counts as full. Else prove '..UptoSaid'. A law counts once. -/
mutual
def uptoBulk {H : Type} : DataW H → Nat
  | .lit (.string bytes) => bytes.length + 1
  | .lit _ => 1
  | .nil => 1
  | .ptr d => uptoBulk d + 1
  | .slice elems spare => uptoBulkAll elems + uptoBulkAll spare + 1
  | .agg parts => uptoBulkAll parts + 1
  | .iface _ d => uptoBulk d + 1
  | .map entries => uptoBulkEntries entries + 1
  | .held _ => 1
def uptoBulkAll {H : Type} : List (DataW H) → Nat
  | [] => 0
  | d :: r => uptoBulk d + uptoBulkAll r
def uptoBulkEntries {H : Type} : List (Lit × DataW H) → Nat
  | [] => 0
  | x :: r => uptoBulkEntry x + uptoBulkEntries r
def uptoBulkEntry {H : Type} : Lit × DataW H → Nat
  | (.string bytes, d) => bytes.length + uptoBulk d + 1
  | (_, d) => uptoBulk d + 1
 end
def uptoSmall : (H : Type) → List (DataW H) → Bool := fun _ ds => decide (uptoBulkAll ds ≤ 1048576)
def OpenSpec.upto (s : _root_.Go.ChangeSpec) : _root_.Go.OpenSpec := { _root_.Go.OpenSpec.ofChange s with cond := some uptoSmall }

/-- 'customslaw03.ShareExact', WHERE WHAT IT READS IS OF BULK AT MOST 1048576: true; the input reads as it did. -/
def shareExactUptoRow : OpenClaim := { program := "ytidonenkdibaoaa", sum := "9fc1376b35aba124e03740d5cc4c1ab7416fac9402f700ea75cd8edb3c8bf3bc", func := "customs/customslaw03.ShareExact", spec := "shareExact", unfollowed := true, recurses := true, named := ["math/bits.divideError", "math/bits.overflowError"], apart := false, narrowed := true }
def ShareExactUptoSaid : Prop := shareExactUptoRow.holds Try.pinned (OpenSpec.upto shareExactSpec)

/-- 'customslaw03.ShareSum', WHERE WHAT IT READS IS OF BULK AT MOST 1048576: true; the input reads as it did. -/
def shareSumUptoRow : OpenClaim := { program := "ytidonenkdibaoaa", sum := "9fc1376b35aba124e03740d5cc4c1ab7416fac9402f700ea75cd8edb3c8bf3bc", func := "customs/customslaw03.ShareSum", spec := "shareSum", unfollowed := true, recurses := true, named := ["math/bits.divideError", "math/bits.overflowError"], apart := false, narrowed := true }
def ShareSumUptoSaid : Prop := shareSumUptoRow.holds Try.pinned (OpenSpec.upto shareSumSpec)

/-- 'customslaw03.ShareOrder', WHERE WHAT IT READS IS OF BULK AT MOST 1048576: true; the input reads as it did. -/
def shareOrderUptoRow : OpenClaim := { program := "ytidonenkdibaoaa", sum := "9fc1376b35aba124e03740d5cc4c1ab7416fac9402f700ea75cd8edb3c8bf3bc", func := "customs/customslaw03.ShareOrder", spec := "shareOrder", unfollowed := true, recurses := true, named := ["math/bits.divideError", "math/bits.overflowError"], apart := false, narrowed := true }
def ShareOrderUptoSaid : Prop := shareOrderUptoRow.holds Try.pinned (OpenSpec.upto shareOrderSpec)

/-- 'customslaw03.ShareScaled', WHERE WHAT IT READS IS OF BULK AT MOST 1048576: true; the input reads as it did. -/
def shareScaledUptoRow : OpenClaim := { program := "ytidonenkdibaoaa", sum := "9fc1376b35aba124e03740d5cc4c1ab7416fac9402f700ea75cd8edb3c8bf3bc", func := "customs/customslaw03.ShareScaled", spec := "shareScaled", unfollowed := true, recurses := true, named := ["math/bits.divideError", "math/bits.overflowError"], apart := false, narrowed := true }
def ShareScaledUptoSaid : Prop := shareScaledUptoRow.holds Try.pinned (OpenSpec.upto shareScaledSpec)

/-- 'customslaw03.CapExact', WHERE WHAT IT READS IS OF BULK AT MOST 1048576: true; the input reads as it did. -/
def capExactUptoRow : OpenClaim := { program := "ytidonenkdibaoaa", sum := "9fc1376b35aba124e03740d5cc4c1ab7416fac9402f700ea75cd8edb3c8bf3bc", func := "customs/customslaw03.CapExact", spec := "capExact", unfollowed := true, recurses := true, named := ["math/bits.divideError", "math/bits.overflowError"], apart := false, narrowed := true }
def CapExactUptoSaid : Prop := capExactUptoRow.holds Try.pinned (OpenSpec.upto capExactSpec)

/-- 'customslaw03.CapBounds', WHERE WHAT IT READS IS OF BULK AT MOST 1048576: true; the input reads as it did. -/
def capBoundsUptoRow : OpenClaim := { program := "ytidonenkdibaoaa", sum := "9fc1376b35aba124e03740d5cc4c1ab7416fac9402f700ea75cd8edb3c8bf3bc", func := "customs/customslaw03.CapBounds", spec := "capBounds", unfollowed := true, recurses := true, named := ["math/bits.divideError", "math/bits.overflowError"], apart := false, narrowed := true }
def CapBoundsUptoSaid : Prop := capBoundsUptoRow.holds Try.pinned (OpenSpec.upto capBoundsSpec)

/-- 'customslaw03.SpreadSign', WHERE WHAT IT READS IS OF BULK AT MOST 1048576: true; the input reads as it did. -/
def spreadSignUptoRow : OpenClaim := { program := "ytidonenkdibaoaa", sum := "9fc1376b35aba124e03740d5cc4c1ab7416fac9402f700ea75cd8edb3c8bf3bc", func := "customs/customslaw03.SpreadSign", spec := "spreadSign", unfollowed := true, recurses := true, named := ["math/bits.divideError", "math/bits.overflowError"], apart := false, narrowed := true }
def SpreadSignUptoSaid : Prop := spreadSignUptoRow.holds Try.pinned (OpenSpec.upto spreadSignSpec)

end Rows
end Go.Proofs.Ytidonenkdibaoaa
