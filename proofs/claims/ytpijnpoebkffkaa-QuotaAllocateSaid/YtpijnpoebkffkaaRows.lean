/-
  No cell of these rows narrows 'for every input' (looked for: loops, veiled, ifaces, maps, wideKeys, modest, calm, conditions, laid).
  DERIVED. THE GIVEN ROWS OF THIS SEAT. 5 by the template 'for every input the law returns true; each argument reads behind the call as it read before'; 0 by the template 'total and deterministic' (their statements: YtpijnpoebkffkaaTotals.lean).
  GIVEN WITH THE SEED: the statements are not yours to turn. If you find one false, say at which input.
  Laid BY PROGRAM, IN A SANDBOX (cutbox-rows.mjs): the forced cells as the released guide's own fill.sh prints them over the translation f77be8d43d2845d0… (all of the seat's roots in one cut). By AI agents, Wed Nov 11 2026. No macro, syntax, notation, axiom, sorry.
-/
import Derived.Test.YtpijnpoebkffkaaChecked
import GoSem.Claim
import GoSem.ClaimJoined
import GoSem.ClaimMapViews
import Derived.JoinedTies
import Derived.KernelRfl
namespace Go.Proofs.Ytpijnpoebkffkaa
/- THE CELL 'sum', in the pinned program and in every row, IS THE sha256 OF THE DUMP (.gsa) THAT YtpijnpoebkffkaaProg.lean LOADS. Nothing in Lean hashes anything: it is a label: what it is worth is what the hold of that sum in a sandbox is worth. -/
noncomputable def Try.pinned : Pinned := { name := "ytpijnpoebkffkaa", sum := "f77be8d43d2845d020886dae28fb3bb40a027581f5e6cada8eafdc3776c2ff82", checked := Try.checked }
namespace Rows
def none {H : Type} : Left H := { results := [], args := [] }

/-- 'customslaw21.QuotaValidate': WHATEVER THE INPUT: true; the input reads as it did. -/
def quotaValidateSpec : ChangeSpec := { name := "quotaValidate", fn := fun _ => fun
  | [d] => { results := [.lit (.bool true)], args := [d] }
  | _ => none }
def quotaValidateRow : OpenClaim := { program := "ytpijnpoebkffkaa", sum := "f77be8d43d2845d020886dae28fb3bb40a027581f5e6cada8eafdc3776c2ff82", func := "customs/customslaw21.QuotaValidate", spec := "quotaValidate", unfollowed := true, recurses := true, named := ["math/bits.divideError", "math/bits.overflowError"], apart := false }
def QuotaValidateSaid : Prop := quotaValidateRow.holds Try.pinned (OpenSpec.ofChange quotaValidateSpec)

/-- ITS FALSE NEIGHBOUR: 'it returns false'. Refute it at one input. -/
def quotaValidateWrong : ChangeSpec := { name := "quotaValidate", fn := fun _ => fun
  | [d] => { results := [.lit (.bool false)], args := [d] }
  | _ => none }
def QuotaValidateWrongFalsely : Prop := quotaValidateRow.holds Try.pinned (OpenSpec.ofChange quotaValidateWrong)

/-- 'customslaw21.QuotaAllocate': WHATEVER THE INPUT: true; the input reads as it did. -/
def quotaAllocateSpec : ChangeSpec := { name := "quotaAllocate", fn := fun _ => fun
  | [d1, d2, d3, d4] => { results := [.lit (.bool true)], args := [d1, d2, d3, d4] }
  | _ => none }
def quotaAllocateRow : OpenClaim := { program := "ytpijnpoebkffkaa", sum := "f77be8d43d2845d020886dae28fb3bb40a027581f5e6cada8eafdc3776c2ff82", func := "customs/customslaw21.QuotaAllocate", spec := "quotaAllocate", unfollowed := true, recurses := true, named := ["math/bits.divideError", "math/bits.overflowError"], apart := false }
def QuotaAllocateSaid : Prop := quotaAllocateRow.holds Try.pinned (OpenSpec.ofChange quotaAllocateSpec)

/-- ITS FALSE NEIGHBOUR: 'it returns false'. Refute it at one input. -/
def quotaAllocateWrong : ChangeSpec := { name := "quotaAllocate", fn := fun _ => fun
  | [d1, d2, d3, d4] => { results := [.lit (.bool false)], args := [d1, d2, d3, d4] }
  | _ => none }
def QuotaAllocateWrongFalsely : Prop := quotaAllocateRow.holds Try.pinned (OpenSpec.ofChange quotaAllocateWrong)

/-- 'customslaw21.QuotaExact': WHATEVER THE INPUT: true; the input reads as it did. -/
def quotaExactSpec : ChangeSpec := { name := "quotaExact", fn := fun _ => fun
  | [d1, d2] => { results := [.lit (.bool true)], args := [d1, d2] }
  | _ => none }
def quotaExactRow : OpenClaim := { program := "ytpijnpoebkffkaa", sum := "f77be8d43d2845d020886dae28fb3bb40a027581f5e6cada8eafdc3776c2ff82", func := "customs/customslaw21.QuotaExact", spec := "quotaExact", unfollowed := true, recurses := true, named := ["math/bits.divideError", "math/bits.overflowError"], apart := false }
def QuotaExactSaid : Prop := quotaExactRow.holds Try.pinned (OpenSpec.ofChange quotaExactSpec)

/-- ITS FALSE NEIGHBOUR: 'it returns false'. Refute it at one input. -/
def quotaExactWrong : ChangeSpec := { name := "quotaExact", fn := fun _ => fun
  | [d1, d2] => { results := [.lit (.bool false)], args := [d1, d2] }
  | _ => none }
def QuotaExactWrongFalsely : Prop := quotaExactRow.holds Try.pinned (OpenSpec.ofChange quotaExactWrong)

/-- 'customslaw21.QuotaProportional': WHATEVER THE INPUT: true; the input reads as it did. -/
def quotaProportionalSpec : ChangeSpec := { name := "quotaProportional", fn := fun _ => fun
  | [d1, d2] => { results := [.lit (.bool true)], args := [d1, d2] }
  | _ => none }
def quotaProportionalRow : OpenClaim := { program := "ytpijnpoebkffkaa", sum := "f77be8d43d2845d020886dae28fb3bb40a027581f5e6cada8eafdc3776c2ff82", func := "customs/customslaw21.QuotaProportional", spec := "quotaProportional", unfollowed := true, recurses := true, named := ["math/bits.divideError", "math/bits.overflowError"], apart := false }
def QuotaProportionalSaid : Prop := quotaProportionalRow.holds Try.pinned (OpenSpec.ofChange quotaProportionalSpec)

/-- ITS FALSE NEIGHBOUR: 'it returns false'. Refute it at one input. -/
def quotaProportionalWrong : ChangeSpec := { name := "quotaProportional", fn := fun _ => fun
  | [d1, d2] => { results := [.lit (.bool false)], args := [d1, d2] }
  | _ => none }
def QuotaProportionalWrongFalsely : Prop := quotaProportionalRow.holds Try.pinned (OpenSpec.ofChange quotaProportionalWrong)

/-- 'customslaw21.QuotaCritical': WHATEVER THE INPUT: true; the input reads as it did. -/
def quotaCriticalSpec : ChangeSpec := { name := "quotaCritical", fn := fun _ => fun
  | [d1, d2, d3, d4] => { results := [.lit (.bool true)], args := [d1, d2, d3, d4] }
  | _ => none }
def quotaCriticalRow : OpenClaim := { program := "ytpijnpoebkffkaa", sum := "f77be8d43d2845d020886dae28fb3bb40a027581f5e6cada8eafdc3776c2ff82", func := "customs/customslaw21.QuotaCritical", spec := "quotaCritical", unfollowed := true, recurses := true, named := ["math/bits.divideError", "math/bits.overflowError"], apart := false }
def QuotaCriticalSaid : Prop := quotaCriticalRow.holds Try.pinned (OpenSpec.ofChange quotaCriticalSpec)

/-- ITS FALSE NEIGHBOUR: 'it returns false'. Refute it at one input. -/
def quotaCriticalWrong : ChangeSpec := { name := "quotaCritical", fn := fun _ => fun
  | [d1, d2, d3, d4] => { results := [.lit (.bool false)], args := [d1, d2, d3, d4] }
  | _ => none }
def QuotaCriticalWrongFalsely : Prop := quotaCriticalRow.holds Try.pinned (OpenSpec.ofChange quotaCriticalWrong)

/- THE SECOND FORM. 'bulk': how many values and letters a reading holds, each counted each time it is reached (what is shared counts as often as it is met; a slice's spare places count too). A statement '..UptoSaid' is the law's where the arguments, and the package variables that the reading takes, are together of bulk at most 1048576: NARROWER than '..Said'. Prove '..Said' where nothing that the law and all that it calls make is longer than what came in: it says more and counts as full. Else prove '..UptoSaid'. A law counts once. -/
mutual
def uptoBulk {H : Type} : DataW H → Nat
  | .lit (.string bytes) => bytes.length + 1
  | .lit _ => 1
  | .nil => 1
  | .ptr d => uptoBulk d + 1
  | .slice elems spare => uptoBulkAll elems + uptoBulkAll spare + 1
  | .agg parts => uptoBulkAll parts + 1
  | .iface _ d => uptoBulk d + 1
  | .map entries => uptoBulkEntries entries + 1
  | .held _ => 1
def uptoBulkAll {H : Type} : List (DataW H) → Nat
  | [] => 0
  | d :: r => uptoBulk d + uptoBulkAll r
def uptoBulkEntries {H : Type} : List (Lit × DataW H) → Nat
  | [] => 0
  | x :: r => uptoBulkEntry x + uptoBulkEntries r
def uptoBulkEntry {H : Type} : Lit × DataW H → Nat
  | (.string bytes, d) => bytes.length + uptoBulk d + 1
  | (_, d) => uptoBulk d + 1
 end
def uptoSmall : (H : Type) → List (DataW H) → Bool := fun _ ds => decide (uptoBulkAll ds ≤ 1048576)
def OpenSpec.upto (s : _root_.Go.ChangeSpec) : _root_.Go.OpenSpec := { _root_.Go.OpenSpec.ofChange s with cond := some uptoSmall }

/-- 'customslaw21.QuotaValidate', WHERE WHAT IT READS IS OF BULK AT MOST 1048576: true; the input reads as it did. -/
def quotaValidateUptoRow : OpenClaim := { program := "ytpijnpoebkffkaa", sum := "f77be8d43d2845d020886dae28fb3bb40a027581f5e6cada8eafdc3776c2ff82", func := "customs/customslaw21.QuotaValidate", spec := "quotaValidate", unfollowed := true, recurses := true, named := ["math/bits.divideError", "math/bits.overflowError"], apart := false, narrowed := true }
def QuotaValidateUptoSaid : Prop := quotaValidateUptoRow.holds Try.pinned (OpenSpec.upto quotaValidateSpec)

/-- 'customslaw21.QuotaAllocate', WHERE WHAT IT READS IS OF BULK AT MOST 1048576: true; the input reads as it did. -/
def quotaAllocateUptoRow : OpenClaim := { program := "ytpijnpoebkffkaa", sum := "f77be8d43d2845d020886dae28fb3bb40a027581f5e6cada8eafdc3776c2ff82", func := "customs/customslaw21.QuotaAllocate", spec := "quotaAllocate", unfollowed := true, recurses := true, named := ["math/bits.divideError", "math/bits.overflowError"], apart := false, narrowed := true }
def QuotaAllocateUptoSaid : Prop := quotaAllocateUptoRow.holds Try.pinned (OpenSpec.upto quotaAllocateSpec)

/-- 'customslaw21.QuotaExact', WHERE WHAT IT READS IS OF BULK AT MOST 1048576: true; the input reads as it did. -/
def quotaExactUptoRow : OpenClaim := { program := "ytpijnpoebkffkaa", sum := "f77be8d43d2845d020886dae28fb3bb40a027581f5e6cada8eafdc3776c2ff82", func := "customs/customslaw21.QuotaExact", spec := "quotaExact", unfollowed := true, recurses := true, named := ["math/bits.divideError", "math/bits.overflowError"], apart := false, narrowed := true }
def QuotaExactUptoSaid : Prop := quotaExactUptoRow.holds Try.pinned (OpenSpec.upto quotaExactSpec)

/-- 'customslaw21.QuotaProportional', WHERE WHAT IT READS IS OF BULK AT MOST 1048576: true; the input reads as it did. -/
def quotaProportionalUptoRow : OpenClaim := { program := "ytpijnpoebkffkaa", sum := "f77be8d43d2845d020886dae28fb3bb40a027581f5e6cada8eafdc3776c2ff82", func := "customs/customslaw21.QuotaProportional", spec := "quotaProportional", unfollowed := true, recurses := true, named := ["math/bits.divideError", "math/bits.overflowError"], apart := false, narrowed := true }
def QuotaProportionalUptoSaid : Prop := quotaProportionalUptoRow.holds Try.pinned (OpenSpec.upto quotaProportionalSpec)

/-- 'customslaw21.QuotaCritical', WHERE WHAT IT READS IS OF BULK AT MOST 1048576: true; the input reads as it did. -/
def quotaCriticalUptoRow : OpenClaim := { program := "ytpijnpoebkffkaa", sum := "f77be8d43d2845d020886dae28fb3bb40a027581f5e6cada8eafdc3776c2ff82", func := "customs/customslaw21.QuotaCritical", spec := "quotaCritical", unfollowed := true, recurses := true, named := ["math/bits.divideError", "math/bits.overflowError"], apart := false, narrowed := true }
def QuotaCriticalUptoSaid : Prop := quotaCriticalUptoRow.holds Try.pinned (OpenSpec.upto quotaCriticalSpec)

end Rows
end Go.Proofs.Ytpijnpoebkffkaa
