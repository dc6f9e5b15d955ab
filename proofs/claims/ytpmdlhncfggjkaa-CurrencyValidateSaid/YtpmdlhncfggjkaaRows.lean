/-
  No cell of these rows narrows 'for every input' (looked for: loops, veiled, ifaces, maps, wideKeys, modest, calm, conditions, laid).
  DERIVED. THE GIVEN ROWS OF THIS SEAT. 7 by the template 'for every input the law returns true; each argument reads behind the call as it read before'; 0 by the template 'total and deterministic' (their statements: YtpmdlhncfggjkaaTotals.lean).
  GIVEN WITH THE SEED: the statements are not yours to turn. If you find one false, say at which input.
  Laid BY PROGRAM, IN A SANDBOX (cutbox-rows.mjs): the forced cells as the released guide's own fill.sh prints them over the translation dad0b12c5aeaa167… (all of the seat's roots in one cut). By AI agents, Wed Nov 11 2026. No macro, syntax, notation, axiom, sorry.
-/
import Derived.Test.YtpmdlhncfggjkaaChecked
import GoSem.Claim
import GoSem.ClaimJoined
import GoSem.ClaimMapViews
import Derived.JoinedTies
import Derived.KernelRfl
namespace Go.Proofs.Ytpmdlhncfggjkaa
/- THE CELL 'sum', in the pinned program and in every row, IS THE sha256 OF THE DUMP (.gsa) THAT YtpmdlhncfggjkaaProg.lean LOADS. Nothing in Lean hashes anything: it is a label: what it is worth is what the hold of that sum in a sandbox is worth. -/
noncomputable def Try.pinned : Pinned := { name := "ytpmdlhncfggjkaa", sum := "dad0b12c5aeaa1670351a1107577b384da87f436491cb1641e032104aa399be9", checked := Try.checked }
namespace Rows
def none {H : Type} : Left H := { results := [], args := [] }

/-- 'customslaw05.CurrencyValidate': WHATEVER THE INPUT: true; the input reads as it did. -/
def currencyValidateSpec : ChangeSpec := { name := "currencyValidate", fn := fun _ => fun
  | [d1, d2, d3, d4] => { results := [.lit (.bool true)], args := [d1, d2, d3, d4] }
  | _ => none }
def currencyValidateRow : OpenClaim := { program := "ytpmdlhncfggjkaa", sum := "dad0b12c5aeaa1670351a1107577b384da87f436491cb1641e032104aa399be9", func := "customs/customslaw05.CurrencyValidate", spec := "currencyValidate", named := ["math/bits.divideError", "math/bits.overflowError"], apart := false }
def CurrencyValidateSaid : Prop := currencyValidateRow.holds Try.pinned (OpenSpec.ofChange currencyValidateSpec)

/-- ITS FALSE NEIGHBOUR: 'it returns false'. Refute it at one input. -/
def currencyValidateWrong : ChangeSpec := { name := "currencyValidate", fn := fun _ => fun
  | [d1, d2, d3, d4] => { results := [.lit (.bool false)], args := [d1, d2, d3, d4] }
  | _ => none }
def CurrencyValidateWrongFalsely : Prop := currencyValidateRow.holds Try.pinned (OpenSpec.ofChange currencyValidateWrong)

/-- 'customslaw05.CurrencyAt': WHATEVER THE INPUT: true; the input reads as it did. -/
def currencyAtSpec : ChangeSpec := { name := "currencyAt", fn := fun _ => fun
  | [d1, d2, d3, d4] => { results := [.lit (.bool true)], args := [d1, d2, d3, d4] }
  | _ => none }
def currencyAtRow : OpenClaim := { program := "ytpmdlhncfggjkaa", sum := "dad0b12c5aeaa1670351a1107577b384da87f436491cb1641e032104aa399be9", func := "customs/customslaw05.CurrencyAt", spec := "currencyAt", named := ["math/bits.divideError", "math/bits.overflowError"], apart := false }
def CurrencyAtSaid : Prop := currencyAtRow.holds Try.pinned (OpenSpec.ofChange currencyAtSpec)

/-- ITS FALSE NEIGHBOUR: 'it returns false'. Refute it at one input. -/
def currencyAtWrong : ChangeSpec := { name := "currencyAt", fn := fun _ => fun
  | [d1, d2, d3, d4] => { results := [.lit (.bool false)], args := [d1, d2, d3, d4] }
  | _ => none }
def CurrencyAtWrongFalsely : Prop := currencyAtRow.holds Try.pinned (OpenSpec.ofChange currencyAtWrong)

/-- 'customslaw05.CurrencyAtRaw': WHATEVER THE INPUT: true; the input reads as it did. -/
def currencyAtRawSpec : ChangeSpec := { name := "currencyAtRaw", fn := fun _ => fun
  | [d1, d2, d3] => { results := [.lit (.bool true)], args := [d1, d2, d3] }
  | _ => none }
def currencyAtRawRow : OpenClaim := { program := "ytpmdlhncfggjkaa", sum := "dad0b12c5aeaa1670351a1107577b384da87f436491cb1641e032104aa399be9", func := "customs/customslaw05.CurrencyAtRaw", spec := "currencyAtRaw", named := ["math/bits.divideError", "math/bits.overflowError"], apart := false }
def CurrencyAtRawSaid : Prop := currencyAtRawRow.holds Try.pinned (OpenSpec.ofChange currencyAtRawSpec)

/-- ITS FALSE NEIGHBOUR: 'it returns false'. Refute it at one input. -/
def currencyAtRawWrong : ChangeSpec := { name := "currencyAtRaw", fn := fun _ => fun
  | [d1, d2, d3] => { results := [.lit (.bool false)], args := [d1, d2, d3] }
  | _ => none }
def CurrencyAtRawWrongFalsely : Prop := currencyAtRawRow.holds Try.pinned (OpenSpec.ofChange currencyAtRawWrong)

/-- 'customslaw05.CurrencyConvert': WHATEVER THE INPUT: true; the input reads as it did. -/
def currencyConvertSpec : ChangeSpec := { name := "currencyConvert", fn := fun _ => fun
  | [d1, d2, d3, d4, d5, d6, d7] => { results := [.lit (.bool true)], args := [d1, d2, d3, d4, d5, d6, d7] }
  | _ => none }
def currencyConvertRow : OpenClaim := { program := "ytpmdlhncfggjkaa", sum := "dad0b12c5aeaa1670351a1107577b384da87f436491cb1641e032104aa399be9", func := "customs/customslaw05.CurrencyConvert", spec := "currencyConvert", named := ["math/bits.divideError", "math/bits.overflowError"], apart := false }
def CurrencyConvertSaid : Prop := currencyConvertRow.holds Try.pinned (OpenSpec.ofChange currencyConvertSpec)

/-- ITS FALSE NEIGHBOUR: 'it returns false'. Refute it at one input. -/
def currencyConvertWrong : ChangeSpec := { name := "currencyConvert", fn := fun _ => fun
  | [d1, d2, d3, d4, d5, d6, d7] => { results := [.lit (.bool false)], args := [d1, d2, d3, d4, d5, d6, d7] }
  | _ => none }
def CurrencyConvertWrongFalsely : Prop := currencyConvertRow.holds Try.pinned (OpenSpec.ofChange currencyConvertWrong)

/-- 'customslaw05.CurrencySelf': WHATEVER THE INPUT: true; the input reads as it did. -/
def currencySelfSpec : ChangeSpec := { name := "currencySelf", fn := fun _ => fun
  | [d1, d2, d3, d4, d5] => { results := [.lit (.bool true)], args := [d1, d2, d3, d4, d5] }
  | _ => none }
def currencySelfRow : OpenClaim := { program := "ytpmdlhncfggjkaa", sum := "dad0b12c5aeaa1670351a1107577b384da87f436491cb1641e032104aa399be9", func := "customs/customslaw05.CurrencySelf", spec := "currencySelf", named := ["math/bits.divideError", "math/bits.overflowError"], apart := false }
def CurrencySelfSaid : Prop := currencySelfRow.holds Try.pinned (OpenSpec.ofChange currencySelfSpec)

/-- ITS FALSE NEIGHBOUR: 'it returns false'. Refute it at one input. -/
def currencySelfWrong : ChangeSpec := { name := "currencySelf", fn := fun _ => fun
  | [d1, d2, d3, d4, d5] => { results := [.lit (.bool false)], args := [d1, d2, d3, d4, d5] }
  | _ => none }
def CurrencySelfWrongFalsely : Prop := currencySelfRow.holds Try.pinned (OpenSpec.ofChange currencySelfWrong)

/-- 'customslaw05.CurrencyMonotone': WHATEVER THE INPUT: true; the input reads as it did. -/
def currencyMonotoneSpec : ChangeSpec := { name := "currencyMonotone", fn := fun _ => fun
  | [d1, d2, d3, d4, d5, d6, d7] => { results := [.lit (.bool true)], args := [d1, d2, d3, d4, d5, d6, d7] }
  | _ => none }
def currencyMonotoneRow : OpenClaim := { program := "ytpmdlhncfggjkaa", sum := "dad0b12c5aeaa1670351a1107577b384da87f436491cb1641e032104aa399be9", func := "customs/customslaw05.CurrencyMonotone", spec := "currencyMonotone", named := ["math/bits.divideError", "math/bits.overflowError"], apart := false }
def CurrencyMonotoneSaid : Prop := currencyMonotoneRow.holds Try.pinned (OpenSpec.ofChange currencyMonotoneSpec)

/-- ITS FALSE NEIGHBOUR: 'it returns false'. Refute it at one input. -/
def currencyMonotoneWrong : ChangeSpec := { name := "currencyMonotone", fn := fun _ => fun
  | [d1, d2, d3, d4, d5, d6, d7] => { results := [.lit (.bool false)], args := [d1, d2, d3, d4, d5, d6, d7] }
  | _ => none }
def CurrencyMonotoneWrongFalsely : Prop := currencyMonotoneRow.holds Try.pinned (OpenSpec.ofChange currencyMonotoneWrong)

/-- 'customslaw05.CurrencyLater': WHATEVER THE INPUT: true; the input reads as it did. -/
def currencyLaterSpec : ChangeSpec := { name := "currencyLater", fn := fun _ => fun
  | [d1, d2, d3, d4, d5, d6] => { results := [.lit (.bool true)], args := [d1, d2, d3, d4, d5, d6] }
  | _ => none }
def currencyLaterRow : OpenClaim := { program := "ytpmdlhncfggjkaa", sum := "dad0b12c5aeaa1670351a1107577b384da87f436491cb1641e032104aa399be9", func := "customs/customslaw05.CurrencyLater", spec := "currencyLater", named := ["math/bits.divideError", "math/bits.overflowError"], apart := false }
def CurrencyLaterSaid : Prop := currencyLaterRow.holds Try.pinned (OpenSpec.ofChange currencyLaterSpec)

/-- ITS FALSE NEIGHBOUR: 'it returns false'. Refute it at one input. -/
def currencyLaterWrong : ChangeSpec := { name := "currencyLater", fn := fun _ => fun
  | [d1, d2, d3, d4, d5, d6] => { results := [.lit (.bool false)], args := [d1, d2, d3, d4, d5, d6] }
  | _ => none }
def CurrencyLaterWrongFalsely : Prop := currencyLaterRow.holds Try.pinned (OpenSpec.ofChange currencyLaterWrong)

/- THE SECOND FORM. 'bulk': how many values and letters a reading holds, each counted each time it is reached (what is shared counts as often as it is met; a slice's spare places count too). A statement '..UptoSaid' is the law's where the arguments, and the package variables that the reading takes, are together of bulk at most 1048576: NARROWER than '..Said'. Prove '..Said' where nothing that the law and all that it calls make is longer than what came in: it says more and counts as full. Else prove '..UptoSaid'. A law counts once. -/
mutual
def uptoBulk {H : Type} : DataW H → Nat
  | .lit (.string bytes) => bytes.length + 1
  | .lit _ => 1
  | .nil => 1
  | .ptr d => uptoBulk d + 1
  | .slice elems spare => uptoBulkAll elems + uptoBulkAll spare + 1
  | .agg parts => uptoBulkAll parts + 1
  | .iface _ d => uptoBulk d + 1
  | .map entries => uptoBulkEntries entries + 1
  | .held _ => 1
def uptoBulkAll {H : Type} : List (DataW H) → Nat
  | [] => 0
  | d :: r => uptoBulk d + uptoBulkAll r
def uptoBulkEntries {H : Type} : List (Lit × DataW H) → Nat
  | [] => 0
  | x :: r => uptoBulkEntry x + uptoBulkEntries r
def uptoBulkEntry {H : Type} : Lit × DataW H → Nat
  | (.string bytes, d) => bytes.length + uptoBulk d + 1
  | (_, d) => uptoBulk d + 1
 end
def uptoSmall : (H : Type) → List (DataW H) → Bool := fun _ ds => decide (uptoBulkAll ds ≤ 1048576)
def OpenSpec.upto (s : _root_.Go.ChangeSpec) : _root_.Go.OpenSpec := { _root_.Go.OpenSpec.ofChange s with cond := some uptoSmall }

/-- 'customslaw05.CurrencyValidate', WHERE WHAT IT READS IS OF BULK AT MOST 1048576: true; the input reads as it did. -/
def currencyValidateUptoRow : OpenClaim := { program := "ytpmdlhncfggjkaa", sum := "dad0b12c5aeaa1670351a1107577b384da87f436491cb1641e032104aa399be9", func := "customs/customslaw05.CurrencyValidate", spec := "currencyValidate", named := ["math/bits.divideError", "math/bits.overflowError"], apart := false, narrowed := true }
def CurrencyValidateUptoSaid : Prop := currencyValidateUptoRow.holds Try.pinned (OpenSpec.upto currencyValidateSpec)

/-- 'customslaw05.CurrencyAt', WHERE WHAT IT READS IS OF BULK AT MOST 1048576: true; the input reads as it did. -/
def currencyAtUptoRow : OpenClaim := { program := "ytpmdlhncfggjkaa", sum := "dad0b12c5aeaa1670351a1107577b384da87f436491cb1641e032104aa399be9", func := "customs/customslaw05.CurrencyAt", spec := "currencyAt", named := ["math/bits.divideError", "math/bits.overflowError"], apart := false, narrowed := true }
def CurrencyAtUptoSaid : Prop := currencyAtUptoRow.holds Try.pinned (OpenSpec.upto currencyAtSpec)

/-- 'customslaw05.CurrencyAtRaw', WHERE WHAT IT READS IS OF BULK AT MOST 1048576: true; the input reads as it did. -/
def currencyAtRawUptoRow : OpenClaim := { program := "ytpmdlhncfggjkaa", sum := "dad0b12c5aeaa1670351a1107577b384da87f436491cb1641e032104aa399be9", func := "customs/customslaw05.CurrencyAtRaw", spec := "currencyAtRaw", named := ["math/bits.divideError", "math/bits.overflowError"], apart := false, narrowed := true }
def CurrencyAtRawUptoSaid : Prop := currencyAtRawUptoRow.holds Try.pinned (OpenSpec.upto currencyAtRawSpec)

/-- 'customslaw05.CurrencyConvert', WHERE WHAT IT READS IS OF BULK AT MOST 1048576: true; the input reads as it did. -/
def currencyConvertUptoRow : OpenClaim := { program := "ytpmdlhncfggjkaa", sum := "dad0b12c5aeaa1670351a1107577b384da87f436491cb1641e032104aa399be9", func := "customs/customslaw05.CurrencyConvert", spec := "currencyConvert", named := ["math/bits.divideError", "math/bits.overflowError"], apart := false, narrowed := true }
def CurrencyConvertUptoSaid : Prop := currencyConvertUptoRow.holds Try.pinned (OpenSpec.upto currencyConvertSpec)

/-- 'customslaw05.CurrencySelf', WHERE WHAT IT READS IS OF BULK AT MOST 1048576: true; the input reads as it did. -/
def currencySelfUptoRow : OpenClaim := { program := "ytpmdlhncfggjkaa", sum := "dad0b12c5aeaa1670351a1107577b384da87f436491cb1641e032104aa399be9", func := "customs/customslaw05.CurrencySelf", spec := "currencySelf", named := ["math/bits.divideError", "math/bits.overflowError"], apart := false, narrowed := true }
def CurrencySelfUptoSaid : Prop := currencySelfUptoRow.holds Try.pinned (OpenSpec.upto currencySelfSpec)

/-- 'customslaw05.CurrencyMonotone', WHERE WHAT IT READS IS OF BULK AT MOST 1048576: true; the input reads as it did. -/
def currencyMonotoneUptoRow : OpenClaim := { program := "ytpmdlhncfggjkaa", sum := "dad0b12c5aeaa1670351a1107577b384da87f436491cb1641e032104aa399be9", func := "customs/customslaw05.CurrencyMonotone", spec := "currencyMonotone", named := ["math/bits.divideError", "math/bits.overflowError"], apart := false, narrowed := true }
def CurrencyMonotoneUptoSaid : Prop := currencyMonotoneUptoRow.holds Try.pinned (OpenSpec.upto currencyMonotoneSpec)

/-- 'customslaw05.CurrencyLater', WHERE WHAT IT READS IS OF BULK AT MOST 1048576: true; the input reads as it did. -/
def currencyLaterUptoRow : OpenClaim := { program := "ytpmdlhncfggjkaa", sum := "dad0b12c5aeaa1670351a1107577b384da87f436491cb1641e032104aa399be9", func := "customs/customslaw05.CurrencyLater", spec := "currencyLater", named := ["math/bits.divideError", "math/bits.overflowError"], apart := false, narrowed := true }
def CurrencyLaterUptoSaid : Prop := currencyLaterUptoRow.holds Try.pinned (OpenSpec.upto currencyLaterSpec)

end Rows
end Go.Proofs.Ytpmdlhncfggjkaa
