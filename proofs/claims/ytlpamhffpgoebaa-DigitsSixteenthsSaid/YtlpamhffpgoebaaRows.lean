/-
  No cell of these rows narrows 'for every input' (looked for: loops, veiled, ifaces, maps, wideKeys, modest, calm, conditions, laid).
  DERIVED. THE GIVEN ROWS OF THIS SEAT. 14 by the template 'for every input the law returns true; each argument reads behind the call as it read before'; 0 by the template 'total and deterministic' (their statements: YtlpamhffpgoebaaTotals.lean).
  GIVEN WITH THE SEED: the statements are not yours to turn. If you find one false, say at which input.
  Laid BY PROGRAM, IN A SANDBOX (cutbox-rows.mjs): the forced cells as the released guide's own fill.sh prints them over the translation 7458d67ac2651511… (all of the seat's roots in one cut). By AI agents, Wed Nov 11 2026. No macro, syntax, notation, axiom, sorry.
-/
import Derived.Test.YtlpamhffpgoebaaChecked
import GoSem.Claim
import GoSem.ClaimJoined
import GoSem.ClaimMapViews
import Derived.JoinedTies
import Derived.KernelRfl
namespace Go.Proofs.Ytlpamhffpgoebaa
/- THE CELL 'sum', in the pinned program and in every row, IS THE sha256 OF THE DUMP (.gsa) THAT YtlpamhffpgoebaaProg.lean LOADS. Nothing in Lean hashes anything: it is a label: what it is worth is what the hold of that sum in a sandbox is worth. -/
noncomputable def Try.pinned : Pinned := { name := "ytlpamhffpgoebaa", sum := "7458d67ac2651511562420655215a44e598a6f7cb9c087ebe821b1ab6939f5f3", checked := Try.checked }
namespace Rows
def none {H : Type} : Left H := { results := [], args := [] }

/-- 'turnstilelaw1.DigitsCounts': WHATEVER THE INPUT: true; the input reads as it did. -/
def digitsCountsSpec : ChangeSpec := { name := "digitsCounts", fn := fun _ => fun
  | [d1, d2, d3] => { results := [.lit (.bool true)], args := [d1, d2, d3] }
  | _ => none }
def digitsCountsRow : OpenClaim := { program := "ytlpamhffpgoebaa", sum := "7458d67ac2651511562420655215a44e598a6f7cb9c087ebe821b1ab6939f5f3", func := "turnstile/turnstilelaw1.DigitsCounts", spec := "digitsCounts", apart := false }
def DigitsCountsSaid : Prop := digitsCountsRow.holds Try.pinned (OpenSpec.ofChange digitsCountsSpec)

/-- ITS FALSE NEIGHBOUR: 'it returns false'. Refute it at one input. -/
def digitsCountsWrong : ChangeSpec := { name := "digitsCounts", fn := fun _ => fun
  | [d1, d2, d3] => { results := [.lit (.bool false)], args := [d1, d2, d3] }
  | _ => none }
def DigitsCountsWrongFalsely : Prop := digitsCountsRow.holds Try.pinned (OpenSpec.ofChange digitsCountsWrong)

/-- 'turnstilelaw1.DigitsStays': WHATEVER THE INPUT: true; the input reads as it did. -/
def digitsStaysSpec : ChangeSpec := { name := "digitsStays", fn := fun _ => fun
  | [d1, d2, d3] => { results := [.lit (.bool true)], args := [d1, d2, d3] }
  | _ => none }
def digitsStaysRow : OpenClaim := { program := "ytlpamhffpgoebaa", sum := "7458d67ac2651511562420655215a44e598a6f7cb9c087ebe821b1ab6939f5f3", func := "turnstile/turnstilelaw1.DigitsStays", spec := "digitsStays", apart := false }
def DigitsStaysSaid : Prop := digitsStaysRow.holds Try.pinned (OpenSpec.ofChange digitsStaysSpec)

/-- ITS FALSE NEIGHBOUR: 'it returns false'. Refute it at one input. -/
def digitsStaysWrong : ChangeSpec := { name := "digitsStays", fn := fun _ => fun
  | [d1, d2, d3] => { results := [.lit (.bool false)], args := [d1, d2, d3] }
  | _ => none }
def DigitsStaysWrongFalsely : Prop := digitsStaysRow.holds Try.pinned (OpenSpec.ofChange digitsStaysWrong)

/-- 'turnstilelaw1.DigitsWidths': WHATEVER THE INPUT: true; the input reads as it did. -/
def digitsWidthsSpec : ChangeSpec := { name := "digitsWidths", fn := fun _ => fun
  | [d1, d2] => { results := [.lit (.bool true)], args := [d1, d2] }
  | _ => none }
def digitsWidthsRow : OpenClaim := { program := "ytlpamhffpgoebaa", sum := "7458d67ac2651511562420655215a44e598a6f7cb9c087ebe821b1ab6939f5f3", func := "turnstile/turnstilelaw1.DigitsWidths", spec := "digitsWidths", apart := false }
def DigitsWidthsSaid : Prop := digitsWidthsRow.holds Try.pinned (OpenSpec.ofChange digitsWidthsSpec)

/-- ITS FALSE NEIGHBOUR: 'it returns false'. Refute it at one input. -/
def digitsWidthsWrong : ChangeSpec := { name := "digitsWidths", fn := fun _ => fun
  | [d1, d2] => { results := [.lit (.bool false)], args := [d1, d2] }
  | _ => none }
def DigitsWidthsWrongFalsely : Prop := digitsWidthsRow.holds Try.pinned (OpenSpec.ofChange digitsWidthsWrong)

/-- 'turnstilelaw1.DigitsNumbers': WHATEVER THE INPUT: true; the input reads as it did. -/
def digitsNumbersSpec : ChangeSpec := { name := "digitsNumbers", fn := fun _ => fun
  | [d1, d2, d3] => { results := [.lit (.bool true)], args := [d1, d2, d3] }
  | _ => none }
def digitsNumbersRow : OpenClaim := { program := "ytlpamhffpgoebaa", sum := "7458d67ac2651511562420655215a44e598a6f7cb9c087ebe821b1ab6939f5f3", func := "turnstile/turnstilelaw1.DigitsNumbers", spec := "digitsNumbers", apart := false }
def DigitsNumbersSaid : Prop := digitsNumbersRow.holds Try.pinned (OpenSpec.ofChange digitsNumbersSpec)

/-- ITS FALSE NEIGHBOUR: 'it returns false'. Refute it at one input. -/
def digitsNumbersWrong : ChangeSpec := { name := "digitsNumbers", fn := fun _ => fun
  | [d1, d2, d3] => { results := [.lit (.bool false)], args := [d1, d2, d3] }
  | _ => none }
def DigitsNumbersWrongFalsely : Prop := digitsNumbersRow.holds Try.pinned (OpenSpec.ofChange digitsNumbersWrong)

/-- 'turnstilelaw1.DigitsMeasured': WHATEVER THE INPUT: true; the input reads as it did. -/
def digitsMeasuredSpec : ChangeSpec := { name := "digitsMeasured", fn := fun _ => fun
  | [d1, d2, d3, d4] => { results := [.lit (.bool true)], args := [d1, d2, d3, d4] }
  | _ => none }
def digitsMeasuredRow : OpenClaim := { program := "ytlpamhffpgoebaa", sum := "7458d67ac2651511562420655215a44e598a6f7cb9c087ebe821b1ab6939f5f3", func := "turnstile/turnstilelaw1.DigitsMeasured", spec := "digitsMeasured", apart := false }
def DigitsMeasuredSaid : Prop := digitsMeasuredRow.holds Try.pinned (OpenSpec.ofChange digitsMeasuredSpec)

/-- ITS FALSE NEIGHBOUR: 'it returns false'. Refute it at one input. -/
def digitsMeasuredWrong : ChangeSpec := { name := "digitsMeasured", fn := fun _ => fun
  | [d1, d2, d3, d4] => { results := [.lit (.bool false)], args := [d1, d2, d3, d4] }
  | _ => none }
def DigitsMeasuredWrongFalsely : Prop := digitsMeasuredRow.holds Try.pinned (OpenSpec.ofChange digitsMeasuredWrong)

/-- 'turnstilelaw1.DigitsHexes': WHATEVER THE INPUT: true; the input reads as it did. -/
def digitsHexesSpec : ChangeSpec := { name := "digitsHexes", fn := fun _ => fun
  | [d1, d2] => { results := [.lit (.bool true)], args := [d1, d2] }
  | _ => none }
def digitsHexesRow : OpenClaim := { program := "ytlpamhffpgoebaa", sum := "7458d67ac2651511562420655215a44e598a6f7cb9c087ebe821b1ab6939f5f3", func := "turnstile/turnstilelaw1.DigitsHexes", spec := "digitsHexes", inPlace := ["internal/bytealg.IndexByteString"], apart := false }
def DigitsHexesSaid : Prop := digitsHexesRow.holds Try.pinned (OpenSpec.ofChange digitsHexesSpec)

/-- ITS FALSE NEIGHBOUR: 'it returns false'. Refute it at one input. -/
def digitsHexesWrong : ChangeSpec := { name := "digitsHexes", fn := fun _ => fun
  | [d1, d2] => { results := [.lit (.bool false)], args := [d1, d2] }
  | _ => none }
def DigitsHexesWrongFalsely : Prop := digitsHexesRow.holds Try.pinned (OpenSpec.ofChange digitsHexesWrong)

/-- 'turnstilelaw1.DigitsSixteenths': WHATEVER THE INPUT: true; the input reads as it did. -/
def digitsSixteenthsSpec : ChangeSpec := { name := "digitsSixteenths", fn := fun _ => fun
  | [d1, d2] => { results := [.lit (.bool true)], args := [d1, d2] }
  | _ => none }
def digitsSixteenthsRow : OpenClaim := { program := "ytlpamhffpgoebaa", sum := "7458d67ac2651511562420655215a44e598a6f7cb9c087ebe821b1ab6939f5f3", func := "turnstile/turnstilelaw1.DigitsSixteenths", spec := "digitsSixteenths", inPlace := ["internal/bytealg.IndexByteString"], apart := false }
def DigitsSixteenthsSaid : Prop := digitsSixteenthsRow.holds Try.pinned (OpenSpec.ofChange digitsSixteenthsSpec)

/-- ITS FALSE NEIGHBOUR: 'it returns false'. Refute it at one input. -/
def digitsSixteenthsWrong : ChangeSpec := { name := "digitsSixteenths", fn := fun _ => fun
  | [d1, d2] => { results := [.lit (.bool false)], args := [d1, d2] }
  | _ => none }
def DigitsSixteenthsWrongFalsely : Prop := digitsSixteenthsRow.holds Try.pinned (OpenSpec.ofChange digitsSixteenthsWrong)

/-- 'turnstilelaw1.DigitsPacks': WHATEVER THE INPUT: true; the input reads as it did. -/
def digitsPacksSpec : ChangeSpec := { name := "digitsPacks", fn := fun _ => fun
  | [d1, d2] => { results := [.lit (.bool true)], args := [d1, d2] }
  | _ => none }
def digitsPacksRow : OpenClaim := { program := "ytlpamhffpgoebaa", sum := "7458d67ac2651511562420655215a44e598a6f7cb9c087ebe821b1ab6939f5f3", func := "turnstile/turnstilelaw1.DigitsPacks", spec := "digitsPacks", apart := false }
def DigitsPacksSaid : Prop := digitsPacksRow.holds Try.pinned (OpenSpec.ofChange digitsPacksSpec)

/-- ITS FALSE NEIGHBOUR: 'it returns false'. Refute it at one input. -/
def digitsPacksWrong : ChangeSpec := { name := "digitsPacks", fn := fun _ => fun
  | [d1, d2] => { results := [.lit (.bool false)], args := [d1, d2] }
  | _ => none }
def DigitsPacksWrongFalsely : Prop := digitsPacksRow.holds Try.pinned (OpenSpec.ofChange digitsPacksWrong)

/-- 'turnstilelaw1.DigitsUnpacks': WHATEVER THE INPUT: true; the input reads as it did. -/
def digitsUnpacksSpec : ChangeSpec := { name := "digitsUnpacks", fn := fun _ => fun
  | [d1, d2, d3] => { results := [.lit (.bool true)], args := [d1, d2, d3] }
  | _ => none }
def digitsUnpacksRow : OpenClaim := { program := "ytlpamhffpgoebaa", sum := "7458d67ac2651511562420655215a44e598a6f7cb9c087ebe821b1ab6939f5f3", func := "turnstile/turnstilelaw1.DigitsUnpacks", spec := "digitsUnpacks", apart := false }
def DigitsUnpacksSaid : Prop := digitsUnpacksRow.holds Try.pinned (OpenSpec.ofChange digitsUnpacksSpec)

/-- ITS FALSE NEIGHBOUR: 'it returns false'. Refute it at one input. -/
def digitsUnpacksWrong : ChangeSpec := { name := "digitsUnpacks", fn := fun _ => fun
  | [d1, d2, d3] => { results := [.lit (.bool false)], args := [d1, d2, d3] }
  | _ => none }
def DigitsUnpacksWrongFalsely : Prop := digitsUnpacksRow.holds Try.pinned (OpenSpec.ofChange digitsUnpacksWrong)

/-- 'turnstilelaw1.DigitsLengths': WHATEVER THE INPUT: true; the input reads as it did. -/
def digitsLengthsSpec : ChangeSpec := { name := "digitsLengths", fn := fun _ => fun
  | [d1, d2, d3] => { results := [.lit (.bool true)], args := [d1, d2, d3] }
  | _ => none }
def digitsLengthsRow : OpenClaim := { program := "ytlpamhffpgoebaa", sum := "7458d67ac2651511562420655215a44e598a6f7cb9c087ebe821b1ab6939f5f3", func := "turnstile/turnstilelaw1.DigitsLengths", spec := "digitsLengths", apart := false }
def DigitsLengthsSaid : Prop := digitsLengthsRow.holds Try.pinned (OpenSpec.ofChange digitsLengthsSpec)

/-- ITS FALSE NEIGHBOUR: 'it returns false'. Refute it at one input. -/
def digitsLengthsWrong : ChangeSpec := { name := "digitsLengths", fn := fun _ => fun
  | [d1, d2, d3] => { results := [.lit (.bool false)], args := [d1, d2, d3] }
  | _ => none }
def DigitsLengthsWrongFalsely : Prop := digitsLengthsRow.holds Try.pinned (OpenSpec.ofChange digitsLengthsWrong)

/-- 'turnstilelaw1.DigitsPrefixes': WHATEVER THE INPUT: true; the input reads as it did. -/
def digitsPrefixesSpec : ChangeSpec := { name := "digitsPrefixes", fn := fun _ => fun
  | [d1, d2, d3] => { results := [.lit (.bool true)], args := [d1, d2, d3] }
  | _ => none }
def digitsPrefixesRow : OpenClaim := { program := "ytlpamhffpgoebaa", sum := "7458d67ac2651511562420655215a44e598a6f7cb9c087ebe821b1ab6939f5f3", func := "turnstile/turnstilelaw1.DigitsPrefixes", spec := "digitsPrefixes", apart := false }
def DigitsPrefixesSaid : Prop := digitsPrefixesRow.holds Try.pinned (OpenSpec.ofChange digitsPrefixesSpec)

/-- ITS FALSE NEIGHBOUR: 'it returns false'. Refute it at one input. -/
def digitsPrefixesWrong : ChangeSpec := { name := "digitsPrefixes", fn := fun _ => fun
  | [d1, d2, d3] => { results := [.lit (.bool false)], args := [d1, d2, d3] }
  | _ => none }
def DigitsPrefixesWrongFalsely : Prop := digitsPrefixesRow.holds Try.pinned (OpenSpec.ofChange digitsPrefixesWrong)

/-- 'turnstilelaw1.DigitsBack': WHATEVER THE INPUT: true; the input reads as it did. -/
def digitsBackSpec : ChangeSpec := { name := "digitsBack", fn := fun _ => fun
  | [d1, d2, d3] => { results := [.lit (.bool true)], args := [d1, d2, d3] }
  | _ => none }
def digitsBackRow : OpenClaim := { program := "ytlpamhffpgoebaa", sum := "7458d67ac2651511562420655215a44e598a6f7cb9c087ebe821b1ab6939f5f3", func := "turnstile/turnstilelaw1.DigitsBack", spec := "digitsBack", apart := false }
def DigitsBackSaid : Prop := digitsBackRow.holds Try.pinned (OpenSpec.ofChange digitsBackSpec)

/-- ITS FALSE NEIGHBOUR: 'it returns false'. Refute it at one input. -/
def digitsBackWrong : ChangeSpec := { name := "digitsBack", fn := fun _ => fun
  | [d1, d2, d3] => { results := [.lit (.bool false)], args := [d1, d2, d3] }
  | _ => none }
def DigitsBackWrongFalsely : Prop := digitsBackRow.holds Try.pinned (OpenSpec.ofChange digitsBackWrong)

/-- 'turnstilelaw1.DigitsForms': WHATEVER THE INPUT: true; the input reads as it did. -/
def digitsFormsSpec : ChangeSpec := { name := "digitsForms", fn := fun _ => fun
  | [d1, d2, d3] => { results := [.lit (.bool true)], args := [d1, d2, d3] }
  | _ => none }
def digitsFormsRow : OpenClaim := { program := "ytlpamhffpgoebaa", sum := "7458d67ac2651511562420655215a44e598a6f7cb9c087ebe821b1ab6939f5f3", func := "turnstile/turnstilelaw1.DigitsForms", spec := "digitsForms", apart := false }
def DigitsFormsSaid : Prop := digitsFormsRow.holds Try.pinned (OpenSpec.ofChange digitsFormsSpec)

/-- ITS FALSE NEIGHBOUR: 'it returns false'. Refute it at one input. -/
def digitsFormsWrong : ChangeSpec := { name := "digitsForms", fn := fun _ => fun
  | [d1, d2, d3] => { results := [.lit (.bool false)], args := [d1, d2, d3] }
  | _ => none }
def DigitsFormsWrongFalsely : Prop := digitsFormsRow.holds Try.pinned (OpenSpec.ofChange digitsFormsWrong)

/-- 'turnstilelaw1.DigitsLetters': WHATEVER THE INPUT: true; the input reads as it did. -/
def digitsLettersSpec : ChangeSpec := { name := "digitsLetters", fn := fun _ => fun
  | [d] => { results := [.lit (.bool true)], args := [d] }
  | _ => none }
def digitsLettersRow : OpenClaim := { program := "ytlpamhffpgoebaa", sum := "7458d67ac2651511562420655215a44e598a6f7cb9c087ebe821b1ab6939f5f3", func := "turnstile/turnstilelaw1.DigitsLetters", spec := "digitsLetters", apart := false }
def DigitsLettersSaid : Prop := digitsLettersRow.holds Try.pinned (OpenSpec.ofChange digitsLettersSpec)

/-- ITS FALSE NEIGHBOUR: 'it returns false'. Refute it at one input. -/
def digitsLettersWrong : ChangeSpec := { name := "digitsLetters", fn := fun _ => fun
  | [d] => { results := [.lit (.bool false)], args := [d] }
  | _ => none }
def DigitsLettersWrongFalsely : Prop := digitsLettersRow.holds Try.pinned (OpenSpec.ofChange digitsLettersWrong)

/- THE SECOND FORM. 'bulk': how many values and letters a reading holds, each counted each time it is reached (what is shared counts as often as it is met; a slice's spare places count too). A statement '..UptoSaid' is the law's where the arguments, and the package variables that the reading takes, are together of bulk at most 1048576: NARROWER than '..Said'. Prove '..Said' where nothing that the law and all that it calls make is longer than what came in: it says more and counts as full. Else prove '..UptoSaid'. A law counts once. -/
mutual
def uptoBulk {H : Type} : DataW H → Nat
  | .lit (.string bytes) => bytes.length + 1
  | .lit _ => 1
  | .nil => 1
  | .ptr d => uptoBulk d + 1
  | .slice elems spare => uptoBulkAll elems + uptoBulkAll spare + 1
  | .agg parts => uptoBulkAll parts + 1
  | .iface _ d => uptoBulk d + 1
  | .map entries => uptoBulkEntries entries + 1
  | .held _ => 1
def uptoBulkAll {H : Type} : List (DataW H) → Nat
  | [] => 0
  | d :: r => uptoBulk d + uptoBulkAll r
def uptoBulkEntries {H : Type} : List (Lit × DataW H) → Nat
  | [] => 0
  | x :: r => uptoBulkEntry x + uptoBulkEntries r
def uptoBulkEntry {H : Type} : Lit × DataW H → Nat
  | (.string bytes, d) => bytes.length + uptoBulk d + 1
  | (_, d) => uptoBulk d + 1
 end
def uptoSmall : (H : Type) → List (DataW H) → Bool := fun _ ds => decide (uptoBulkAll ds ≤ 1048576)
def OpenSpec.upto (s : _root_.Go.ChangeSpec) : _root_.Go.OpenSpec := { _root_.Go.OpenSpec.ofChange s with cond := some uptoSmall }

/-- 'turnstilelaw1.DigitsCounts', WHERE WHAT IT READS IS OF BULK AT MOST 1048576: true; the input reads as it did. -/
def digitsCountsUptoRow : OpenClaim := { program := "ytlpamhffpgoebaa", sum := "7458d67ac2651511562420655215a44e598a6f7cb9c087ebe821b1ab6939f5f3", func := "turnstile/turnstilelaw1.DigitsCounts", spec := "digitsCounts", apart := false, narrowed := true }
def DigitsCountsUptoSaid : Prop := digitsCountsUptoRow.holds Try.pinned (OpenSpec.upto digitsCountsSpec)

/-- 'turnstilelaw1.DigitsStays', WHERE WHAT IT READS IS OF BULK AT MOST 1048576: true; the input reads as it did. -/
def digitsStaysUptoRow : OpenClaim := { program := "ytlpamhffpgoebaa", sum := "7458d67ac2651511562420655215a44e598a6f7cb9c087ebe821b1ab6939f5f3", func := "turnstile/turnstilelaw1.DigitsStays", spec := "digitsStays", apart := false, narrowed := true }
def DigitsStaysUptoSaid : Prop := digitsStaysUptoRow.holds Try.pinned (OpenSpec.upto digitsStaysSpec)

/-- 'turnstilelaw1.DigitsWidths', WHERE WHAT IT READS IS OF BULK AT MOST 1048576: true; the input reads as it did. -/
def digitsWidthsUptoRow : OpenClaim := { program := "ytlpamhffpgoebaa", sum := "7458d67ac2651511562420655215a44e598a6f7cb9c087ebe821b1ab6939f5f3", func := "turnstile/turnstilelaw1.DigitsWidths", spec := "digitsWidths", apart := false, narrowed := true }
def DigitsWidthsUptoSaid : Prop := digitsWidthsUptoRow.holds Try.pinned (OpenSpec.upto digitsWidthsSpec)

/-- 'turnstilelaw1.DigitsNumbers', WHERE WHAT IT READS IS OF BULK AT MOST 1048576: true; the input reads as it did. -/
def digitsNumbersUptoRow : OpenClaim := { program := "ytlpamhffpgoebaa", sum := "7458d67ac2651511562420655215a44e598a6f7cb9c087ebe821b1ab6939f5f3", func := "turnstile/turnstilelaw1.DigitsNumbers", spec := "digitsNumbers", apart := false, narrowed := true }
def DigitsNumbersUptoSaid : Prop := digitsNumbersUptoRow.holds Try.pinned (OpenSpec.upto digitsNumbersSpec)

/-- 'turnstilelaw1.DigitsMeasured', WHERE WHAT IT READS IS OF BULK AT MOST 1048576: true; the input reads as it did. -/
def digitsMeasuredUptoRow : OpenClaim := { program := "ytlpamhffpgoebaa", sum := "7458d67ac2651511562420655215a44e598a6f7cb9c087ebe821b1ab6939f5f3", func := "turnstile/turnstilelaw1.DigitsMeasured", spec := "digitsMeasured", apart := false, narrowed := true }
def DigitsMeasuredUptoSaid : Prop := digitsMeasuredUptoRow.holds Try.pinned (OpenSpec.upto digitsMeasuredSpec)

/-- 'turnstilelaw1.DigitsHexes', WHERE WHAT IT READS IS OF BULK AT MOST 1048576: true; the input reads as it did. -/
def digitsHexesUptoRow : OpenClaim := { program := "ytlpamhffpgoebaa", sum := "7458d67ac2651511562420655215a44e598a6f7cb9c087ebe821b1ab6939f5f3", func := "turnstile/turnstilelaw1.DigitsHexes", spec := "digitsHexes", inPlace := ["internal/bytealg.IndexByteString"], apart := false, narrowed := true }
def DigitsHexesUptoSaid : Prop := digitsHexesUptoRow.holds Try.pinned (OpenSpec.upto digitsHexesSpec)

/-- 'turnstilelaw1.DigitsSixteenths', WHERE WHAT IT READS IS OF BULK AT MOST 1048576: true; the input reads as it did. -/
def digitsSixteenthsUptoRow : OpenClaim := { program := "ytlpamhffpgoebaa", sum := "7458d67ac2651511562420655215a44e598a6f7cb9c087ebe821b1ab6939f5f3", func := "turnstile/turnstilelaw1.DigitsSixteenths", spec := "digitsSixteenths", inPlace := ["internal/bytealg.IndexByteString"], apart := false, narrowed := true }
def DigitsSixteenthsUptoSaid : Prop := digitsSixteenthsUptoRow.holds Try.pinned (OpenSpec.upto digitsSixteenthsSpec)

/-- 'turnstilelaw1.DigitsPacks', WHERE WHAT IT READS IS OF BULK AT MOST 1048576: true; the input reads as it did. -/
def digitsPacksUptoRow : OpenClaim := { program := "ytlpamhffpgoebaa", sum := "7458d67ac2651511562420655215a44e598a6f7cb9c087ebe821b1ab6939f5f3", func := "turnstile/turnstilelaw1.DigitsPacks", spec := "digitsPacks", apart := false, narrowed := true }
def DigitsPacksUptoSaid : Prop := digitsPacksUptoRow.holds Try.pinned (OpenSpec.upto digitsPacksSpec)

/-- 'turnstilelaw1.DigitsUnpacks', WHERE WHAT IT READS IS OF BULK AT MOST 1048576: true; the input reads as it did. -/
def digitsUnpacksUptoRow : OpenClaim := { program := "ytlpamhffpgoebaa", sum := "7458d67ac2651511562420655215a44e598a6f7cb9c087ebe821b1ab6939f5f3", func := "turnstile/turnstilelaw1.DigitsUnpacks", spec := "digitsUnpacks", apart := false, narrowed := true }
def DigitsUnpacksUptoSaid : Prop := digitsUnpacksUptoRow.holds Try.pinned (OpenSpec.upto digitsUnpacksSpec)

/-- 'turnstilelaw1.DigitsLengths', WHERE WHAT IT READS IS OF BULK AT MOST 1048576: true; the input reads as it did. -/
def digitsLengthsUptoRow : OpenClaim := { program := "ytlpamhffpgoebaa", sum := "7458d67ac2651511562420655215a44e598a6f7cb9c087ebe821b1ab6939f5f3", func := "turnstile/turnstilelaw1.DigitsLengths", spec := "digitsLengths", apart := false, narrowed := true }
def DigitsLengthsUptoSaid : Prop := digitsLengthsUptoRow.holds Try.pinned (OpenSpec.upto digitsLengthsSpec)

/-- 'turnstilelaw1.DigitsPrefixes', WHERE WHAT IT READS IS OF BULK AT MOST 1048576: true; the input reads as it did. -/
def digitsPrefixesUptoRow : OpenClaim := { program := "ytlpamhffpgoebaa", sum := "7458d67ac2651511562420655215a44e598a6f7cb9c087ebe821b1ab6939f5f3", func := "turnstile/turnstilelaw1.DigitsPrefixes", spec := "digitsPrefixes", apart := false, narrowed := true }
def DigitsPrefixesUptoSaid : Prop := digitsPrefixesUptoRow.holds Try.pinned (OpenSpec.upto digitsPrefixesSpec)

/-- 'turnstilelaw1.DigitsBack', WHERE WHAT IT READS IS OF BULK AT MOST 1048576: true; the input reads as it did. -/
def digitsBackUptoRow : OpenClaim := { program := "ytlpamhffpgoebaa", sum := "7458d67ac2651511562420655215a44e598a6f7cb9c087ebe821b1ab6939f5f3", func := "turnstile/turnstilelaw1.DigitsBack", spec := "digitsBack", apart := false, narrowed := true }
def DigitsBackUptoSaid : Prop := digitsBackUptoRow.holds Try.pinned (OpenSpec.upto digitsBackSpec)

/-- 'turnstilelaw1.DigitsForms', WHERE WHAT IT READS IS OF BULK AT MOST 1048576: true; the input reads as it did. -/
def digitsFormsUptoRow : OpenClaim := { program := "ytlpamhffpgoebaa", sum := "7458d67ac2651511562420655215a44e598a6f7cb9c087ebe821b1ab6939f5f3", func := "turnstile/turnstilelaw1.DigitsForms", spec := "digitsForms", apart := false, narrowed := true }
def DigitsFormsUptoSaid : Prop := digitsFormsUptoRow.holds Try.pinned (OpenSpec.upto digitsFormsSpec)

/-- 'turnstilelaw1.DigitsLetters', WHERE WHAT IT READS IS OF BULK AT MOST 1048576: true; the input reads as it did. -/
def digitsLettersUptoRow : OpenClaim := { program := "ytlpamhffpgoebaa", sum := "7458d67ac2651511562420655215a44e598a6f7cb9c087ebe821b1ab6939f5f3", func := "turnstile/turnstilelaw1.DigitsLetters", spec := "digitsLetters", apart := false, narrowed := true }
def DigitsLettersUptoSaid : Prop := digitsLettersUptoRow.holds Try.pinned (OpenSpec.upto digitsLettersSpec)

end Rows
end Go.Proofs.Ytlpamhffpgoebaa
