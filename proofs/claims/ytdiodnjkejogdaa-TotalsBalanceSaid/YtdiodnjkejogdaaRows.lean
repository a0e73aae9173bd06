/-
  NARROWER THAN 'FOR EVERY INPUT', by the rows' own cells (each row's printed sentence says how): TotalsPlays: loops.
  DERIVED. THE GIVEN ROWS OF THIS SEAT. 5 by the template 'for every input the law returns true; each argument reads behind the call as it read before'; 0 by the template 'total and deterministic' (their statements: YtdiodnjkejogdaaTotals.lean).
  GIVEN WITH THE SEED: the statements are not yours to turn. If you find one false, say at which input.
  Laid BY PROGRAM, IN A SANDBOX (cutbox-rows.mjs): the forced cells as the released guide's own fill.sh prints them over the translation 06f797c181b0f0dc… (all of the seat's roots in one cut). By AI agents, Wed Nov 11 2026. No macro, syntax, notation, axiom, sorry.
-/
import Derived.Test.YtdiodnjkejogdaaChecked
import GoSem.Claim
import GoSem.ClaimJoined
import GoSem.ClaimMapViews
import Derived.JoinedTies
import Derived.KernelRfl
namespace Go.Proofs.Ytdiodnjkejogdaa
/- THE CELL 'sum', in the pinned program and in every row, IS THE sha256 OF THE DUMP (.gsa) THAT YtdiodnjkejogdaaProg.lean LOADS. Nothing in Lean hashes anything: it is a label: what it is worth is what the hold of that sum in a sandbox is worth. -/
noncomputable def Try.pinned : Pinned := { name := "ytdiodnjkejogdaa", sum := "06f797c181b0f0dcbe5405653a2d8bb5cdd5493c311999a58ff304756154f21c", checked := Try.checked }
namespace Rows
def none {H : Type} : Left H := { results := [], args := [] }

/-- 'turnstilelaw22.TotalsPlays': WHATEVER THE INPUT: true; the input reads as it did. -/
def totalsPlaysSpec : ChangeSpec := { name := "totalsPlays", fn := fun _ => fun
  | [d1, d2, d3] => { results := [.lit (.bool true)], args := [d1, d2, d3] }
  | _ => none }
def totalsPlaysRow : OpenClaim := { program := "ytdiodnjkejogdaa", sum := "06f797c181b0f0dcbe5405653a2d8bb5cdd5493c311999a58ff304756154f21c", func := "turnstile/turnstilelaw22.TotalsPlays", spec := "totalsPlays", unfollowed := true, recurses := true, loops := true, leaving := true, apart := false }
def TotalsPlaysSaid : Prop := totalsPlaysRow.holds Try.pinned (OpenSpec.ofChange totalsPlaysSpec)

/-- ITS FALSE NEIGHBOUR: 'it returns false'. Refute it at one input. -/
def totalsPlaysWrong : ChangeSpec := { name := "totalsPlays", fn := fun _ => fun
  | [d1, d2, d3] => { results := [.lit (.bool false)], args := [d1, d2, d3] }
  | _ => none }
def TotalsPlaysWrongFalsely : Prop := totalsPlaysRow.holds Try.pinned (OpenSpec.ofChange totalsPlaysWrong)

/-- 'turnstilelaw22.TotalsCount': WHATEVER THE INPUT: true; the input reads as it did. -/
def totalsCountSpec : ChangeSpec := { name := "totalsCount", fn := fun _ => fun
  | [d1, d2] => { results := [.lit (.bool true)], args := [d1, d2] }
  | _ => none }
def totalsCountRow : OpenClaim := { program := "ytdiodnjkejogdaa", sum := "06f797c181b0f0dcbe5405653a2d8bb5cdd5493c311999a58ff304756154f21c", func := "turnstile/turnstilelaw22.TotalsCount", spec := "totalsCount", apart := false }
def TotalsCountSaid : Prop := totalsCountRow.holds Try.pinned (OpenSpec.ofChange totalsCountSpec)

/-- ITS FALSE NEIGHBOUR: 'it returns false'. Refute it at one input. -/
def totalsCountWrong : ChangeSpec := { name := "totalsCount", fn := fun _ => fun
  | [d1, d2] => { results := [.lit (.bool false)], args := [d1, d2] }
  | _ => none }
def TotalsCountWrongFalsely : Prop := totalsCountRow.holds Try.pinned (OpenSpec.ofChange totalsCountWrong)

/-- 'turnstilelaw22.TotalsBalance': WHATEVER THE INPUT: true; the input reads as it did. -/
def totalsBalanceSpec : ChangeSpec := { name := "totalsBalance", fn := fun _ => fun
  | [d1, d2, d3] => { results := [.lit (.bool true)], args := [d1, d2, d3] }
  | _ => none }
def totalsBalanceRow : OpenClaim := { program := "ytdiodnjkejogdaa", sum := "06f797c181b0f0dcbe5405653a2d8bb5cdd5493c311999a58ff304756154f21c", func := "turnstile/turnstilelaw22.TotalsBalance", spec := "totalsBalance", apart := false }
def TotalsBalanceSaid : Prop := totalsBalanceRow.holds Try.pinned (OpenSpec.ofChange totalsBalanceSpec)

/-- ITS FALSE NEIGHBOUR: 'it returns false'. Refute it at one input. -/
def totalsBalanceWrong : ChangeSpec := { name := "totalsBalance", fn := fun _ => fun
  | [d1, d2, d3] => { results := [.lit (.bool false)], args := [d1, d2, d3] }
  | _ => none }
def TotalsBalanceWrongFalsely : Prop := totalsBalanceRow.holds Try.pinned (OpenSpec.ofChange totalsBalanceWrong)

/-- 'turnstilelaw22.TotalsTogether': WHATEVER THE INPUT: true; the input reads as it did. -/
def totalsTogetherSpec : ChangeSpec := { name := "totalsTogether", fn := fun _ => fun
  | [d1, d2, d3, d4] => { results := [.lit (.bool true)], args := [d1, d2, d3, d4] }
  | _ => none }
def totalsTogetherRow : OpenClaim := { program := "ytdiodnjkejogdaa", sum := "06f797c181b0f0dcbe5405653a2d8bb5cdd5493c311999a58ff304756154f21c", func := "turnstile/turnstilelaw22.TotalsTogether", spec := "totalsTogether", unfollowed := true, recurses := true, leaving := true, apart := false }
def TotalsTogetherSaid : Prop := totalsTogetherRow.holds Try.pinned (OpenSpec.ofChange totalsTogetherSpec)

/-- ITS FALSE NEIGHBOUR: 'it returns false'. Refute it at one input. -/
def totalsTogetherWrong : ChangeSpec := { name := "totalsTogether", fn := fun _ => fun
  | [d1, d2, d3, d4] => { results := [.lit (.bool false)], args := [d1, d2, d3, d4] }
  | _ => none }
def TotalsTogetherWrongFalsely : Prop := totalsTogetherRow.holds Try.pinned (OpenSpec.ofChange totalsTogetherWrong)

/-- 'turnstilelaw22.TotalsFull': WHATEVER THE INPUT: true; the input reads as it did. -/
def totalsFullSpec : ChangeSpec := { name := "totalsFull", fn := fun _ => fun
  | [d1, d2] => { results := [.lit (.bool true)], args := [d1, d2] }
  | _ => none }
def totalsFullRow : OpenClaim := { program := "ytdiodnjkejogdaa", sum := "06f797c181b0f0dcbe5405653a2d8bb5cdd5493c311999a58ff304756154f21c", func := "turnstile/turnstilelaw22.TotalsFull", spec := "totalsFull", unfollowed := true, recurses := true, leaving := true, apart := false }
def TotalsFullSaid : Prop := totalsFullRow.holds Try.pinned (OpenSpec.ofChange totalsFullSpec)

/-- ITS FALSE NEIGHBOUR: 'it returns false'. Refute it at one input. -/
def totalsFullWrong : ChangeSpec := { name := "totalsFull", fn := fun _ => fun
  | [d1, d2] => { results := [.lit (.bool false)], args := [d1, d2] }
  | _ => none }
def TotalsFullWrongFalsely : Prop := totalsFullRow.holds Try.pinned (OpenSpec.ofChange totalsFullWrong)

/- THE SECOND FORM. 'bulk': how many values and letters a reading holds, each counted each time it is reached (what is shared counts as often as it is met; a slice's spare places count too). A statement '..UptoSaid' is the law's where the arguments, and the package variables that the reading takes, are together of bulk at most 1048576: NARROWER than '..Said'. Prove '..Said' where nothing that the law and all that it calls make is longer than what came in: it says more and counts as full. Else prove '..UptoSaid'. A law counts once. -/
mutual
def uptoBulk {H : Type} : DataW H → Nat
  | .lit (.string bytes) => bytes.length + 1
  | .lit _ => 1
  | .nil => 1
  | .ptr d => uptoBulk d + 1
  | .slice elems spare => uptoBulkAll elems + uptoBulkAll spare + 1
  | .agg parts => uptoBulkAll parts + 1
  | .iface _ d => uptoBulk d + 1
  | .map entries => uptoBulkEntries entries + 1
  | .held _ => 1
def uptoBulkAll {H : Type} : List (DataW H) → Nat
  | [] => 0
  | d :: r => uptoBulk d + uptoBulkAll r
def uptoBulkEntries {H : Type} : List (Lit × DataW H) → Nat
  | [] => 0
  | x :: r => uptoBulkEntry x + uptoBulkEntries r
def uptoBulkEntry {H : Type} : Lit × DataW H → Nat
  | (.string bytes, d) => bytes.length + uptoBulk d + 1
  | (_, d) => uptoBulk d + 1
 end
def uptoSmall : (H : Type) → List (DataW H) → Bool := fun _ ds => decide (uptoBulkAll ds ≤ 1048576)
def OpenSpec.upto (s : _root_.Go.ChangeSpec) : _root_.Go.OpenSpec := { _root_.Go.OpenSpec.ofChange s with cond := some uptoSmall }

/-- 'turnstilelaw22.TotalsPlays', WHERE WHAT IT READS IS OF BULK AT MOST 1048576: true; the input reads as it did. -/
def totalsPlaysUptoRow : OpenClaim := { program := "ytdiodnjkejogdaa", sum := "06f797c181b0f0dcbe5405653a2d8bb5cdd5493c311999a58ff304756154f21c", func := "turnstile/turnstilelaw22.TotalsPlays", spec := "totalsPlays", unfollowed := true, recurses := true, loops := true, leaving := true, apart := false, narrowed := true }
def TotalsPlaysUptoSaid : Prop := totalsPlaysUptoRow.holds Try.pinned (OpenSpec.upto totalsPlaysSpec)

/-- 'turnstilelaw22.TotalsCount', WHERE WHAT IT READS IS OF BULK AT MOST 1048576: true; the input reads as it did. -/
def totalsCountUptoRow : OpenClaim := { program := "ytdiodnjkejogdaa", sum := "06f797c181b0f0dcbe5405653a2d8bb5cdd5493c311999a58ff304756154f21c", func := "turnstile/turnstilelaw22.TotalsCount", spec := "totalsCount", apart := false, narrowed := true }
def TotalsCountUptoSaid : Prop := totalsCountUptoRow.holds Try.pinned (OpenSpec.upto totalsCountSpec)

/-- 'turnstilelaw22.TotalsBalance', WHERE WHAT IT READS IS OF BULK AT MOST 1048576: true; the input reads as it did. -/
def totalsBalanceUptoRow : OpenClaim := { program := "ytdiodnjkejogdaa", sum := "06f797c181b0f0dcbe5405653a2d8bb5cdd5493c311999a58ff304756154f21c", func := "turnstile/turnstilelaw22.TotalsBalance", spec := "totalsBalance", apart := false, narrowed := true }
def TotalsBalanceUptoSaid : Prop := totalsBalanceUptoRow.holds Try.pinned (OpenSpec.upto totalsBalanceSpec)

/-- 'turnstilelaw22.TotalsTogether', WHERE WHAT IT READS IS OF BULK AT MOST 1048576: true; the input reads as it did. -/
def totalsTogetherUptoRow : OpenClaim := { program := "ytdiodnjkejogdaa", sum := "06f797c181b0f0dcbe5405653a2d8bb5cdd5493c311999a58ff304756154f21c", func := "turnstile/turnstilelaw22.TotalsTogether", spec := "totalsTogether", unfollowed := true, recurses := true, leaving := true, apart := false, narrowed := true }
def TotalsTogetherUptoSaid : Prop := totalsTogetherUptoRow.holds Try.pinned (OpenSpec.upto totalsTogetherSpec)

/-- 'turnstilelaw22.TotalsFull', WHERE WHAT IT READS IS OF BULK AT MOST 1048576: true; the input reads as it did. -/
def totalsFullUptoRow : OpenClaim := { program := "ytdiodnjkejogdaa", sum := "06f797c181b0f0dcbe5405653a2d8bb5cdd5493c311999a58ff304756154f21c", func := "turnstile/turnstilelaw22.TotalsFull", spec := "totalsFull", unfollowed := true, recurses := true, leaving := true, apart := false, narrowed := true }
def TotalsFullUptoSaid : Prop := totalsFullUptoRow.holds Try.pinned (OpenSpec.upto totalsFullSpec)

end Rows
end Go.Proofs.Ytdiodnjkejogdaa
