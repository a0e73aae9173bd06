/- DigitsPacks of the package turnstilelaw1, in the second form: of every integer and every text of together at most 1048576 values and letters digits.Pack tells what the reference's does; of BCD and the text 123 it tells the bytes 01 23. The condition is the bulk's bound (without it the reference's own list of ints dies in the model at texts near 2^45 bytes). -/
import Derived.Test.YtlpamhffpgoebaaAx44
import Derived.Test.YtlpamhffpgoebaaPe
namespace Go.Proofs.Ytlpamhffpgoebaa.Pure
open Go.RowKit Go.Proofs.Ytlpamhffpgoebaa.All Go.Proofs.YtlpamhffpgoebaaW.PrintWords Go.Proofs.YtlpamhffpgoebaaW.PrintLast Go.Proofs.YtlpamhffpgoebaaW.PrintMore

theorem DigitsPacks : turnstilelaw1_DigitsPacks.Pure := by
  intro enc s he hs
  refine Ev.rounds (?_ : Ev (fun k => turnstilelaw1_DigitsPacks.f k enc s) true)
  unfold turnstilelaw1_DigitsPacks.f
  refine Ev.bind (pack_is 2 _ (by decide)) (Ev.bind (pack_is enc s (by omega)) (Ev.bind (rpack_is enc s (by omega)) (ev_some fun k => ?_)))
  have e1 : packS 2 (bytesOf ⟨#[49, 50, 51]⟩) = (strOfNums [1, 35], 0) := by decide +kernel
  have e2 : (strOfNums [1, 35]).toList = ([1, 35] : List UInt8) := by rw [ByteArray.toList_eq]; rfl
  rw [e1]
  simp [e2]
end Go.Proofs.Ytlpamhffpgoebaa.Pure
