/- DigitsUnpacks of the package turnstilelaw1, in the second form: of every encoding, text and number of together at most 1048576 values and letters digits.Unpack tells what the reference's does, its place too; of BCDR, 12 3f and 3 it tells the text 123. The condition is the bulk's bound (without it both appends die in the model at texts near 2^47 bytes). -/
import Derived.Test.YtlpamhffpgoebaaAx52
import Derived.Test.YtlpamhffpgoebaaPh
namespace Go.Proofs.Ytlpamhffpgoebaa.Pure
open Go.RowKit Go.Proofs.Ytlpamhffpgoebaa.All Go.Proofs.YtlpamhffpgoebaaW.PrintWords Go.Proofs.YtlpamhffpgoebaaW.PrintLast Go.Proofs.YtlpamhffpgoebaaW.PrintMore

theorem DigitsUnpacks : turnstilelaw1_DigitsUnpacks.Pure := by
  intro enc b n he hb hn
  refine Ev.rounds (?_ : Ev (fun k => turnstilelaw1_DigitsUnpacks.f k enc b n) true)
  unfold turnstilelaw1_DigitsUnpacks.f
  have hw : (b.size : Int) < widthS enc n ∨ widthS enc n ≤ 70368744177600 := by omega
  refine Ev.bind (unpack_is 3 _ 3 (by decide) (by decide) (by decide)) (Ev.bind (unpack_is enc b n (by omega) (wf64 hn).2 hw) (Ev.bind (runpack_is enc b n (by omega) (wf64 hn).2 hw) (ev_some fun k => ?_)))
  have e1 : unpackS 3 ⟨#[18, 63]⟩ 3 = (strOfNums [49, 50, 51], 0, 0) := by decide +kernel
  have e2 : (strOfNums [49, 50, 51]).toList = ([49, 50, 51] : List UInt8) := by rw [ByteArray.toList_eq]; rfl
  rw [e1]
  simp [e2]
end Go.Proofs.Ytlpamhffpgoebaa.Pure
