/- DigitsNumbers of the package turnstilelaw1: digits.Number tells 7 of the text 007; of every text digits.Number tells what the reference's does, and of every two integers digits.Write what the reference's does. No condition. -/
import Derived.Test.YtlpamhffpgoebaaAx17
import Derived.Test.YtlpamhffpgoebaaPb
namespace Go.Proofs.Ytlpamhffpgoebaa.Pure
open Go.RowKit Go.Proofs.Ytlpamhffpgoebaa.All Go.Proofs.YtlpamhffpgoebaaW.PrintWords Go.Proofs.YtlpamhffpgoebaaW.PrintLast Go.Proofs.YtlpamhffpgoebaaW.PrintMore

theorem DigitsNumbers : turnstilelaw1_DigitsNumbers.Pure := by
  intro s n w hs hn hw
  obtain ⟨r1, a1, b1⟩ := number_same s (by omega)
  obtain ⟨r2, a2, b2⟩ := write_same n w (wf64 hn)
  have e0 : Ev (fun k => digits_Number.f k (⟨#[48, 48, 55]⟩ : ByteArray)) (7, 0) := Ev.of (fun k => digits_Number.mono _ k) (k := 6) (by decide +kernel)
  refine Ev.rounds (?_ : Ev (fun k => turnstilelaw1_DigitsNumbers.f k s n w) true)
  unfold turnstilelaw1_DigitsNumbers.f
  refine Ev.bind e0 (Ev.bind a1 (Ev.bind b1 (Ev.bind a2 (Ev.bind b2 (ev_some fun k => ?_)))))
  simp
end Go.Proofs.Ytlpamhffpgoebaa.Pure
