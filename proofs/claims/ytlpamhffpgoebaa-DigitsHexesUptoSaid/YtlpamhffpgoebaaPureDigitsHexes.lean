/- DigitsHexes of the package turnstilelaw1, in the second form: of every two texts of together at most 1048576 values and letters: digits.Hex and digits.Unhex tell what the reference's do; of the bytes 00 ff digits.Hex tells 00FF. The condition is the bulk's bound (without it the reference's own append dies in the model at texts near 2^47 bytes). -/
import Derived.Test.YtlpamhffpgoebaaAx38
import Derived.Test.YtlpamhffpgoebaaPc
namespace Go.Proofs.Ytlpamhffpgoebaa.Pure
open Go.RowKit Go.Proofs.Ytlpamhffpgoebaa.All Go.Proofs.YtlpamhffpgoebaaW.PrintWords Go.Proofs.YtlpamhffpgoebaaW.PrintLast Go.Proofs.YtlpamhffpgoebaaW.PrintMore

theorem DigitsHexes : turnstilelaw1_DigitsHexes.Pure := by
  intro b s hb hs
  have e0 : Ev (fun k => digits_Hex.f k (⟨#[0, 255]⟩ : ByteArray)) (strOfNums [48, 48, 70, 70]) := Ev.of (fun k => digits_Hex.mono _ k) (k := 5) (by decide +kernel)
  refine Ev.rounds (?_ : Ev (fun k => turnstilelaw1_DigitsHexes.f k b s) true)
  unfold turnstilelaw1_DigitsHexes.f
  refine Ev.bind e0 (Ev.bind (hex_is b (by omega)) (Ev.bind (unhex_is s (by omega)) (Ev.bind (runhex_is s (by omega)) ?_)))
  have e1 : (strOfNums [48, 48, 70, 70]).toList = ([48, 48, 70, 70] : List UInt8) := by rw [ByteArray.toList_eq]; rfl
  simp only [e1, if_true]
  refine Ev.bind (rhex_is b (by omega)) (ev_some fun k => ?_)
  simp
end Go.Proofs.Ytlpamhffpgoebaa.Pure
