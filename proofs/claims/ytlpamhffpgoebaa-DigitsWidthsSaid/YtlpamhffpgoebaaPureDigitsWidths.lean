/- DigitsWidths of the package turnstilelaw1: digits.Width tells 2 of BCD and 3, and of every two integers what the reference's Width tells. No condition. -/
import Derived.Test.YtlpamhffpgoebaaAx10
import Derived.Test.YtlpamhffpgoebaaPa
namespace Go.Proofs.Ytlpamhffpgoebaa.Pure
open Go.RowKit Go.Proofs.Ytlpamhffpgoebaa.All Go.Proofs.YtlpamhffpgoebaaW.PrintWords Go.Proofs.YtlpamhffpgoebaaW.PrintLast Go.Proofs.YtlpamhffpgoebaaW.PrintMore

theorem DigitsWidths : turnstilelaw1_DigitsWidths.Pure := by
  intro a b ha hb
  refine ⟨2, ?_⟩
  unfold turnstilelaw1_DigitsWidths.f
  have e : digits_Width.f 2 3 = some 2 := by decide +kernel
  rw [e]
  simp only [Option.bind_some, if_true]
  unfold digits_Width.f turnstileref1_Width.f turnstileref1_known.f
  by_cases h1 : a ≥ 1
  · rw [if_pos h1, Option.bind_some]
    by_cases h5 : a ≤ 5
    · rw [decide_eq_true h5, if_pos rfl]
      simp only [turnstileref1_Width.j0]
      by_cases hn : b < 0
      · rw [if_pos hn, decide_eq_true hn]; simp
      · rw [if_neg hn, decide_eq_false hn]
        unfold turnstileref1_Packed.f
        by_cases c2 : a = 2
        · subst c2; simp
        · by_cases c3 : a = 3
          · subst c3; simp
          · rw [if_neg c2, if_neg c3, if_neg c2]
            have c3b : (a == 3) = false := beq_eq_false_iff_ne.mpr c3
            rw [c3b]
            by_cases c1 : a = 1
            · subst c1; simp
            · by_cases c4 : a = 4
              · subst c4; simp
              · obtain rfl : a = 5 := by omega
                simp
    · rw [decide_eq_false h5]
      simp only [turnstileref1_Width.j0]
      rw [if_neg (by omega : ¬ a = 2), if_neg (by omega : ¬ a = 3), if_neg (by omega : ¬ a = 1), if_neg (by omega : ¬ a = 4), if_neg (by omega : ¬ a = 5)]
      split <;> simp
  · rw [if_neg h1, Option.bind_some]
    simp only [turnstileref1_Width.j0]
    rw [if_neg (by omega : ¬ a = 2), if_neg (by omega : ¬ a = 3), if_neg (by omega : ¬ a = 1), if_neg (by omega : ¬ a = 4), if_neg (by omega : ¬ a = 5)]
    split <;> simp

end Go.Proofs.Ytlpamhffpgoebaa.Pure
