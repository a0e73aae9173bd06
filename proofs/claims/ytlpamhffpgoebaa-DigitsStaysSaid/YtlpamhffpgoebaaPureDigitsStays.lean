/- DigitsStays of the package turnstilelaw1: of every three integers: digits.Count of the picked ones never falls, never goes above the most, and is the sum as long as that is no more. No condition. -/
import Derived.Test.YtlpamhffpgoebaaAx5
import Derived.Test.YtlpamhffpgoebaaPa
namespace Go.Proofs.Ytlpamhffpgoebaa.Pure
open Go.RowKit Go.Proofs.Ytlpamhffpgoebaa.All Go.Proofs.YtlpamhffpgoebaaW.PrintWords Go.Proofs.YtlpamhffpgoebaaW.PrintLast Go.Proofs.YtlpamhffpgoebaaW.PrintMore

theorem pick62 (c : Int) (h : -9223372036854775808 ≤ c ∧ c ≤ 9223372036854775807) : ∃ r, turnstilelaw1_pick.f c 4611686018427387904 = some r ∧ 0 ≤ r ∧ r < 4611686018427387904 := by
  unfold turnstilelaw1_pick.f
  by_cases hc : c < 0
  · rw [if_pos hc, if_neg (by decide), w64 (by omega : -9223372036854775808 ≤ c + 1 ∧ c + 1 ≤ 9223372036854775807), w64 (by omega)]
    refine ⟨_, rfl, ?_⟩
    rw [Int.tmod_eq_emod_of_nonneg (by omega)]
    omega
  · rw [if_neg hc, if_neg (by decide)]
    refine ⟨_, rfl, ?_⟩
    rw [Int.tmod_eq_emod_of_nonneg (by omega)]
    omega

/-- what Count tells of small numbers that are no less than 0 -/
theorem count_is (a b m : Int) (ha : 0 ≤ a) (hb : 0 ≤ b ∧ b < 4611686018427387904) (hm : 0 ≤ m ∧ m < 4611686018427387904) (ha2 : a < 4611686018427387904) :
    digits_Count.f a b m = some (if a + b ≤ m then a + b else m) := by
  unfold digits_Count.f
  have e1 : mx a 0 = a := by unfold mx; rw [if_neg (by omega)]
  have e2 : mx b 0 = b := by unfold mx; rw [if_neg (by omega)]
  have e3 : mx m 0 = m := by unfold mx; rw [if_neg (by omega)]
  rw [e1, e2, e3, w64 (by omega), w64 (by omega)]
  by_cases h : a > m
  · rw [if_pos h, if_neg (by omega)]
  · rw [if_neg h]
    by_cases h' : b > m - a
    · rw [if_pos h', if_neg (by omega)]
    · rw [if_neg h', if_pos (by omega)]
theorem count_neg (a b m : Int) (ha : 0 ≤ a ∧ a < 4611686018427387904) : digits_Count.f (wrap64 ((wrap64 (-a)) - 1)) b m = digits_Count.f 0 b m := by
  rw [w64 (by omega : -9223372036854775808 ≤ -a ∧ -a ≤ 9223372036854775807), w64 (by omega)]
  unfold digits_Count.f
  have e1 : mx (-a - 1) 0 = 0 := by unfold mx; rw [if_pos (by omega)]
  have e2 : mx 0 0 = 0 := by decide +kernel
  rw [e1, e2]

theorem DigitsStays : turnstilelaw1_DigitsStays.Pure := by
  intro x y z hx hy hz
  refine ⟨2, ?_⟩
  unfold turnstilelaw1_DigitsStays.f
  obtain ⟨a, e1, a0, a1⟩ := pick62 x (wf64 hx)
  obtain ⟨m, e2, m0, m1⟩ := pick62 z (wf64 hz)
  obtain ⟨b, e3, b0, b1⟩ := pick62 y (wf64 hy)
  rw [e1, Option.bind_some, e2, Option.bind_some, e3, Option.bind_some, count_is a b m a0 ⟨b0, b1⟩ ⟨m0, m1⟩ a1, Option.bind_some]
  by_cases h : a + b ≤ m
  · rw [if_pos h, if_neg (by omega), if_neg (by omega), if_pos (by omega)]
    rw [decide_eq_false (by omega)]
    simp only [turnstilelaw1_DigitsStays.j0]
    rw [if_neg (by decide), if_pos (by omega), w64 (by omega), decide_eq_true (by omega)]
    simp only [turnstilelaw1_DigitsStays.j1]
    rw [if_pos trivial, w64 (by omega)]
    simp
  · rw [if_neg h, if_neg (by omega), if_neg (by omega)]
    by_cases h2 : a ≤ m
    · rw [if_pos h2, decide_eq_false (by omega)]
      simp only [turnstilelaw1_DigitsStays.j0]
      rw [if_neg (by decide), if_pos h2, w64 (by omega), decide_eq_false (by omega)]
      simp only [turnstilelaw1_DigitsStays.j1]
      rw [if_neg (by decide), if_pos trivial, count_neg a b m ⟨a0, a1⟩, count_is 0 b m (by omega) ⟨b0, b1⟩ ⟨m0, m1⟩ (by omega)]
      simp
    · rw [if_neg h2]
      simp only [turnstilelaw1_DigitsStays.j0]
      rw [if_neg (by decide), if_neg h2]
      simp only [turnstilelaw1_DigitsStays.j1]
      rw [if_neg (by decide), if_pos trivial, count_neg a b m ⟨a0, a1⟩, count_is 0 b m (by omega) ⟨b0, b1⟩ ⟨m0, m1⟩ (by omega)]
      simp

end Go.Proofs.Ytlpamhffpgoebaa.Pure
