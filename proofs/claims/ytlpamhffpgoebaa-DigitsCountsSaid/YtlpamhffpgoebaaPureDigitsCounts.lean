/- DigitsCounts of the package turnstilelaw1: digits.Count tells 7 of 5, 2, 10, and of every three integers what the reference's Count tells. No condition. -/
import Derived.Test.YtlpamhffpgoebaaAx3
import Derived.Test.YtlpamhffpgoebaaPa
namespace Go.Proofs.Ytlpamhffpgoebaa.Pure
open Go.RowKit Go.Proofs.Ytlpamhffpgoebaa.All Go.Proofs.YtlpamhffpgoebaaW.PrintWords Go.Proofs.YtlpamhffpgoebaaW.PrintLast Go.Proofs.YtlpamhffpgoebaaW.PrintMore

theorem count_same (a b c : Int) (h0 : -9223372036854775808 ≤ a ∧ a ≤ 9223372036854775807) (h1 : -9223372036854775808 ≤ b ∧ b ≤ 9223372036854775807)
    (h2 : -9223372036854775808 ≤ c ∧ c ≤ 9223372036854775807) : ∃ r, digits_Count.f a b c = some r ∧ turnstileref1_Count.f a b c = some r := by
  unfold digits_Count.f turnstileref1_Count.f
  obtain ⟨x, hx⟩ : ∃ x, x = mx a 0 := ⟨_, rfl⟩
  obtain ⟨y, hy⟩ : ∃ y, y = mx b 0 := ⟨_, rfl⟩
  obtain ⟨z, hz⟩ : ∃ z, z = mx c 0 := ⟨_, rfl⟩
  rw [← hx, ← hy, ← hz]
  have hx' : 0 ≤ x ∧ x ≤ 9223372036854775807 := by unfold mx at hx; split at hx <;> omega
  have hy' : 0 ≤ y ∧ y ≤ 9223372036854775807 := by unfold mx at hy; split at hy <;> omega
  have hz' : 0 ≤ z ∧ z ≤ 9223372036854775807 := by unfold mx at hz; split at hz <;> omega
  rw [w64 (by omega : -9223372036854775808 ≤ z - x ∧ z - x ≤ 9223372036854775807)]
  by_cases h : x ≥ z
  · rw [if_pos h]
    by_cases h' : x > z
    · rw [if_pos h']; exact ⟨_, rfl, rfl⟩
    · rw [if_neg h']
      by_cases h3 : y > z - x
      · rw [if_pos h3]; exact ⟨_, rfl, rfl⟩
      · rw [if_neg h3]; refine ⟨z, ?_, rfl⟩; rw [w64 (by omega)]; congr 1; omega
  · rw [if_neg h, if_neg (by omega)]
    by_cases h3 : y > z - x
    · rw [if_pos h3, if_pos (by omega)]; exact ⟨_, rfl, rfl⟩
    · rw [if_neg h3]
      by_cases h4 : y ≥ z - x
      · rw [if_pos h4]; refine ⟨z, ?_, rfl⟩; rw [w64 (by omega)]; congr 1; omega
      · rw [if_neg h4]; exact ⟨_, rfl, rfl⟩

theorem DigitsCounts : turnstilelaw1_DigitsCounts.Pure := by
  intro a b c ha hb hc
  obtain ⟨r, h1, h2⟩ := count_same a b c (wf64 ha) (wf64 hb) (wf64 hc)
  unfold turnstilelaw1_DigitsCounts.f
  rw [h1, h2]
  have e : digits_Count.f 5 2 10 = some 7 := by decide +kernel
  rw [e]
  simp

end Go.Proofs.Ytlpamhffpgoebaa.Pure
