-- WRITTEN BY this session's own drv.py over the kit's print. Not trusted: Lean checks it.
import Derived.Test.YtlpamhffpgoebaaAx0
namespace Go.Proofs.Ytlpamhffpgoebaa.All
open Go.RowKit Go.Proofs.YtlpamhffpgoebaaW.PrintWords Go.Proofs.YtlpamhffpgoebaaW.PrintLast Go.Proofs.YtlpamhffpgoebaaW.PrintMore
attribute [local go_sem] max2_int min2_int max_two min_two max_three min_three max_four min_four   -- for this text's walks alone
set_option linter.unusedVariables false
set_option linter.unusedSimpArgs false

/-! ### digits_character: function 62 -/
def digits_character.f (a0 : Int) : Option (Int × Bool) := if a0 = 13 then (some (61, true)) else (some ((48 + a0) % 256, decide (a0 ≤ 9)))
set_option maxHeartbeats 8000000 in
set_option maxRecDepth 100000 in
theorem digits_character.calls (a0 : Int) (r1 : Int) (r2 : Bool) (w : World) (h : digits_character.f a0 = some (r1, r2)) :
    Calls Try.prog 62 #[.int .u8 a0] w fun e w' => e = .returned (.tuple #[.int .u8 r1, .bool r2]) ∧ Drawn0 w w' := by
  have H : (if a0 = 13 then (some (61, true)) else (some ((48 + a0) % 256, decide (a0 ≤ 9)))) = some (r1, r2) := h
  clear h
  by_cases c2 : a0 = 13
  · rw [if_pos c2] at H
    have c2b0 : (a0 == 13) = true := beq_iff_eq.mpr c2
    have c2b1 : (a0 != 13) = false := bne_eq_false_iff_eq.mpr c2
    clear c2
    simp only [Option.some.injEq, Prod.mk.injEq] at H
    obtain ⟨rfl, rfl⟩ := H
    go_enter Try.func62, Try.ntmps62
    go_wp2
    go_ret2
    exact ⟨by first | rfl | (simp; done) | (simp [*]; done), by repeat (first | exact Drawn0.refl _ | apply Drawn0.step)⟩
  · rw [if_neg c2] at H
    have c2b0 : (a0 == 13) = false := beq_eq_false_iff_ne.mpr c2
    have c2b1 : (a0 != 13) = true := bne_iff_ne.mpr c2
    simp only [Option.some.injEq, Prod.mk.injEq] at H
    obtain ⟨rfl, rfl⟩ := H
    go_enter Try.func62, Try.ntmps62
    go_wp2
    go_ret2
    exact ⟨by first | rfl | (simp; done) | (simp [*]; done), by repeat (first | exact Drawn0.refl _ | apply Drawn0.step)⟩

end Go.Proofs.Ytlpamhffpgoebaa.All
