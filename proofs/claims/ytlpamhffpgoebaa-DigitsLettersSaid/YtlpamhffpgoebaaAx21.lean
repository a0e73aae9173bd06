-- WRITTEN BY this session's own drv.py over the kit's print. Not trusted: Lean checks it.
import Derived.Test.YtlpamhffpgoebaaAx0
import Derived.Test.YtlpamhffpgoebaaAx20
namespace Go.Proofs.Ytlpamhffpgoebaa.All
open Go.RowKit Go.Proofs.YtlpamhffpgoebaaW.PrintWords Go.Proofs.YtlpamhffpgoebaaW.PrintLast Go.Proofs.YtlpamhffpgoebaaW.PrintMore
attribute [local go_sem] max2_int min2_int max_two min_two max_three min_three max_four min_four   -- for this text's walks alone
set_option linter.unusedVariables false
set_option linter.unusedSimpArgs false

/-! ### digits_written: function 50 -/
def digits_written.f (a0 : Int) (a1 : Int) : Option (Int × Bool) :=
  if a0 = 5 then some (a1, true) else if a1 < 32 then some (0, false) else if a1 > 126 then some (0, false) else if a0 = 4 then some (rd ebL (a1 - 32), true) else some (a1, true)
set_option maxHeartbeats 4000000 in
set_option maxRecDepth 100000 in
theorem digits_written.calls (a0 : Int) (a1 : Int) (r1 : Int) (r2 : Bool) (w : World) (h : digits_written.f a0 a1 = some (r1, r2)) :
    Calls Try.prog 50 #[.int .i64 a0, .int .u8 a1] w fun e w' => e = .returned (.tuple #[.int .u8 r1, .bool r2]) ∧ Below w.heap.size w w' := by
  unfold digits_written.f at h
  by_cases c1 : a0 = 5
  · rw [if_pos c1] at h
    obtain ⟨rfl, rfl⟩ := Prod.mk.inj (Option.some.inj h)
    subst c1
    go_enter Try.func50, Try.ntmps50
    go_wp2
    go_ret2
    exact ⟨rfl, Below.refl _ _⟩
  · rw [if_neg c1] at h
    have b1 : (a0 == 5) = false := beq_eq_false_iff_ne.mpr c1
    by_cases c2 : a1 < 32
    · rw [if_pos c2] at h
      obtain ⟨rfl, rfl⟩ := Prod.mk.inj (Option.some.inj h)
      have b2 : decide (a1 < 32) = true := decide_eq_true c2
      clear c1 c2 h
      go_enter Try.func50, Try.ntmps50
      go_wp2
      go_ret2
      exact ⟨rfl, Below.refl _ _⟩
    · rw [if_neg c2] at h
      have b2 : decide (a1 < 32) = false := decide_eq_false c2
      by_cases c3 : a1 > 126
      · rw [if_pos c3] at h
        obtain ⟨rfl, rfl⟩ := Prod.mk.inj (Option.some.inj h)
        have b3 : decide (126 < a1) = true := decide_eq_true c3
        clear c1 c2 c3 h
        go_enter Try.func50, Try.ntmps50
        go_wp2
        go_ret2
        exact ⟨rfl, Below.refl _ _⟩
      · rw [if_neg c3] at h
        have b3 : decide (126 < a1) = false := decide_eq_false c3
        have l2 : 32 ≤ a1 := by omega
        have l3 : a1 ≤ 126 := by omega
        by_cases c4 : a0 = 4
        · rw [if_pos c4] at h
          obtain ⟨hr, rfl⟩ := Prod.mk.inj (Option.some.inj h)
          have Hr := Lib.hid hr
          subst c4
          clear c2 c3 h b1 hr c1
          have hx := fun W => index_eb .u8 (a1 - 32) (by omega) (by omega) W
          go_enter Try.func50, Try.ntmps50
          go_wp2_with (first | (go_at_call 60; refine (digits_ebcdic.calls _).mono ?_; rintro e w' ⟨rfl, hb⟩))
          go_ret2
          exact ⟨by rw [← Hr.out]; rfl, hb⟩
        · rw [if_neg c4] at h
          obtain ⟨rfl, rfl⟩ := Prod.mk.inj (Option.some.inj h)
          have b4 : (a0 == 4) = false := beq_eq_false_iff_ne.mpr c4
          clear c1 c2 c3 c4 h
          go_enter Try.func50, Try.ntmps50
          go_wp2
          go_ret2
          exact ⟨rfl, Below.refl _ _⟩

end Go.Proofs.Ytlpamhffpgoebaa.All
