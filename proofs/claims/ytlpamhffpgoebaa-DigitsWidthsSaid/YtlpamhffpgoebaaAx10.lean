-- WRITTEN BY this session's own drv.py over the kit's print. Not trusted: Lean checks it.
import Derived.Test.YtlpamhffpgoebaaAx0
import Derived.Test.YtlpamhffpgoebaaAx6
import Derived.Test.YtlpamhffpgoebaaAx9
namespace Go.Proofs.Ytlpamhffpgoebaa.All
open Go.RowKit Go.Proofs.YtlpamhffpgoebaaW.PrintWords Go.Proofs.YtlpamhffpgoebaaW.PrintLast Go.Proofs.YtlpamhffpgoebaaW.PrintMore
attribute [local go_sem] max2_int min2_int max_two min_two max_three min_three max_four min_four   -- for this text's walks alone
set_option linter.unusedVariables false
set_option linter.unusedSimpArgs false

/-! ### turnstilelaw1_DigitsWidths: function 5 -/
def turnstilelaw1_DigitsWidths.f (k : Nat) (a0 : Int) (a1 : Int) : Option (Bool) := (digits_Width.f 2 3).bind fun t112 => (if t112 = 2 then ((digits_Width.f a0 a1).bind fun t113 => ((turnstileref1_Width.f k a0 a1).bind fun t114 => (some (t113 == t114)))) else (some false))
theorem turnstilelaw1_DigitsWidths.mono : ∀ a0 a1 k, LeO (turnstilelaw1_DigitsWidths.f k a0 a1) (turnstilelaw1_DigitsWidths.f (k + 1) a0 a1) := by
  intro a0 a1 k
  unfold turnstilelaw1_DigitsWidths.f
  repeat' first
      | (with_reducible exact turnstileref1_Width.mono _ _ _)
      | (with_reducible exact LeO.refl _)
      | (with_reducible exact LeO.none _)
      | (with_reducible refine LeO.ite ?_ ?_)
      | (with_reducible refine LeO.bind ?_ (fun _ => ?_))
      | exact turnstileref1_Width.mono _ _ _
      | exact LeO.none _
      | refine LeO.ite ?_ ?_
      | refine LeO.bind ?_ (fun _ => ?_)
set_option maxHeartbeats 8000000 in
set_option maxRecDepth 100000 in
theorem turnstilelaw1_DigitsWidths.calls (k : Nat) (a0 : Int) (a1 : Int) (r : Bool) (w : World) (h : turnstilelaw1_DigitsWidths.f k a0 a1 = some r) :
    Calls Try.prog 5 #[.int .i64 a0, .int .i64 a1] w fun e w' => e = .returned (.bool r) ∧ Drawn0 w w' := by
  have H : ((digits_Width.f 2 3).bind fun t112 => (if t112 = 2 then ((digits_Width.f a0 a1).bind fun t113 => ((turnstileref1_Width.f k a0 a1).bind fun t114 => (some (t113 == t114)))) else (some false))) = some r := h
  clear h
  replace H := Option.bind_eq_some_iff.mp H
  obtain ⟨t112, A30, H⟩ := H
  replace H : (if t112 = 2 then ((digits_Width.f a0 a1).bind fun t113 => ((turnstileref1_Width.f k a0 a1).bind fun t114 => (some (t113 == t114)))) else (some false)) = some r := H
  have A3 := Aside0.mk A30
  clear A30
  by_cases c4 : t112 = 2
  · rw [if_pos c4] at H
    have c4b0 : (t112 == 2) = true := beq_iff_eq.mpr c4
    have c4b1 : (t112 != 2) = false := bne_eq_false_iff_eq.mpr c4
    clear c4
    replace H := Option.bind_eq_some_iff.mp H
    obtain ⟨t113, A50, H⟩ := H
    replace H : ((turnstileref1_Width.f k a0 a1).bind fun t114 => (some (t113 == t114))) = some r := H
    have A5 := Aside0.mk A50
    clear A50
    replace H := Option.bind_eq_some_iff.mp H
    obtain ⟨t114, A60, H⟩ := H
    replace H : (some (t113 == t114)) = some r := H
    have A6 := Aside0.mk A60
    clear A60
    obtain rfl := Option.some.inj H
    go_enter Try.func5, Try.ntmps5
    go_wp2_with (first | ((with_reducible refine gate_callee (f := 20) rfl ?_); refine goesL_ (some 6) rfl rfl Try.func20 (by kernel_rfl) rfl #[.int .i64 2, .int .i64 3] rfl (by (try simp only [List.map_toArray, List.map_cons, List.map_nil]); first | done | rfl | (simp only [List.length_drop, List.length_take]; rfl)) ?_; (with_reducible refine (digits_Width.calls 2 3 t112 _ A3.out).mono ?_); rintro e w' ⟨rfl, ⟨nd, rfl⟩⟩; refine ⟨_, rfl, ?_⟩) | (go_at_call 20; (with_reducible refine (digits_Width.calls a0 a1 t113 _ A5.out).mono ?_); rintro e w' ⟨rfl, ⟨nd, rfl⟩⟩) | (go_at_call 21; (with_reducible refine (turnstileref1_Width.calls k a0 a1 t114 _ A6.out).mono ?_); rintro e w' ⟨rfl, ⟨nd, rfl⟩⟩))
    go_ret
    exact ⟨by first | rfl | (simp; done) | (simp [*]; done), by repeat (first | exact Drawn0.refl _ | apply Drawn0.step)⟩
  · rw [if_neg c4] at H
    have c4b0 : (t112 == 2) = false := beq_eq_false_iff_ne.mpr c4
    have c4b1 : (t112 != 2) = true := bne_iff_ne.mpr c4
    obtain rfl := Option.some.inj H
    go_enter Try.func5, Try.ntmps5
    go_wp2_with (first | ((with_reducible refine gate_callee (f := 20) rfl ?_); refine goesL_ (some 6) rfl rfl Try.func20 (by kernel_rfl) rfl #[.int .i64 2, .int .i64 3] rfl (by (try simp only [List.map_toArray, List.map_cons, List.map_nil]); first | done | rfl | (simp only [List.length_drop, List.length_take]; rfl)) ?_; (with_reducible refine (digits_Width.calls 2 3 t112 _ A3.out).mono ?_); rintro e w' ⟨rfl, ⟨nd, rfl⟩⟩; refine ⟨_, rfl, ?_⟩))
    go_ret
    exact ⟨by first | rfl | (simp; done) | (simp [*]; done), by repeat (first | exact Drawn0.refl _ | apply Drawn0.step)⟩

/-- THE ONE PURE STATEMENT of turnstilelaw1_DigitsWidths: yours. -/
def turnstilelaw1_DigitsWidths.Pure : Prop := ∀ (a0 : Int) (a1 : Int), (Lit.int .i64 a0).wf = true → (Lit.int .i64 a1).wf = true → ∃ k, turnstilelaw1_DigitsWidths.f k a0 a1 = some true
theorem turnstilelaw1_DigitsWidths.walk (P : turnstilelaw1_DigitsWidths.Pure) (a0 : Int) (a1 : Int) (w : World) (w0 : (Lit.int .i64 a0).wf = true) (w1 : (Lit.int .i64 a1).wf = true) :
    Calls Try.prog 5 #[.int .i64 a0, .int .i64 a1] w fun e w' => e = .returned (.bool true) ∧ Below w.heap.size w w' := by
  obtain ⟨k, h⟩ := P a0 a1 w0 w1
  refine (turnstilelaw1_DigitsWidths.calls k a0 a1 true w h).mono ?_
  rintro e w' ⟨rfl, hd⟩
  exact ⟨rfl, hd.below⟩

end Go.Proofs.Ytlpamhffpgoebaa.All
