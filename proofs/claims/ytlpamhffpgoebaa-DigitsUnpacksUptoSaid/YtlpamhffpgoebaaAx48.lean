-- WRITTEN BY this session's own drv.py over the kit's print. Not trusted: Lean checks it.
import Derived.Test.YtlpamhffpgoebaaAx0
import Derived.Test.YtlpamhffpgoebaaAx42
namespace Go.Proofs.Ytlpamhffpgoebaa.All
open Go.RowKit Go.Proofs.YtlpamhffpgoebaaW.PrintWords Go.Proofs.YtlpamhffpgoebaaW.PrintLast Go.Proofs.YtlpamhffpgoebaaW.PrintMore
attribute [local go_sem] max2_int min2_int max_two min_two max_three min_three max_four min_four   -- for this text's walks alone
set_option linter.unusedVariables false
set_option linter.unusedSimpArgs false

/-! ### turnstileref1_Char: function 63 -/
def turnstileref1_Char.l0 : Nat → Int → Int → Int → Option (Int × Bool)
  | 0, _, _, _ => none
  | k + 1, x0, x1, x6 => if x6 < 256 then ((turnstileref1_Code.f k x0 ((x6) % 256)).bind fun bt326 => (if bt326.2 = true then (if bt326.1 = x1 then (some ((x6) % 256, true)) else (turnstileref1_Char.l0 k x0 x1 (wrap64 (x6 + 1)))) else (turnstileref1_Char.l0 k x0 x1 (wrap64 (x6 + 1))))) else (some (0, false))
def turnstileref1_Char.f (k : Nat) (a0 : Int) (a1 : Int) : Option (Int × Bool) := turnstileref1_Char.l0 k a0 a1 0
theorem turnstileref1_Char.mono_l : ∀ k, (∀ y0 y1 y2, LeO (turnstileref1_Char.l0 k y0 y1 y2) (turnstileref1_Char.l0 (k + 1) y0 y1 y2))
  | 0 => fun _ _ _ r h => by simp [turnstileref1_Char.l0] at h
  | k + 1 => by
    have ih0 := turnstileref1_Char.mono_l k
    · intro y0 y1 y2
      unfold turnstileref1_Char.l0
      repeat' first
      | (with_reducible exact ih0 _ _ _)
      | (with_reducible exact turnstileref1_Code.mono _ _ _)
      | (with_reducible exact LeO.refl _)
      | (with_reducible exact LeO.none _)
      | (with_reducible refine LeO.ite ?_ ?_)
      | (with_reducible refine LeO.bind ?_ (fun _ => ?_))
      | exact ih0 _ _ _
      | exact turnstileref1_Code.mono _ _ _
      | exact LeO.none _
      | refine LeO.ite ?_ ?_
      | refine LeO.bind ?_ (fun _ => ?_)
theorem turnstileref1_Char.mono : ∀ a0 a1 k, LeO (turnstileref1_Char.f k a0 a1) (turnstileref1_Char.f (k + 1) a0 a1) := by
  intro a0 a1 k
  have ih0 := turnstileref1_Char.mono_l k
  unfold turnstileref1_Char.f
  repeat' first
      | (with_reducible exact ih0 _ _ _)
      | (with_reducible exact turnstileref1_Code.mono _ _ _)
      | (with_reducible exact LeO.refl _)
      | (with_reducible exact LeO.none _)
      | (with_reducible refine LeO.ite ?_ ?_)
      | (with_reducible refine LeO.bind ?_ (fun _ => ?_))
      | exact ih0 _ _ _
      | exact turnstileref1_Code.mono _ _ _
      | exact LeO.none _
      | refine LeO.ite ?_ ?_
      | refine LeO.bind ?_ (fun _ => ?_)
set_option maxHeartbeats 8000000 in
set_option maxRecDepth 100000 in
theorem turnstileref1_Char.calls (k : Nat) (a0 : Int) (a1 : Int) (r1 : Int) (r2 : Bool) (w : World) (h : turnstileref1_Char.f k a0 a1 = some (r1, r2)) :
    Calls Try.prog 63 #[.int .i64 a0, .int .u8 a1] w fun e w' => e = .returned (.tuple #[.int .u8 r1, .bool r2]) ∧ Drawn0 w w' := by
  have H : (turnstileref1_Char.l0 k a0 a1 0) = some (r1, r2) := h
  clear h
  have H' := Aside0.mk H
  clear H
  go_enter Try.func63, Try.ntmps63
  go_wp2
  go_loopg [6] k (fun kq v6 w' => ∃ (x6_1 : Int), v6 = .int .i64 x6_1 ∧ Aside0 (turnstileref1_Char.l0 kq a0 a1 x6_1 = some (r1, r2)) ∧ Aside0 (kq ≤ k) ∧ Drawn0 w w')
  case atStart => exact ⟨(0), (by first | rfl | (simp; done) | (simp [*]; done)), H', ⟨Nat.le_refl _⟩, by repeat (first | exact Drawn0.refl _ | apply Drawn0.step)⟩
  case round =>
    clear H'
    try clear p2
    obtain ⟨x6_1, rfl, HA, HK1, ⟨m1, rfl⟩⟩ := hrel
    cases gk with
    | zero => exact absurd HA.out (by simp [turnstileref1_Char.l0])
    | succ k1 =>
      have H := HA.out
      clear HA
      simp only [turnstileref1_Char.l0] at H
      by_cases c3 : x6_1 < 256
      · rw [if_pos c3] at H
        have c3b0 : decide (x6_1 < 256) = true := decide_eq_true c3
        clear c3
        replace H := Option.bind_eq_some_iff.mp H
        obtain ⟨⟨t326, t327⟩, A40, H⟩ := H
        replace H : (if t327 = true then (if t326 = a1 then (some ((x6_1) % 256, true)) else (turnstileref1_Char.l0 k1 a0 a1 (wrap64 (x6_1 + 1)))) else (turnstileref1_Char.l0 k1 a0 a1 (wrap64 (x6_1 + 1)))) = some (r1, r2) := H
        have A4 := Aside0.mk A40
        clear A40
        by_cases c5 : t327 = true
        · subst c5
          have H1 : (if t326 = a1 then (some ((x6_1) % 256, true)) else (turnstileref1_Char.l0 k1 a0 a1 (wrap64 (x6_1 + 1)))) = some (r1, r2) := by rw [if_pos rfl] at H; exact H
          clear H
          have H := H1
          clear H1
          by_cases c6 : t326 = a1
          · rw [if_pos c6] at H
            have c6b0 : (t326 == a1) = true := beq_iff_eq.mpr c6
            have c6b1 : (t326 != a1) = false := bne_eq_false_iff_eq.mpr c6
            clear c6
            simp only [Option.some.injEq, Prod.mk.injEq] at H
            obtain ⟨rfl, rfl⟩ := H
            go_wp2_with (first | ((with_reducible refine gate_callee (f := 52) rfl ?_); refine goesL_ (some 17) rfl rfl Try.func52 (by kernel_rfl) rfl #[.int .i64 a0, .int .u8 ((x6_1) % 256)] rfl (by (try simp only [List.map_toArray, List.map_cons, List.map_nil]); first | done | rfl | (simp only [List.length_drop, List.length_take]; rfl)) ?_; (with_reducible refine (turnstileref1_Code.calls k1 a0 ((x6_1) % 256) t326 true _ A4.out).mono ?_); rintro e w' ⟨rfl, ⟨nd, rfl⟩⟩; refine ⟨_, rfl, ?_⟩))
            go_ret2
            exact ⟨by first | rfl | (simp; done) | (simp [*]; done), by repeat (first | exact Drawn0.refl _ | apply Drawn0.step)⟩
          · rw [if_neg c6] at H
            have c6b0 : (t326 == a1) = false := beq_eq_false_iff_ne.mpr c6
            have c6b1 : (t326 != a1) = true := bne_iff_ne.mpr c6
            have H' := Aside0.mk H
            clear H
            go_wp2_with (first | ((with_reducible refine gate_callee (f := 52) rfl ?_); refine goesL_ (some 17) rfl rfl Try.func52 (by kernel_rfl) rfl #[.int .i64 a0, .int .u8 ((x6_1) % 256)] rfl (by (try simp only [List.map_toArray, List.map_cons, List.map_nil]); first | done | rfl | (simp only [List.length_drop, List.length_take]; rfl)) ?_; (with_reducible refine (turnstileref1_Code.calls k1 a0 ((x6_1) % 256) t326 true _ A4.out).mono ?_); rintro e w' ⟨rfl, ⟨nd, rfl⟩⟩; refine ⟨_, rfl, ?_⟩))
            go_roundg k1
            case measure => have := HK1.out; omega
            case rel => exact ⟨(wrap64 (x6_1 + 1)), (by first | rfl | (simp; done) | (simp [*]; done)), H', ⟨by have := HK1.out; omega⟩, by repeat (first | exact Drawn0.refl _ | apply Drawn0.step)⟩
        · replace c5 := Bool.eq_false_iff.mpr c5
          subst c5
          have H1 : (turnstileref1_Char.l0 k1 a0 a1 (wrap64 (x6_1 + 1))) = some (r1, r2) := by rw [if_neg (show ¬ (false = true) by decide)] at H; exact H
          clear H
          have H := H1
          clear H1
          have H' := Aside0.mk H
          clear H
          go_wp2_with (first | ((with_reducible refine gate_callee (f := 52) rfl ?_); refine goesL_ (some 17) rfl rfl Try.func52 (by kernel_rfl) rfl #[.int .i64 a0, .int .u8 ((x6_1) % 256)] rfl (by (try simp only [List.map_toArray, List.map_cons, List.map_nil]); first | done | rfl | (simp only [List.length_drop, List.length_take]; rfl)) ?_; (with_reducible refine (turnstileref1_Code.calls k1 a0 ((x6_1) % 256) t326 false _ A4.out).mono ?_); rintro e w' ⟨rfl, ⟨nd, rfl⟩⟩; refine ⟨_, rfl, ?_⟩))
          go_roundg k1
          case measure => have := HK1.out; omega
          case rel => exact ⟨(wrap64 (x6_1 + 1)), (by first | rfl | (simp; done) | (simp [*]; done)), H', ⟨by have := HK1.out; omega⟩, by repeat (first | exact Drawn0.refl _ | apply Drawn0.step)⟩
      · rw [if_neg c3] at H
        have c3b0 : decide (x6_1 < 256) = false := decide_eq_false c3
        clear c3
        simp only [Option.some.injEq, Prod.mk.injEq] at H
        obtain ⟨rfl, rfl⟩ := H
        go_wp2
        go_ret2
        exact ⟨by first | rfl | (simp; done) | (simp [*]; done), by repeat (first | exact Drawn0.refl _ | apply Drawn0.step)⟩

end Go.Proofs.Ytlpamhffpgoebaa.All
