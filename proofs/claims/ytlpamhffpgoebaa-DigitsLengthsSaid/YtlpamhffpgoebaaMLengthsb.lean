/- DigitsLengths of the package turnstilelaw1: of every two integers and every text digits.Length tells what the reference's does, its place too; of BINARY, 4 and the bytes 04 d2 it tells 1234 in 2 bytes. No condition. Texts of this claim laid together by merge.py: Ax56, Ax51, Ax40, Ax41, Ax43, Ax18, Ax19, Ax21, Ax22, Pa, Pd, Pe, Ax6, Ax45 -/
import Derived.Test.YtlpamhffpgoebaaMLengthsa
import Derived.OpenShut
-- WRITTEN BY this session's own drv.py over the kit's print. Not trusted: Lean checks it.
namespace Go.Proofs.Ytlpamhffpgoebaa.All
open Go.RowKit Go.Proofs.YtlpamhffpgoebaaW.PrintWords Go.Proofs.YtlpamhffpgoebaaW.PrintLast Go.Proofs.YtlpamhffpgoebaaW.PrintMore
attribute [local go_sem] max2_int min2_int max_two min_two max_three min_three max_four min_four   -- for this text's walks alone
set_option linter.unusedVariables false
set_option linter.unusedSimpArgs false

/-! ### turnstilelaw1_DigitsLengths: function 12 -/
def turnstilelaw1_DigitsLengths.f (k : Nat) (a0 : Int) (a1 : Int) (a2 : ByteArray) : Option (Bool) := (digits_Length.f k 5 4 (⟨#[4, 210]⟩ : ByteArray)).bind fun bt368 => ((digits_Length.f k a0 a1 a2).bind fun bt371 => ((turnstileref1_Length.f k a0 a1 a2).bind fun bt374 => (if bt368.2.1 = 0 then (if bt368.1 = 1234 then (if bt368.2.2 = 2 then (if bt371.1 = bt374.1 then (if bt371.2.1 = bt374.2.1 then (some (bt371.2.2 == bt374.2.2)) else (some false)) else (some false)) else (some false)) else (some false)) else (some false))))
theorem turnstilelaw1_DigitsLengths.mono : ∀ a0 a1 a2 k, LeO (turnstilelaw1_DigitsLengths.f k a0 a1 a2) (turnstilelaw1_DigitsLengths.f (k + 1) a0 a1 a2) := by
  intro a0 a1 a2 k
  unfold turnstilelaw1_DigitsLengths.f
  repeat' first
      | (with_reducible exact digits_Length.mono _ _ _ _)
      | (with_reducible exact turnstileref1_Length.mono _ _ _ _)
      | (with_reducible exact LeO.refl _)
      | (with_reducible exact LeO.none _)
      | (with_reducible refine LeO.ite ?_ ?_)
      | (with_reducible refine LeO.bind ?_ (fun _ => ?_))
      | exact digits_Length.mono _ _ _ _
      | exact turnstileref1_Length.mono _ _ _ _
      | exact LeO.none _
      | refine LeO.ite ?_ ?_
      | refine LeO.bind ?_ (fun _ => ?_)
set_option maxHeartbeats 8000000 in
set_option maxRecDepth 100000 in
theorem turnstilelaw1_DigitsLengths.calls (k : Nat) (a0 : Int) (a1 : Int) (a2 : ByteArray) (r : Bool) (w : World) (h : turnstilelaw1_DigitsLengths.f k a0 a1 a2 = some r) :
    Calls Try.prog 12 #[.int .i64 a0, .int .i64 a1, .string a2] w fun e w' => e = .returned (.bool r) ∧ Below w.heap.size w w' := by
  have HB := Aside0.mk (Below.refl w.heap.size w)
  have H : ((digits_Length.f k 5 4 (⟨#[4, 210]⟩ : ByteArray)).bind fun bt368 => ((digits_Length.f k a0 a1 a2).bind fun bt371 => ((turnstileref1_Length.f k a0 a1 a2).bind fun bt374 => (if bt368.2.1 = 0 then (if bt368.1 = 1234 then (if bt368.2.2 = 2 then (if bt371.1 = bt374.1 then (if bt371.2.1 = bt374.2.1 then (some (bt371.2.2 == bt374.2.2)) else (some false)) else (some false)) else (some false)) else (some false)) else (some false))))) = some r := h
  clear h
  replace H := Option.bind_eq_some_iff.mp H
  obtain ⟨⟨t368, t369, t370⟩, A40, H⟩ := H
  replace H : ((digits_Length.f k a0 a1 a2).bind fun bt371 => ((turnstileref1_Length.f k a0 a1 a2).bind fun bt374 => (if t369 = 0 then (if t368 = 1234 then (if t370 = 2 then (if bt371.1 = bt374.1 then (if bt371.2.1 = bt374.2.1 then (some (bt371.2.2 == bt374.2.2)) else (some false)) else (some false)) else (some false)) else (some false)) else (some false)))) = some r := H
  have A4 := Aside0.mk A40
  clear A40
  replace H := Option.bind_eq_some_iff.mp H
  obtain ⟨⟨t371, t372, t373⟩, A50, H⟩ := H
  replace H : ((turnstileref1_Length.f k a0 a1 a2).bind fun bt374 => (if t369 = 0 then (if t368 = 1234 then (if t370 = 2 then (if t371 = bt374.1 then (if t372 = bt374.2.1 then (some (t373 == bt374.2.2)) else (some false)) else (some false)) else (some false)) else (some false)) else (some false))) = some r := H
  have A5 := Aside0.mk A50
  clear A50
  replace H := Option.bind_eq_some_iff.mp H
  obtain ⟨⟨t374, t375, t376⟩, A60, H⟩ := H
  replace H : (if t369 = 0 then (if t368 = 1234 then (if t370 = 2 then (if t371 = t374 then (if t372 = t375 then (some (t373 == t376)) else (some false)) else (some false)) else (some false)) else (some false)) else (some false)) = some r := H
  have A6 := Aside0.mk A60
  clear A60
  by_cases c7 : t369 = 0
  · rw [if_pos c7] at H
    have c7b0 : (t369 == 0) = true := beq_iff_eq.mpr c7
    have c7b1 : (t369 != 0) = false := bne_eq_false_iff_eq.mpr c7
    clear c7
    by_cases c8 : t368 = 1234
    · rw [if_pos c8] at H
      have c8b0 : (t368 == 1234) = true := beq_iff_eq.mpr c8
      have c8b1 : (t368 != 1234) = false := bne_eq_false_iff_eq.mpr c8
      clear c8
      by_cases c9 : t370 = 2
      · rw [if_pos c9] at H
        have c9b0 : (t370 == 2) = true := beq_iff_eq.mpr c9
        have c9b1 : (t370 != 2) = false := bne_eq_false_iff_eq.mpr c9
        clear c9
        by_cases c10 : t371 = t374
        · rw [if_pos c10] at H
          have c10b0 : (t371 == t374) = true := beq_iff_eq.mpr c10
          have c10b1 : (t371 != t374) = false := bne_eq_false_iff_eq.mpr c10
          clear c10
          by_cases c11 : t372 = t375
          · rw [if_pos c11] at H
            have c11b0 : (t372 == t375) = true := beq_iff_eq.mpr c11
            have c11b1 : (t372 != t375) = false := bne_eq_false_iff_eq.mpr c11
            clear c11
            obtain rfl := Option.some.inj H
            go_enter Try.func12, Try.ntmps12
            go_wp2_with (first | ((with_reducible refine gate_callee (f := 27) rfl ?_); refine goesL_ (some 17) rfl rfl Try.func27 (by kernel_rfl) rfl #[.int .i64 5, .int .i64 4, .string (⟨#[4, 210]⟩ : ByteArray)] rfl (by (try simp only [List.map_toArray, List.map_cons, List.map_nil]); first | done | rfl | (simp only [List.length_drop, List.length_take]; rfl)) ?_; (with_reducible refine (digits_Length.calls k 5 4 (⟨#[4, 210]⟩ : ByteArray) t368 t369 t370 _ A4.out).mono ?_); rintro e w12 ⟨rfl, hb⟩; refine ⟨_, rfl, ?_⟩; have n0_ := Aside0.mk (below_step (by repeat (first | (with_reducible first | exact HB.out | apply below_alloc | apply pw_below_drewN | apply below_drew1) | exact HB.out)) hb); clear HB; have HB := n0_; clear n0_; (try clear hb); (try clear hb2); (try clear hk); (try clear hi)) | ((with_reducible refine gate_callee (f := 27) rfl ?_); refine goesL_ (some 25) rfl rfl Try.func27 (by kernel_rfl) rfl #[.int .i64 a0, .int .i64 a1, .string a2] rfl (by (try simp only [List.map_toArray, List.map_cons, List.map_nil]); first | done | rfl | (simp only [List.length_drop, List.length_take]; rfl)) ?_; (with_reducible refine (digits_Length.calls k a0 a1 a2 t371 t372 t373 _ A5.out).mono ?_); rintro e w13 ⟨rfl, hb⟩; refine ⟨_, rfl, ?_⟩; have n0_ := Aside0.mk (below_step (by repeat (first | (with_reducible first | exact HB.out | apply below_alloc | apply pw_below_drewN | apply below_drew1) | exact HB.out)) hb); clear HB; have HB := n0_; clear n0_; (try clear hb); (try clear hb2); (try clear hk); (try clear hi)) | ((with_reducible refine gate_callee (f := 36) rfl ?_); refine goesL_ (some 33) rfl rfl Try.func36 (by kernel_rfl) rfl #[.int .i64 a0, .int .i64 a1, .string a2] rfl (by (try simp only [List.map_toArray, List.map_cons, List.map_nil]); first | done | rfl | (simp only [List.length_drop, List.length_take]; rfl)) ?_; (with_reducible refine (turnstileref1_Length.calls k a0 a1 a2 t374 t375 t376 _ A6.out).mono ?_); rintro e w14 ⟨rfl, hb⟩; refine ⟨_, rfl, ?_⟩; have n0_ := Aside0.mk (below_step (by repeat (first | (with_reducible first | exact HB.out | apply below_alloc | apply pw_below_drewN | apply below_drew1) | exact HB.out)) hb); clear HB; have HB := n0_; clear n0_; (try clear hb); (try clear hb2); (try clear hk); (try clear hi)))
            go_ret
            exact ⟨by first | rfl | (simp [errW_none, errW_some] <;> rfl) | (simp [*, errW_none, errW_some] <;> rfl), by repeat (first | (with_reducible first | exact HB.out | apply below_alloc | apply pw_below_drewN | apply below_drew1) | exact HB.out)⟩
          · rw [if_neg c11] at H
            have c11b0 : (t372 == t375) = false := beq_eq_false_iff_ne.mpr c11
            have c11b1 : (t372 != t375) = true := bne_iff_ne.mpr c11
            obtain rfl := Option.some.inj H
            go_enter Try.func12, Try.ntmps12
            go_wp2_with (first | ((with_reducible refine gate_callee (f := 27) rfl ?_); refine goesL_ (some 17) rfl rfl Try.func27 (by kernel_rfl) rfl #[.int .i64 5, .int .i64 4, .string (⟨#[4, 210]⟩ : ByteArray)] rfl (by (try simp only [List.map_toArray, List.map_cons, List.map_nil]); first | done | rfl | (simp only [List.length_drop, List.length_take]; rfl)) ?_; (with_reducible refine (digits_Length.calls k 5 4 (⟨#[4, 210]⟩ : ByteArray) t368 t369 t370 _ A4.out).mono ?_); rintro e w15 ⟨rfl, hb⟩; refine ⟨_, rfl, ?_⟩; have n0_ := Aside0.mk (below_step (by repeat (first | (with_reducible first | exact HB.out | apply below_alloc | apply pw_below_drewN | apply below_drew1) | exact HB.out)) hb); clear HB; have HB := n0_; clear n0_; (try clear hb); (try clear hb2); (try clear hk); (try clear hi)) | ((with_reducible refine gate_callee (f := 27) rfl ?_); refine goesL_ (some 25) rfl rfl Try.func27 (by kernel_rfl) rfl #[.int .i64 a0, .int .i64 a1, .string a2] rfl (by (try simp only [List.map_toArray, List.map_cons, List.map_nil]); first | done | rfl | (simp only [List.length_drop, List.length_take]; rfl)) ?_; (with_reducible refine (digits_Length.calls k a0 a1 a2 t371 t372 t373 _ A5.out).mono ?_); rintro e w16 ⟨rfl, hb⟩; refine ⟨_, rfl, ?_⟩; have n0_ := Aside0.mk (below_step (by repeat (first | (with_reducible first | exact HB.out | apply below_alloc | apply pw_below_drewN | apply below_drew1) | exact HB.out)) hb); clear HB; have HB := n0_; clear n0_; (try clear hb); (try clear hb2); (try clear hk); (try clear hi)) | ((with_reducible refine gate_callee (f := 36) rfl ?_); refine goesL_ (some 33) rfl rfl Try.func36 (by kernel_rfl) rfl #[.int .i64 a0, .int .i64 a1, .string a2] rfl (by (try simp only [List.map_toArray, List.map_cons, List.map_nil]); first | done | rfl | (simp only [List.length_drop, List.length_take]; rfl)) ?_; (with_reducible refine (turnstileref1_Length.calls k a0 a1 a2 t374 t375 t376 _ A6.out).mono ?_); rintro e w17 ⟨rfl, hb⟩; refine ⟨_, rfl, ?_⟩; have n0_ := Aside0.mk (below_step (by repeat (first | (with_reducible first | exact HB.out | apply below_alloc | apply pw_below_drewN | apply below_drew1) | exact HB.out)) hb); clear HB; have HB := n0_; clear n0_; (try clear hb); (try clear hb2); (try clear hk); (try clear hi)))
            go_ret
            exact ⟨by first | rfl | (simp [errW_none, errW_some] <;> rfl) | (simp [*, errW_none, errW_some] <;> rfl), by repeat (first | (with_reducible first | exact HB.out | apply below_alloc | apply pw_below_drewN | apply below_drew1) | exact HB.out)⟩
        · rw [if_neg c10] at H
          have c10b0 : (t371 == t374) = false := beq_eq_false_iff_ne.mpr c10
          have c10b1 : (t371 != t374) = true := bne_iff_ne.mpr c10
          obtain rfl := Option.some.inj H
          go_enter Try.func12, Try.ntmps12
          go_wp2_with (first | ((with_reducible refine gate_callee (f := 27) rfl ?_); refine goesL_ (some 17) rfl rfl Try.func27 (by kernel_rfl) rfl #[.int .i64 5, .int .i64 4, .string (⟨#[4, 210]⟩ : ByteArray)] rfl (by (try simp only [List.map_toArray, List.map_cons, List.map_nil]); first | done | rfl | (simp only [List.length_drop, List.length_take]; rfl)) ?_; (with_reducible refine (digits_Length.calls k 5 4 (⟨#[4, 210]⟩ : ByteArray) t368 t369 t370 _ A4.out).mono ?_); rintro e w18 ⟨rfl, hb⟩; refine ⟨_, rfl, ?_⟩; have n0_ := Aside0.mk (below_step (by repeat (first | (with_reducible first | exact HB.out | apply below_alloc | apply pw_below_drewN | apply below_drew1) | exact HB.out)) hb); clear HB; have HB := n0_; clear n0_; (try clear hb); (try clear hb2); (try clear hk); (try clear hi)) | ((with_reducible refine gate_callee (f := 27) rfl ?_); refine goesL_ (some 25) rfl rfl Try.func27 (by kernel_rfl) rfl #[.int .i64 a0, .int .i64 a1, .string a2] rfl (by (try simp only [List.map_toArray, List.map_cons, List.map_nil]); first | done | rfl | (simp only [List.length_drop, List.length_take]; rfl)) ?_; (with_reducible refine (digits_Length.calls k a0 a1 a2 t371 t372 t373 _ A5.out).mono ?_); rintro e w19 ⟨rfl, hb⟩; refine ⟨_, rfl, ?_⟩; have n0_ := Aside0.mk (below_step (by repeat (first | (with_reducible first | exact HB.out | apply below_alloc | apply pw_below_drewN | apply below_drew1) | exact HB.out)) hb); clear HB; have HB := n0_; clear n0_; (try clear hb); (try clear hb2); (try clear hk); (try clear hi)) | ((with_reducible refine gate_callee (f := 36) rfl ?_); refine goesL_ (some 33) rfl rfl Try.func36 (by kernel_rfl) rfl #[.int .i64 a0, .int .i64 a1, .string a2] rfl (by (try simp only [List.map_toArray, List.map_cons, List.map_nil]); first | done | rfl | (simp only [List.length_drop, List.length_take]; rfl)) ?_; (with_reducible refine (turnstileref1_Length.calls k a0 a1 a2 t374 t375 t376 _ A6.out).mono ?_); rintro e w20 ⟨rfl, hb⟩; refine ⟨_, rfl, ?_⟩; have n0_ := Aside0.mk (below_step (by repeat (first | (with_reducible first | exact HB.out | apply below_alloc | apply pw_below_drewN | apply below_drew1) | exact HB.out)) hb); clear HB; have HB := n0_; clear n0_; (try clear hb); (try clear hb2); (try clear hk); (try clear hi)))
          go_ret
          exact ⟨by first | rfl | (simp [errW_none, errW_some] <;> rfl) | (simp [*, errW_none, errW_some] <;> rfl), by repeat (first | (with_reducible first | exact HB.out | apply below_alloc | apply pw_below_drewN | apply below_drew1) | exact HB.out)⟩
      · rw [if_neg c9] at H
        have c9b0 : (t370 == 2) = false := beq_eq_false_iff_ne.mpr c9
        have c9b1 : (t370 != 2) = true := bne_iff_ne.mpr c9
        obtain rfl := Option.some.inj H
        go_enter Try.func12, Try.ntmps12
        go_wp2_with (first | ((with_reducible refine gate_callee (f := 27) rfl ?_); refine goesL_ (some 17) rfl rfl Try.func27 (by kernel_rfl) rfl #[.int .i64 5, .int .i64 4, .string (⟨#[4, 210]⟩ : ByteArray)] rfl (by (try simp only [List.map_toArray, List.map_cons, List.map_nil]); first | done | rfl | (simp only [List.length_drop, List.length_take]; rfl)) ?_; (with_reducible refine (digits_Length.calls k 5 4 (⟨#[4, 210]⟩ : ByteArray) t368 t369 t370 _ A4.out).mono ?_); rintro e w21 ⟨rfl, hb⟩; refine ⟨_, rfl, ?_⟩; have n0_ := Aside0.mk (below_step (by repeat (first | (with_reducible first | exact HB.out | apply below_alloc | apply pw_below_drewN | apply below_drew1) | exact HB.out)) hb); clear HB; have HB := n0_; clear n0_; (try clear hb); (try clear hb2); (try clear hk); (try clear hi)) | ((with_reducible refine gate_callee (f := 27) rfl ?_); refine goesL_ (some 25) rfl rfl Try.func27 (by kernel_rfl) rfl #[.int .i64 a0, .int .i64 a1, .string a2] rfl (by (try simp only [List.map_toArray, List.map_cons, List.map_nil]); first | done | rfl | (simp only [List.length_drop, List.length_take]; rfl)) ?_; (with_reducible refine (digits_Length.calls k a0 a1 a2 t371 t372 t373 _ A5.out).mono ?_); rintro e w22 ⟨rfl, hb⟩; refine ⟨_, rfl, ?_⟩; have n0_ := Aside0.mk (below_step (by repeat (first | (with_reducible first | exact HB.out | apply below_alloc | apply pw_below_drewN | apply below_drew1) | exact HB.out)) hb); clear HB; have HB := n0_; clear n0_; (try clear hb); (try clear hb2); (try clear hk); (try clear hi)) | ((with_reducible refine gate_callee (f := 36) rfl ?_); refine goesL_ (some 33) rfl rfl Try.func36 (by kernel_rfl) rfl #[.int .i64 a0, .int .i64 a1, .string a2] rfl (by (try simp only [List.map_toArray, List.map_cons, List.map_nil]); first | done | rfl | (simp only [List.length_drop, List.length_take]; rfl)) ?_; (with_reducible refine (turnstileref1_Length.calls k a0 a1 a2 t374 t375 t376 _ A6.out).mono ?_); rintro e w23 ⟨rfl, hb⟩; refine ⟨_, rfl, ?_⟩; have n0_ := Aside0.mk (below_step (by repeat (first | (with_reducible first | exact HB.out | apply below_alloc | apply pw_below_drewN | apply below_drew1) | exact HB.out)) hb); clear HB; have HB := n0_; clear n0_; (try clear hb); (try clear hb2); (try clear hk); (try clear hi)))
        go_ret
        exact ⟨by first | rfl | (simp [errW_none, errW_some] <;> rfl) | (simp [*, errW_none, errW_some] <;> rfl), by repeat (first | (with_reducible first | exact HB.out | apply below_alloc | apply pw_below_drewN | apply below_drew1) | exact HB.out)⟩
    · rw [if_neg c8] at H
      have c8b0 : (t368 == 1234) = false := beq_eq_false_iff_ne.mpr c8
      have c8b1 : (t368 != 1234) = true := bne_iff_ne.mpr c8
      obtain rfl := Option.some.inj H
      go_enter Try.func12, Try.ntmps12
      go_wp2_with (first | ((with_reducible refine gate_callee (f := 27) rfl ?_); refine goesL_ (some 17) rfl rfl Try.func27 (by kernel_rfl) rfl #[.int .i64 5, .int .i64 4, .string (⟨#[4, 210]⟩ : ByteArray)] rfl (by (try simp only [List.map_toArray, List.map_cons, List.map_nil]); first | done | rfl | (simp only [List.length_drop, List.length_take]; rfl)) ?_; (with_reducible refine (digits_Length.calls k 5 4 (⟨#[4, 210]⟩ : ByteArray) t368 t369 t370 _ A4.out).mono ?_); rintro e w24 ⟨rfl, hb⟩; refine ⟨_, rfl, ?_⟩; have n0_ := Aside0.mk (below_step (by repeat (first | (with_reducible first | exact HB.out | apply below_alloc | apply pw_below_drewN | apply below_drew1) | exact HB.out)) hb); clear HB; have HB := n0_; clear n0_; (try clear hb); (try clear hb2); (try clear hk); (try clear hi)) | ((with_reducible refine gate_callee (f := 27) rfl ?_); refine goesL_ (some 25) rfl rfl Try.func27 (by kernel_rfl) rfl #[.int .i64 a0, .int .i64 a1, .string a2] rfl (by (try simp only [List.map_toArray, List.map_cons, List.map_nil]); first | done | rfl | (simp only [List.length_drop, List.length_take]; rfl)) ?_; (with_reducible refine (digits_Length.calls k a0 a1 a2 t371 t372 t373 _ A5.out).mono ?_); rintro e w25 ⟨rfl, hb⟩; refine ⟨_, rfl, ?_⟩; have n0_ := Aside0.mk (below_step (by repeat (first | (with_reducible first | exact HB.out | apply below_alloc | apply pw_below_drewN | apply below_drew1) | exact HB.out)) hb); clear HB; have HB := n0_; clear n0_; (try clear hb); (try clear hb2); (try clear hk); (try clear hi)) | ((with_reducible refine gate_callee (f := 36) rfl ?_); refine goesL_ (some 33) rfl rfl Try.func36 (by kernel_rfl) rfl #[.int .i64 a0, .int .i64 a1, .string a2] rfl (by (try simp only [List.map_toArray, List.map_cons, List.map_nil]); first | done | rfl | (simp only [List.length_drop, List.length_take]; rfl)) ?_; (with_reducible refine (turnstileref1_Length.calls k a0 a1 a2 t374 t375 t376 _ A6.out).mono ?_); rintro e w26 ⟨rfl, hb⟩; refine ⟨_, rfl, ?_⟩; have n0_ := Aside0.mk (below_step (by repeat (first | (with_reducible first | exact HB.out | apply below_alloc | apply pw_below_drewN | apply below_drew1) | exact HB.out)) hb); clear HB; have HB := n0_; clear n0_; (try clear hb); (try clear hb2); (try clear hk); (try clear hi)))
      go_ret
      exact ⟨by first | rfl | (simp [errW_none, errW_some] <;> rfl) | (simp [*, errW_none, errW_some] <;> rfl), by repeat (first | (with_reducible first | exact HB.out | apply below_alloc | apply pw_below_drewN | apply below_drew1) | exact HB.out)⟩
  · rw [if_neg c7] at H
    have c7b0 : (t369 == 0) = false := beq_eq_false_iff_ne.mpr c7
    have c7b1 : (t369 != 0) = true := bne_iff_ne.mpr c7
    obtain rfl := Option.some.inj H
    go_enter Try.func12, Try.ntmps12
    go_wp2_with (first | ((with_reducible refine gate_callee (f := 27) rfl ?_); refine goesL_ (some 17) rfl rfl Try.func27 (by kernel_rfl) rfl #[.int .i64 5, .int .i64 4, .string (⟨#[4, 210]⟩ : ByteArray)] rfl (by (try simp only [List.map_toArray, List.map_cons, List.map_nil]); first | done | rfl | (simp only [List.length_drop, List.length_take]; rfl)) ?_; (with_reducible refine (digits_Length.calls k 5 4 (⟨#[4, 210]⟩ : ByteArray) t368 t369 t370 _ A4.out).mono ?_); rintro e w27 ⟨rfl, hb⟩; refine ⟨_, rfl, ?_⟩; have n0_ := Aside0.mk (below_step (by repeat (first | (with_reducible first | exact HB.out | apply below_alloc | apply pw_below_drewN | apply below_drew1) | exact HB.out)) hb); clear HB; have HB := n0_; clear n0_; (try clear hb); (try clear hb2); (try clear hk); (try clear hi)) | ((with_reducible refine gate_callee (f := 27) rfl ?_); refine goesL_ (some 25) rfl rfl Try.func27 (by kernel_rfl) rfl #[.int .i64 a0, .int .i64 a1, .string a2] rfl (by (try simp only [List.map_toArray, List.map_cons, List.map_nil]); first | done | rfl | (simp only [List.length_drop, List.length_take]; rfl)) ?_; (with_reducible refine (digits_Length.calls k a0 a1 a2 t371 t372 t373 _ A5.out).mono ?_); rintro e w28 ⟨rfl, hb⟩; refine ⟨_, rfl, ?_⟩; have n0_ := Aside0.mk (below_step (by repeat (first | (with_reducible first | exact HB.out | apply below_alloc | apply pw_below_drewN | apply below_drew1) | exact HB.out)) hb); clear HB; have HB := n0_; clear n0_; (try clear hb); (try clear hb2); (try clear hk); (try clear hi)) | ((with_reducible refine gate_callee (f := 36) rfl ?_); refine goesL_ (some 33) rfl rfl Try.func36 (by kernel_rfl) rfl #[.int .i64 a0, .int .i64 a1, .string a2] rfl (by (try simp only [List.map_toArray, List.map_cons, List.map_nil]); first | done | rfl | (simp only [List.length_drop, List.length_take]; rfl)) ?_; (with_reducible refine (turnstileref1_Length.calls k a0 a1 a2 t374 t375 t376 _ A6.out).mono ?_); rintro e w29 ⟨rfl, hb⟩; refine ⟨_, rfl, ?_⟩; have n0_ := Aside0.mk (below_step (by repeat (first | (with_reducible first | exact HB.out | apply below_alloc | apply pw_below_drewN | apply below_drew1) | exact HB.out)) hb); clear HB; have HB := n0_; clear n0_; (try clear hb); (try clear hb2); (try clear hk); (try clear hi)))
    go_ret
    exact ⟨by first | rfl | (simp [errW_none, errW_some] <;> rfl) | (simp [*, errW_none, errW_some] <;> rfl), by repeat (first | (with_reducible first | exact HB.out | apply below_alloc | apply pw_below_drewN | apply below_drew1) | exact HB.out)⟩

/-- THE ONE PURE STATEMENT of turnstilelaw1_DigitsLengths: yours. -/
def turnstilelaw1_DigitsLengths.Pure : Prop := ∀ (a0 : Int) (a1 : Int) (a2 : ByteArray), (Lit.int .i64 a0).wf = true → (Lit.int .i64 a1).wf = true → a2.size ≤ 140737488351232 → ∃ k, turnstilelaw1_DigitsLengths.f k a0 a1 a2 = some true
theorem turnstilelaw1_DigitsLengths.walk (P : turnstilelaw1_DigitsLengths.Pure) (a0 : Int) (a1 : Int) (a2 : ByteArray) (w : World) (w0 : (Lit.int .i64 a0).wf = true) (w1 : (Lit.int .i64 a1).wf = true) (w2 : a2.size ≤ 140737488351232) :
    Calls Try.prog 12 #[.int .i64 a0, .int .i64 a1, .string a2] w fun e w' => e = .returned (.bool true) ∧ Below w.heap.size w w' := by
  obtain ⟨k, h⟩ := P a0 a1 a2 w0 w1 w2
  refine (turnstilelaw1_DigitsLengths.calls k a0 a1 a2 true w h).mono ?_
  rintro e w' ⟨rfl, hd⟩
  exact ⟨rfl, hd⟩

end Go.Proofs.Ytlpamhffpgoebaa.All

-- WRITTEN BY this session's own drv.py over the kit's print. Not trusted: Lean checks it.
namespace Go.Proofs.Ytlpamhffpgoebaa.All
open Go.RowKit Go.Proofs.YtlpamhffpgoebaaW.PrintWords Go.Proofs.YtlpamhffpgoebaaW.PrintLast Go.Proofs.YtlpamhffpgoebaaW.PrintMore
attribute [local go_sem] max2_int min2_int max_two min_two max_three min_three max_four min_four   -- for this text's walks alone
set_option linter.unusedVariables false
set_option linter.unusedSimpArgs false

/-! ### turnstileref1_Unpack: function 35 -/
mutual
def turnstileref1_Unpack.j0 : Nat → Int → ByteArray → Int → Bool → Option (ByteArray × Int × Int)
  | 0, _, _, _, _ => none
  | k + 1, x0, x1, x2, x22 => if x22 = true then (some ((⟨#[]⟩ : ByteArray), 1, 0)) else ((turnstileref1_Width.f k x0 x2).bind fun t346 => (if (x1.size : Int) < t346 then (some ((⟨#[]⟩ : ByteArray), 10, (x1.size : Int))) else (turnstileref1_Unpack.l0 k x0 x1 x2 t346 ([] : List Int) 0)))
def turnstileref1_Unpack.l0 : Nat → Int → ByteArray → Int → Int → List Int → Int → Option (ByteArray × Int × Int)
  | 0, _, _, _, _, _, _ => none
  | k + 1, x0, x1, x2, x10, x11, x12 => if x12 < x10 then (if 0 ≤ x12 then (if x12 < (x1.size : Int) then ((turnstileref1_Byte.f k x0 (bt x1 x12) x12 x2).bind fun bt347 => (if bt347.2 = 0 then (if x11.length + bt347.1.size < 140737488355328 then (turnstileref1_Unpack.l0 k x0 x1 x2 x10 (x11 ++ bytesOf bt347.1) (wrap64 (x12 + 1))) else (none)) else (some ((⟨#[]⟩ : ByteArray), bt347.2, x12)))) else (none)) else (none)) else (some (strOfNums x11, 0, 0))
end
def turnstileref1_Unpack.f (k : Nat) (a0 : Int) (a1 : ByteArray) (a2 : Int) : Option (ByteArray × Int × Int) := (turnstileref1_known.f a0).bind fun t345 => (if t345 = true then (turnstileref1_Unpack.j0 k a0 a1 a2 (decide (a2 < 0))) else (turnstileref1_Unpack.j0 k a0 a1 a2 true))
theorem turnstileref1_Unpack.mono_l : ∀ k, (∀ y0 y1 y2 y3, LeO (turnstileref1_Unpack.j0 k y0 y1 y2 y3) (turnstileref1_Unpack.j0 (k + 1) y0 y1 y2 y3)) ∧ (∀ y0 y1 y2 y3 y4 y5, LeO (turnstileref1_Unpack.l0 k y0 y1 y2 y3 y4 y5) (turnstileref1_Unpack.l0 (k + 1) y0 y1 y2 y3 y4 y5))
  | 0 => ⟨fun _ _ _ _ r h => by simp [turnstileref1_Unpack.j0] at h, fun _ _ _ _ _ _ r h => by simp [turnstileref1_Unpack.l0] at h⟩
  | k + 1 => by
    obtain ⟨ih0, ih1⟩ := turnstileref1_Unpack.mono_l k
    refine ⟨?_, ?_⟩
    · intro y0 y1 y2 y3
      unfold turnstileref1_Unpack.j0
      repeat' first
      | (with_reducible exact ih0 _ _ _ _)
      | (with_reducible exact ih1 _ _ _ _ _ _)
      | (with_reducible exact turnstileref1_Byte.mono _ _ _ _ _)
      | (with_reducible exact turnstileref1_Width.mono _ _ _)
      | (with_reducible exact LeO.refl _)
      | (with_reducible exact LeO.none _)
      | (with_reducible refine LeO.ite ?_ ?_)
      | (with_reducible refine LeO.bind ?_ (fun _ => ?_))
      | exact ih0 _ _ _ _
      | exact ih1 _ _ _ _ _ _
      | exact turnstileref1_Byte.mono _ _ _ _ _
      | exact turnstileref1_Width.mono _ _ _
      | exact LeO.none _
      | refine LeO.ite ?_ ?_
      | refine LeO.bind ?_ (fun _ => ?_)
    · intro y0 y1 y2 y3 y4 y5
      unfold turnstileref1_Unpack.l0
      repeat' first
      | (with_reducible exact ih0 _ _ _ _)
      | (with_reducible exact ih1 _ _ _ _ _ _)
      | (with_reducible exact turnstileref1_Byte.mono _ _ _ _ _)
      | (with_reducible exact turnstileref1_Width.mono _ _ _)
      | (with_reducible exact LeO.refl _)
      | (with_reducible exact LeO.none _)
      | (with_reducible refine LeO.ite ?_ ?_)
      | (with_reducible refine LeO.bind ?_ (fun _ => ?_))
      | exact ih0 _ _ _ _
      | exact ih1 _ _ _ _ _ _
      | exact turnstileref1_Byte.mono _ _ _ _ _
      | exact turnstileref1_Width.mono _ _ _
      | exact LeO.none _
      | refine LeO.ite ?_ ?_
      | refine LeO.bind ?_ (fun _ => ?_)
theorem turnstileref1_Unpack.mono : ∀ a0 a1 a2 k, LeO (turnstileref1_Unpack.f k a0 a1 a2) (turnstileref1_Unpack.f (k + 1) a0 a1 a2) := by
  intro a0 a1 a2 k
  obtain ⟨ih0, ih1⟩ := turnstileref1_Unpack.mono_l k
  unfold turnstileref1_Unpack.f
  repeat' first
      | (with_reducible exact ih0 _ _ _ _)
      | (with_reducible exact ih1 _ _ _ _ _ _)
      | (with_reducible exact turnstileref1_Byte.mono _ _ _ _ _)
      | (with_reducible exact turnstileref1_Width.mono _ _ _)
      | (with_reducible exact LeO.refl _)
      | (with_reducible exact LeO.none _)
      | (with_reducible refine LeO.ite ?_ ?_)
      | (with_reducible refine LeO.bind ?_ (fun _ => ?_))
      | exact ih0 _ _ _ _
      | exact ih1 _ _ _ _ _ _
      | exact turnstileref1_Byte.mono _ _ _ _ _
      | exact turnstileref1_Width.mono _ _ _
      | exact LeO.none _
      | refine LeO.ite ?_ ?_
      | refine LeO.bind ?_ (fun _ => ?_)
set_option maxHeartbeats 8000000 in
set_option maxRecDepth 100000 in
theorem turnstileref1_Unpack.calls (k : Nat) (a0 : Int) (a1 : ByteArray) (a2 : Int) (r1 : ByteArray) (r2 : Int) (r3 : Int) (w : World) (h : turnstileref1_Unpack.f k a0 a1 a2 = some (r1, r2, r3)) :
    Calls Try.prog 35 #[.int .i64 a0, .string a1, .int .i64 a2] w fun e w' => e = .returned (.tuple #[.string r1, .int .i64 r2, .int .i64 r3]) ∧ Below w.heap.size w w' := by
  have HB := Aside0.mk (Below.refl w.heap.size w)
  have H : ((turnstileref1_known.f a0).bind fun t345 => (if t345 = true then (turnstileref1_Unpack.j0 k a0 a1 a2 (decide (a2 < 0))) else (turnstileref1_Unpack.j0 k a0 a1 a2 true))) = some (r1, r2, r3) := h
  clear h
  replace H := Option.bind_eq_some_iff.mp H
  obtain ⟨t345, A40, H⟩ := H
  replace H : (if t345 = true then (turnstileref1_Unpack.j0 k a0 a1 a2 (decide (a2 < 0))) else (turnstileref1_Unpack.j0 k a0 a1 a2 true)) = some (r1, r2, r3) := H
  have A4 := Aside0.mk A40
  clear A40
  have HC5 := Aside0.mk H
  clear H
  go_enter Try.func35, Try.ntmps35
  go_upto_region 2 with (first | ((with_reducible refine gate_callee (f := 40) rfl ?_); refine goesL_ (some 16) rfl rfl Try.func40 (by kernel_rfl) rfl #[.int .i64 a0] rfl (by (try simp only [List.map_toArray, List.map_cons, List.map_nil]); first | done | rfl | (simp only [List.length_drop, List.length_take]; rfl)) ?_; (with_reducible refine (turnstileref1_known.calls a0 t345 _ A4.out).mono ?_); rintro e w' ⟨rfl, ⟨nd, rfl⟩⟩; refine ⟨_, rfl, ?_⟩))
  (try simp only [Act.put, List.setIfInBounds_toArray, List.set_cons_zero, List.set_cons_succ])
  go_cut [22] (fun v22 wc => ∃ (kq : Nat) (x22_4 : Bool), v22 = .bool x22_4 ∧ Aside0 (turnstileref1_Unpack.j0 kq a0 a1 a2 x22_4 = some (r1, r2, r3)) ∧ Aside0 (kq ≤ k) ∧ Aside0 (Below w.heap.size w wc))
  case first =>
    have H := HC5.out
    clear HC5
    by_cases c6 : t345 = true
    · subst c6
      have H1 : (turnstileref1_Unpack.j0 k a0 a1 a2 (decide (a2 < 0))) = some (r1, r2, r3) := by rw [if_pos rfl] at H; exact H
      clear H
      have H := H1
      clear H1
      have H' := Aside0.mk H
      clear H
      go_wp2
      go_meet
      case rel => exact ⟨_, (decide (a2 < 0)), (by first | rfl | (simp; done) | (simp [*]; done)), H', ⟨by first | omega | exact Nat.le_refl _⟩, ⟨by repeat (first | (with_reducible first | exact HB.out | apply below_alloc | apply pw_below_drewN | apply below_drew1) | exact HB.out)⟩⟩
    · replace c6 := Bool.eq_false_iff.mpr c6
      subst c6
      have H1 : (turnstileref1_Unpack.j0 k a0 a1 a2 true) = some (r1, r2, r3) := by rw [if_neg (show ¬ (false = true) by decide)] at H; exact H
      clear H
      have H := H1
      clear H1
      have H' := Aside0.mk H
      clear H
      go_wp2
      go_meet
      case rel => exact ⟨_, (true), (by first | rfl | (simp; done) | (simp [*]; done)), H', ⟨by first | omega | exact Nat.le_refl _⟩, ⟨by repeat (first | (with_reducible first | exact HB.out | apply below_alloc | apply pw_below_drewN | apply below_drew1) | exact HB.out)⟩⟩
  case rest =>
    clear HC5
    try clear p2
    try clear c3
    try clear c4
    try clear c6
    obtain ⟨kq, x22_4, rfl, HA, HJ4, HB⟩ := hcut
    cases kq with
    | zero => exact absurd HA.out (by simp [turnstileref1_Unpack.j0])
    | succ kj4 =>
      have H := HA.out
      clear HA
      simp only [turnstileref1_Unpack.j0] at H
      by_cases c7 : x22_4 = true
      · subst c7
        have H1 : (some ((⟨#[]⟩ : ByteArray), 1, 0)) = some (r1, r2, r3) := by rw [if_pos rfl] at H; exact H
        clear H
        have H := H1
        clear H1
        simp only [Option.some.injEq, Prod.mk.injEq] at H
        obtain ⟨rfl, rfl, rfl⟩ := H
        go_wp2
        go_ret3
        exact ⟨by first | rfl | (simp [errW_none, errW_some] <;> rfl) | (simp [*, errW_none, errW_some] <;> rfl), by repeat (first | (with_reducible first | exact HB.out | apply below_alloc | apply pw_below_drewN | apply below_drew1) | exact HB.out)⟩
      · replace c7 := Bool.eq_false_iff.mpr c7
        subst c7
        have H1 : ((turnstileref1_Width.f kj4 a0 a2).bind fun t346 => (if (a1.size : Int) < t346 then (some ((⟨#[]⟩ : ByteArray), 10, (a1.size : Int))) else (turnstileref1_Unpack.l0 kj4 a0 a1 a2 t346 ([] : List Int) 0))) = some (r1, r2, r3) := by rw [if_neg (show ¬ (false = true) by decide)] at H; exact H
        clear H
        have H := H1
        clear H1
        replace H := Option.bind_eq_some_iff.mp H
        obtain ⟨t346, A80, H⟩ := H
        replace H : (if (a1.size : Int) < t346 then (some ((⟨#[]⟩ : ByteArray), 10, (a1.size : Int))) else (turnstileref1_Unpack.l0 kj4 a0 a1 a2 t346 ([] : List Int) 0)) = some (r1, r2, r3) := H
        have A8 := Aside0.mk A80
        clear A80
        by_cases c9 : (a1.size : Int) < t346
        · rw [if_pos c9] at H
          have c9b0 : decide ((a1.size : Int) < t346) = true := decide_eq_true c9
          clear c9
          simp only [Option.some.injEq, Prod.mk.injEq] at H
          obtain ⟨rfl, rfl, rfl⟩ := H
          go_wp2_with (first | ((with_reducible refine gate_callee (f := 21) rfl ?_); refine goesL_ (some 25) rfl rfl Try.func21 (by kernel_rfl) rfl #[.int .i64 a0, .int .i64 a2] rfl (by (try simp only [List.map_toArray, List.map_cons, List.map_nil]); first | done | rfl | (simp only [List.length_drop, List.length_take]; rfl)) ?_; (with_reducible refine (turnstileref1_Width.calls kj4 a0 a2 t346 _ A8.out).mono ?_); rintro e w' ⟨rfl, ⟨nd, rfl⟩⟩; refine ⟨_, rfl, ?_⟩))
          go_ret3
          exact ⟨by first | rfl | (simp [errW_none, errW_some] <;> rfl) | (simp [*, errW_none, errW_some] <;> rfl), by repeat (first | (with_reducible first | exact HB.out | apply below_alloc | apply pw_below_drewN | apply below_drew1) | exact HB.out)⟩
        · rw [if_neg c9] at H
          have c9b0 : decide ((a1.size : Int) < t346) = false := decide_eq_false c9
          clear c9
          have H' := Aside0.mk H
          clear H
          go_wp2_with (first | ((with_reducible refine gate_callee (f := 21) rfl ?_); refine goesL_ (some 25) rfl rfl Try.func21 (by kernel_rfl) rfl #[.int .i64 a0, .int .i64 a2] rfl (by (try simp only [List.map_toArray, List.map_cons, List.map_nil]); first | done | rfl | (simp only [List.length_drop, List.length_take]; rfl)) ?_; (with_reducible refine (turnstileref1_Width.calls kj4 a0 a2 t346 _ A8.out).mono ?_); rintro e w' ⟨rfl, ⟨nd, rfl⟩⟩; refine ⟨_, rfl, ?_⟩))
          go_loopg [11, 12] kj4 (fun kq v11 v12 w' => ∃ (x11_2 : List Int) (x12_2 : Int), v12 = .int .i64 x12_2 ∧ Aside0 (turnstileref1_Unpack.l0 kq a0 a1 a2 t346 x11_2 x12_2 = some (r1, r2, r3)) ∧ Aside0 (kq ≤ kj4) ∧ Aside0 (Kd.R (Kd.int .u8) 5 w' w.heap.size (fun _ => True) v11 x11_2) ∧ Aside0 (Below w.heap.size w w'))
          case atStart => exact ⟨(([] : List Int)), (0), (by first | rfl | (simp; done) | (simp [*]; done)), H', ⟨Nat.le_refl _⟩, ⟨by first | exact Kd.R_nil _ _ _ _ _ | exact Kd.N_nil _ _ _ _ _ | exact Kd.V_nil _ _ _ _ _ | exact Kd.Q_nil _ _ _ _ _ | exact Kd.S_nil _ _ _ _ _⟩, ⟨by repeat (first | (with_reducible first | exact HB.out | apply below_alloc | apply pw_below_drewN | apply below_drew1) | exact HB.out)⟩⟩
          case round =>
            clear H'
            try clear c2
            try clear p2
            try clear c3
            try clear c4
            try clear c6
            try clear c7
            try clear c9
            try clear c9b0
            try clear p2
            obtain ⟨x11_2, x12_2, rfl, HA, HK2, HO_11, HB⟩ := hrel
            cases gk with
            | zero => exact absurd HA.out (by simp [turnstileref1_Unpack.l0])
            | succ k2 =>
              have H := HA.out
              clear HA
              simp only [turnstileref1_Unpack.l0] at H
              by_cases c10 : x12_2 < t346
              · rw [if_pos c10] at H
                have c10b0 : decide (x12_2 < t346) = true := decide_eq_true c10
                clear c10
                by_cases c11 : 0 ≤ x12_2
                · rw [if_pos c11] at H
                  have c11b0 : decide (0 ≤ x12_2) = true := decide_eq_true c11
                  clear c11
                  by_cases c12 : x12_2 < (a1.size : Int)
                  · rw [if_pos c12] at H
                    have c12b0 : decide (x12_2 < (a1.size : Int)) = true := decide_eq_true c12
                    clear c12
                    replace H := Option.bind_eq_some_iff.mp H
                    obtain ⟨⟨t347, t348⟩, A140, H⟩ := H
                    replace H : (if t348 = 0 then (if x11_2.length + t347.size < 140737488355328 then (turnstileref1_Unpack.l0 k2 a0 a1 a2 t346 (x11_2 ++ bytesOf t347) (wrap64 (x12_2 + 1))) else (none)) else (some ((⟨#[]⟩ : ByteArray), t348, x12_2))) = some (r1, r2, r3) := H
                    have A14 := Aside0.mk A140
                    clear A140
                    by_cases c15 : t348 = 0
                    · rw [if_pos c15] at H
                      have c15b0 : (t348 == 0) = true := beq_iff_eq.mpr c15
                      have c15b1 : (t348 != 0) = false := bne_eq_false_iff_eq.mpr c15
                      clear c15
                      by_cases c16 : x11_2.length + t347.size < 140737488355328
                      · rw [if_pos c16] at H
                        have LMc16 := Aside0.mk c16
                        clear c16
                        obtain ⟨y349, hy349⟩ : ∃ y_ : List Int, y_ = (x11_2 ++ bytesOf t347) := ⟨_, rfl⟩
                        replace H : (turnstileref1_Unpack.l0 k2 a0 a1 a2 t346 y349 (wrap64 (x12_2 + 1))) = some (r1, r2, r3) := by first | (rw [hy349]; with_reducible exact H) | (have H2_ := (Option.bind_some _ _).symm.trans H; rw [hy349]; with_reducible exact H2_) | (have H2_ := (Option.bind_some _ _).symm.trans H; with_reducible exact H2_) | with_reducible exact H | (rw [hy349]; exact H) | exact H
                        have Ny349 := Aside0.mk hy349
                        clear hy349
                        have H' := Aside0.mk H
                        clear H
                        have p13 : 0 ≤ (x12_2 : Int) := of_decide_eq_true (by first | (with_reducible assumption) | assumption)
                        have q13 : x12_2 < (a1.size : Int) := of_decide_eq_true (by first | (with_reducible assumption) | assumption)
                        have hx13 := bt_at a1 x12_2
                        replace p13 := eq_true p13
                        replace q13 := eq_true q13
                        go_wp2_with (first | ((with_reducible refine gate_callee (f := 55) rfl ?_); refine goesL_ (some 44) rfl rfl Try.func55 (by kernel_rfl) rfl #[.int .i64 a0, .int .u8 (bt a1 x12_2), .int .i64 x12_2, .int .i64 a2] rfl (by (try simp only [List.map_toArray, List.map_cons, List.map_nil]); first | done | rfl | (simp only [List.length_drop, List.length_take]; rfl)) ?_; (with_reducible refine (turnstileref1_Byte.calls k2 a0 (bt a1 x12_2) x12_2 a2 t347 t348 _ A14.out).mono ?_); rintro e w17 ⟨rfl, hb⟩; refine ⟨_, rfl, ?_⟩; have n0_ := Aside0.mk (Kd.R_below (by (with_reducible repeat (first | apply Kd.R_alloc | apply Kd.R_drewN | apply Kd.R_drew)); exact HO_11.out) hb); have n1_ := Aside0.mk (below_step (by repeat (first | (with_reducible first | exact HB.out | apply below_alloc | apply pw_below_drewN | apply below_drew1) | exact HB.out)) hb); clear HO_11; clear HB; have HO_11 := n0_; have HB := n1_; clear n0_ n1_; (try clear hb); (try clear hb2); (try clear hk); (try clear hi)) | (at_builtin; refine print_append_str (w0 := w) w.heap.size rfl (.tmp 51) _ 51 9 5 rfl Try.underlying51 Try.underlying9 info5 u11 x11_2 t347 rfl rfl ?aO ?aB ?aS ?aL ?_; (case aB => exact (by repeat (first | (with_reducible first | exact HB.out | apply below_alloc | apply pw_below_drewN | apply below_drew1) | exact HB.out))); (case aO => exact (Kd.own_of_R (by (with_reducible repeat (first | apply Kd.R_alloc | apply Kd.R_drewN | apply Kd.R_drew)); exact HO_11.out))); (case aS => exact (below_size (by repeat (first | (with_reducible first | exact HB.out | apply below_alloc | apply pw_below_drewN | apply below_drew1) | exact HB.out)))); (case aL => have := LMc16.out; omega); intro v350 w18 ho0 hb hg; have ho := Kd.R_of_own (h1 := fun _ => rfl) (ok := fun _ => True) ho0 (fun _ _ => trivial); clear ho0; have hat := True.intro; rw [← Ny349.out] at ho; change Kd.R (Kd.int .u8) 5 w18 w.heap.size (fun _ => True) v350 y349 at ho; have n0_ := Aside0.mk (hb); have n1_ := Aside0.mk (ho); clear HB; clear HO_11; have HB := n0_; have HO351 := n1_; clear n0_ n1_; clear ho hb hg hat))
                        go_roundg k2
                        case measure => have := HJ4.out; have := HK2.out; omega
                        case rel => exact ⟨(y349), (wrap64 (x12_2 + 1)), (by first | rfl | (simp; done) | (simp [*]; done)), H', ⟨by have := HJ4.out; have := HK2.out; omega⟩, ⟨by (with_reducible repeat (first | apply Kd.R_alloc | apply Kd.R_drewN | apply Kd.R_drew)); exact HO351.out⟩, ⟨by repeat (first | (with_reducible first | exact HB.out | apply below_alloc | apply pw_below_drewN | apply below_drew1) | exact HB.out)⟩⟩
                      · rw [if_neg c16] at H
                        exact absurd H (by simp)
                    · rw [if_neg c15] at H
                      have c15b0 : (t348 == 0) = false := beq_eq_false_iff_ne.mpr c15
                      have c15b1 : (t348 != 0) = true := bne_iff_ne.mpr c15
                      simp only [Option.some.injEq, Prod.mk.injEq] at H
                      obtain ⟨rfl, rfl, rfl⟩ := H
                      have p13 : 0 ≤ (x12_2 : Int) := of_decide_eq_true (by first | (with_reducible assumption) | assumption)
                      have q13 : x12_2 < (a1.size : Int) := of_decide_eq_true (by first | (with_reducible assumption) | assumption)
                      have hx13 := bt_at a1 x12_2
                      replace p13 := eq_true p13
                      replace q13 := eq_true q13
                      go_wp2_with (first | ((with_reducible refine gate_callee (f := 55) rfl ?_); refine goesL_ (some 44) rfl rfl Try.func55 (by kernel_rfl) rfl #[.int .i64 a0, .int .u8 (bt a1 x12_2), .int .i64 x12_2, .int .i64 a2] rfl (by (try simp only [List.map_toArray, List.map_cons, List.map_nil]); first | done | rfl | (simp only [List.length_drop, List.length_take]; rfl)) ?_; (with_reducible refine (turnstileref1_Byte.calls k2 a0 (bt a1 x12_2) x12_2 a2 t347 t348 _ A14.out).mono ?_); rintro e w19 ⟨rfl, hb⟩; refine ⟨_, rfl, ?_⟩; have n0_ := Aside0.mk (Kd.R_below (by (with_reducible repeat (first | apply Kd.R_alloc | apply Kd.R_drewN | apply Kd.R_drew)); exact HO_11.out) hb); have n1_ := Aside0.mk (below_step (by repeat (first | (with_reducible first | exact HB.out | apply below_alloc | apply pw_below_drewN | apply below_drew1) | exact HB.out)) hb); clear HO_11; clear HB; have HO_11 := n0_; have HB := n1_; clear n0_ n1_; (try clear hb); (try clear hb2); (try clear hk); (try clear hi)))
                      go_ret3
                      exact ⟨by first | rfl | (simp [errW_none, errW_some] <;> rfl) | (simp [*, errW_none, errW_some] <;> rfl), by repeat (first | (with_reducible first | exact HB.out | apply below_alloc | apply pw_below_drewN | apply below_drew1) | exact HB.out)⟩
                  · rw [if_neg c12] at H
                    exact absurd H (by simp)
                · rw [if_neg c11] at H
                  exact absurd H (by simp)
              · rw [if_neg c10] at H
                have c10b0 : decide (x12_2 < t346) = false := decide_eq_false c10
                clear c10
                simp only [Option.some.injEq, Prod.mk.injEq] at H
                obtain ⟨rfl, rfl, rfl⟩ := H
                have hcv20 := own_string (P := Try.prog) Try.underlying51 Try.underlying5 Try.underlying9 (Kd.own_of_R HO_11.out)
                go_wp2
                go_ret3
                exact ⟨by first | rfl | (simp [errW_none, errW_some] <;> rfl) | (simp [*, errW_none, errW_some] <;> rfl), by repeat (first | (with_reducible first | exact HB.out | apply below_alloc | apply pw_below_drewN | apply below_drew1) | exact HB.out)⟩

end Go.Proofs.Ytlpamhffpgoebaa.All

-- WRITTEN BY this session's own drv.py over the kit's print. Not trusted: Lean checks it.
namespace Go.Proofs.Ytlpamhffpgoebaa.All
open Go.RowKit Go.Proofs.YtlpamhffpgoebaaW.PrintWords Go.Proofs.YtlpamhffpgoebaaW.PrintLast Go.Proofs.YtlpamhffpgoebaaW.PrintMore
attribute [local go_sem] max2_int min2_int max_two min_two max_three min_three max_four min_four   -- for this text's walks alone
set_option linter.unusedVariables false
set_option linter.unusedSimpArgs false

/-! ### turnstileref1_half: function 61 -/
def turnstileref1_half.f (a0 : Int) : Option (Int) := if a0 = 61 then (some 13) else (if a0 < 48 then (some (-1)) else (if a0 > 57 then (some (-1)) else (some ((a0 - 48) % 256))))
set_option maxHeartbeats 8000000 in
set_option maxRecDepth 100000 in
theorem turnstileref1_half.calls (a0 : Int) (r : Int) (w : World) (h : turnstileref1_half.f a0 = some r) :
    Calls Try.prog 61 #[.int .u8 a0] w fun e w' => e = .returned (.int .i64 r) ∧ Drawn0 w w' := by
  have H : (if a0 = 61 then (some 13) else (if a0 < 48 then (some (-1)) else (if a0 > 57 then (some (-1)) else (some ((a0 - 48) % 256))))) = some r := h
  clear h
  by_cases c2 : a0 = 61
  · rw [if_pos c2] at H
    have c2b0 : (a0 == 61) = true := beq_iff_eq.mpr c2
    have c2b1 : (a0 != 61) = false := bne_eq_false_iff_eq.mpr c2
    clear c2
    obtain rfl := Option.some.inj H
    go_enter Try.func61, Try.ntmps61
    go_wp2
    go_ret
    exact ⟨by first | rfl | (simp; done) | (simp [*]; done), by repeat (first | exact Drawn0.refl _ | apply Drawn0.step)⟩
  · rw [if_neg c2] at H
    have c2b0 : (a0 == 61) = false := beq_eq_false_iff_ne.mpr c2
    have c2b1 : (a0 != 61) = true := bne_iff_ne.mpr c2
    by_cases c3 : a0 < 48
    · rw [if_pos c3] at H
      have c3b0 : decide (a0 < 48) = true := decide_eq_true c3
      clear c3
      obtain rfl := Option.some.inj H
      go_enter Try.func61, Try.ntmps61
      go_wp2
      go_ret
      exact ⟨by first | rfl | (simp; done) | (simp [*]; done), by repeat (first | exact Drawn0.refl _ | apply Drawn0.step)⟩
    · rw [if_neg c3] at H
      have c3b0 : decide (a0 < 48) = false := decide_eq_false c3
      clear c3
      by_cases c4 : a0 > 57
      · rw [if_pos c4] at H
        have c4b0 : decide (57 < a0) = true := decide_eq_true c4
        clear c4
        obtain rfl := Option.some.inj H
        go_enter Try.func61, Try.ntmps61
        go_wp2
        go_ret
        exact ⟨by first | rfl | (simp; done) | (simp [*]; done), by repeat (first | exact Drawn0.refl _ | apply Drawn0.step)⟩
      · rw [if_neg c4] at H
        have c4b0 : decide (57 < a0) = false := decide_eq_false c4
        clear c4
        obtain rfl := Option.some.inj H
        go_enter Try.func61, Try.ntmps61
        go_wp2
        go_ret
        exact ⟨by first | rfl | (simp; done) | (simp [*]; done), by repeat (first | exact Drawn0.refl _ | apply Drawn0.step)⟩

end Go.Proofs.Ytlpamhffpgoebaa.All

-- WRITTEN BY this session's own drv.py over the kit's print. Not trusted: Lean checks it.
namespace Go.Proofs.Ytlpamhffpgoebaa.All
open Go.RowKit Go.Proofs.YtlpamhffpgoebaaW.PrintWords Go.Proofs.YtlpamhffpgoebaaW.PrintLast Go.Proofs.YtlpamhffpgoebaaW.PrintMore
attribute [local go_sem] max2_int min2_int max_two min_two max_three min_three max_four min_four   -- for this text's walks alone
set_option linter.unusedVariables false
set_option linter.unusedSimpArgs false

/-! ### turnstileref1_halves: function 51 -/
mutual
def turnstileref1_halves.j0 : Nat → ByteArray → List Int → Bool → Option (ByteArray × Int)
  | 0, _, _, _ => none
  | k + 1, x1, x6, x18 => if x18 = true then (if x6.length < 17592186044416 then (turnstileref1_halves.j1 k x1 (x6 ++ [0])) else (none)) else (turnstileref1_halves.j1 k x1 x6)
def turnstileref1_halves.j1 : Nat → ByteArray → List Int → Option (ByteArray × Int)
  | 0, _, _ => none
  | k + 1, x1, x6 => turnstileref1_halves.l0 k x1 x6 0
def turnstileref1_halves.l0 : Nat → ByteArray → List Int → Int → Option (ByteArray × Int)
  | 0, _, _, _ => none
  | k + 1, x1, x6, x7 => if x7 < (x1.size : Int) then (if 0 ≤ x7 then ((turnstileref1_half.f (bt x1 x7)).bind fun t267 => (if t267 < 0 then (some ((⟨#[]⟩ : ByteArray), 11)) else (if x6.length < 17592186044416 then (turnstileref1_halves.l0 k x1 (x6 ++ [t267]) (wrap64 (x7 + 1))) else (none)))) else (none)) else (if ((x6.length : Int) % 2) = 1 then (if x6.length < 17592186044416 then (turnstileref1_halves.j3 k (x6 ++ [15])) else (none)) else (turnstileref1_halves.j3 k x6))
def turnstileref1_halves.j3 : Nat → List Int → Option (ByteArray × Int)
  | 0, _ => none
  | k + 1, x6 => turnstileref1_halves.l1 k x6 ([] : List Int) 0
def turnstileref1_halves.l1 : Nat → List Int → List Int → Int → Option (ByteArray × Int)
  | 0, _, _, _ => none
  | k + 1, x6, x9, x10 => if x10 < (x6.length : Int) then (if 0 ≤ x10 then (if 0 ≤ (wrap64 (x10 + 1)) then (if (wrap64 (x10 + 1)) < (x6.length : Int) then (if x9.length < 140737488355328 then (turnstileref1_halves.l1 k x6 (x9 ++ [(wrap64 ((wrap64 (16 * (rd x6 x10))) + (rd x6 (wrap64 (x10 + 1))))) % 256]) (wrap64 (x10 + 2))) else (none)) else (none)) else (none)) else (none)) else (some (strOfNums x9, 0))
end
def turnstileref1_halves.f (k : Nat) (a0 : Int) (a1 : ByteArray) : Option (ByteArray × Int) := if a0 = 2 then (turnstileref1_halves.j0 k a1 ([] : List Int) (((a1.size : Int) % 2) == 1)) else (turnstileref1_halves.j0 k a1 ([] : List Int) false)
theorem turnstileref1_halves.mono_l : ∀ k, (∀ y0 y1 y2, LeO (turnstileref1_halves.j0 k y0 y1 y2) (turnstileref1_halves.j0 (k + 1) y0 y1 y2)) ∧ (∀ y0 y1, LeO (turnstileref1_halves.j1 k y0 y1) (turnstileref1_halves.j1 (k + 1) y0 y1)) ∧ (∀ y0 y1 y2, LeO (turnstileref1_halves.l0 k y0 y1 y2) (turnstileref1_halves.l0 (k + 1) y0 y1 y2)) ∧ (∀ y0, LeO (turnstileref1_halves.j3 k y0) (turnstileref1_halves.j3 (k + 1) y0)) ∧ (∀ y0 y1 y2, LeO (turnstileref1_halves.l1 k y0 y1 y2) (turnstileref1_halves.l1 (k + 1) y0 y1 y2))
  | 0 => ⟨fun _ _ _ r h => by simp [turnstileref1_halves.j0] at h, fun _ _ r h => by simp [turnstileref1_halves.j1] at h, fun _ _ _ r h => by simp [turnstileref1_halves.l0] at h, fun _ r h => by simp [turnstileref1_halves.j3] at h, fun _ _ _ r h => by simp [turnstileref1_halves.l1] at h⟩
  | k + 1 => by
    obtain ⟨ih0, ih1, ih2, ih3, ih4⟩ := turnstileref1_halves.mono_l k
    refine ⟨?_, ?_, ?_, ?_, ?_⟩
    · intro y0 y1 y2
      unfold turnstileref1_halves.j0
      repeat' first
      | (with_reducible exact ih0 _ _ _)
      | (with_reducible exact ih1 _ _)
      | (with_reducible exact ih2 _ _ _)
      | (with_reducible exact ih3 _)
      | (with_reducible exact ih4 _ _ _)
      | (with_reducible exact LeO.refl _)
      | (with_reducible exact LeO.none _)
      | (with_reducible refine LeO.ite ?_ ?_)
      | (with_reducible refine LeO.bind ?_ (fun _ => ?_))
      | exact ih0 _ _ _
      | exact ih1 _ _
      | exact ih2 _ _ _
      | exact ih3 _
      | exact ih4 _ _ _
      | exact LeO.none _
      | refine LeO.ite ?_ ?_
      | refine LeO.bind ?_ (fun _ => ?_)
    · intro y0 y1
      unfold turnstileref1_halves.j1
      repeat' first
      | (with_reducible exact ih0 _ _ _)
      | (with_reducible exact ih1 _ _)
      | (with_reducible exact ih2 _ _ _)
      | (with_reducible exact ih3 _)
      | (with_reducible exact ih4 _ _ _)
      | (with_reducible exact LeO.refl _)
      | (with_reducible exact LeO.none _)
      | (with_reducible refine LeO.ite ?_ ?_)
      | (with_reducible refine LeO.bind ?_ (fun _ => ?_))
      | exact ih0 _ _ _
      | exact ih1 _ _
      | exact ih2 _ _ _
      | exact ih3 _
      | exact ih4 _ _ _
      | exact LeO.none _
      | refine LeO.ite ?_ ?_
      | refine LeO.bind ?_ (fun _ => ?_)
    · intro y0 y1 y2
      unfold turnstileref1_halves.l0
      repeat' first
      | (with_reducible exact ih0 _ _ _)
      | (with_reducible exact ih1 _ _)
      | (with_reducible exact ih2 _ _ _)
      | (with_reducible exact ih3 _)
      | (with_reducible exact ih4 _ _ _)
      | (with_reducible exact LeO.refl _)
      | (with_reducible exact LeO.none _)
      | (with_reducible refine LeO.ite ?_ ?_)
      | (with_reducible refine LeO.bind ?_ (fun _ => ?_))
      | exact ih0 _ _ _
      | exact ih1 _ _
      | exact ih2 _ _ _
      | exact ih3 _
      | exact ih4 _ _ _
      | exact LeO.none _
      | refine LeO.ite ?_ ?_
      | refine LeO.bind ?_ (fun _ => ?_)
    · intro y0
      unfold turnstileref1_halves.j3
      repeat' first
      | (with_reducible exact ih0 _ _ _)
      | (with_reducible exact ih1 _ _)
      | (with_reducible exact ih2 _ _ _)
      | (with_reducible exact ih3 _)
      | (with_reducible exact ih4 _ _ _)
      | (with_reducible exact LeO.refl _)
      | (with_reducible exact LeO.none _)
      | (with_reducible refine LeO.ite ?_ ?_)
      | (with_reducible refine LeO.bind ?_ (fun _ => ?_))
      | exact ih0 _ _ _
      | exact ih1 _ _
      | exact ih2 _ _ _
      | exact ih3 _
      | exact ih4 _ _ _
      | exact LeO.none _
      | refine LeO.ite ?_ ?_
      | refine LeO.bind ?_ (fun _ => ?_)
    · intro y0 y1 y2
      unfold turnstileref1_halves.l1
      repeat' first
      | (with_reducible exact ih0 _ _ _)
      | (with_reducible exact ih1 _ _)
      | (with_reducible exact ih2 _ _ _)
      | (with_reducible exact ih3 _)
      | (with_reducible exact ih4 _ _ _)
      | (with_reducible exact LeO.refl _)
      | (with_reducible exact LeO.none _)
      | (with_reducible refine LeO.ite ?_ ?_)
      | (with_reducible refine LeO.bind ?_ (fun _ => ?_))
      | exact ih0 _ _ _
      | exact ih1 _ _
      | exact ih2 _ _ _
      | exact ih3 _
      | exact ih4 _ _ _
      | exact LeO.none _
      | refine LeO.ite ?_ ?_
      | refine LeO.bind ?_ (fun _ => ?_)
theorem turnstileref1_halves.mono : ∀ a0 a1 k, LeO (turnstileref1_halves.f k a0 a1) (turnstileref1_halves.f (k + 1) a0 a1) := by
  intro a0 a1 k
  obtain ⟨ih0, ih1, ih2, ih3, ih4⟩ := turnstileref1_halves.mono_l k
  unfold turnstileref1_halves.f
  repeat' first
      | (with_reducible exact ih0 _ _ _)
      | (with_reducible exact ih1 _ _)
      | (with_reducible exact ih2 _ _ _)
      | (with_reducible exact ih3 _)
      | (with_reducible exact ih4 _ _ _)
      | (with_reducible exact LeO.refl _)
      | (with_reducible exact LeO.none _)
      | (with_reducible refine LeO.ite ?_ ?_)
      | (with_reducible refine LeO.bind ?_ (fun _ => ?_))
      | exact ih0 _ _ _
      | exact ih1 _ _
      | exact ih2 _ _ _
      | exact ih3 _
      | exact ih4 _ _ _
      | exact LeO.none _
      | refine LeO.ite ?_ ?_
      | refine LeO.bind ?_ (fun _ => ?_)
def turnstileref1_halves.T17 : Bool × List (List Nat × List Nat) := (true, [([], []), ([], []), ([], []), ([1, 2], [1, 2]), ([3], [3]), ([4], [4]), ([], []), ([], []), ([7], [7]), ([6, 8], [6, 8]), ([9], [9]), ([5, 10], [5, 10]), ([11], [11]), ([12], [12]), ([0, 13], [0, 13]), ([14, 14, 0, 1, 2, 3, 4, 5, 6, 7, 8, 9, 10, 11, 12, 13, 14], [0, 14])])
def turnstileref1_halves.B17 : List Nat := [0, 0, 0, 6, 14, 30, 0, 0, 128, 448, 960, 2046, 4094, 8190, 16383, 32767]
theorem turnstileref1_halves.tab17 : rtab .any (opsOf Try.f51 17) = turnstileref1_halves.T17 := by kernel_rfl
theorem turnstileref1_halves.bits17 : waitsOk turnstileref1_halves.T17.2 turnstileref1_halves.B17 = true := by kernel_rfl
set_option maxHeartbeats 8000000 in
set_option maxRecDepth 100000 in
theorem turnstileref1_halves.calls (k : Nat) (a0 : Int) (a1 : ByteArray) (r1 : ByteArray) (r2 : Int) (w : World) (h : turnstileref1_halves.f k a0 a1 = some (r1, r2)) :
    Calls Try.prog 51 #[.int .i64 a0, .string a1] w fun e w' => e = .returned (.tuple #[.string r1, .int .i64 r2]) ∧ Below w.heap.size w w' := by
  have HB := Aside0.mk (Below.refl w.heap.size w)
  have H : (if a0 = 2 then (turnstileref1_halves.j0 k a1 ([] : List Int) (((a1.size : Int) % 2) == 1)) else (turnstileref1_halves.j0 k a1 ([] : List Int) false)) = some (r1, r2) := h
  clear h
  have HC3 := Aside0.mk H
  clear H
  go_enter Try.func51, Try.ntmps51
  go_upto_region 2 with (fail)
  go_cut [18] (fun v18 wc => ∃ (kq : Nat) (x18_2 : Bool), v18 = .bool x18_2 ∧ Aside0 (turnstileref1_halves.j0 kq a1 ([] : List Int) x18_2 = some (r1, r2)) ∧ Aside0 (kq ≤ k) ∧ Aside0 (Kd.R (Kd.int .i64) 3 wc w.heap.size (fun _ => True) (.slice none 0 0) ([] : List Int)) ∧ Aside0 (Below w.heap.size w wc))
  case first =>
    have H := HC3.out
    clear HC3
    by_cases c4 : a0 = 2
    · rw [if_pos c4] at H
      have c4b0 : (a0 == 2) = true := beq_iff_eq.mpr c4
      have c4b1 : (a0 != 2) = false := bne_eq_false_iff_eq.mpr c4
      clear c4
      (first | rw [c4b0] | (simp only [i64_w, i32_w]; rw [c4b0]) | skip)
      have H' := Aside0.mk H
      clear H
      go_wp2
      go_meet
      case rel => exact ⟨_, ((((a1.size : Int) % 2) == 1)), (by first | rfl | (simp; done) | (simp [*]; done)), H', ⟨by first | omega | exact Nat.le_refl _⟩, ⟨by first | exact Kd.R_nil _ _ _ _ _ | exact Kd.N_nil _ _ _ _ _ | exact Kd.V_nil _ _ _ _ _ | exact Kd.Q_nil _ _ _ _ _ | exact Kd.S_nil _ _ _ _ _⟩, ⟨by repeat (first | (with_reducible first | exact HB.out | apply below_alloc | apply pw_below_drewN | apply below_drew1) | exact HB.out)⟩⟩
    · rw [if_neg c4] at H
      have c4b0 : (a0 == 2) = false := beq_eq_false_iff_ne.mpr c4
      have c4b1 : (a0 != 2) = true := bne_iff_ne.mpr c4
      (first | rw [c4b0] | (simp only [i64_w, i32_w]; rw [c4b0]) | skip)
      have H' := Aside0.mk H
      clear H
      go_wp2
      go_meet
      case rel => exact ⟨_, (false), (by first | rfl | (simp; done) | (simp [*]; done)), H', ⟨by first | omega | exact Nat.le_refl _⟩, ⟨by first | exact Kd.R_nil _ _ _ _ _ | exact Kd.N_nil _ _ _ _ _ | exact Kd.V_nil _ _ _ _ _ | exact Kd.Q_nil _ _ _ _ _ | exact Kd.S_nil _ _ _ _ _⟩, ⟨by repeat (first | (with_reducible first | exact HB.out | apply below_alloc | apply pw_below_drewN | apply below_drew1) | exact HB.out)⟩⟩
  case rest =>
    clear HC3
    try clear p2
    try clear c4
    try clear c4b0
    try clear c4b1
    obtain ⟨kq, x18_2, rfl, HA, HJ2, HO_6, HB⟩ := hcut
    cases kq with
    | zero => exact absurd HA.out (by simp [turnstileref1_halves.j0])
    | succ kj2 =>
      have H := HA.out
      clear HA
      simp only [turnstileref1_halves.j0] at H
      have HC5 := Aside0.mk H
      clear H
      go_upto_if 18 with (fail)
      go_cut [6] (fun v6 wc => ∃ (kq : Nat) (x6_4 : List Int), Aside0 (turnstileref1_halves.j1 kq a1 x6_4 = some (r1, r2)) ∧ Aside0 (kq ≤ kj2) ∧ Aside0 (Kd.R (Kd.int .i64) 3 wc w.heap.size (fun _ => True) v6 x6_4) ∧ Aside0 (Below w.heap.size w wc))
      case first =>
        have H := HC5.out
        clear HC5
        by_cases c6 : x18_2 = true
        · subst c6
          have H1 : (if ([] : List Int).length < 17592186044416 then (turnstileref1_halves.j1 kj2 a1 (([] : List Int) ++ [0])) else (none)) = some (r1, r2) := by rw [if_pos rfl] at H; exact H
          clear H
          have H := H1
          clear H1
          by_cases c7 : ([] : List Int).length < 17592186044416
          · rw [if_pos c7] at H
            have LMc7 := Aside0.mk c7
            clear c7
            obtain ⟨y264, hy264⟩ : ∃ y_ : List Int, y_ = (([] : List Int) ++ [0]) := ⟨_, rfl⟩
            replace H : (turnstileref1_halves.j1 kj2 a1 y264) = some (r1, r2) := by first | (rw [hy264]; with_reducible exact H) | (have H2_ := (Option.bind_some _ _).symm.trans H; rw [hy264]; with_reducible exact H2_) | (have H2_ := (Option.bind_some _ _).symm.trans H; with_reducible exact H2_) | with_reducible exact H | (rw [hy264]; exact H) | exact H
            have Ny264 := Aside0.mk hy264
            clear hy264
            have H' := Aside0.mk H
            clear H
            go_wp2_with (first | ((with_reducible refine gate_builtin (b := .append) (xs := #[.tmp 19, .tmp 20]) rfl ?_); (try (refine gate_guard (by rfl) ?_; dsimp only)); at_builtin; refine Kd.R_append (Kd.int .i64) (w0 := w) w.heap.size rfl (.tmp 19) (.tmp 20) 32 3 (.int .i64 0) 8 rfl Try.underlying32 info3 rfl (by decide) (by omega) (.slice none 0 0) ([] : List Int) 0 [.int .i64 0] (fun _ => True) (fun _ => False) rfl rfl ?aP (fun _ hk => hk.elim) ?aF ?aO ?aB ?aS ?aL ?_; (case aP => exact rfl); (case aB => exact (by repeat (first | (with_reducible first | exact HB.out | apply below_alloc | apply pw_below_drewN | apply below_drew1) | exact HB.out))); (case aF => exact (fun _ _ => trivial)); (case aO => exact (by (with_reducible repeat (first | apply Kd.R_alloc | apply Kd.R_drewN | apply Kd.R_drew)); exact HO_6.out)); (case aS => exact (below_size (by repeat (first | (with_reducible first | exact HB.out | apply below_alloc | apply pw_below_drewN | apply below_drew1) | exact HB.out)))); (case aL => have := LMc7.out; omega); intro v265 w8 ho hb hg hat; rw [← Ny264.out] at ho; have n0_ := Aside0.mk (hb); have n1_ := Aside0.mk (ho); clear HB; clear HO_6; have HB := n0_; have HO266 := n1_; clear n0_ n1_; clear ho hb hg hat))
            go_meet
            case rel => exact ⟨_, (y264), H', ⟨by have := HJ2.out; first | omega | exact Nat.le_refl _⟩, ⟨by (with_reducible repeat (first | apply Kd.R_alloc | apply Kd.R_drewN | apply Kd.R_drew)); exact HO266.out⟩, ⟨by repeat (first | (with_reducible first | exact HB.out | apply below_alloc | apply pw_below_drewN | apply below_drew1) | exact HB.out)⟩⟩
          · rw [if_neg c7] at H
            exact absurd H (by simp)
        · replace c6 := Bool.eq_false_iff.mpr c6
          subst c6
          have H1 : (turnstileref1_halves.j1 kj2 a1 ([] : List Int)) = some (r1, r2) := by rw [if_neg (show ¬ (false = true) by decide)] at H; exact H
          clear H
          have H := H1
          clear H1
          have H' := Aside0.mk H
          clear H
          go_wp2
          go_meet
          case rel => exact ⟨_, (([] : List Int)), H', ⟨by have := HJ2.out; first | omega | exact Nat.le_refl _⟩, ⟨by (with_reducible repeat (first | apply Kd.R_alloc | apply Kd.R_drewN | apply Kd.R_drew)); exact HO_6.out⟩, ⟨by repeat (first | (with_reducible first | exact HB.out | apply below_alloc | apply pw_below_drewN | apply below_drew1) | exact HB.out)⟩⟩
      case rest =>
        clear HC5
        try clear p2
        try clear c4
        try clear c4b0
        try clear c4b1
        try clear c5
        try clear c6
        try clear c7
        try clear p2
        obtain ⟨kq, x6_4, HA, HJ4, HO_6, HB⟩ := hcut
        cases kq with
        | zero => exact absurd HA.out (by simp [turnstileref1_halves.j1])
        | succ kj4 =>
          have H := HA.out
          clear HA
          simp only [turnstileref1_halves.j1] at H
          have H' := Aside0.mk H
          clear H
          go_wp2
          go_loopg [6, 7] kj4 (fun kq v6 v7 w' => ∃ (x6_3 : List Int) (x7_3 : Int), v7 = .int .i64 x7_3 ∧ Aside0 (turnstileref1_halves.l0 kq a1 x6_3 x7_3 = some (r1, r2)) ∧ Aside0 (kq ≤ kj4) ∧ Aside0 (Kd.R (Kd.int .i64) 3 w' w.heap.size (fun _ => True) v6 x6_3) ∧ Aside0 (Below w.heap.size w w'))
          case atStart => exact ⟨(x6_4), (0), (by first | rfl | (simp; done) | (simp [*]; done)), H', ⟨Nat.le_refl _⟩, ⟨by (with_reducible repeat (first | apply Kd.R_alloc | apply Kd.R_drewN | apply Kd.R_drew)); exact HO_6.out⟩, ⟨by repeat (first | (with_reducible first | exact HB.out | apply below_alloc | apply pw_below_drewN | apply below_drew1) | exact HB.out)⟩⟩
          case round =>
            clear H'
            try clear p2
            try clear c4
            try clear c4b0
            try clear c4b1
            try clear c5
            try clear c6
            try clear c7
            try clear p2
            obtain ⟨x6_3, x7_3, rfl, HA, HK3, HO_6, HB⟩ := hrel
            cases gk with
            | zero => exact absurd HA.out (by simp [turnstileref1_halves.l0])
            | succ k3 =>
              have H := HA.out
              clear HA
              simp only [turnstileref1_halves.l0] at H
              by_cases c9 : x7_3 < (a1.size : Int)
              · rw [if_pos c9] at H
                have c9b0 : decide (x7_3 < (a1.size : Int)) = true := decide_eq_true c9
                clear c9
                by_cases c10 : 0 ≤ x7_3
                · rw [if_pos c10] at H
                  have c10b0 : decide (0 ≤ x7_3) = true := decide_eq_true c10
                  clear c10
                  replace H := Option.bind_eq_some_iff.mp H
                  obtain ⟨t267, A120, H⟩ := H
                  replace H : (if t267 < 0 then (some ((⟨#[]⟩ : ByteArray), 11)) else (if x6_3.length < 17592186044416 then (turnstileref1_halves.l0 k3 a1 (x6_3 ++ [t267]) (wrap64 (x7_3 + 1))) else (none))) = some (r1, r2) := H
                  have A12 := Aside0.mk A120
                  clear A120
                  by_cases c13 : t267 < 0
                  · rw [if_pos c13] at H
                    have c13b0 : decide (t267 < 0) = true := decide_eq_true c13
                    clear c13
                    simp only [Option.some.injEq, Prod.mk.injEq] at H
                    obtain ⟨rfl, rfl⟩ := H
                    have p11 : 0 ≤ (x7_3 : Int) := of_decide_eq_true (by first | (with_reducible assumption) | assumption)
                    have q11 : x7_3 < (a1.size : Int) := of_decide_eq_true (by first | (with_reducible assumption) | assumption)
                    have hx11 := bt_at a1 x7_3
                    replace p11 := eq_true p11
                    replace q11 := eq_true q11
                    go_wp2_with (first | ((with_reducible refine gate_callee (f := 61) rfl ?_); refine goesL_ (some 31) rfl rfl Try.func61 (by kernel_rfl) rfl #[.int .u8 (bt a1 x7_3)] rfl (by (try simp only [List.map_toArray, List.map_cons, List.map_nil]); first | done | rfl | (simp only [List.length_drop, List.length_take]; rfl)) ?_; (with_reducible refine (turnstileref1_half.calls (bt a1 x7_3) t267 _ A12.out).mono ?_); rintro e w' ⟨rfl, ⟨nd, rfl⟩⟩; refine ⟨_, rfl, ?_⟩))
                    go_ret2
                    exact ⟨by first | rfl | (simp [errW_none, errW_some] <;> rfl) | (simp [*, errW_none, errW_some] <;> rfl), by repeat (first | (with_reducible first | exact HB.out | apply below_alloc | apply pw_below_drewN | apply below_drew1) | exact HB.out)⟩
                  · rw [if_neg c13] at H
                    have c13b0 : decide (t267 < 0) = false := decide_eq_false c13
                    clear c13
                    by_cases c14 : x6_3.length < 17592186044416
                    · rw [if_pos c14] at H
                      have LMc14 := Aside0.mk c14
                      clear c14
                      obtain ⟨y268, hy268⟩ : ∃ y_ : List Int, y_ = (x6_3 ++ [t267]) := ⟨_, rfl⟩
                      replace H : (turnstileref1_halves.l0 k3 a1 y268 (wrap64 (x7_3 + 1))) = some (r1, r2) := by first | (rw [hy268]; with_reducible exact H) | (have H2_ := (Option.bind_some _ _).symm.trans H; rw [hy268]; with_reducible exact H2_) | (have H2_ := (Option.bind_some _ _).symm.trans H; with_reducible exact H2_) | with_reducible exact H | (rw [hy268]; exact H) | exact H
                      have Ny268 := Aside0.mk hy268
                      clear hy268
                      have H' := Aside0.mk H
                      clear H
                      have p11 : 0 ≤ (x7_3 : Int) := of_decide_eq_true (by first | (with_reducible assumption) | assumption)
                      have q11 : x7_3 < (a1.size : Int) := of_decide_eq_true (by first | (with_reducible assumption) | assumption)
                      have hx11 := bt_at a1 x7_3
                      replace p11 := eq_true p11
                      replace q11 := eq_true q11
                      go_wp2_with (first | ((with_reducible refine gate_callee (f := 61) rfl ?_); refine goesL_ (some 31) rfl rfl Try.func61 (by kernel_rfl) rfl #[.int .u8 (bt a1 x7_3)] rfl (by (try simp only [List.map_toArray, List.map_cons, List.map_nil]); first | done | rfl | (simp only [List.length_drop, List.length_take]; rfl)) ?_; (with_reducible refine (turnstileref1_half.calls (bt a1 x7_3) t267 _ A12.out).mono ?_); rintro e w' ⟨rfl, ⟨nd, rfl⟩⟩; refine ⟨_, rfl, ?_⟩) | ((with_reducible refine gate_builtin (b := .append) (xs := #[.tmp 34, .tmp 36]) rfl ?_); (try (refine gate_guard (by rfl) ?_; dsimp only)); at_builtin; refine Kd.R_append (Kd.int .i64) (w0 := w) w.heap.size rfl (.tmp 34) (.tmp 36) 32 3 (.int .i64 0) 8 rfl Try.underlying32 info3 rfl (by decide) (by omega) u6 x6_3 t267 [.int .i64 t267] (fun _ => True) (fun _ => False) rfl rfl ?aP (fun _ hk => hk.elim) ?aF ?aO ?aB ?aS ?aL ?_; (case aP => exact rfl); (case aB => exact (by repeat (first | (with_reducible first | exact HB.out | apply below_alloc | apply pw_below_drewN | apply below_drew1) | exact HB.out))); (case aF => exact (fun _ _ => trivial)); (case aO => exact (by (with_reducible repeat (first | apply Kd.R_alloc | apply Kd.R_drewN | apply Kd.R_drew)); exact HO_6.out)); (case aS => exact (below_size (by repeat (first | (with_reducible first | exact HB.out | apply below_alloc | apply pw_below_drewN | apply below_drew1) | exact HB.out)))); (case aL => have := LMc14.out; omega); intro v269 w15 ho hb hg hat; rw [← Ny268.out] at ho; have n0_ := Aside0.mk (hb); have n1_ := Aside0.mk (ho); clear HB; clear HO_6; have HB := n0_; have HO270 := n1_; clear n0_ n1_; clear ho hb hg hat))
                      go_roundg k3
                      case measure => have := HJ2.out; have := HJ4.out; have := HK3.out; omega
                      case rel => exact ⟨(y268), (wrap64 (x7_3 + 1)), (by first | rfl | (simp; done) | (simp [*]; done)), H', ⟨by have := HJ2.out; have := HJ4.out; have := HK3.out; omega⟩, ⟨by (with_reducible repeat (first | apply Kd.R_alloc | apply Kd.R_drewN | apply Kd.R_drew)); exact HO270.out⟩, ⟨by repeat (first | (with_reducible first | exact HB.out | apply below_alloc | apply pw_below_drewN | apply below_drew1) | exact HB.out)⟩⟩
                    · rw [if_neg c14] at H
                      exact absurd H (by simp)
                · rw [if_neg c10] at H
                  exact absurd H (by simp)
              · rw [if_neg c9] at H
                have c9b0 : decide (x7_3 < (a1.size : Int)) = false := decide_eq_false c9
                clear c9
                have HC16 := Aside0.mk H
                clear H
                obtain ⟨Ao17, co17, eo17⟩ := Kd.R_slice HO_6.out
                subst eo17
                go_upto_if 41 with (fail)
                go_cut [6] (fun v6 wc => ∃ (kq : Nat) (x6_15 : List Int), Aside0 (turnstileref1_halves.j3 kq x6_15 = some (r1, r2)) ∧ Aside0 (kq ≤ k3) ∧ Aside0 (Kd.R (Kd.int .i64) 3 wc w.heap.size (fun _ => True) v6 x6_15) ∧ Aside0 (Below w.heap.size w wc))
                case first =>
                  have H := HC16.out
                  clear HC16
                  by_cases c18 : ((x6_3.length : Int) % 2) = 1
                  · rw [if_pos c18] at H
                    have c18b0 : (((x6_3.length : Int) % 2) == 1) = true := beq_iff_eq.mpr c18
                    have c18b1 : (((x6_3.length : Int) % 2) != 1) = false := bne_eq_false_iff_eq.mpr c18
                    clear c18
                    (first | rw [c18b0] | (simp only [i64_w, i32_w]; rw [c18b0]) | skip)
                    by_cases c19 : x6_3.length < 17592186044416
                    · rw [if_pos c19] at H
                      have LMc19 := Aside0.mk c19
                      clear c19
                      obtain ⟨y271, hy271⟩ : ∃ y_ : List Int, y_ = (x6_3 ++ [15]) := ⟨_, rfl⟩
                      replace H : (turnstileref1_halves.j3 k3 y271) = some (r1, r2) := by first | (rw [hy271]; with_reducible exact H) | (have H2_ := (Option.bind_some _ _).symm.trans H; rw [hy271]; with_reducible exact H2_) | (have H2_ := (Option.bind_some _ _).symm.trans H; with_reducible exact H2_) | with_reducible exact H | (rw [hy271]; exact H) | exact H
                      have Ny271 := Aside0.mk hy271
                      clear hy271
                      have H' := Aside0.mk H
                      clear H
                      go_wp2_with (first | ((with_reducible refine gate_builtin (b := .append) (xs := #[.tmp 42, .tmp 43]) rfl ?_); (try (refine gate_guard (by rfl) ?_; dsimp only)); at_builtin; refine Kd.R_append (Kd.int .i64) (w0 := w) w.heap.size rfl (.tmp 42) (.tmp 43) 32 3 (.int .i64 0) 8 rfl Try.underlying32 info3 rfl (by decide) (by omega) (.slice Ao17 x6_3.length co17) x6_3 15 [.int .i64 15] (fun _ => True) (fun _ => False) rfl rfl ?aP (fun _ hk => hk.elim) ?aF ?aO ?aB ?aS ?aL ?_; (case aP => exact rfl); (case aB => exact (by repeat (first | (with_reducible first | exact HB.out | apply below_alloc | apply pw_below_drewN | apply below_drew1) | exact HB.out))); (case aF => exact (fun _ _ => trivial)); (case aO => exact (by (with_reducible repeat (first | apply Kd.R_alloc | apply Kd.R_drewN | apply Kd.R_drew)); exact HO_6.out)); (case aS => exact (below_size (by repeat (first | (with_reducible first | exact HB.out | apply below_alloc | apply pw_below_drewN | apply below_drew1) | exact HB.out)))); (case aL => have := LMc19.out; omega); intro v272 w20 ho hb hg hat; rw [← Ny271.out] at ho; have n0_ := Aside0.mk (hb); have n1_ := Aside0.mk (ho); clear HB; clear HO_6; have HB := n0_; have HO273 := n1_; clear n0_ n1_; clear ho hb hg hat))
                      go_meet
                      case rel => exact ⟨_, (y271), H', ⟨by have := HJ2.out; have := HJ4.out; have := HK3.out; first | omega | exact Nat.le_refl _⟩, ⟨by (with_reducible repeat (first | apply Kd.R_alloc | apply Kd.R_drewN | apply Kd.R_drew)); exact HO273.out⟩, ⟨by repeat (first | (with_reducible first | exact HB.out | apply below_alloc | apply pw_below_drewN | apply below_drew1) | exact HB.out)⟩⟩
                    · rw [if_neg c19] at H
                      exact absurd H (by simp)
                  · rw [if_neg c18] at H
                    have c18b0 : (((x6_3.length : Int) % 2) == 1) = false := beq_eq_false_iff_ne.mpr c18
                    have c18b1 : (((x6_3.length : Int) % 2) != 1) = true := bne_iff_ne.mpr c18
                    (first | rw [c18b0] | (simp only [i64_w, i32_w]; rw [c18b0]) | skip)
                    have H' := Aside0.mk H
                    clear H
                    go_wp2
                    go_meet
                    case rel => exact ⟨_, (x6_3), H', ⟨by have := HJ2.out; have := HJ4.out; have := HK3.out; first | omega | exact Nat.le_refl _⟩, ⟨by (with_reducible repeat (first | apply Kd.R_alloc | apply Kd.R_drewN | apply Kd.R_drew)); exact HO_6.out⟩, ⟨by repeat (first | (with_reducible first | exact HB.out | apply below_alloc | apply pw_below_drewN | apply below_drew1) | exact HB.out)⟩⟩
                case rest =>
                  clear HC16
                  try clear c1
                  try clear p1
                  try clear q1
                  try clear hx1
                  try clear p2
                  try clear c4
                  try clear c4b0
                  try clear c4b1
                  try clear c5
                  try clear c6
                  try clear p6
                  try clear c7
                  try clear c9
                  try clear c9b0
                  try clear c10
                  try clear c10b0
                  try clear p11
                  try clear q11
                  try clear hx11
                  try clear c13
                  try clear c13b0
                  try clear c14
                  try clear c18
                  try clear c18b0
                  try clear c18b1
                  try clear c19
                  try clear p11
                  try clear p2
                  try clear q11
                  obtain ⟨kq, x6_15, HA, HJ15, HO_6, HB⟩ := hcut
                  cases kq with
                  | zero => exact absurd HA.out (by simp [turnstileref1_halves.j3])
                  | succ kj15 =>
                    have H := HA.out
                    clear HA
                    simp only [turnstileref1_halves.j3] at H
                    have H' := Aside0.mk H
                    clear H
                    go_wp2
                    go_loopg [9, 10] kj15 (fun kq v9 v10 w' => ∃ (x9_5 : List Int) (x10_5 : Int), v10 = .int .i64 x10_5 ∧ Aside0 (turnstileref1_halves.l1 kq x6_15 x9_5 x10_5 = some (r1, r2)) ∧ Aside0 (kq ≤ kj15) ∧ Aside0 (Kd.R (Kd.int .i64) 3 w' w.heap.size (fun _ => True) u6 x6_15) ∧ Aside0 (Kd.R (Kd.int .u8) 5 w' w.heap.size (fun _ => True) v9 x9_5) ∧ Aside0 (Below w.heap.size w w'))
                    case atStart => exact ⟨(([] : List Int)), (0), (by first | rfl | (simp; done) | (simp [*]; done)), H', ⟨Nat.le_refl _⟩, ⟨by (with_reducible repeat (first | apply Kd.R_alloc | apply Kd.R_drewN | apply Kd.R_drew)); exact HO_6.out⟩, ⟨by first | exact Kd.R_nil _ _ _ _ _ | exact Kd.N_nil _ _ _ _ _ | exact Kd.V_nil _ _ _ _ _ | exact Kd.Q_nil _ _ _ _ _ | exact Kd.S_nil _ _ _ _ _⟩, ⟨by repeat (first | (with_reducible first | exact HB.out | apply below_alloc | apply pw_below_drewN | apply below_drew1) | exact HB.out)⟩⟩
                    case round =>
                      clear H'
                      try clear c1
                      try clear p1
                      try clear q1
                      try clear hx1
                      try clear p2
                      try clear c4
                      try clear c4b0
                      try clear c4b1
                      try clear c5
                      try clear c6
                      try clear p6
                      try clear c7
                      try clear c9
                      try clear c9b0
                      try clear c10
                      try clear c10b0
                      try clear p11
                      try clear q11
                      try clear hx11
                      try clear c13
                      try clear c13b0
                      try clear c14
                      try clear c18
                      try clear c18b0
                      try clear c18b1
                      try clear c19
                      try clear p1
                      try clear p11
                      try clear p2
                      try clear p6
                      try clear q1
                      try clear q11
                      obtain ⟨x9_5, x10_5, rfl, HA, HK5, HO_6, HO_9, HB⟩ := hrel
                      cases gk with
                      | zero => exact absurd HA.out (by simp [turnstileref1_halves.l1])
                      | succ k5 =>
                        have H := HA.out
                        clear HA
                        simp only [turnstileref1_halves.l1] at H
                        by_cases c21 : x10_5 < (x6_15.length : Int)
                        · rw [if_pos c21] at H
                          have c21b0 : decide (x10_5 < (x6_15.length : Int)) = true := decide_eq_true c21
                          clear c21
                          by_cases c22 : 0 ≤ x10_5
                          · rw [if_pos c22] at H
                            have c22b0 : decide (0 ≤ x10_5) = true := decide_eq_true c22
                            clear c22
                            obtain ⟨ji23, hji23⟩ : ∃ j_ : Int, (wrap64 (x10_5 + 1)) = j_ := ⟨_, rfl⟩
                            replace H : (if 0 ≤ (ji23) then (if (ji23) < (x6_15.length : Int) then (if x9_5.length < 140737488355328 then (turnstileref1_halves.l1 k5 x6_15 (x9_5 ++ [(wrap64 ((wrap64 (16 * (rd x6_15 x10_5))) + (rd x6_15 (ji23)))) % 256]) (wrap64 (x10_5 + 2))) else (none)) else (none)) else (none)) = some (r1, r2) := by first | (rw [hji23] at H; exact H) | (simp only [hji23] at H ⊢; exact H)
                            have hji23w : (IntKind.i64.wrap (x10_5 + 1)) = ji23 := (i64_w _).trans hji23
                            by_cases c24 : 0 ≤ (ji23)
                            · rw [if_pos c24] at H
                              have c24b0 : decide (0 ≤ (ji23)) = true := decide_eq_true c24
                              clear c24
                              by_cases c25 : (ji23) < (x6_15.length : Int)
                              · rw [if_pos c25] at H
                                have c25b0 : decide ((ji23) < (x6_15.length : Int)) = true := decide_eq_true c25
                                clear c25
                                by_cases c26 : x9_5.length < 140737488355328
                                · rw [if_pos c26] at H
                                  have LMc26 := Aside0.mk c26
                                  clear c26
                                  obtain ⟨y276, hy276⟩ : ∃ y_ : List Int, y_ = (x9_5 ++ [(wrap64 ((wrap64 (16 * (rd x6_15 x10_5))) + (rd x6_15 (ji23)))) % 256]) := ⟨_, rfl⟩
                                  replace H : (turnstileref1_halves.l1 k5 x6_15 y276 (wrap64 (x10_5 + 2))) = some (r1, r2) := by first | (rw [hy276]; with_reducible exact H) | (have H2_ := (Option.bind_some _ _).symm.trans H; rw [hy276]; with_reducible exact H2_) | (have H2_ := (Option.bind_some _ _).symm.trans H; with_reducible exact H2_) | with_reducible exact H | (rw [hy276]; exact H) | exact H
                                  have Ny276 := Aside0.mk hy276
                                  clear hy276
                                  have H' := Aside0.mk H
                                  clear H
                                  obtain ⟨Ao27, co27, eo27⟩ := Kd.R_slice HO_6.out
                                  subst eo27
                                  try go_wp2
                                  have n0_ := Aside0.mk (Kd.R_drew HO_6.out)
                                  have n1_ := Aside0.mk (Kd.R_drew HO_9.out)
                                  have n2_ := Aside0.mk (below_drew1 HB.out)
                                  clear HO_6
                                  clear HO_9
                                  clear HB
                                  have HO_6 := n0_
                                  have HO_9 := n1_
                                  have HB := n2_
                                  clear n0_ n1_ n2_
                                  have p274 : 0 ≤ (x10_5 : Int) := of_decide_eq_true (by first | (with_reducible assumption) | assumption)
                                  have q274 : x10_5 < (x6_15.length : Int) := of_decide_eq_true (by first | (with_reducible assumption) | assumption)
                                  obtain ⟨ad274, e274, hx274_0⟩ := Kd.at_int (Kd.R_reads' HO_6.out).2.2 x10_5 p274 q274
                                  cases e274
                                  replace p274 := eq_true p274
                                  replace q274 := eq_true q274
                                  have p275 : 0 ≤ ((ji23) : Int) := of_decide_eq_true (by first | (with_reducible assumption) | assumption)
                                  have q275 : (ji23) < (x6_15.length : Int) := of_decide_eq_true (by first | (with_reducible assumption) | assumption)
                                  obtain ⟨ad275, e275, hx275_0⟩ := Kd.at_int (Kd.R_reads' HO_6.out).2.2 (ji23) p275 q275
                                  obtain rfl : ad274 = ad275 := (by injection e275)
                                  replace p275 := eq_true p275
                                  replace q275 := eq_true q275
                                  refine start_ (n := 16) (S := fun w' => w'.cell? (ad274.add (x10_5).toNat) = some (.int .i64 (rd x6_15 x10_5)) ∧ w'.cell? (ad274.add ((ji23)).toNat) = some (.int .i64 (rd x6_15 (ji23)))) (ds := [13, 14]) #[false, false, false, false, false, false, false, false, false, false, false, false, false, false, false, false] (by kernel_rfl) rfl rfl ⟨hx274_0, hx275_0⟩ (fun hHeld => ?_); refine with_tabW turnstileref1_halves.tab17 turnstileref1_halves.bits17 (fun HT_ HW_ => ?_)
                                  generalize wr.drew = w28 at HO_6 HO_9 HB hx274_0 hx275_0 hHeld ⊢
                                  refine pure_ (i := 0) (N := some 51) (v := ?_) (a' := ?_) #[true, false, false, false, false, false, false, false, false, false, false, false, false, false, false, false] rfl rfl (any_of HT_.out (by kernel_rfl)) (fun _ _ _ h => h) (Or.inl ⟨by rfl, ?_⟩) ?_ ?_
                                  rotate_left
                                  · intro w'
                                    go_simp
                                    with_reducible rfl
                                  rotate_left
                                  · simp only [Act.put, List.setIfInBounds_toArray, List.set_cons_zero, List.set_cons_succ, i64_w, i32_w]
                                    rfl
                                  refine pure_ (i := 1) (N := some 52) (v := ?_) (a' := ?_) #[true, true, false, false, false, false, false, false, false, false, false, false, false, false, false, false] rfl rfl (any_of HT_.out (by kernel_rfl)) (fun _ _ _ h => h) (Or.inl ⟨by rfl, ?_⟩) ?_ ?_
                                  rotate_left
                                  · intro w'
                                    go_simp
                                    with_reducible rfl
                                  rotate_left
                                  · simp only [Act.put, List.setIfInBounds_toArray, List.set_cons_zero, List.set_cons_succ, i64_w, i32_w]
                                    rfl
                                  refine pure_ (i := 2) (N := some 53) (v := ?_) (a' := ?_) #[true, true, true, false, false, false, false, false, false, false, false, false, false, false, false, false] rfl rfl (any_of HT_.out (by kernel_rfl)) (fun _ _ _ h => h) (Or.inl ⟨by rfl, ?_⟩) ?_ ?_
                                  rotate_left
                                  · intro w'
                                    go_simp
                                    with_reducible rfl
                                  rotate_left
                                  · simp only [Act.put, List.setIfInBounds_toArray, List.set_cons_zero, List.set_cons_succ, i64_w, i32_w]
                                    rfl
                                  refine pure_ (i := 3) (N := some 54) (v := ?_) (a' := ?_) #[true, true, true, true, false, false, false, false, false, false, false, false, false, false, false, false] rfl rfl (any_of HT_.out (by kernel_rfl)) (fun _ _ _ h => h) (Or.inl ⟨by rfl, ?_⟩) ?_ ?_
                                  rotate_left
                                  · intro w'
                                    go_simp
                                    with_reducible rfl
                                  rotate_left
                                  · simp only [Act.put, List.setIfInBounds_toArray, List.set_cons_zero, List.set_cons_succ, i64_w, i32_w]
                                    rfl
                                  refine pure_ (i := 6) (N := some 57) (v := ?_) (a' := ?_) #[true, true, true, true, false, false, true, false, false, false, false, false, false, false, false, false] rfl rfl (any_of HT_.out (by kernel_rfl)) (fun _ _ _ h => h) (Or.inl ⟨by rfl, ?_⟩) ?_ ?_
                                  rotate_left
                                  · intro w'
                                    go_simp
                                    with_reducible rfl
                                  rotate_left
                                  · simp only [Act.put, List.setIfInBounds_toArray, List.set_cons_zero, List.set_cons_succ, i64_w, i32_w]
                                    rfl
                                  refine pure_ (i := 7) (N := some 58) (v := ?_) (a' := ?_) #[true, true, true, true, false, false, true, true, false, false, false, false, false, false, false, false] rfl rfl (any_of HT_.out (by kernel_rfl)) (fun _ _ _ h => h) (Or.inl ⟨by rfl, ?_⟩) ?_ ?_
                                  rotate_left
                                  · intro w'
                                    go_simp
                                    with_reducible rfl
                                  rotate_left
                                  · simp only [Act.put, List.setIfInBounds_toArray, List.set_cons_zero, List.set_cons_succ, i64_w, i32_w]
                                    rfl
                                  refine pure_ (i := 8) (N := some 59) (v := ?_) (a' := ?_) #[true, true, true, true, false, false, true, true, true, false, false, false, false, false, false, false] rfl rfl (any_of HT_.out (by kernel_rfl)) (fun _ _ _ h => h) (Or.inl ⟨by rfl, ?_⟩) ?_ ?_
                                  rotate_left
                                  · intro w'
                                    go_simp
                                    with_reducible rfl
                                  rotate_left
                                  · simp only [Act.put, List.setIfInBounds_toArray, List.set_cons_zero, List.set_cons_succ, i64_w, i32_w]
                                    rfl
                                  refine pure_ (i := 9) (N := some 60) (v := ?_) (a' := ?_) #[true, true, true, true, false, false, true, true, true, true, false, false, false, false, false, false] rfl rfl (any_of HT_.out (by kernel_rfl)) (fun _ _ _ h => h) (Or.inl ⟨by rfl, ?_⟩) ?_ ?_
                                  rotate_left
                                  · intro w'
                                    go_simp
                                    with_reducible rfl
                                  rotate_left
                                  · simp only [Act.put, List.setIfInBounds_toArray, List.set_cons_zero, List.set_cons_succ, i64_w, i32_w]
                                    rfl
                                  refine take_ (i := 4) (N := some 55) (v := ?_) (a' := ?_) #[true, true, true, true, true, false, true, true, true, true, false, false, false, false, false, false] rfl rfl (take_ofW HT_.out HW_.out (by kernel_rfl)) (fun _ _ _ h => h) (Or.inl ⟨by rfl, ?_⟩) hHeld ?_ ?_
                                  rotate_left
                                  · rintro w' ⟨s0, s1⟩
                                    go_simp
                                    with_reducible rfl
                                  rotate_left
                                  · simp only [Act.put, List.setIfInBounds_toArray, List.set_cons_zero, List.set_cons_succ, i64_w, i32_w]
                                    rfl
                                  refine pure_ (i := 5) (N := some 56) (v := ?_) (a' := ?_) #[true, true, true, true, true, true, true, true, true, true, false, false, false, false, false, false] rfl rfl (any_of HT_.out (by kernel_rfl)) (fun _ _ _ h => h) (Or.inl ⟨by rfl, ?_⟩) ?_ ?_
                                  rotate_left
                                  · intro w'
                                    go_simp
                                    with_reducible rfl
                                  rotate_left
                                  · simp only [Act.put, List.setIfInBounds_toArray, List.set_cons_zero, List.set_cons_succ, i64_w, i32_w]
                                    rfl
                                  refine take_ (i := 10) (N := some 61) (v := ?_) (a' := ?_) #[true, true, true, true, true, true, true, true, true, true, true, false, false, false, false, false] rfl rfl (take_ofW HT_.out HW_.out (by kernel_rfl)) (fun _ _ _ h => h) (Or.inl ⟨by rfl, ?_⟩) hHeld ?_ ?_
                                  rotate_left
                                  · rintro w' ⟨s0, s1⟩
                                    go_simp
                                    with_reducible rfl
                                  rotate_left
                                  · simp only [Act.put, List.setIfInBounds_toArray, List.set_cons_zero, List.set_cons_succ, i64_w, i32_w]
                                    rfl
                                  refine pure_ (i := 11) (N := some 62) (v := ?_) (a' := ?_) #[true, true, true, true, true, true, true, true, true, true, true, true, false, false, false, false] rfl rfl (any_of HT_.out (by kernel_rfl)) (fun _ _ _ h => h) (Or.inl ⟨by rfl, ?_⟩) ?_ ?_
                                  rotate_left
                                  · intro w'
                                    go_simp
                                    with_reducible rfl
                                  rotate_left
                                  · simp only [Act.put, List.setIfInBounds_toArray, List.set_cons_zero, List.set_cons_succ, i64_w, i32_w]
                                    rfl
                                  refine pure_ (i := 12) (N := some 63) (v := ?_) (a' := ?_) #[true, true, true, true, true, true, true, true, true, true, true, true, true, false, false, false] rfl rfl (any_of HT_.out (by kernel_rfl)) (fun _ _ _ h => h) (Or.inl ⟨by rfl, ?_⟩) ?_ ?_
                                  rotate_left
                                  · intro w'
                                    go_simp
                                    with_reducible rfl
                                  rotate_left
                                  · simp only [Act.put, List.setIfInBounds_toArray, List.set_cons_zero, List.set_cons_succ, i64_w, i32_w]
                                    rfl
                                  refine last_ (i := 13) (N := some 64) #[true, true, true, true, true, true, true, true, true, true, true, true, true, true, false, false] rfl rfl (one_of HT_.out (by kernel_rfl)) (by decide) (fun K hK => ?_)
                                  refine value_ (w1 := ?_) (v := ?_) (by rfl) rfl ?_ ?_
                                  rotate_left 2
                                  · go_simp
                                    constructor
                                    · rfl
                                    · rfl
                                  refine hK.out _ _ ?_
                                  clear hK K
                                  refine norm_ (a' := ?_) ?_ ?_
                                  rotate_left
                                  · show Act.put _ (some 64) _ = _
                                    simp only [Act.put, List.setIfInBounds_toArray, List.set_cons_zero, List.set_cons_succ, i64_w, i32_w]
                                    rfl
                                  refine last_ (i := 14) (N := some 65) #[true, true, true, true, true, true, true, true, true, true, true, true, true, true, true, false] rfl rfl (one_of HT_.out (by kernel_rfl)) (by decide) (fun K hK => ?_)
                                  refine Kd.R_append_step (Kd.int .u8) (w0 := w) w.heap.size (by rfl) (.tmp 51) (.tmp 64) 51 5 (.int .u8 0) 1 rfl Try.underlying51 info5 rfl (by decide) (by omega) u9 x9_5 ((wrap64 ((wrap64 (16 * (rd x6_15 x10_5))) + (rd x6_15 (ji23)))) % 256) [.int .u8 ((wrap64 ((wrap64 (16 * (rd x6_15 x10_5))) + (rd x6_15 (ji23)))) % 256)] (fun _ => True) (fun _ => False) rfl rfl ?aP (fun _ hk => hk.elim) ?aF ?aO ?aB ?aS ?aL ?_
                                  (case aP => exact rfl)
                                  (case aB => exact (by repeat (first | (with_reducible first | exact HB.out | apply below_alloc | apply pw_below_drewN | apply below_drew1) | exact HB.out)))
                                  (case aF => exact (fun _ _ => trivial))
                                  (case aO => exact (by (with_reducible repeat (first | apply Kd.R_alloc | apply Kd.R_drewN | apply Kd.R_drew)); exact HO_9.out))
                                  (case aS => exact (below_size (by repeat (first | (with_reducible first | exact HB.out | apply below_alloc | apply pw_below_drewN | apply below_drew1) | exact HB.out))))
                                  (case aL => have := LMc26.out; omega)
                                  intro v277 w29 ho hb hg hat
                                  rw [← Ny276.out] at ho
                                  have n0_ := Aside0.mk (Kd.R_over' (by (with_reducible repeat (first | apply Kd.R_alloc | apply Kd.R_drewN | apply Kd.R_drew)); exact HO_6.out) (Kd.R_typed (by (with_reducible repeat (first | apply Kd.R_alloc | apply Kd.R_drewN | apply Kd.R_drew)); exact HO_9.out)) (by decide) hg)
                                  have n1_ := Aside0.mk (hb)
                                  have n2_ := Aside0.mk (ho)
                                  clear HO_6
                                  clear HB
                                  clear HO_9
                                  have HO_6 := n0_
                                  have HB := n1_
                                  have HO278 := n2_
                                  clear n0_ n1_ n2_
                                  clear ho hb hg hat
                                  refine hK.out _ _ ?_
                                  clear hK K
                                  refine norm_ (a' := ?_) ?_ ?_
                                  rotate_left
                                  · show Act.put _ (some 65) _ = _
                                    simp only [Act.put, List.setIfInBounds_toArray, List.set_cons_zero, List.set_cons_succ, i64_w, i32_w]
                                    rfl
                                  refine pure_ (i := 15) (N := some 9) (v := ?_) (a' := ?_) #[true, true, true, true, true, true, true, true, true, true, true, true, true, true, true, true] rfl rfl (any_of HT_.out (by kernel_rfl)) (fun _ _ _ h => h) (Or.inl ⟨by rfl, ?_⟩) ?_ ?_
                                  rotate_left
                                  · intro w'
                                    go_simp
                                    with_reducible rfl
                                  rotate_left
                                  · simp only [Act.put, List.setIfInBounds_toArray, List.set_cons_zero, List.set_cons_succ, i64_w, i32_w]
                                    rfl
                                  refine done_ (done_of HT_.out (by kernel_rfl)) ?_
                                  try go_wp2
                                  go_roundg k5
                                  case measure => have := HJ2.out; have := HJ4.out; have := HK3.out; have := HJ15.out; have := HK5.out; omega
                                  case rel => exact ⟨(y276), (wrap64 (x10_5 + 2)), (by first | rfl | (simp; done) | (simp [*]; done)), H', ⟨by have := HJ2.out; have := HJ4.out; have := HK3.out; have := HJ15.out; have := HK5.out; omega⟩, ⟨by (with_reducible repeat (first | apply Kd.R_alloc | apply Kd.R_drewN | apply Kd.R_drew)); exact HO_6.out⟩, ⟨by (with_reducible repeat (first | apply Kd.R_alloc | apply Kd.R_drewN | apply Kd.R_drew)); exact HO278.out⟩, ⟨by repeat (first | (with_reducible first | exact HB.out | apply below_alloc | apply pw_below_drewN | apply below_drew1) | exact HB.out)⟩⟩
                                · rw [if_neg c26] at H
                                  exact absurd H (by simp)
                              · rw [if_neg c25] at H
                                exact absurd H (by simp)
                            · rw [if_neg c24] at H
                              exact absurd H (by simp)
                          · rw [if_neg c22] at H
                            exact absurd H (by simp)
                        · rw [if_neg c21] at H
                          have c21b0 : decide (x10_5 < (x6_15.length : Int)) = false := decide_eq_false c21
                          clear c21
                          simp only [Option.some.injEq, Prod.mk.injEq] at H
                          obtain ⟨rfl, rfl⟩ := H
                          obtain ⟨Ao30, co30, eo30⟩ := Kd.R_slice HO_6.out
                          subst eo30
                          have hcv31 := own_string (P := Try.prog) Try.underlying51 Try.underlying5 Try.underlying9 (Kd.own_of_R HO_9.out)
                          go_wp2
                          go_ret2
                          exact ⟨by first | rfl | (simp [errW_none, errW_some] <;> rfl) | (simp [*, errW_none, errW_some] <;> rfl), by repeat (first | (with_reducible first | exact HB.out | apply below_alloc | apply pw_below_drewN | apply below_drew1) | exact HB.out)⟩

end Go.Proofs.Ytlpamhffpgoebaa.All

-- WRITTEN BY this session's own drv.py over the kit's print. Not trusted: Lean checks it.
namespace Go.Proofs.Ytlpamhffpgoebaa.All
open Go.RowKit Go.Proofs.YtlpamhffpgoebaaW.PrintWords Go.Proofs.YtlpamhffpgoebaaW.PrintLast Go.Proofs.YtlpamhffpgoebaaW.PrintMore
attribute [local go_sem] max2_int min2_int max_two min_two max_three min_three max_four min_four   -- for this text's walks alone
set_option linter.unusedVariables false
set_option linter.unusedSimpArgs false

/-! ### turnstileref1_Pack: function 33 -/
def turnstileref1_Pack.l0 : Nat → Int → ByteArray → List Int → Int → Option (ByteArray × Int)
  | 0, _, _, _, _ => none
  | k + 1, x0, x1, x8, x9 => if x9 < (x1.size : Int) then (if 0 ≤ x9 then ((turnstileref1_Code.f k x0 (bt x1 x9)).bind fun bt286 => (if bt286.2 = true then (if x8.length < 140737488355328 then (turnstileref1_Pack.l0 k x0 x1 (x8 ++ [bt286.1]) (wrap64 (x9 + 1))) else (none)) else (some ((⟨#[]⟩ : ByteArray), 11)))) else (none)) else (some (strOfNums x8, 0))
def turnstileref1_Pack.f (k : Nat) (a0 : Int) (a1 : ByteArray) : Option (ByteArray × Int) := (turnstileref1_known.f a0).bind fun t282 => (if t282 = true then ((turnstileref1_Packed.f a0).bind fun t283 => (if t283 = true then ((turnstileref1_halves.f k a0 a1).bind fun bt284 => (some (bt284.1, bt284.2))) else (turnstileref1_Pack.l0 k a0 a1 ([] : List Int) 0))) else (some ((⟨#[]⟩ : ByteArray), 1)))
theorem turnstileref1_Pack.mono_l : ∀ k, (∀ y0 y1 y2 y3, LeO (turnstileref1_Pack.l0 k y0 y1 y2 y3) (turnstileref1_Pack.l0 (k + 1) y0 y1 y2 y3))
  | 0 => fun _ _ _ _ r h => by simp [turnstileref1_Pack.l0] at h
  | k + 1 => by
    have ih0 := turnstileref1_Pack.mono_l k
    · intro y0 y1 y2 y3
      unfold turnstileref1_Pack.l0
      repeat' first
      | (with_reducible exact ih0 _ _ _ _)
      | (with_reducible exact turnstileref1_Code.mono _ _ _)
      | (with_reducible exact turnstileref1_halves.mono _ _ _)
      | (with_reducible exact LeO.refl _)
      | (with_reducible exact LeO.none _)
      | (with_reducible refine LeO.ite ?_ ?_)
      | (with_reducible refine LeO.bind ?_ (fun _ => ?_))
      | exact ih0 _ _ _ _
      | exact turnstileref1_Code.mono _ _ _
      | exact turnstileref1_halves.mono _ _ _
      | exact LeO.none _
      | refine LeO.ite ?_ ?_
      | refine LeO.bind ?_ (fun _ => ?_)
theorem turnstileref1_Pack.mono : ∀ a0 a1 k, LeO (turnstileref1_Pack.f k a0 a1) (turnstileref1_Pack.f (k + 1) a0 a1) := by
  intro a0 a1 k
  have ih0 := turnstileref1_Pack.mono_l k
  unfold turnstileref1_Pack.f
  repeat' first
      | (with_reducible exact ih0 _ _ _ _)
      | (with_reducible exact turnstileref1_Code.mono _ _ _)
      | (with_reducible exact turnstileref1_halves.mono _ _ _)
      | (with_reducible exact LeO.refl _)
      | (with_reducible exact LeO.none _)
      | (with_reducible refine LeO.ite ?_ ?_)
      | (with_reducible refine LeO.bind ?_ (fun _ => ?_))
      | exact ih0 _ _ _ _
      | exact turnstileref1_Code.mono _ _ _
      | exact turnstileref1_halves.mono _ _ _
      | exact LeO.none _
      | refine LeO.ite ?_ ?_
      | refine LeO.bind ?_ (fun _ => ?_)
set_option maxHeartbeats 8000000 in
set_option maxRecDepth 100000 in
theorem turnstileref1_Pack.calls (k : Nat) (a0 : Int) (a1 : ByteArray) (r1 : ByteArray) (r2 : Int) (w : World) (h : turnstileref1_Pack.f k a0 a1 = some (r1, r2)) :
    Calls Try.prog 33 #[.int .i64 a0, .string a1] w fun e w' => e = .returned (.tuple #[.string r1, .int .i64 r2]) ∧ Below w.heap.size w w' := by
  have HB := Aside0.mk (Below.refl w.heap.size w)
  have H : ((turnstileref1_known.f a0).bind fun t282 => (if t282 = true then ((turnstileref1_Packed.f a0).bind fun t283 => (if t283 = true then ((turnstileref1_halves.f k a0 a1).bind fun bt284 => (some (bt284.1, bt284.2))) else (turnstileref1_Pack.l0 k a0 a1 ([] : List Int) 0))) else (some ((⟨#[]⟩ : ByteArray), 1)))) = some (r1, r2) := h
  clear h
  replace H := Option.bind_eq_some_iff.mp H
  obtain ⟨t282, A30, H⟩ := H
  replace H : (if t282 = true then ((turnstileref1_Packed.f a0).bind fun t283 => (if t283 = true then ((turnstileref1_halves.f k a0 a1).bind fun bt284 => (some (bt284.1, bt284.2))) else (turnstileref1_Pack.l0 k a0 a1 ([] : List Int) 0))) else (some ((⟨#[]⟩ : ByteArray), 1))) = some (r1, r2) := H
  have A3 := Aside0.mk A30
  clear A30
  by_cases c4 : t282 = true
  · subst c4
    have H1 : ((turnstileref1_Packed.f a0).bind fun t283 => (if t283 = true then ((turnstileref1_halves.f k a0 a1).bind fun bt284 => (some (bt284.1, bt284.2))) else (turnstileref1_Pack.l0 k a0 a1 ([] : List Int) 0))) = some (r1, r2) := by rw [if_pos rfl] at H; exact H
    clear H
    have H := H1
    clear H1
    replace H := Option.bind_eq_some_iff.mp H
    obtain ⟨t283, A50, H⟩ := H
    replace H : (if t283 = true then ((turnstileref1_halves.f k a0 a1).bind fun bt284 => (some (bt284.1, bt284.2))) else (turnstileref1_Pack.l0 k a0 a1 ([] : List Int) 0)) = some (r1, r2) := H
    have A5 := Aside0.mk A50
    clear A50
    by_cases c6 : t283 = true
    · subst c6
      have H1 : ((turnstileref1_halves.f k a0 a1).bind fun bt284 => (some (bt284.1, bt284.2))) = some (r1, r2) := by rw [if_pos rfl] at H; exact H
      clear H
      have H := H1
      clear H1
      replace H := Option.bind_eq_some_iff.mp H
      obtain ⟨⟨t284, t285⟩, A70, H⟩ := H
      replace H : (some (t284, t285)) = some (r1, r2) := H
      have A7 := Aside0.mk A70
      clear A70
      simp only [Option.some.injEq, Prod.mk.injEq] at H
      obtain ⟨rfl, rfl⟩ := H
      go_enter Try.func33, Try.ntmps33
      go_wp2_with (first | ((with_reducible refine gate_callee (f := 40) rfl ?_); refine goesL_ (some 13) rfl rfl Try.func40 (by kernel_rfl) rfl #[.int .i64 a0] rfl (by (try simp only [List.map_toArray, List.map_cons, List.map_nil]); first | done | rfl | (simp only [List.length_drop, List.length_take]; rfl)) ?_; (with_reducible refine (turnstileref1_known.calls a0 true _ A3.out).mono ?_); rintro e w' ⟨rfl, ⟨nd, rfl⟩⟩; refine ⟨_, rfl, ?_⟩) | ((with_reducible refine gate_callee (f := 41) rfl ?_); refine goesL_ (some 17) rfl rfl Try.func41 (by kernel_rfl) rfl #[.int .i64 a0] rfl (by (try simp only [List.map_toArray, List.map_cons, List.map_nil]); first | done | rfl | (simp only [List.length_drop, List.length_take]; rfl)) ?_; (with_reducible refine (turnstileref1_Packed.calls a0 true _ A5.out).mono ?_); rintro e w' ⟨rfl, ⟨nd, rfl⟩⟩; refine ⟨_, rfl, ?_⟩) | ((with_reducible refine gate_callee (f := 51) rfl ?_); refine goesL_ (some 21) rfl rfl Try.func51 (by kernel_rfl) rfl #[.int .i64 a0, .string a1] rfl (by (try simp only [List.map_toArray, List.map_cons, List.map_nil]); first | done | rfl | (simp only [List.length_drop, List.length_take]; rfl)) ?_; (with_reducible refine (turnstileref1_halves.calls k a0 a1 t284 t285 _ A7.out).mono ?_); rintro e w8 ⟨rfl, hb⟩; refine ⟨_, rfl, ?_⟩; have n0_ := Aside0.mk (below_step (by repeat (first | (with_reducible first | exact HB.out | apply below_alloc | apply pw_below_drewN | apply below_drew1) | exact HB.out)) hb); clear HB; have HB := n0_; clear n0_; (try clear hb); (try clear hb2); (try clear hk); (try clear hi)))
      go_ret2
      exact ⟨by first | rfl | (simp [errW_none, errW_some] <;> rfl) | (simp [*, errW_none, errW_some] <;> rfl), by repeat (first | (with_reducible first | exact HB.out | apply below_alloc | apply pw_below_drewN | apply below_drew1) | exact HB.out)⟩
    · replace c6 := Bool.eq_false_iff.mpr c6
      subst c6
      have H1 : (turnstileref1_Pack.l0 k a0 a1 ([] : List Int) 0) = some (r1, r2) := by rw [if_neg (show ¬ (false = true) by decide)] at H; exact H
      clear H
      have H := H1
      clear H1
      have H' := Aside0.mk H
      clear H
      go_enter Try.func33, Try.ntmps33
      go_wp2_with (first | ((with_reducible refine gate_callee (f := 40) rfl ?_); refine goesL_ (some 13) rfl rfl Try.func40 (by kernel_rfl) rfl #[.int .i64 a0] rfl (by (try simp only [List.map_toArray, List.map_cons, List.map_nil]); first | done | rfl | (simp only [List.length_drop, List.length_take]; rfl)) ?_; (with_reducible refine (turnstileref1_known.calls a0 true _ A3.out).mono ?_); rintro e w' ⟨rfl, ⟨nd, rfl⟩⟩; refine ⟨_, rfl, ?_⟩) | ((with_reducible refine gate_callee (f := 41) rfl ?_); refine goesL_ (some 17) rfl rfl Try.func41 (by kernel_rfl) rfl #[.int .i64 a0] rfl (by (try simp only [List.map_toArray, List.map_cons, List.map_nil]); first | done | rfl | (simp only [List.length_drop, List.length_take]; rfl)) ?_; (with_reducible refine (turnstileref1_Packed.calls a0 false _ A5.out).mono ?_); rintro e w' ⟨rfl, ⟨nd, rfl⟩⟩; refine ⟨_, rfl, ?_⟩))
      go_loopg [8, 9] k (fun kq v8 v9 w' => ∃ (x8_1 : List Int) (x9_1 : Int), v9 = .int .i64 x9_1 ∧ Aside0 (turnstileref1_Pack.l0 kq a0 a1 x8_1 x9_1 = some (r1, r2)) ∧ Aside0 (kq ≤ k) ∧ Aside0 (Kd.R (Kd.int .u8) 5 w' w.heap.size (fun _ => True) v8 x8_1) ∧ Aside0 (Below w.heap.size w w'))
      case atStart => exact ⟨(([] : List Int)), (0), (by first | rfl | (simp; done) | (simp [*]; done)), H', ⟨Nat.le_refl _⟩, ⟨by first | exact Kd.R_nil _ _ _ _ _ | exact Kd.N_nil _ _ _ _ _ | exact Kd.V_nil _ _ _ _ _ | exact Kd.Q_nil _ _ _ _ _ | exact Kd.S_nil _ _ _ _ _⟩, ⟨by repeat (first | (with_reducible first | exact HB.out | apply below_alloc | apply pw_below_drewN | apply below_drew1) | exact HB.out)⟩⟩
      case round =>
        clear H'
        try clear p2
        try clear c3
        try clear c4
        try clear c5
        try clear c6
        obtain ⟨x8_1, x9_1, rfl, HA, HK1, HO_8, HB⟩ := hrel
        cases gk with
        | zero => exact absurd HA.out (by simp [turnstileref1_Pack.l0])
        | succ k1 =>
          have H := HA.out
          clear HA
          simp only [turnstileref1_Pack.l0] at H
          by_cases c9 : x9_1 < (a1.size : Int)
          · rw [if_pos c9] at H
            have c9b0 : decide (x9_1 < (a1.size : Int)) = true := decide_eq_true c9
            clear c9
            by_cases c10 : 0 ≤ x9_1
            · rw [if_pos c10] at H
              have c10b0 : decide (0 ≤ x9_1) = true := decide_eq_true c10
              clear c10
              replace H := Option.bind_eq_some_iff.mp H
              obtain ⟨⟨t286, t287⟩, A120, H⟩ := H
              replace H : (if t287 = true then (if x8_1.length < 140737488355328 then (turnstileref1_Pack.l0 k1 a0 a1 (x8_1 ++ [t286]) (wrap64 (x9_1 + 1))) else (none)) else (some ((⟨#[]⟩ : ByteArray), 11))) = some (r1, r2) := H
              have A12 := Aside0.mk A120
              clear A120
              by_cases c13 : t287 = true
              · subst c13
                have H1 : (if x8_1.length < 140737488355328 then (turnstileref1_Pack.l0 k1 a0 a1 (x8_1 ++ [t286]) (wrap64 (x9_1 + 1))) else (none)) = some (r1, r2) := by rw [if_pos rfl] at H; exact H
                clear H
                have H := H1
                clear H1
                by_cases c14 : x8_1.length < 140737488355328
                · rw [if_pos c14] at H
                  have LMc14 := Aside0.mk c14
                  clear c14
                  obtain ⟨y288, hy288⟩ : ∃ y_ : List Int, y_ = (x8_1 ++ [t286]) := ⟨_, rfl⟩
                  replace H : (turnstileref1_Pack.l0 k1 a0 a1 y288 (wrap64 (x9_1 + 1))) = some (r1, r2) := by first | (rw [hy288]; with_reducible exact H) | (have H2_ := (Option.bind_some _ _).symm.trans H; rw [hy288]; with_reducible exact H2_) | (have H2_ := (Option.bind_some _ _).symm.trans H; with_reducible exact H2_) | with_reducible exact H | (rw [hy288]; exact H) | exact H
                  have Ny288 := Aside0.mk hy288
                  clear hy288
                  have H' := Aside0.mk H
                  clear H
                  have p11 : 0 ≤ (x9_1 : Int) := of_decide_eq_true (by first | (with_reducible assumption) | assumption)
                  have q11 : x9_1 < (a1.size : Int) := of_decide_eq_true (by first | (with_reducible assumption) | assumption)
                  have hx11 := bt_at a1 x9_1
                  replace p11 := eq_true p11
                  replace q11 := eq_true q11
                  go_wp2_with (first | ((with_reducible refine gate_callee (f := 52) rfl ?_); refine goesL_ (some 35) rfl rfl Try.func52 (by kernel_rfl) rfl #[.int .i64 a0, .int .u8 (bt a1 x9_1)] rfl (by (try simp only [List.map_toArray, List.map_cons, List.map_nil]); first | done | rfl | (simp only [List.length_drop, List.length_take]; rfl)) ?_; (with_reducible refine (turnstileref1_Code.calls k1 a0 (bt a1 x9_1) t286 true _ A12.out).mono ?_); rintro e w' ⟨rfl, ⟨nd, rfl⟩⟩; refine ⟨_, rfl, ?_⟩) | ((with_reducible refine gate_builtin (b := .append) (xs := #[.tmp 40, .tmp 42]) rfl ?_); at_builtin; refine Kd.R_append (Kd.int .u8) (w0 := w) w.heap.size rfl (.tmp 40) (.tmp 42) 51 5 (.int .u8 0) 1 rfl Try.underlying51 info5 rfl (by decide) (by omega) u8 x8_1 t286 [.int .u8 t286] (fun _ => True) (fun _ => False) rfl rfl ?aP (fun _ hk => hk.elim) ?aF ?aO ?aB ?aS ?aL ?_; (case aP => exact rfl); (case aB => exact (by repeat (first | (with_reducible first | exact HB.out | apply below_alloc | apply pw_below_drewN | apply below_drew1) | exact HB.out))); (case aF => exact (fun _ _ => trivial)); (case aO => exact (by (with_reducible repeat (first | apply Kd.R_alloc | apply Kd.R_drewN | apply Kd.R_drew)); exact HO_8.out)); (case aS => exact (below_size (by repeat (first | (with_reducible first | exact HB.out | apply below_alloc | apply pw_below_drewN | apply below_drew1) | exact HB.out)))); (case aL => have := LMc14.out; omega); intro v289 w15 ho hb hg hat; rw [← Ny288.out] at ho; have n0_ := Aside0.mk (hb); have n1_ := Aside0.mk (ho); clear HB; clear HO_8; have HB := n0_; have HO290 := n1_; clear n0_ n1_; clear ho hb hg hat))
                  go_roundg k1
                  case measure => have := HK1.out; omega
                  case rel => exact ⟨(y288), (wrap64 (x9_1 + 1)), (by first | rfl | (simp; done) | (simp [*]; done)), H', ⟨by have := HK1.out; omega⟩, ⟨by (with_reducible repeat (first | apply Kd.R_alloc | apply Kd.R_drewN | apply Kd.R_drew)); exact HO290.out⟩, ⟨by repeat (first | (with_reducible first | exact HB.out | apply below_alloc | apply pw_below_drewN | apply below_drew1) | exact HB.out)⟩⟩
                · rw [if_neg c14] at H
                  exact absurd H (by simp)
              · replace c13 := Bool.eq_false_iff.mpr c13
                subst c13
                have H1 : (some ((⟨#[]⟩ : ByteArray), 11)) = some (r1, r2) := by rw [if_neg (show ¬ (false = true) by decide)] at H; exact H
                clear H
                have H := H1
                clear H1
                simp only [Option.some.injEq, Prod.mk.injEq] at H
                obtain ⟨rfl, rfl⟩ := H
                have p11 : 0 ≤ (x9_1 : Int) := of_decide_eq_true (by first | (with_reducible assumption) | assumption)
                have q11 : x9_1 < (a1.size : Int) := of_decide_eq_true (by first | (with_reducible assumption) | assumption)
                have hx11 := bt_at a1 x9_1
                replace p11 := eq_true p11
                replace q11 := eq_true q11
                go_wp2_with (first | ((with_reducible refine gate_callee (f := 52) rfl ?_); refine goesL_ (some 35) rfl rfl Try.func52 (by kernel_rfl) rfl #[.int .i64 a0, .int .u8 (bt a1 x9_1)] rfl (by (try simp only [List.map_toArray, List.map_cons, List.map_nil]); first | done | rfl | (simp only [List.length_drop, List.length_take]; rfl)) ?_; (with_reducible refine (turnstileref1_Code.calls k1 a0 (bt a1 x9_1) t286 false _ A12.out).mono ?_); rintro e w' ⟨rfl, ⟨nd, rfl⟩⟩; refine ⟨_, rfl, ?_⟩))
                go_ret2
                exact ⟨by first | rfl | (simp [errW_none, errW_some] <;> rfl) | (simp [*, errW_none, errW_some] <;> rfl), by repeat (first | (with_reducible first | exact HB.out | apply below_alloc | apply pw_below_drewN | apply below_drew1) | exact HB.out)⟩
            · rw [if_neg c10] at H
              exact absurd H (by simp)
          · rw [if_neg c9] at H
            have c9b0 : decide (x9_1 < (a1.size : Int)) = false := decide_eq_false c9
            clear c9
            simp only [Option.some.injEq, Prod.mk.injEq] at H
            obtain ⟨rfl, rfl⟩ := H
            have hcv16 := own_string (P := Try.prog) Try.underlying51 Try.underlying5 Try.underlying9 (Kd.own_of_R HO_8.out)
            go_wp2
            go_ret2
            exact ⟨by first | rfl | (simp [errW_none, errW_some] <;> rfl) | (simp [*, errW_none, errW_some] <;> rfl), by repeat (first | (with_reducible first | exact HB.out | apply below_alloc | apply pw_below_drewN | apply below_drew1) | exact HB.out)⟩
  · replace c4 := Bool.eq_false_iff.mpr c4
    subst c4
    have H1 : (some ((⟨#[]⟩ : ByteArray), 1)) = some (r1, r2) := by rw [if_neg (show ¬ (false = true) by decide)] at H; exact H
    clear H
    have H := H1
    clear H1
    simp only [Option.some.injEq, Prod.mk.injEq] at H
    obtain ⟨rfl, rfl⟩ := H
    go_enter Try.func33, Try.ntmps33
    go_wp2_with (first | ((with_reducible refine gate_callee (f := 40) rfl ?_); refine goesL_ (some 13) rfl rfl Try.func40 (by kernel_rfl) rfl #[.int .i64 a0] rfl (by (try simp only [List.map_toArray, List.map_cons, List.map_nil]); first | done | rfl | (simp only [List.length_drop, List.length_take]; rfl)) ?_; (with_reducible refine (turnstileref1_known.calls a0 false _ A3.out).mono ?_); rintro e w' ⟨rfl, ⟨nd, rfl⟩⟩; refine ⟨_, rfl, ?_⟩))
    go_ret2
    exact ⟨by first | rfl | (simp [errW_none, errW_some] <;> rfl) | (simp [*, errW_none, errW_some] <;> rfl), by repeat (first | (with_reducible first | exact HB.out | apply below_alloc | apply pw_below_drewN | apply below_drew1) | exact HB.out)⟩

end Go.Proofs.Ytlpamhffpgoebaa.All

-- WRITTEN BY this session's own drv.py over the kit's print. Not trusted: Lean checks it.
namespace Go.Proofs.Ytlpamhffpgoebaa.All
open Go.RowKit Go.Proofs.YtlpamhffpgoebaaW.PrintWords Go.Proofs.YtlpamhffpgoebaaW.PrintLast Go.Proofs.YtlpamhffpgoebaaW.PrintMore
attribute [local go_sem] max2_int min2_int max_two min_two max_three min_three max_four min_four   -- for this text's walks alone
set_option linter.unusedVariables false
set_option linter.unusedSimpArgs false

/-! ### digits_half: function 59 -/
def digits_half.f (a0 : Int) : Option (Int × Bool) := if a0 = 61 then (some (13, true)) else (if a0 ≥ 48 then (some ((a0 - 48) % 256, decide (a0 ≤ 57))) else (some ((a0 - 48) % 256, false)))
set_option maxHeartbeats 8000000 in
set_option maxRecDepth 100000 in
theorem digits_half.calls (a0 : Int) (r1 : Int) (r2 : Bool) (w : World) (h : digits_half.f a0 = some (r1, r2)) :
    Calls Try.prog 59 #[.int .u8 a0] w fun e w' => e = .returned (.tuple #[.int .u8 r1, .bool r2]) ∧ Drawn0 w w' := by
  have H : (if a0 = 61 then (some (13, true)) else (if a0 ≥ 48 then (some ((a0 - 48) % 256, decide (a0 ≤ 57))) else (some ((a0 - 48) % 256, false)))) = some (r1, r2) := h
  clear h
  by_cases c2 : a0 = 61
  · rw [if_pos c2] at H
    have c2b0 : (a0 == 61) = true := beq_iff_eq.mpr c2
    have c2b1 : (a0 != 61) = false := bne_eq_false_iff_eq.mpr c2
    clear c2
    simp only [Option.some.injEq, Prod.mk.injEq] at H
    obtain ⟨rfl, rfl⟩ := H
    go_enter Try.func59, Try.ntmps59
    go_wp2
    go_ret2
    exact ⟨by first | rfl | (simp; done) | (simp [*]; done), by repeat (first | exact Drawn0.refl _ | apply Drawn0.step)⟩
  · rw [if_neg c2] at H
    have c2b0 : (a0 == 61) = false := beq_eq_false_iff_ne.mpr c2
    have c2b1 : (a0 != 61) = true := bne_iff_ne.mpr c2
    by_cases c3 : a0 ≥ 48
    · rw [if_pos c3] at H
      have c3b0 : decide (48 ≤ a0) = true := decide_eq_true c3
      clear c3
      simp only [Option.some.injEq, Prod.mk.injEq] at H
      obtain ⟨rfl, rfl⟩ := H
      go_enter Try.func59, Try.ntmps59
      go_wp2
      go_ret2
      exact ⟨by first | rfl | (simp; done) | (simp [*]; done), by repeat (first | exact Drawn0.refl _ | apply Drawn0.step)⟩
    · rw [if_neg c3] at H
      have c3b0 : decide (48 ≤ a0) = false := decide_eq_false c3
      clear c3
      simp only [Option.some.injEq, Prod.mk.injEq] at H
      obtain ⟨rfl, rfl⟩ := H
      go_enter Try.func59, Try.ntmps59
      go_wp2
      go_ret2
      exact ⟨by first | rfl | (simp; done) | (simp [*]; done), by repeat (first | exact Drawn0.refl _ | apply Drawn0.step)⟩

end Go.Proofs.Ytlpamhffpgoebaa.All

-- WRITTEN BY this session's own drv.py over the kit's print. Not trusted: Lean checks it.
namespace Go.Proofs.Ytlpamhffpgoebaa.All
open Go.RowKit Go.Proofs.YtlpamhffpgoebaaW.PrintWords Go.Proofs.YtlpamhffpgoebaaW.PrintLast Go.Proofs.YtlpamhffpgoebaaW.PrintMore
attribute [local go_sem] max2_int min2_int max_two min_two max_three min_three max_four min_four   -- for this text's walks alone
set_option linter.unusedVariables false
set_option linter.unusedSimpArgs false

/-! ### digits_packHalves: function 49 -/
mutual
def digits_packHalves.j0 : Nat → ByteArray → List Int → Bool → Option (ByteArray × Int)
  | 0, _, _, _ => none
  | k + 1, x1, x6, x19 => if x19 = true then (if x6.length < 140737488355328 then (digits_packHalves.j1 k x1 (x6 ++ [0])) else (none)) else (digits_packHalves.j1 k x1 x6)
def digits_packHalves.j1 : Nat → ByteArray → List Int → Option (ByteArray × Int)
  | 0, _, _ => none
  | k + 1, x1, x6 => digits_packHalves.l0 k x1 x6 (x1.size : Int) 0
def digits_packHalves.l0 : Nat → ByteArray → List Int → Int → Int → Option (ByteArray × Int)
  | 0, _, _, _, _ => none
  | k + 1, x1, x6, x24, x25 => if x25 < x24 then (if 0 ≤ x25 then (if x25 < (x1.size : Int) then ((digits_half.f (bt x1 x25)).bind fun bt134 => (if bt134.2 = true then (if x6.length < 140737488355328 then (digits_packHalves.l0 k x1 (x6 ++ [bt134.1]) x24 (wrap64 (x25 + 1))) else (none)) else (some ((⟨#[]⟩ : ByteArray), 11)))) else (none)) else (none)) else (if ((x6.length : Int) % 2) = 1 then (if x6.length < 140737488355328 then (digits_packHalves.j3 k (x6 ++ [15])) else (none)) else (digits_packHalves.j3 k x6))
def digits_packHalves.j3 : Nat → List Int → Option (ByteArray × Int)
  | 0, _ => none
  | k + 1, x6 => digits_packHalves.l1 k x6 ([] : List Int) 0
def digits_packHalves.l1 : Nat → List Int → List Int → Int → Option (ByteArray × Int)
  | 0, _, _, _ => none
  | k + 1, x6, x10, x11 => if x11 < (x6.length : Int) then (if 0 ≤ x11 then (if 0 ≤ (wrap64 (x11 + 1)) then (if (wrap64 (x11 + 1)) < (x6.length : Int) then (if x10.length < 140737488355328 then (digits_packHalves.l1 k x6 (x10 ++ [Go.bits .or .u8 (((rd x6 x11) * 16) % 256) (rd x6 (wrap64 (x11 + 1)))]) (wrap64 (x11 + 2))) else (none)) else (none)) else (none)) else (none)) else (some (strOfNums x10, 0))
end
def digits_packHalves.f (k : Nat) (a0 : Int) (a1 : ByteArray) : Option (ByteArray × Int) := if a0 = 2 then (digits_packHalves.j0 k a1 ([] : List Int) (((a1.size : Int) % 2) == 1)) else (digits_packHalves.j0 k a1 ([] : List Int) false)
theorem digits_packHalves.mono_l : ∀ k, (∀ y0 y1 y2, LeO (digits_packHalves.j0 k y0 y1 y2) (digits_packHalves.j0 (k + 1) y0 y1 y2)) ∧ (∀ y0 y1, LeO (digits_packHalves.j1 k y0 y1) (digits_packHalves.j1 (k + 1) y0 y1)) ∧ (∀ y0 y1 y2 y3, LeO (digits_packHalves.l0 k y0 y1 y2 y3) (digits_packHalves.l0 (k + 1) y0 y1 y2 y3)) ∧ (∀ y0, LeO (digits_packHalves.j3 k y0) (digits_packHalves.j3 (k + 1) y0)) ∧ (∀ y0 y1 y2, LeO (digits_packHalves.l1 k y0 y1 y2) (digits_packHalves.l1 (k + 1) y0 y1 y2))
  | 0 => ⟨fun _ _ _ r h => by simp [digits_packHalves.j0] at h, fun _ _ r h => by simp [digits_packHalves.j1] at h, fun _ _ _ _ r h => by simp [digits_packHalves.l0] at h, fun _ r h => by simp [digits_packHalves.j3] at h, fun _ _ _ r h => by simp [digits_packHalves.l1] at h⟩
  | k + 1 => by
    obtain ⟨ih0, ih1, ih2, ih3, ih4⟩ := digits_packHalves.mono_l k
    refine ⟨?_, ?_, ?_, ?_, ?_⟩
    · intro y0 y1 y2
      unfold digits_packHalves.j0
      repeat' first
      | (with_reducible exact ih0 _ _ _)
      | (with_reducible exact ih1 _ _)
      | (with_reducible exact ih2 _ _ _ _)
      | (with_reducible exact ih3 _)
      | (with_reducible exact ih4 _ _ _)
      | (with_reducible exact LeO.refl _)
      | (with_reducible exact LeO.none _)
      | (with_reducible refine LeO.ite ?_ ?_)
      | (with_reducible refine LeO.bind ?_ (fun _ => ?_))
      | exact ih0 _ _ _
      | exact ih1 _ _
      | exact ih2 _ _ _ _
      | exact ih3 _
      | exact ih4 _ _ _
      | exact LeO.none _
      | refine LeO.ite ?_ ?_
      | refine LeO.bind ?_ (fun _ => ?_)
    · intro y0 y1
      unfold digits_packHalves.j1
      repeat' first
      | (with_reducible exact ih0 _ _ _)
      | (with_reducible exact ih1 _ _)
      | (with_reducible exact ih2 _ _ _ _)
      | (with_reducible exact ih3 _)
      | (with_reducible exact ih4 _ _ _)
      | (with_reducible exact LeO.refl _)
      | (with_reducible exact LeO.none _)
      | (with_reducible refine LeO.ite ?_ ?_)
      | (with_reducible refine LeO.bind ?_ (fun _ => ?_))
      | exact ih0 _ _ _
      | exact ih1 _ _
      | exact ih2 _ _ _ _
      | exact ih3 _
      | exact ih4 _ _ _
      | exact LeO.none _
      | refine LeO.ite ?_ ?_
      | refine LeO.bind ?_ (fun _ => ?_)
    · intro y0 y1 y2 y3
      unfold digits_packHalves.l0
      repeat' first
      | (with_reducible exact ih0 _ _ _)
      | (with_reducible exact ih1 _ _)
      | (with_reducible exact ih2 _ _ _ _)
      | (with_reducible exact ih3 _)
      | (with_reducible exact ih4 _ _ _)
      | (with_reducible exact LeO.refl _)
      | (with_reducible exact LeO.none _)
      | (with_reducible refine LeO.ite ?_ ?_)
      | (with_reducible refine LeO.bind ?_ (fun _ => ?_))
      | exact ih0 _ _ _
      | exact ih1 _ _
      | exact ih2 _ _ _ _
      | exact ih3 _
      | exact ih4 _ _ _
      | exact LeO.none _
      | refine LeO.ite ?_ ?_
      | refine LeO.bind ?_ (fun _ => ?_)
    · intro y0
      unfold digits_packHalves.j3
      repeat' first
      | (with_reducible exact ih0 _ _ _)
      | (with_reducible exact ih1 _ _)
      | (with_reducible exact ih2 _ _ _ _)
      | (with_reducible exact ih3 _)
      | (with_reducible exact ih4 _ _ _)
      | (with_reducible exact LeO.refl _)
      | (with_reducible exact LeO.none _)
      | (with_reducible refine LeO.ite ?_ ?_)
      | (with_reducible refine LeO.bind ?_ (fun _ => ?_))
      | exact ih0 _ _ _
      | exact ih1 _ _
      | exact ih2 _ _ _ _
      | exact ih3 _
      | exact ih4 _ _ _
      | exact LeO.none _
      | refine LeO.ite ?_ ?_
      | refine LeO.bind ?_ (fun _ => ?_)
    · intro y0 y1 y2
      unfold digits_packHalves.l1
      repeat' first
      | (with_reducible exact ih0 _ _ _)
      | (with_reducible exact ih1 _ _)
      | (with_reducible exact ih2 _ _ _ _)
      | (with_reducible exact ih3 _)
      | (with_reducible exact ih4 _ _ _)
      | (with_reducible exact LeO.refl _)
      | (with_reducible exact LeO.none _)
      | (with_reducible refine LeO.ite ?_ ?_)
      | (with_reducible refine LeO.bind ?_ (fun _ => ?_))
      | exact ih0 _ _ _
      | exact ih1 _ _
      | exact ih2 _ _ _ _
      | exact ih3 _
      | exact ih4 _ _ _
      | exact LeO.none _
      | refine LeO.ite ?_ ?_
      | refine LeO.bind ?_ (fun _ => ?_)
theorem digits_packHalves.mono : ∀ a0 a1 k, LeO (digits_packHalves.f k a0 a1) (digits_packHalves.f (k + 1) a0 a1) := by
  intro a0 a1 k
  obtain ⟨ih0, ih1, ih2, ih3, ih4⟩ := digits_packHalves.mono_l k
  unfold digits_packHalves.f
  repeat' first
      | (with_reducible exact ih0 _ _ _)
      | (with_reducible exact ih1 _ _)
      | (with_reducible exact ih2 _ _ _ _)
      | (with_reducible exact ih3 _)
      | (with_reducible exact ih4 _ _ _)
      | (with_reducible exact LeO.refl _)
      | (with_reducible exact LeO.none _)
      | (with_reducible refine LeO.ite ?_ ?_)
      | (with_reducible refine LeO.bind ?_ (fun _ => ?_))
      | exact ih0 _ _ _
      | exact ih1 _ _
      | exact ih2 _ _ _ _
      | exact ih3 _
      | exact ih4 _ _ _
      | exact LeO.none _
      | refine LeO.ite ?_ ?_
      | refine LeO.bind ?_ (fun _ => ?_)
def digits_packHalves.T18 : Bool × List (List Nat × List Nat) := (true, [([], []), ([], []), ([], []), ([1, 2], [1, 2]), ([3], [3]), ([4], [4]), ([], []), ([], []), ([7], [7]), ([6, 8], [6, 8]), ([9], [9]), ([5, 10], [5, 10]), ([11], [11]), ([0, 12], [0, 12]), ([13, 13, 0, 1, 2, 3, 4, 5, 6, 7, 8, 9, 10, 11, 12, 13], [0, 13])])
def digits_packHalves.B18 : List Nat := [0, 0, 0, 6, 14, 30, 0, 0, 128, 448, 960, 2046, 4094, 8191, 16383]
theorem digits_packHalves.tab18 : rtab .any (opsOf Try.f49 18) = digits_packHalves.T18 := by kernel_rfl
theorem digits_packHalves.bits18 : waitsOk digits_packHalves.T18.2 digits_packHalves.B18 = true := by kernel_rfl
set_option maxHeartbeats 8000000 in
set_option maxRecDepth 100000 in
theorem digits_packHalves.calls (k : Nat) (a0 : Int) (a1 : ByteArray) (r1 : ByteArray) (r2 : Int) (w : World) (h : digits_packHalves.f k a0 a1 = some (r1, r2)) :
    Calls Try.prog 49 #[.int .i64 a0, .string a1] w fun e w' => e = .returned (.tuple #[.string r1, .int .i64 r2]) ∧ Below w.heap.size w w' := by
  have HB := Aside0.mk (Below.refl w.heap.size w)
  have H : (if a0 = 2 then (digits_packHalves.j0 k a1 ([] : List Int) (((a1.size : Int) % 2) == 1)) else (digits_packHalves.j0 k a1 ([] : List Int) false)) = some (r1, r2) := h
  clear h
  have HC3 := Aside0.mk H
  clear H
  go_enter Try.func49, Try.ntmps49
  go_upto_region 2 with (fail)
  go_cut [19] (fun v19 wc => ∃ (kq : Nat) (x19_2 : Bool), v19 = .bool x19_2 ∧ Aside0 (digits_packHalves.j0 kq a1 ([] : List Int) x19_2 = some (r1, r2)) ∧ Aside0 (kq ≤ k) ∧ Aside0 (Kd.R (Kd.int .u8) 5 wc w.heap.size (fun _ => True) (.slice none 0 0) ([] : List Int)) ∧ Aside0 (Below w.heap.size w wc))
  case first =>
    have H := HC3.out
    clear HC3
    by_cases c4 : a0 = 2
    · rw [if_pos c4] at H
      have c4b0 : (a0 == 2) = true := beq_iff_eq.mpr c4
      have c4b1 : (a0 != 2) = false := bne_eq_false_iff_eq.mpr c4
      clear c4
      (first | rw [c4b0] | (simp only [i64_w, i32_w]; rw [c4b0]) | skip)
      have H' := Aside0.mk H
      clear H
      go_wp2
      go_meet
      case rel => exact ⟨_, ((((a1.size : Int) % 2) == 1)), (by first | rfl | (simp; done) | (simp [*]; done)), H', ⟨by first | omega | exact Nat.le_refl _⟩, ⟨by first | exact Kd.R_nil _ _ _ _ _ | exact Kd.N_nil _ _ _ _ _ | exact Kd.V_nil _ _ _ _ _ | exact Kd.Q_nil _ _ _ _ _ | exact Kd.S_nil _ _ _ _ _⟩, ⟨by repeat (first | (with_reducible first | exact HB.out | apply below_alloc | apply pw_below_drewN | apply below_drew1) | exact HB.out)⟩⟩
    · rw [if_neg c4] at H
      have c4b0 : (a0 == 2) = false := beq_eq_false_iff_ne.mpr c4
      have c4b1 : (a0 != 2) = true := bne_iff_ne.mpr c4
      (first | rw [c4b0] | (simp only [i64_w, i32_w]; rw [c4b0]) | skip)
      have H' := Aside0.mk H
      clear H
      go_wp2
      go_meet
      case rel => exact ⟨_, (false), (by first | rfl | (simp; done) | (simp [*]; done)), H', ⟨by first | omega | exact Nat.le_refl _⟩, ⟨by first | exact Kd.R_nil _ _ _ _ _ | exact Kd.N_nil _ _ _ _ _ | exact Kd.V_nil _ _ _ _ _ | exact Kd.Q_nil _ _ _ _ _ | exact Kd.S_nil _ _ _ _ _⟩, ⟨by repeat (first | (with_reducible first | exact HB.out | apply below_alloc | apply pw_below_drewN | apply below_drew1) | exact HB.out)⟩⟩
  case rest =>
    clear HC3
    try clear p2
    try clear c4
    try clear c4b0
    try clear c4b1
    obtain ⟨kq, x19_2, rfl, HA, HJ2, HO_6, HB⟩ := hcut
    cases kq with
    | zero => exact absurd HA.out (by simp [digits_packHalves.j0])
    | succ kj2 =>
      have H := HA.out
      clear HA
      simp only [digits_packHalves.j0] at H
      have HC5 := Aside0.mk H
      clear H
      go_upto_if 19 with (fail)
      go_cut [6] (fun v6 wc => ∃ (kq : Nat) (x6_4 : List Int), Aside0 (digits_packHalves.j1 kq a1 x6_4 = some (r1, r2)) ∧ Aside0 (kq ≤ kj2) ∧ Aside0 (Kd.R (Kd.int .u8) 5 wc w.heap.size (fun _ => True) v6 x6_4) ∧ Aside0 (Below w.heap.size w wc))
      case first =>
        have H := HC5.out
        clear HC5
        by_cases c6 : x19_2 = true
        · subst c6
          have H1 : (if ([] : List Int).length < 140737488355328 then (digits_packHalves.j1 kj2 a1 (([] : List Int) ++ [0])) else (none)) = some (r1, r2) := by rw [if_pos rfl] at H; exact H
          clear H
          have H := H1
          clear H1
          by_cases c7 : ([] : List Int).length < 140737488355328
          · rw [if_pos c7] at H
            have LMc7 := Aside0.mk c7
            clear c7
            obtain ⟨y131, hy131⟩ : ∃ y_ : List Int, y_ = (([] : List Int) ++ [0]) := ⟨_, rfl⟩
            replace H : (digits_packHalves.j1 kj2 a1 y131) = some (r1, r2) := by first | (rw [hy131]; with_reducible exact H) | (have H2_ := (Option.bind_some _ _).symm.trans H; rw [hy131]; with_reducible exact H2_) | (have H2_ := (Option.bind_some _ _).symm.trans H; with_reducible exact H2_) | with_reducible exact H | (rw [hy131]; exact H) | exact H
            have Ny131 := Aside0.mk hy131
            clear hy131
            have H' := Aside0.mk H
            clear H
            go_wp2_with (first | ((with_reducible refine gate_builtin (b := .append) (xs := #[.tmp 20, .tmp 21]) rfl ?_); (try (refine gate_guard (by rfl) ?_; dsimp only)); at_builtin; refine Kd.R_append (Kd.int .u8) (w0 := w) w.heap.size rfl (.tmp 20) (.tmp 21) 51 5 (.int .u8 0) 1 rfl Try.underlying51 info5 rfl (by decide) (by omega) (.slice none 0 0) ([] : List Int) 0 [.int .u8 0] (fun _ => True) (fun _ => False) rfl rfl ?aP (fun _ hk => hk.elim) ?aF ?aO ?aB ?aS ?aL ?_; (case aP => exact rfl); (case aB => exact (by repeat (first | (with_reducible first | exact HB.out | apply below_alloc | apply pw_below_drewN | apply below_drew1) | exact HB.out))); (case aF => exact (fun _ _ => trivial)); (case aO => exact (by (with_reducible repeat (first | apply Kd.R_alloc | apply Kd.R_drewN | apply Kd.R_drew)); exact HO_6.out)); (case aS => exact (below_size (by repeat (first | (with_reducible first | exact HB.out | apply below_alloc | apply pw_below_drewN | apply below_drew1) | exact HB.out)))); (case aL => have := LMc7.out; omega); intro v132 w8 ho hb hg hat; rw [← Ny131.out] at ho; have n0_ := Aside0.mk (hb); have n1_ := Aside0.mk (ho); clear HB; clear HO_6; have HB := n0_; have HO133 := n1_; clear n0_ n1_; clear ho hb hg hat))
            go_meet
            case rel => exact ⟨_, (y131), H', ⟨by have := HJ2.out; first | omega | exact Nat.le_refl _⟩, ⟨by (with_reducible repeat (first | apply Kd.R_alloc | apply Kd.R_drewN | apply Kd.R_drew)); exact HO133.out⟩, ⟨by repeat (first | (with_reducible first | exact HB.out | apply below_alloc | apply pw_below_drewN | apply below_drew1) | exact HB.out)⟩⟩
          · rw [if_neg c7] at H
            exact absurd H (by simp)
        · replace c6 := Bool.eq_false_iff.mpr c6
          subst c6
          have H1 : (digits_packHalves.j1 kj2 a1 ([] : List Int)) = some (r1, r2) := by rw [if_neg (show ¬ (false = true) by decide)] at H; exact H
          clear H
          have H := H1
          clear H1
          have H' := Aside0.mk H
          clear H
          go_wp2
          go_meet
          case rel => exact ⟨_, (([] : List Int)), H', ⟨by have := HJ2.out; first | omega | exact Nat.le_refl _⟩, ⟨by (with_reducible repeat (first | apply Kd.R_alloc | apply Kd.R_drewN | apply Kd.R_drew)); exact HO_6.out⟩, ⟨by repeat (first | (with_reducible first | exact HB.out | apply below_alloc | apply pw_below_drewN | apply below_drew1) | exact HB.out)⟩⟩
      case rest =>
        clear HC5
        try clear p2
        try clear c4
        try clear c4b0
        try clear c4b1
        try clear c6
        try clear c7
        try clear p2
        obtain ⟨kq, x6_4, HA, HJ4, HO_6, HB⟩ := hcut
        cases kq with
        | zero => exact absurd HA.out (by simp [digits_packHalves.j1])
        | succ kj4 =>
          have H := HA.out
          clear HA
          simp only [digits_packHalves.j1] at H
          have H' := Aside0.mk H
          clear H
          go_wp2
          go_loopg [6, 25] kj4 (fun kq v6 v25 w' => ∃ (x6_3 : List Int) (x25_3 : Int), v25 = .int .i64 x25_3 ∧ Aside0 (digits_packHalves.l0 kq a1 x6_3 (a1.size : Int) x25_3 = some (r1, r2)) ∧ Aside0 (kq ≤ kj4) ∧ Aside0 (Kd.R (Kd.int .u8) 5 w' w.heap.size (fun _ => True) v6 x6_3) ∧ Aside0 (Below w.heap.size w w'))
          case atStart => exact ⟨(x6_4), (0), (by first | rfl | (simp; done) | (simp [*]; done)), H', ⟨Nat.le_refl _⟩, ⟨by (with_reducible repeat (first | apply Kd.R_alloc | apply Kd.R_drewN | apply Kd.R_drew)); exact HO_6.out⟩, ⟨by repeat (first | (with_reducible first | exact HB.out | apply below_alloc | apply pw_below_drewN | apply below_drew1) | exact HB.out)⟩⟩
          case round =>
            clear H'
            try clear p2
            try clear c4
            try clear c4b0
            try clear c4b1
            try clear c6
            try clear c7
            try clear p2
            obtain ⟨x6_3, x25_3, rfl, HA, HK3, HO_6, HB⟩ := hrel
            cases gk with
            | zero => exact absurd HA.out (by simp [digits_packHalves.l0])
            | succ k3 =>
              have H := HA.out
              clear HA
              simp only [digits_packHalves.l0] at H
              by_cases c9 : x25_3 < (a1.size : Int)
              · rw [if_pos c9] at H
                have c9b0 : decide (x25_3 < (a1.size : Int)) = true := decide_eq_true c9
                clear c9
                by_cases c10 : 0 ≤ x25_3
                · rw [if_pos c10] at H
                  have c10b0 : decide (0 ≤ x25_3) = true := decide_eq_true c10
                  clear c10
                  by_cases c11 : x25_3 < (a1.size : Int)
                  · rw [if_pos c11] at H
                    have c11b0 : decide (x25_3 < (a1.size : Int)) = true := decide_eq_true c11
                    clear c11
                    replace H := Option.bind_eq_some_iff.mp H
                    obtain ⟨⟨t134, t135⟩, A130, H⟩ := H
                    replace H : (if t135 = true then (if x6_3.length < 140737488355328 then (digits_packHalves.l0 k3 a1 (x6_3 ++ [t134]) (a1.size : Int) (wrap64 (x25_3 + 1))) else (none)) else (some ((⟨#[]⟩ : ByteArray), 11))) = some (r1, r2) := H
                    have A13 := Aside0.mk A130
                    clear A130
                    by_cases c14 : t135 = true
                    · subst c14
                      have H1 : (if x6_3.length < 140737488355328 then (digits_packHalves.l0 k3 a1 (x6_3 ++ [t134]) (a1.size : Int) (wrap64 (x25_3 + 1))) else (none)) = some (r1, r2) := by rw [if_pos rfl] at H; exact H
                      clear H
                      have H := H1
                      clear H1
                      by_cases c15 : x6_3.length < 140737488355328
                      · rw [if_pos c15] at H
                        have LMc15 := Aside0.mk c15
                        clear c15
                        obtain ⟨y136, hy136⟩ : ∃ y_ : List Int, y_ = (x6_3 ++ [t134]) := ⟨_, rfl⟩
                        replace H : (digits_packHalves.l0 k3 a1 y136 (a1.size : Int) (wrap64 (x25_3 + 1))) = some (r1, r2) := by first | (rw [hy136]; with_reducible exact H) | (have H2_ := (Option.bind_some _ _).symm.trans H; rw [hy136]; with_reducible exact H2_) | (have H2_ := (Option.bind_some _ _).symm.trans H; with_reducible exact H2_) | with_reducible exact H | (rw [hy136]; exact H) | exact H
                        have Ny136 := Aside0.mk hy136
                        clear hy136
                        have H' := Aside0.mk H
                        clear H
                        have p12 : 0 ≤ (x25_3 : Int) := of_decide_eq_true (by first | (with_reducible assumption) | assumption)
                        have q12 : x25_3 < (a1.size : Int) := of_decide_eq_true (by first | (with_reducible assumption) | assumption)
                        have hx12 := bt_at a1 x25_3
                        replace p12 := eq_true p12
                        replace q12 := eq_true q12
                        go_wp2_with (first | ((with_reducible refine gate_callee (f := 59) rfl ?_); refine goesL_ (some 32) rfl rfl Try.func59 (by kernel_rfl) rfl #[.int .u8 (bt a1 x25_3)] rfl (by (try simp only [List.map_toArray, List.map_cons, List.map_nil]); first | done | rfl | (simp only [List.length_drop, List.length_take]; rfl)) ?_; (with_reducible refine (digits_half.calls (bt a1 x25_3) t134 true _ A13.out).mono ?_); rintro e w' ⟨rfl, ⟨nd, rfl⟩⟩; refine ⟨_, rfl, ?_⟩) | ((with_reducible refine gate_builtin (b := .append) (xs := #[.tmp 37, .tmp 39]) rfl ?_); (try (refine gate_guard (by rfl) ?_; dsimp only)); at_builtin; refine Kd.R_append (Kd.int .u8) (w0 := w) w.heap.size rfl (.tmp 37) (.tmp 39) 51 5 (.int .u8 0) 1 rfl Try.underlying51 info5 rfl (by decide) (by omega) u6 x6_3 t134 [.int .u8 t134] (fun _ => True) (fun _ => False) rfl rfl ?aP (fun _ hk => hk.elim) ?aF ?aO ?aB ?aS ?aL ?_; (case aP => exact rfl); (case aB => exact (by repeat (first | (with_reducible first | exact HB.out | apply below_alloc | apply pw_below_drewN | apply below_drew1) | exact HB.out))); (case aF => exact (fun _ _ => trivial)); (case aO => exact (by (with_reducible repeat (first | apply Kd.R_alloc | apply Kd.R_drewN | apply Kd.R_drew)); exact HO_6.out)); (case aS => exact (below_size (by repeat (first | (with_reducible first | exact HB.out | apply below_alloc | apply pw_below_drewN | apply below_drew1) | exact HB.out)))); (case aL => have := LMc15.out; omega); intro v137 w16 ho hb hg hat; rw [← Ny136.out] at ho; have n0_ := Aside0.mk (hb); have n1_ := Aside0.mk (ho); clear HB; clear HO_6; have HB := n0_; have HO138 := n1_; clear n0_ n1_; clear ho hb hg hat))
                        go_roundg k3
                        case measure => have := HJ2.out; have := HJ4.out; have := HK3.out; omega
                        case rel => exact ⟨(y136), (wrap64 (x25_3 + 1)), (by first | rfl | (simp; done) | (simp [*]; done)), H', ⟨by have := HJ2.out; have := HJ4.out; have := HK3.out; omega⟩, ⟨by (with_reducible repeat (first | apply Kd.R_alloc | apply Kd.R_drewN | apply Kd.R_drew)); exact HO138.out⟩, ⟨by repeat (first | (with_reducible first | exact HB.out | apply below_alloc | apply pw_below_drewN | apply below_drew1) | exact HB.out)⟩⟩
                      · rw [if_neg c15] at H
                        exact absurd H (by simp)
                    · replace c14 := Bool.eq_false_iff.mpr c14
                      subst c14
                      have H1 : (some ((⟨#[]⟩ : ByteArray), 11)) = some (r1, r2) := by rw [if_neg (show ¬ (false = true) by decide)] at H; exact H
                      clear H
                      have H := H1
                      clear H1
                      simp only [Option.some.injEq, Prod.mk.injEq] at H
                      obtain ⟨rfl, rfl⟩ := H
                      have p12 : 0 ≤ (x25_3 : Int) := of_decide_eq_true (by first | (with_reducible assumption) | assumption)
                      have q12 : x25_3 < (a1.size : Int) := of_decide_eq_true (by first | (with_reducible assumption) | assumption)
                      have hx12 := bt_at a1 x25_3
                      replace p12 := eq_true p12
                      replace q12 := eq_true q12
                      go_wp2_with (first | ((with_reducible refine gate_callee (f := 59) rfl ?_); refine goesL_ (some 32) rfl rfl Try.func59 (by kernel_rfl) rfl #[.int .u8 (bt a1 x25_3)] rfl (by (try simp only [List.map_toArray, List.map_cons, List.map_nil]); first | done | rfl | (simp only [List.length_drop, List.length_take]; rfl)) ?_; (with_reducible refine (digits_half.calls (bt a1 x25_3) t134 false _ A13.out).mono ?_); rintro e w' ⟨rfl, ⟨nd, rfl⟩⟩; refine ⟨_, rfl, ?_⟩))
                      go_ret2
                      exact ⟨by first | rfl | (simp [errW_none, errW_some] <;> rfl) | (simp [*, errW_none, errW_some] <;> rfl), by repeat (first | (with_reducible first | exact HB.out | apply below_alloc | apply pw_below_drewN | apply below_drew1) | exact HB.out)⟩
                  · rw [if_neg c11] at H
                    exact absurd H (by simp)
                · rw [if_neg c10] at H
                  exact absurd H (by simp)
              · rw [if_neg c9] at H
                have c9b0 : decide (x25_3 < (a1.size : Int)) = false := decide_eq_false c9
                clear c9
                have HC17 := Aside0.mk H
                clear H
                obtain ⟨Ao18, co18, eo18⟩ := Kd.R_slice HO_6.out
                subst eo18
                go_upto_if 45 with (fail)
                go_cut [6] (fun v6 wc => ∃ (kq : Nat) (x6_16 : List Int), Aside0 (digits_packHalves.j3 kq x6_16 = some (r1, r2)) ∧ Aside0 (kq ≤ k3) ∧ Aside0 (Kd.R (Kd.int .u8) 5 wc w.heap.size (fun _ => True) v6 x6_16) ∧ Aside0 (Below w.heap.size w wc))
                case first =>
                  have H := HC17.out
                  clear HC17
                  by_cases c19 : ((x6_3.length : Int) % 2) = 1
                  · rw [if_pos c19] at H
                    have c19b0 : (((x6_3.length : Int) % 2) == 1) = true := beq_iff_eq.mpr c19
                    have c19b1 : (((x6_3.length : Int) % 2) != 1) = false := bne_eq_false_iff_eq.mpr c19
                    clear c19
                    (first | rw [c19b0] | (simp only [i64_w, i32_w]; rw [c19b0]) | skip)
                    by_cases c20 : x6_3.length < 140737488355328
                    · rw [if_pos c20] at H
                      have LMc20 := Aside0.mk c20
                      clear c20
                      obtain ⟨y139, hy139⟩ : ∃ y_ : List Int, y_ = (x6_3 ++ [15]) := ⟨_, rfl⟩
                      replace H : (digits_packHalves.j3 k3 y139) = some (r1, r2) := by first | (rw [hy139]; with_reducible exact H) | (have H2_ := (Option.bind_some _ _).symm.trans H; rw [hy139]; with_reducible exact H2_) | (have H2_ := (Option.bind_some _ _).symm.trans H; with_reducible exact H2_) | with_reducible exact H | (rw [hy139]; exact H) | exact H
                      have Ny139 := Aside0.mk hy139
                      clear hy139
                      have H' := Aside0.mk H
                      clear H
                      go_wp2_with (first | ((with_reducible refine gate_builtin (b := .append) (xs := #[.tmp 46, .tmp 47]) rfl ?_); (try (refine gate_guard (by rfl) ?_; dsimp only)); at_builtin; refine Kd.R_append (Kd.int .u8) (w0 := w) w.heap.size rfl (.tmp 46) (.tmp 47) 51 5 (.int .u8 0) 1 rfl Try.underlying51 info5 rfl (by decide) (by omega) (.slice Ao18 x6_3.length co18) x6_3 15 [.int .u8 15] (fun _ => True) (fun _ => False) rfl rfl ?aP (fun _ hk => hk.elim) ?aF ?aO ?aB ?aS ?aL ?_; (case aP => exact rfl); (case aB => exact (by repeat (first | (with_reducible first | exact HB.out | apply below_alloc | apply pw_below_drewN | apply below_drew1) | exact HB.out))); (case aF => exact (fun _ _ => trivial)); (case aO => exact (by (with_reducible repeat (first | apply Kd.R_alloc | apply Kd.R_drewN | apply Kd.R_drew)); exact HO_6.out)); (case aS => exact (below_size (by repeat (first | (with_reducible first | exact HB.out | apply below_alloc | apply pw_below_drewN | apply below_drew1) | exact HB.out)))); (case aL => have := LMc20.out; omega); intro v140 w21 ho hb hg hat; rw [← Ny139.out] at ho; have n0_ := Aside0.mk (hb); have n1_ := Aside0.mk (ho); clear HB; clear HO_6; have HB := n0_; have HO141 := n1_; clear n0_ n1_; clear ho hb hg hat))
                      go_meet
                      case rel => exact ⟨_, (y139), H', ⟨by have := HJ2.out; have := HJ4.out; have := HK3.out; first | omega | exact Nat.le_refl _⟩, ⟨by (with_reducible repeat (first | apply Kd.R_alloc | apply Kd.R_drewN | apply Kd.R_drew)); exact HO141.out⟩, ⟨by repeat (first | (with_reducible first | exact HB.out | apply below_alloc | apply pw_below_drewN | apply below_drew1) | exact HB.out)⟩⟩
                    · rw [if_neg c20] at H
                      exact absurd H (by simp)
                  · rw [if_neg c19] at H
                    have c19b0 : (((x6_3.length : Int) % 2) == 1) = false := beq_eq_false_iff_ne.mpr c19
                    have c19b1 : (((x6_3.length : Int) % 2) != 1) = true := bne_iff_ne.mpr c19
                    (first | rw [c19b0] | (simp only [i64_w, i32_w]; rw [c19b0]) | skip)
                    have H' := Aside0.mk H
                    clear H
                    go_wp2
                    go_meet
                    case rel => exact ⟨_, (x6_3), H', ⟨by have := HJ2.out; have := HJ4.out; have := HK3.out; first | omega | exact Nat.le_refl _⟩, ⟨by (with_reducible repeat (first | apply Kd.R_alloc | apply Kd.R_drewN | apply Kd.R_drew)); exact HO_6.out⟩, ⟨by repeat (first | (with_reducible first | exact HB.out | apply below_alloc | apply pw_below_drewN | apply below_drew1) | exact HB.out)⟩⟩
                case rest =>
                  clear HC17
                  try clear c1
                  try clear p1
                  try clear q1
                  try clear hx1
                  try clear c2
                  try clear p2
                  try clear c4
                  try clear c4b0
                  try clear c4b1
                  try clear c5
                  try clear c6
                  try clear p6
                  try clear c7
                  try clear c9
                  try clear c9b0
                  try clear c10
                  try clear c10b0
                  try clear c11
                  try clear c11b0
                  try clear p12
                  try clear q12
                  try clear hx12
                  try clear c14
                  try clear c15
                  try clear c19
                  try clear c19b0
                  try clear c19b1
                  try clear c20
                  try clear p12
                  try clear p2
                  try clear q12
                  obtain ⟨kq, x6_16, HA, HJ16, HO_6, HB⟩ := hcut
                  cases kq with
                  | zero => exact absurd HA.out (by simp [digits_packHalves.j3])
                  | succ kj16 =>
                    have H := HA.out
                    clear HA
                    simp only [digits_packHalves.j3] at H
                    have H' := Aside0.mk H
                    clear H
                    go_wp2
                    go_loopg [10, 11] kj16 (fun kq v10 v11 w' => ∃ (x10_5 : List Int) (x11_5 : Int), v11 = .int .i64 x11_5 ∧ Aside0 (digits_packHalves.l1 kq x6_16 x10_5 x11_5 = some (r1, r2)) ∧ Aside0 (kq ≤ kj16) ∧ Aside0 (Kd.R (Kd.int .u8) 5 w' w.heap.size (fun k_ => some k_ ≠ (v10 : Value).ownBlock) u6 x6_16) ∧ Aside0 (Kd.R (Kd.int .u8) 5 w' w.heap.size (fun k_ => some k_ ≠ (u6 : Value).ownBlock) v10 x10_5) ∧ Aside0 (Below w.heap.size w w'))
                    case atStart => exact ⟨(([] : List Int)), (0), (by first | rfl | (simp; done) | (simp [*]; done)), H', ⟨Nat.le_refl _⟩, ⟨by (with_reducible repeat (first | apply Kd.R_alloc | apply Kd.R_drewN | apply Kd.R_drew)); exact Kd.R_mono HO_6.out (fun _ hk => (by simp [Value.ownBlock]))⟩, ⟨by first | exact Kd.R_nil _ _ _ _ _ | exact Kd.N_nil _ _ _ _ _ | exact Kd.V_nil _ _ _ _ _ | exact Kd.Q_nil _ _ _ _ _ | exact Kd.S_nil _ _ _ _ _⟩, ⟨by repeat (first | (with_reducible first | exact HB.out | apply below_alloc | apply pw_below_drewN | apply below_drew1) | exact HB.out)⟩⟩
                    case round =>
                      clear H'
                      try clear c1
                      try clear p1
                      try clear q1
                      try clear hx1
                      try clear c2
                      try clear p2
                      try clear c4
                      try clear c4b0
                      try clear c4b1
                      try clear c5
                      try clear c6
                      try clear p6
                      try clear c7
                      try clear c9
                      try clear c9b0
                      try clear c10
                      try clear c10b0
                      try clear c11
                      try clear c11b0
                      try clear p12
                      try clear q12
                      try clear hx12
                      try clear c14
                      try clear c15
                      try clear c19
                      try clear c19b0
                      try clear c19b1
                      try clear c20
                      try clear p1
                      try clear p12
                      try clear p2
                      try clear p6
                      try clear q1
                      try clear q12
                      obtain ⟨x10_5, x11_5, rfl, HA, HK5, HO_6, HO_10, HB⟩ := hrel
                      cases gk with
                      | zero => exact absurd HA.out (by simp [digits_packHalves.l1])
                      | succ k5 =>
                        have H := HA.out
                        clear HA
                        simp only [digits_packHalves.l1] at H
                        by_cases c22 : x11_5 < (x6_16.length : Int)
                        · rw [if_pos c22] at H
                          have c22b0 : decide (x11_5 < (x6_16.length : Int)) = true := decide_eq_true c22
                          clear c22
                          by_cases c23 : 0 ≤ x11_5
                          · rw [if_pos c23] at H
                            have c23b0 : decide (0 ≤ x11_5) = true := decide_eq_true c23
                            clear c23
                            obtain ⟨ji24, hji24⟩ : ∃ j_ : Int, (wrap64 (x11_5 + 1)) = j_ := ⟨_, rfl⟩
                            replace H : (if 0 ≤ (ji24) then (if (ji24) < (x6_16.length : Int) then (if x10_5.length < 140737488355328 then (digits_packHalves.l1 k5 x6_16 (x10_5 ++ [Go.bits .or .u8 (((rd x6_16 x11_5) * 16) % 256) (rd x6_16 (ji24))]) (wrap64 (x11_5 + 2))) else (none)) else (none)) else (none)) = some (r1, r2) := by first | (rw [hji24] at H; exact H) | (simp only [hji24] at H ⊢; exact H)
                            have hji24w : (IntKind.i64.wrap (x11_5 + 1)) = ji24 := (i64_w _).trans hji24
                            by_cases c25 : 0 ≤ (ji24)
                            · rw [if_pos c25] at H
                              have c25b0 : decide (0 ≤ (ji24)) = true := decide_eq_true c25
                              clear c25
                              by_cases c26 : (ji24) < (x6_16.length : Int)
                              · rw [if_pos c26] at H
                                have c26b0 : decide ((ji24) < (x6_16.length : Int)) = true := decide_eq_true c26
                                clear c26
                                by_cases c27 : x10_5.length < 140737488355328
                                · rw [if_pos c27] at H
                                  have LMc27 := Aside0.mk c27
                                  clear c27
                                  obtain ⟨y144, hy144⟩ : ∃ y_ : List Int, y_ = (x10_5 ++ [Go.bits .or .u8 (((rd x6_16 x11_5) * 16) % 256) (rd x6_16 (ji24))]) := ⟨_, rfl⟩
                                  replace H : (digits_packHalves.l1 k5 x6_16 y144 (wrap64 (x11_5 + 2))) = some (r1, r2) := by first | (rw [hy144]; with_reducible exact H) | (have H2_ := (Option.bind_some _ _).symm.trans H; rw [hy144]; with_reducible exact H2_) | (have H2_ := (Option.bind_some _ _).symm.trans H; with_reducible exact H2_) | with_reducible exact H | (rw [hy144]; exact H) | exact H
                                  have Ny144 := Aside0.mk hy144
                                  clear hy144
                                  have H' := Aside0.mk H
                                  clear H
                                  obtain ⟨Ao28, co28, eo28⟩ := Kd.R_slice HO_6.out
                                  subst eo28
                                  try go_wp2
                                  have n0_ := Aside0.mk (Kd.R_drew HO_6.out)
                                  have n1_ := Aside0.mk (Kd.R_drew HO_10.out)
                                  have n2_ := Aside0.mk (below_drew1 HB.out)
                                  clear HO_6
                                  clear HO_10
                                  clear HB
                                  have HO_6 := n0_
                                  have HO_10 := n1_
                                  have HB := n2_
                                  clear n0_ n1_ n2_
                                  have p142 : 0 ≤ (x11_5 : Int) := of_decide_eq_true (by first | (with_reducible assumption) | assumption)
                                  have q142 : x11_5 < (x6_16.length : Int) := of_decide_eq_true (by first | (with_reducible assumption) | assumption)
                                  obtain ⟨ad142, e142, hx142_0⟩ := Kd.at_int (Kd.R_reads' HO_6.out).2.2 x11_5 p142 q142
                                  cases e142
                                  replace p142 := eq_true p142
                                  replace q142 := eq_true q142
                                  have p143 : 0 ≤ ((ji24) : Int) := of_decide_eq_true (by first | (with_reducible assumption) | assumption)
                                  have q143 : (ji24) < (x6_16.length : Int) := of_decide_eq_true (by first | (with_reducible assumption) | assumption)
                                  obtain ⟨ad143, e143, hx143_0⟩ := Kd.at_int (Kd.R_reads' HO_6.out).2.2 (ji24) p143 q143
                                  obtain rfl : ad142 = ad143 := (by injection e143)
                                  replace p143 := eq_true p143
                                  replace q143 := eq_true q143
                                  refine start_ (n := 15) (S := fun w' => w'.cell? (ad142.add (x11_5).toNat) = some (.int .u8 (rd x6_16 x11_5)) ∧ w'.cell? (ad142.add ((ji24)).toNat) = some (.int .u8 (rd x6_16 (ji24)))) (ds := [12, 13]) #[false, false, false, false, false, false, false, false, false, false, false, false, false, false, false] (by kernel_rfl) rfl rfl ⟨hx142_0, hx143_0⟩ (fun hHeld => ?_); refine with_tabW digits_packHalves.tab18 digits_packHalves.bits18 (fun HT_ HW_ => ?_)
                                  generalize wr.drew = w29 at HO_6 HO_10 HB hx142_0 hx143_0 hHeld ⊢
                                  refine pure_ (i := 0) (N := some 55) (v := ?_) (a' := ?_) #[true, false, false, false, false, false, false, false, false, false, false, false, false, false, false] rfl rfl (any_of HT_.out (by kernel_rfl)) (fun _ _ _ h => h) (Or.inl ⟨by rfl, ?_⟩) ?_ ?_
                                  rotate_left
                                  · intro w'
                                    go_simp
                                    with_reducible rfl
                                  rotate_left
                                  · simp only [Act.put, List.setIfInBounds_toArray, List.set_cons_zero, List.set_cons_succ, i64_w, i32_w]
                                    rfl
                                  refine pure_ (i := 1) (N := some 56) (v := ?_) (a' := ?_) #[true, true, false, false, false, false, false, false, false, false, false, false, false, false, false] rfl rfl (any_of HT_.out (by kernel_rfl)) (fun _ _ _ h => h) (Or.inl ⟨by rfl, ?_⟩) ?_ ?_
                                  rotate_left
                                  · intro w'
                                    go_simp
                                    with_reducible rfl
                                  rotate_left
                                  · simp only [Act.put, List.setIfInBounds_toArray, List.set_cons_zero, List.set_cons_succ, i64_w, i32_w]
                                    rfl
                                  refine pure_ (i := 2) (N := some 57) (v := ?_) (a' := ?_) #[true, true, true, false, false, false, false, false, false, false, false, false, false, false, false] rfl rfl (any_of HT_.out (by kernel_rfl)) (fun _ _ _ h => h) (Or.inl ⟨by rfl, ?_⟩) ?_ ?_
                                  rotate_left
                                  · intro w'
                                    go_simp
                                    with_reducible rfl
                                  rotate_left
                                  · simp only [Act.put, List.setIfInBounds_toArray, List.set_cons_zero, List.set_cons_succ, i64_w, i32_w]
                                    rfl
                                  refine pure_ (i := 3) (N := some 58) (v := ?_) (a' := ?_) #[true, true, true, true, false, false, false, false, false, false, false, false, false, false, false] rfl rfl (any_of HT_.out (by kernel_rfl)) (fun _ _ _ h => h) (Or.inl ⟨by rfl, ?_⟩) ?_ ?_
                                  rotate_left
                                  · intro w'
                                    go_simp
                                    with_reducible rfl
                                  rotate_left
                                  · simp only [Act.put, List.setIfInBounds_toArray, List.set_cons_zero, List.set_cons_succ, i64_w, i32_w]
                                    rfl
                                  refine pure_ (i := 6) (N := some 61) (v := ?_) (a' := ?_) #[true, true, true, true, false, false, true, false, false, false, false, false, false, false, false] rfl rfl (any_of HT_.out (by kernel_rfl)) (fun _ _ _ h => h) (Or.inl ⟨by rfl, ?_⟩) ?_ ?_
                                  rotate_left
                                  · intro w'
                                    go_simp
                                    with_reducible rfl
                                  rotate_left
                                  · simp only [Act.put, List.setIfInBounds_toArray, List.set_cons_zero, List.set_cons_succ, i64_w, i32_w]
                                    rfl
                                  refine pure_ (i := 7) (N := some 62) (v := ?_) (a' := ?_) #[true, true, true, true, false, false, true, true, false, false, false, false, false, false, false] rfl rfl (any_of HT_.out (by kernel_rfl)) (fun _ _ _ h => h) (Or.inl ⟨by rfl, ?_⟩) ?_ ?_
                                  rotate_left
                                  · intro w'
                                    go_simp
                                    with_reducible rfl
                                  rotate_left
                                  · simp only [Act.put, List.setIfInBounds_toArray, List.set_cons_zero, List.set_cons_succ, i64_w, i32_w]
                                    rfl
                                  refine pure_ (i := 8) (N := some 63) (v := ?_) (a' := ?_) #[true, true, true, true, false, false, true, true, true, false, false, false, false, false, false] rfl rfl (any_of HT_.out (by kernel_rfl)) (fun _ _ _ h => h) (Or.inl ⟨by rfl, ?_⟩) ?_ ?_
                                  rotate_left
                                  · intro w'
                                    go_simp
                                    with_reducible rfl
                                  rotate_left
                                  · simp only [Act.put, List.setIfInBounds_toArray, List.set_cons_zero, List.set_cons_succ, i64_w, i32_w]
                                    rfl
                                  refine pure_ (i := 9) (N := some 64) (v := ?_) (a' := ?_) #[true, true, true, true, false, false, true, true, true, true, false, false, false, false, false] rfl rfl (any_of HT_.out (by kernel_rfl)) (fun _ _ _ h => h) (Or.inl ⟨by rfl, ?_⟩) ?_ ?_
                                  rotate_left
                                  · intro w'
                                    go_simp
                                    with_reducible rfl
                                  rotate_left
                                  · simp only [Act.put, List.setIfInBounds_toArray, List.set_cons_zero, List.set_cons_succ, i64_w, i32_w]
                                    rfl
                                  refine take_ (i := 4) (N := some 59) (v := ?_) (a' := ?_) #[true, true, true, true, true, false, true, true, true, true, false, false, false, false, false] rfl rfl (take_ofW HT_.out HW_.out (by kernel_rfl)) (fun _ _ _ h => h) (Or.inl ⟨by rfl, ?_⟩) hHeld ?_ ?_
                                  rotate_left
                                  · rintro w' ⟨s0, s1⟩
                                    go_simp
                                    with_reducible rfl
                                  rotate_left
                                  · simp only [Act.put, List.setIfInBounds_toArray, List.set_cons_zero, List.set_cons_succ, i64_w, i32_w]
                                    rfl
                                  refine pure_ (i := 5) (N := some 60) (v := ?_) (a' := ?_) #[true, true, true, true, true, true, true, true, true, true, false, false, false, false, false] rfl rfl (any_of HT_.out (by kernel_rfl)) (fun _ _ _ h => h) (Or.inl ⟨by rfl, ?_⟩) ?_ ?_
                                  rotate_left
                                  · intro w'
                                    go_simp
                                    with_reducible rfl
                                  rotate_left
                                  · simp only [Act.put, List.setIfInBounds_toArray, List.set_cons_zero, List.set_cons_succ, i64_w, i32_w]
                                    rfl
                                  refine take_ (i := 10) (N := some 65) (v := ?_) (a' := ?_) #[true, true, true, true, true, true, true, true, true, true, true, false, false, false, false] rfl rfl (take_ofW HT_.out HW_.out (by kernel_rfl)) (fun _ _ _ h => h) (Or.inl ⟨by rfl, ?_⟩) hHeld ?_ ?_
                                  rotate_left
                                  · rintro w' ⟨s0, s1⟩
                                    go_simp
                                    with_reducible rfl
                                  rotate_left
                                  · simp only [Act.put, List.setIfInBounds_toArray, List.set_cons_zero, List.set_cons_succ, i64_w, i32_w]
                                    rfl
                                  refine pure_ (i := 11) (N := some 66) (v := ?_) (a' := ?_) #[true, true, true, true, true, true, true, true, true, true, true, true, false, false, false] rfl rfl (any_of HT_.out (by kernel_rfl)) (fun _ _ _ h => h) (Or.inl ⟨by rfl, ?_⟩) ?_ ?_
                                  rotate_left
                                  · intro w'
                                    go_simp
                                    with_reducible rfl
                                  rotate_left
                                  · simp only [Act.put, List.setIfInBounds_toArray, List.set_cons_zero, List.set_cons_succ, i64_w, i32_w]
                                    rfl
                                  refine last_ (i := 12) (N := some 67) #[true, true, true, true, true, true, true, true, true, true, true, true, true, false, false] rfl rfl (one_of HT_.out (by kernel_rfl)) (by decide) (fun K hK => ?_)
                                  refine value_ (w1 := ?_) (v := ?_) (by rfl) rfl ?_ ?_
                                  rotate_left 2
                                  · go_simp
                                    constructor
                                    · rfl
                                    · rfl
                                  refine hK.out _ _ ?_
                                  clear hK K
                                  refine norm_ (a' := ?_) ?_ ?_
                                  rotate_left
                                  · show Act.put _ (some 67) _ = _
                                    simp only [Act.put, List.setIfInBounds_toArray, List.set_cons_zero, List.set_cons_succ, i64_w, i32_w]
                                    rfl
                                  refine last_ (i := 13) (N := some 68) #[true, true, true, true, true, true, true, true, true, true, true, true, true, true, false] rfl rfl (one_of HT_.out (by kernel_rfl)) (by decide) (fun K hK => ?_)
                                  refine Kd.R_append_step (Kd.int .u8) (w0 := w) w.heap.size (by rfl) (.tmp 55) (.tmp 67) 51 5 (.int .u8 0) 1 rfl Try.underlying51 info5 rfl (by decide) (by omega) u10 x10_5 (Go.bits .or .u8 (((rd x6_16 x11_5) * 16) % 256) (rd x6_16 (ji24))) [.int .u8 (Go.bits .or .u8 (((rd x6_16 x11_5) * 16) % 256) (rd x6_16 (ji24)))] (fun k_ => some k_ ≠ (.slice (some ad142) x6_16.length co28 : Value).ownBlock) (fun _ => False) rfl rfl ?aP (fun _ hk => hk.elim) ?aF ?aO ?aB ?aS ?aL ?_
                                  (case aP => exact rfl)
                                  (case aB => exact (by repeat (first | (with_reducible first | exact HB.out | apply below_alloc | apply pw_below_drewN | apply below_drew1) | exact HB.out)))
                                  (case aF => exact (fun k_ hk => Kd.fresh' (Kd.R_lt (by (with_reducible repeat (first | apply Kd.R_alloc | apply Kd.R_drewN | apply Kd.R_drew)); exact HO_6.out)) k_ hk))
                                  (case aO => exact (by (with_reducible repeat (first | apply Kd.R_alloc | apply Kd.R_drewN | apply Kd.R_drew)); exact HO_10.out))
                                  (case aS => exact (below_size (by repeat (first | (with_reducible first | exact HB.out | apply below_alloc | apply pw_below_drewN | apply below_drew1) | exact HB.out))))
                                  (case aL => have := LMc27.out; omega)
                                  intro v145 w30 ho hb hg hat
                                  rw [← Ny144.out] at ho
                                  have n0_ := Aside0.mk (Kd.R_after (ok := (fun _ => True)) (by (with_reducible repeat (first | apply Kd.R_alloc | apply Kd.R_drewN | apply Kd.R_drew)); exact Kd.R_mono HO_6.out (fun _ hk => ⟨trivial, hk⟩)) hg hat)
                                  have n1_ := Aside0.mk (hb)
                                  have n2_ := Aside0.mk (ho)
                                  clear HO_6
                                  clear HB
                                  clear HO_10
                                  have HO_6 := n0_
                                  have HB := n1_
                                  have HO146 := n2_
                                  clear n0_ n1_ n2_
                                  clear ho hb hg hat
                                  refine hK.out _ _ ?_
                                  clear hK K
                                  refine norm_ (a' := ?_) ?_ ?_
                                  rotate_left
                                  · show Act.put _ (some 68) _ = _
                                    simp only [Act.put, List.setIfInBounds_toArray, List.set_cons_zero, List.set_cons_succ, i64_w, i32_w]
                                    rfl
                                  refine pure_ (i := 14) (N := some 10) (v := ?_) (a' := ?_) #[true, true, true, true, true, true, true, true, true, true, true, true, true, true, true] rfl rfl (any_of HT_.out (by kernel_rfl)) (fun _ _ _ h => h) (Or.inl ⟨by rfl, ?_⟩) ?_ ?_
                                  rotate_left
                                  · intro w'
                                    go_simp
                                    with_reducible rfl
                                  rotate_left
                                  · simp only [Act.put, List.setIfInBounds_toArray, List.set_cons_zero, List.set_cons_succ, i64_w, i32_w]
                                    rfl
                                  refine done_ (done_of HT_.out (by kernel_rfl)) ?_
                                  try go_wp2
                                  go_roundg k5
                                  case measure => have := HJ2.out; have := HJ4.out; have := HK3.out; have := HJ16.out; have := HK5.out; omega
                                  case rel => exact ⟨(y144), (wrap64 (x11_5 + 2)), (by first | rfl | (simp; done) | (simp [*]; done)), H', ⟨by have := HJ2.out; have := HJ4.out; have := HK3.out; have := HJ16.out; have := HK5.out; omega⟩, ⟨by (with_reducible repeat (first | apply Kd.R_alloc | apply Kd.R_drewN | apply Kd.R_drew)); exact Kd.R_mono HO_6.out (fun _ hk => hk.2)⟩, ⟨by (with_reducible repeat (first | apply Kd.R_alloc | apply Kd.R_drewN | apply Kd.R_drew)); exact HO146.out⟩, ⟨by repeat (first | (with_reducible first | exact HB.out | apply below_alloc | apply pw_below_drewN | apply below_drew1) | exact HB.out)⟩⟩
                                · rw [if_neg c27] at H
                                  exact absurd H (by simp)
                              · rw [if_neg c26] at H
                                exact absurd H (by simp)
                            · rw [if_neg c25] at H
                              exact absurd H (by simp)
                          · rw [if_neg c23] at H
                            exact absurd H (by simp)
                        · rw [if_neg c22] at H
                          have c22b0 : decide (x11_5 < (x6_16.length : Int)) = false := decide_eq_false c22
                          clear c22
                          simp only [Option.some.injEq, Prod.mk.injEq] at H
                          obtain ⟨rfl, rfl⟩ := H
                          obtain ⟨Ao31, co31, eo31⟩ := Kd.R_slice HO_6.out
                          subst eo31
                          have hcv32 := own_string (P := Try.prog) Try.underlying51 Try.underlying5 Try.underlying9 (Kd.own_of_R HO_10.out)
                          go_wp2
                          go_ret2
                          exact ⟨by first | rfl | (simp [errW_none, errW_some] <;> rfl) | (simp [*, errW_none, errW_some] <;> rfl), by repeat (first | (with_reducible first | exact HB.out | apply below_alloc | apply pw_below_drewN | apply below_drew1) | exact HB.out)⟩

end Go.Proofs.Ytlpamhffpgoebaa.All

-- WRITTEN BY this session's own drv.py over the kit's print. Not trusted: Lean checks it.
namespace Go.Proofs.Ytlpamhffpgoebaa.All
open Go.RowKit Go.Proofs.YtlpamhffpgoebaaW.PrintWords Go.Proofs.YtlpamhffpgoebaaW.PrintLast Go.Proofs.YtlpamhffpgoebaaW.PrintMore
attribute [local go_sem] max2_int min2_int max_two min_two max_three min_three max_four min_four   -- for this text's walks alone
set_option linter.unusedVariables false
set_option linter.unusedSimpArgs false

/-! ### digits_written: function 50 -/
def digits_written.f (a0 : Int) (a1 : Int) : Option (Int × Bool) :=
  if a0 = 5 then some (a1, true) else if a1 < 32 then some (0, false) else if a1 > 126 then some (0, false) else if a0 = 4 then some (rd ebL (a1 - 32), true) else some (a1, true)
set_option maxHeartbeats 4000000 in
set_option maxRecDepth 100000 in
theorem digits_written.calls (a0 : Int) (a1 : Int) (r1 : Int) (r2 : Bool) (w : World) (h : digits_written.f a0 a1 = some (r1, r2)) :
    Calls Try.prog 50 #[.int .i64 a0, .int .u8 a1] w fun e w' => e = .returned (.tuple #[.int .u8 r1, .bool r2]) ∧ Below w.heap.size w w' := by
  unfold digits_written.f at h
  by_cases c1 : a0 = 5
  · rw [if_pos c1] at h
    obtain ⟨rfl, rfl⟩ := Prod.mk.inj (Option.some.inj h)
    subst c1
    go_enter Try.func50, Try.ntmps50
    go_wp2
    go_ret2
    exact ⟨rfl, Below.refl _ _⟩
  · rw [if_neg c1] at h
    have b1 : (a0 == 5) = false := beq_eq_false_iff_ne.mpr c1
    by_cases c2 : a1 < 32
    · rw [if_pos c2] at h
      obtain ⟨rfl, rfl⟩ := Prod.mk.inj (Option.some.inj h)
      have b2 : decide (a1 < 32) = true := decide_eq_true c2
      clear c1 c2 h
      go_enter Try.func50, Try.ntmps50
      go_wp2
      go_ret2
      exact ⟨rfl, Below.refl _ _⟩
    · rw [if_neg c2] at h
      have b2 : decide (a1 < 32) = false := decide_eq_false c2
      by_cases c3 : a1 > 126
      · rw [if_pos c3] at h
        obtain ⟨rfl, rfl⟩ := Prod.mk.inj (Option.some.inj h)
        have b3 : decide (126 < a1) = true := decide_eq_true c3
        clear c1 c2 c3 h
        go_enter Try.func50, Try.ntmps50
        go_wp2
        go_ret2
        exact ⟨rfl, Below.refl _ _⟩
      · rw [if_neg c3] at h
        have b3 : decide (126 < a1) = false := decide_eq_false c3
        have l2 : 32 ≤ a1 := by omega
        have l3 : a1 ≤ 126 := by omega
        by_cases c4 : a0 = 4
        · rw [if_pos c4] at h
          obtain ⟨hr, rfl⟩ := Prod.mk.inj (Option.some.inj h)
          have Hr := Lib.hid hr
          subst c4
          clear c2 c3 h b1 hr c1
          have hx := fun W => index_eb .u8 (a1 - 32) (by omega) (by omega) W
          go_enter Try.func50, Try.ntmps50
          go_wp2_with (first | (go_at_call 60; refine (digits_ebcdic.calls _).mono ?_; rintro e w' ⟨rfl, hb⟩))
          go_ret2
          exact ⟨by rw [← Hr.out]; rfl, hb⟩
        · rw [if_neg c4] at h
          obtain ⟨rfl, rfl⟩ := Prod.mk.inj (Option.some.inj h)
          have b4 : (a0 == 4) = false := beq_eq_false_iff_ne.mpr c4
          clear c1 c2 c3 c4 h
          go_enter Try.func50, Try.ntmps50
          go_wp2
          go_ret2
          exact ⟨rfl, Below.refl _ _⟩

end Go.Proofs.Ytlpamhffpgoebaa.All

-- WRITTEN BY this session's own drv.py over the kit's print. Not trusted: Lean checks it.
namespace Go.Proofs.Ytlpamhffpgoebaa.All
open Go.RowKit Go.Proofs.YtlpamhffpgoebaaW.PrintWords Go.Proofs.YtlpamhffpgoebaaW.PrintLast Go.Proofs.YtlpamhffpgoebaaW.PrintMore
attribute [local go_sem] max2_int min2_int max_two min_two max_three min_three max_four min_four   -- for this text's walks alone
set_option linter.unusedVariables false
set_option linter.unusedSimpArgs false

/-! ### digits_Pack: function 32 -/
mutual
def digits_Pack.j0 : Nat → Int → ByteArray → Int → Bool → Option (ByteArray × Int)
  | 0, _, _, _, _ => none
  | k + 1, x0, x1, x10, x11 => if x11 = true then ((digits_packHalves.f k x0 x1).bind fun bt147 => (some (bt147.1, bt147.2))) else (if x10 = 1 then (digits_Pack.j1 k x0 x1 (x10 == 1)) else (if x10 = 4 then (digits_Pack.j1 k x0 x1 (x10 == 4)) else (digits_Pack.j1 k x0 x1 (x10 == 5))))
def digits_Pack.j1 : Nat → Int → ByteArray → Bool → Option (ByteArray × Int)
  | 0, _, _, _ => none
  | k + 1, x0, x1, x19 => if x19 = true then (if 0 ≤ (x1.size : Int) then (if ((x1.size : Int) : Int).toNat ≤ 281474976710656 then (digits_Pack.l0 k x0 x1 (([] : List Int)) (x1.size : Int) 0) else (none)) else (none)) else (some ((⟨#[]⟩ : ByteArray), 1))
def digits_Pack.l0 : Nat → Int → ByteArray → List Int → Int → Int → Option (ByteArray × Int)
  | 0, _, _, _, _, _ => none
  | k + 1, x0, x1, x6, x27, x28 => if x28 < x27 then (if 0 ≤ x28 then (if x28 < (x1.size : Int) then ((digits_written.f x0 (bt x1 x28)).bind fun bt152 => (if bt152.2 = true then (if x6.length < 140737488355328 then (digits_Pack.l0 k x0 x1 (x6 ++ [bt152.1]) x27 (wrap64 (x28 + 1))) else (none)) else (some ((⟨#[]⟩ : ByteArray), 11)))) else (none)) else (none)) else (some (strOfNums x6, 0))
end
def digits_Pack.f (k : Nat) (a0 : Int) (a1 : ByteArray) : Option (ByteArray × Int) := if a0 = 2 then (digits_Pack.j0 k a0 a1 a0 (a0 == 2)) else (digits_Pack.j0 k a0 a1 a0 (a0 == 3))
theorem digits_Pack.mono_l : ∀ k, (∀ y0 y1 y2 y3, LeO (digits_Pack.j0 k y0 y1 y2 y3) (digits_Pack.j0 (k + 1) y0 y1 y2 y3)) ∧ (∀ y0 y1 y2, LeO (digits_Pack.j1 k y0 y1 y2) (digits_Pack.j1 (k + 1) y0 y1 y2)) ∧ (∀ y0 y1 y2 y3 y4, LeO (digits_Pack.l0 k y0 y1 y2 y3 y4) (digits_Pack.l0 (k + 1) y0 y1 y2 y3 y4))
  | 0 => ⟨fun _ _ _ _ r h => by simp [digits_Pack.j0] at h, fun _ _ _ r h => by simp [digits_Pack.j1] at h, fun _ _ _ _ _ r h => by simp [digits_Pack.l0] at h⟩
  | k + 1 => by
    obtain ⟨ih0, ih1, ih2⟩ := digits_Pack.mono_l k
    refine ⟨?_, ?_, ?_⟩
    · intro y0 y1 y2 y3
      unfold digits_Pack.j0
      repeat' first
      | (with_reducible exact ih0 _ _ _ _)
      | (with_reducible exact ih1 _ _ _)
      | (with_reducible exact ih2 _ _ _ _ _)
      | (with_reducible exact digits_packHalves.mono _ _ _)
      | (with_reducible exact LeO.refl _)
      | (with_reducible exact LeO.none _)
      | (with_reducible refine LeO.ite ?_ ?_)
      | (with_reducible refine LeO.bind ?_ (fun _ => ?_))
      | exact ih0 _ _ _ _
      | exact ih1 _ _ _
      | exact ih2 _ _ _ _ _
      | exact digits_packHalves.mono _ _ _
      | exact LeO.none _
      | refine LeO.ite ?_ ?_
      | refine LeO.bind ?_ (fun _ => ?_)
    · intro y0 y1 y2
      unfold digits_Pack.j1
      repeat' first
      | (with_reducible exact ih0 _ _ _ _)
      | (with_reducible exact ih1 _ _ _)
      | (with_reducible exact ih2 _ _ _ _ _)
      | (with_reducible exact digits_packHalves.mono _ _ _)
      | (with_reducible exact LeO.refl _)
      | (with_reducible exact LeO.none _)
      | (with_reducible refine LeO.ite ?_ ?_)
      | (with_reducible refine LeO.bind ?_ (fun _ => ?_))
      | exact ih0 _ _ _ _
      | exact ih1 _ _ _
      | exact ih2 _ _ _ _ _
      | exact digits_packHalves.mono _ _ _
      | exact LeO.none _
      | refine LeO.ite ?_ ?_
      | refine LeO.bind ?_ (fun _ => ?_)
    · intro y0 y1 y2 y3 y4
      unfold digits_Pack.l0
      repeat' first
      | (with_reducible exact ih0 _ _ _ _)
      | (with_reducible exact ih1 _ _ _)
      | (with_reducible exact ih2 _ _ _ _ _)
      | (with_reducible exact digits_packHalves.mono _ _ _)
      | (with_reducible exact LeO.refl _)
      | (with_reducible exact LeO.none _)
      | (with_reducible refine LeO.ite ?_ ?_)
      | (with_reducible refine LeO.bind ?_ (fun _ => ?_))
      | exact ih0 _ _ _ _
      | exact ih1 _ _ _
      | exact ih2 _ _ _ _ _
      | exact digits_packHalves.mono _ _ _
      | exact LeO.none _
      | refine LeO.ite ?_ ?_
      | refine LeO.bind ?_ (fun _ => ?_)
theorem digits_Pack.mono : ∀ a0 a1 k, LeO (digits_Pack.f k a0 a1) (digits_Pack.f (k + 1) a0 a1) := by
  intro a0 a1 k
  obtain ⟨ih0, ih1, ih2⟩ := digits_Pack.mono_l k
  unfold digits_Pack.f
  repeat' first
      | (with_reducible exact ih0 _ _ _ _)
      | (with_reducible exact ih1 _ _ _)
      | (with_reducible exact ih2 _ _ _ _ _)
      | (with_reducible exact digits_packHalves.mono _ _ _)
      | (with_reducible exact LeO.refl _)
      | (with_reducible exact LeO.none _)
      | (with_reducible refine LeO.ite ?_ ?_)
      | (with_reducible refine LeO.bind ?_ (fun _ => ?_))
      | exact ih0 _ _ _ _
      | exact ih1 _ _ _
      | exact ih2 _ _ _ _ _
      | exact digits_packHalves.mono _ _ _
      | exact LeO.none _
      | refine LeO.ite ?_ ?_
      | refine LeO.bind ?_ (fun _ => ?_)
set_option maxHeartbeats 8000000 in
set_option maxRecDepth 100000 in
theorem digits_Pack.calls (k : Nat) (a0 : Int) (a1 : ByteArray) (r1 : ByteArray) (r2 : Int) (w : World) (h : digits_Pack.f k a0 a1 = some (r1, r2)) :
    Calls Try.prog 32 #[.int .i64 a0, .string a1] w fun e w' => e = .returned (.tuple #[.string r1, .int .i64 r2]) ∧ Below w.heap.size w w' := by
  have HB := Aside0.mk (Below.refl w.heap.size w)
  have H : (if a0 = 2 then (digits_Pack.j0 k a0 a1 a0 (a0 == 2)) else (digits_Pack.j0 k a0 a1 a0 (a0 == 3))) = some (r1, r2) := h
  clear h
  have HC3 := Aside0.mk H
  clear H
  go_enter Try.func32, Try.ntmps32
  go_upto_if 11 with (fail)
  go_cut [11] (fun v11 wc => ∃ (kq : Nat) (x11_2 : Bool), v11 = .bool x11_2 ∧ Aside0 (digits_Pack.j0 kq a0 a1 a0 x11_2 = some (r1, r2)) ∧ Aside0 (kq ≤ k) ∧ Aside0 (Below w.heap.size w wc))
  case first =>
    have H := HC3.out
    clear HC3
    by_cases c4 : a0 = 2
    · rw [if_pos c4] at H
      have c4b0 : (a0 == 2) = true := beq_iff_eq.mpr c4
      have c4b1 : (a0 != 2) = false := bne_eq_false_iff_eq.mpr c4
      clear c4
      (first | rw [c4b0] | (simp only [i64_w, i32_w]; rw [c4b0]) | skip)
      have H' := Aside0.mk H
      clear H
      go_wp2
      go_meet
      case rel => exact ⟨_, ((a0 == 2)), (by first | rfl | (simp; done) | (simp [*]; done)), H', ⟨by first | omega | exact Nat.le_refl _⟩, ⟨by repeat (first | (with_reducible first | exact HB.out | apply below_alloc | apply pw_below_drewN | apply below_drew1) | exact HB.out)⟩⟩
    · rw [if_neg c4] at H
      have c4b0 : (a0 == 2) = false := beq_eq_false_iff_ne.mpr c4
      have c4b1 : (a0 != 2) = true := bne_iff_ne.mpr c4
      (first | rw [c4b0] | (simp only [i64_w, i32_w]; rw [c4b0]) | skip)
      have H' := Aside0.mk H
      clear H
      go_wp2
      go_meet
      case rel => exact ⟨_, ((a0 == 3)), (by first | rfl | (simp; done) | (simp [*]; done)), H', ⟨by first | omega | exact Nat.le_refl _⟩, ⟨by repeat (first | (with_reducible first | exact HB.out | apply below_alloc | apply pw_below_drewN | apply below_drew1) | exact HB.out)⟩⟩
  case rest =>
    clear HC3
    try clear p2
    try clear c3
    try clear c4
    try clear c4b0
    try clear c4b1
    obtain ⟨kq, x11_2, rfl, HA, HJ2, HB⟩ := hcut
    cases kq with
    | zero => exact absurd HA.out (by simp [digits_Pack.j0])
    | succ kj2 =>
      have H := HA.out
      clear HA
      simp only [digits_Pack.j0] at H
      by_cases c5 : x11_2 = true
      · subst c5
        have H1 : ((digits_packHalves.f kj2 a0 a1).bind fun bt147 => (some (bt147.1, bt147.2))) = some (r1, r2) := by rw [if_pos rfl] at H; exact H
        clear H
        have H := H1
        clear H1
        replace H := Option.bind_eq_some_iff.mp H
        obtain ⟨⟨t147, t148⟩, A60, H⟩ := H
        replace H : (some (t147, t148)) = some (r1, r2) := H
        have A6 := Aside0.mk A60
        clear A60
        simp only [Option.some.injEq, Prod.mk.injEq] at H
        obtain ⟨rfl, rfl⟩ := H
        go_wp2_with (first | ((with_reducible refine gate_callee (f := 49) rfl ?_); refine goesL_ (some 16) rfl rfl Try.func49 (by kernel_rfl) rfl #[.int .i64 a0, .string a1] rfl (by (try simp only [List.map_toArray, List.map_cons, List.map_nil]); first | done | rfl | (simp only [List.length_drop, List.length_take]; rfl)) ?_; (with_reducible refine (digits_packHalves.calls kj2 a0 a1 t147 t148 _ A6.out).mono ?_); rintro e w7 ⟨rfl, hb⟩; refine ⟨_, rfl, ?_⟩; have n0_ := Aside0.mk (below_step (by repeat (first | (with_reducible first | exact HB.out | apply below_alloc | apply pw_below_drewN | apply below_drew1) | exact HB.out)) hb); clear HB; have HB := n0_; clear n0_; (try clear hb); (try clear hb2); (try clear hk); (try clear hi)))
        go_ret2
        exact ⟨by first | rfl | (simp [errW_none, errW_some] <;> rfl) | (simp [*, errW_none, errW_some] <;> rfl), by repeat (first | (with_reducible first | exact HB.out | apply below_alloc | apply pw_below_drewN | apply below_drew1) | exact HB.out)⟩
      · replace c5 := Bool.eq_false_iff.mpr c5
        subst c5
        have H1 : (if a0 = 1 then (digits_Pack.j1 kj2 a0 a1 (a0 == 1)) else (if a0 = 4 then (digits_Pack.j1 kj2 a0 a1 (a0 == 4)) else (digits_Pack.j1 kj2 a0 a1 (a0 == 5)))) = some (r1, r2) := by rw [if_neg (show ¬ (false = true) by decide)] at H; exact H
        clear H
        have H := H1
        clear H1
        have HC8 := Aside0.mk H
        clear H
        go_upto_if 19 with (fail)
        go_cut [19] (fun v19 wc => ∃ (kq : Nat) (x19_7 : Bool), v19 = .bool x19_7 ∧ Aside0 (digits_Pack.j1 kq a0 a1 x19_7 = some (r1, r2)) ∧ Aside0 (kq ≤ kj2) ∧ Aside0 (Below w.heap.size w wc))
        case first =>
          have H := HC8.out
          clear HC8
          by_cases c9 : a0 = 1
          · rw [if_pos c9] at H
            have c9b0 : (a0 == 1) = true := beq_iff_eq.mpr c9
            have c9b1 : (a0 != 1) = false := bne_eq_false_iff_eq.mpr c9
            clear c9
            (first | rw [c9b0] | (simp only [i64_w, i32_w]; rw [c9b0]) | skip)
            have H' := Aside0.mk H
            clear H
            go_wp2
            go_meet
            case rel => exact ⟨_, ((a0 == 1)), (by first | rfl | (simp; done) | (simp [*]; done)), H', ⟨by have := HJ2.out; first | omega | exact Nat.le_refl _⟩, ⟨by repeat (first | (with_reducible first | exact HB.out | apply below_alloc | apply pw_below_drewN | apply below_drew1) | exact HB.out)⟩⟩
          · rw [if_neg c9] at H
            have c9b0 : (a0 == 1) = false := beq_eq_false_iff_ne.mpr c9
            have c9b1 : (a0 != 1) = true := bne_iff_ne.mpr c9
            (first | rw [c9b0] | (simp only [i64_w, i32_w]; rw [c9b0]) | skip)
            by_cases c10 : a0 = 4
            · rw [if_pos c10] at H
              have c10b0 : (a0 == 4) = true := beq_iff_eq.mpr c10
              have c10b1 : (a0 != 4) = false := bne_eq_false_iff_eq.mpr c10
              clear c10
              have H' := Aside0.mk H
              clear H
              go_wp2
              go_meet
              case rel => exact ⟨_, ((a0 == 4)), (by first | rfl | (simp; done) | (simp [*]; done)), H', ⟨by have := HJ2.out; first | omega | exact Nat.le_refl _⟩, ⟨by repeat (first | (with_reducible first | exact HB.out | apply below_alloc | apply pw_below_drewN | apply below_drew1) | exact HB.out)⟩⟩
            · rw [if_neg c10] at H
              have c10b0 : (a0 == 4) = false := beq_eq_false_iff_ne.mpr c10
              have c10b1 : (a0 != 4) = true := bne_iff_ne.mpr c10
              have H' := Aside0.mk H
              clear H
              go_wp2
              go_meet
              case rel => exact ⟨_, ((a0 == 5)), (by first | rfl | (simp; done) | (simp [*]; done)), H', ⟨by have := HJ2.out; first | omega | exact Nat.le_refl _⟩, ⟨by repeat (first | (with_reducible first | exact HB.out | apply below_alloc | apply pw_below_drewN | apply below_drew1) | exact HB.out)⟩⟩
        case rest =>
          clear HC8
          try clear c1
          try clear p2
          try clear c3
          try clear c4
          try clear c4b0
          try clear c4b1
          try clear c5
          try clear c9
          try clear c9b0
          try clear c9b1
          try clear c10
          try clear c10b0
          try clear c10b1
          try clear p2
          obtain ⟨kq, x19_7, rfl, HA, HJ7, HB⟩ := hcut
          cases kq with
          | zero => exact absurd HA.out (by simp [digits_Pack.j1])
          | succ kj7 =>
            have H := HA.out
            clear HA
            simp only [digits_Pack.j1] at H
            by_cases c11 : x19_7 = true
            · subst c11
              have H1 : (if 0 ≤ (a1.size : Int) then (if ((a1.size : Int) : Int).toNat ≤ 281474976710656 then (digits_Pack.l0 kj7 a0 a1 (([] : List Int)) (a1.size : Int) 0) else (none)) else (none)) = some (r1, r2) := by rw [if_pos rfl] at H; exact H
              clear H
              have H := H1
              clear H1
              by_cases c12 : 0 ≤ (a1.size : Int)
              · rw [if_pos c12] at H
                have c12b0 := eq_true c12
                have c12b1 : decide (0 ≤ (a1.size : Int)) = true := decide_eq_true c12
                clear c12
                by_cases c13 : ((a1.size : Int) : Int).toNat ≤ 281474976710656
                · rw [if_pos c13] at H
                  have c13b0 := eq_true c13
                  have c13b1 : decide (((a1.size : Int) : Int).toNat ≤ 281474976710656) = true := decide_eq_true c13
                  clear c13
                  obtain ⟨y149, hy149⟩ : ∃ y_ : List Int, y_ = (([] : List Int)) := ⟨_, rfl⟩
                  replace H : (digits_Pack.l0 kj7 a0 a1 y149 (a1.size : Int) 0) = some (r1, r2) := by first | (rw [hy149]; with_reducible exact H) | (have H2_ := (Option.bind_some _ _).symm.trans H; rw [hy149]; with_reducible exact H2_) | (have H2_ := (Option.bind_some _ _).symm.trans H; with_reducible exact H2_) | with_reducible exact H | (rw [hy149]; exact H) | exact H
                  have Ny149 := Aside0.mk hy149
                  clear hy149
                  have H' := Aside0.mk H
                  clear H
                  go_wp2_with (first | ((with_reducible refine gate_dst (N := 25) rfl ?_); refine Kd.R_makecap (Kd.int .u8) _ 5 rfl (N := 25) rfl 51 _ _ rfl (a1.size : Int) rfl rfl Try.underlying51 (.int .u8 0) 1 info5 rfl (by decide) (by omega) (ok := fun _ => True) trivial (of_decide_eq_true (by first | (with_reducible assumption) | assumption)) (Nat.le_trans (Nat.mul_le_mul_right _ (of_decide_eq_true (by first | (with_reducible assumption) | assumption) : (a1.size : Int).toNat ≤ 281474976710656)) (by omega)) (Below.refl _ _) (Nat.le_refl _) ?_; intro v150 w14 ho15 hb hg_ hnew_; clear hg_ hnew_; (first | rw [← Ny149.out] at ho15 | (simp only [Int.reduceToNat] at ho15; rw [← Ny149.out] at ho15)); have n0_ := Aside0.mk (Kd.R_lower ho15 (below_size (by repeat (first | (with_reducible first | exact HB.out | apply below_alloc | apply pw_below_drewN | apply below_drew1) | exact HB.out)))); have n1_ := Aside0.mk (below_step (by repeat (first | (with_reducible first | exact HB.out | apply below_alloc | apply pw_below_drewN | apply below_drew1) | exact HB.out)) hb); clear HB; have HO151 := n0_; have HB := n1_; clear n0_ n1_; clear hb ho15))
                  go_loopg [6, 28] kj7 (fun kq v6 v28 w' => ∃ (x6_3 : List Int) (x28_3 : Int), v28 = .int .i64 x28_3 ∧ Aside0 (digits_Pack.l0 kq a0 a1 x6_3 (a1.size : Int) x28_3 = some (r1, r2)) ∧ Aside0 (kq ≤ kj7) ∧ Aside0 (Kd.R (Kd.int .u8) 5 w' w.heap.size (fun _ => True) v6 x6_3) ∧ Aside0 (Below w.heap.size w w'))
                  case atStart => exact ⟨(y149), (0), (by first | rfl | (simp; done) | (simp [*]; done)), H', ⟨Nat.le_refl _⟩, ⟨by (with_reducible repeat (first | apply Kd.R_alloc | apply Kd.R_drewN | apply Kd.R_drew)); exact HO151.out⟩, ⟨by repeat (first | (with_reducible first | exact HB.out | apply below_alloc | apply pw_below_drewN | apply below_drew1) | exact HB.out)⟩⟩
                  case round =>
                    clear H'
                    try clear c1
                    try clear p2
                    try clear c3
                    try clear c4
                    try clear c4b0
                    try clear c4b1
                    try clear c5
                    try clear c9
                    try clear c9b0
                    try clear c9b1
                    try clear c10
                    try clear c10b0
                    try clear c10b1
                    try clear c11
                    try clear c12
                    try clear c12b0
                    try clear c12b1
                    try clear c13
                    try clear c13b0
                    try clear c13b1
                    try clear p2
                    obtain ⟨x6_3, x28_3, rfl, HA, HK3, HO_6, HB⟩ := hrel
                    cases gk with
                    | zero => exact absurd HA.out (by simp [digits_Pack.l0])
                    | succ k3 =>
                      have H := HA.out
                      clear HA
                      simp only [digits_Pack.l0] at H
                      by_cases c16 : x28_3 < (a1.size : Int)
                      · rw [if_pos c16] at H
                        have c16b0 : decide (x28_3 < (a1.size : Int)) = true := decide_eq_true c16
                        clear c16
                        by_cases c17 : 0 ≤ x28_3
                        · rw [if_pos c17] at H
                          have c17b0 : decide (0 ≤ x28_3) = true := decide_eq_true c17
                          clear c17
                          by_cases c18 : x28_3 < (a1.size : Int)
                          · rw [if_pos c18] at H
                            have c18b0 : decide (x28_3 < (a1.size : Int)) = true := decide_eq_true c18
                            clear c18
                            replace H := Option.bind_eq_some_iff.mp H
                            obtain ⟨⟨t152, t153⟩, A200, H⟩ := H
                            replace H : (if t153 = true then (if x6_3.length < 140737488355328 then (digits_Pack.l0 k3 a0 a1 (x6_3 ++ [t152]) (a1.size : Int) (wrap64 (x28_3 + 1))) else (none)) else (some ((⟨#[]⟩ : ByteArray), 11))) = some (r1, r2) := H
                            have A20 := Aside0.mk A200
                            clear A200
                            by_cases c21 : t153 = true
                            · subst c21
                              have H1 : (if x6_3.length < 140737488355328 then (digits_Pack.l0 k3 a0 a1 (x6_3 ++ [t152]) (a1.size : Int) (wrap64 (x28_3 + 1))) else (none)) = some (r1, r2) := by rw [if_pos rfl] at H; exact H
                              clear H
                              have H := H1
                              clear H1
                              by_cases c22 : x6_3.length < 140737488355328
                              · rw [if_pos c22] at H
                                have LMc22 := Aside0.mk c22
                                clear c22
                                obtain ⟨y154, hy154⟩ : ∃ y_ : List Int, y_ = (x6_3 ++ [t152]) := ⟨_, rfl⟩
                                replace H : (digits_Pack.l0 k3 a0 a1 y154 (a1.size : Int) (wrap64 (x28_3 + 1))) = some (r1, r2) := by first | (rw [hy154]; with_reducible exact H) | (have H2_ := (Option.bind_some _ _).symm.trans H; rw [hy154]; with_reducible exact H2_) | (have H2_ := (Option.bind_some _ _).symm.trans H; with_reducible exact H2_) | with_reducible exact H | (rw [hy154]; exact H) | exact H
                                have Ny154 := Aside0.mk hy154
                                clear hy154
                                have H' := Aside0.mk H
                                clear H
                                have p19 : 0 ≤ (x28_3 : Int) := of_decide_eq_true (by first | (with_reducible assumption) | assumption)
                                have q19 : x28_3 < (a1.size : Int) := of_decide_eq_true (by first | (with_reducible assumption) | assumption)
                                have hx19 := bt_at a1 x28_3
                                replace p19 := eq_true p19
                                replace q19 := eq_true q19
                                go_wp2_with (first | ((with_reducible refine gate_callee (f := 50) rfl ?_); refine goesL_ (some 36) rfl rfl Try.func50 (by kernel_rfl) rfl #[.int .i64 a0, .int .u8 (bt a1 x28_3)] rfl (by (try simp only [List.map_toArray, List.map_cons, List.map_nil]); first | done | rfl | (simp only [List.length_drop, List.length_take]; rfl)) ?_; (with_reducible refine (digits_written.calls a0 (bt a1 x28_3) t152 true _ A20.out).mono ?_); rintro e w23 ⟨rfl, hb⟩; refine ⟨_, rfl, ?_⟩; have n0_ := Aside0.mk (Kd.R_below (by (with_reducible repeat (first | apply Kd.R_alloc | apply Kd.R_drewN | apply Kd.R_drew)); exact HO_6.out) hb); have n1_ := Aside0.mk (below_step (by repeat (first | (with_reducible first | exact HB.out | apply below_alloc | apply pw_below_drewN | apply below_drew1) | exact HB.out)) hb); clear HO_6; clear HB; have HO_6 := n0_; have HB := n1_; clear n0_ n1_; (try clear hb); (try clear hb2); (try clear hk); (try clear hi)) | ((with_reducible refine gate_builtin (b := .append) (xs := #[.tmp 41, .tmp 43]) rfl ?_); at_builtin; refine Kd.R_append (Kd.int .u8) (w0 := w) w.heap.size rfl (.tmp 41) (.tmp 43) 51 5 (.int .u8 0) 1 rfl Try.underlying51 info5 rfl (by decide) (by omega) u6 x6_3 t152 [.int .u8 t152] (fun _ => True) (fun _ => False) rfl rfl ?aP (fun _ hk => hk.elim) ?aF ?aO ?aB ?aS ?aL ?_; (case aP => exact rfl); (case aB => exact (by repeat (first | (with_reducible first | exact HB.out | apply below_alloc | apply pw_below_drewN | apply below_drew1) | exact HB.out))); (case aF => exact (fun _ _ => trivial)); (case aO => exact (by (with_reducible repeat (first | apply Kd.R_alloc | apply Kd.R_drewN | apply Kd.R_drew)); exact HO_6.out)); (case aS => exact (below_size (by repeat (first | (with_reducible first | exact HB.out | apply below_alloc | apply pw_below_drewN | apply below_drew1) | exact HB.out)))); (case aL => have := LMc22.out; omega); intro v155 w24 ho hb hg hat; rw [← Ny154.out] at ho; have n0_ := Aside0.mk (hb); have n1_ := Aside0.mk (ho); clear HB; clear HO_6; have HB := n0_; have HO156 := n1_; clear n0_ n1_; clear ho hb hg hat))
                                go_roundg k3
                                case measure => have := HJ2.out; have := HJ7.out; have := HK3.out; omega
                                case rel => exact ⟨(y154), (wrap64 (x28_3 + 1)), (by first | rfl | (simp; done) | (simp [*]; done)), H', ⟨by have := HJ2.out; have := HJ7.out; have := HK3.out; omega⟩, ⟨by (with_reducible repeat (first | apply Kd.R_alloc | apply Kd.R_drewN | apply Kd.R_drew)); exact HO156.out⟩, ⟨by repeat (first | (with_reducible first | exact HB.out | apply below_alloc | apply pw_below_drewN | apply below_drew1) | exact HB.out)⟩⟩
                              · rw [if_neg c22] at H
                                exact absurd H (by simp)
                            · replace c21 := Bool.eq_false_iff.mpr c21
                              subst c21
                              have H1 : (some ((⟨#[]⟩ : ByteArray), 11)) = some (r1, r2) := by rw [if_neg (show ¬ (false = true) by decide)] at H; exact H
                              clear H
                              have H := H1
                              clear H1
                              simp only [Option.some.injEq, Prod.mk.injEq] at H
                              obtain ⟨rfl, rfl⟩ := H
                              have p19 : 0 ≤ (x28_3 : Int) := of_decide_eq_true (by first | (with_reducible assumption) | assumption)
                              have q19 : x28_3 < (a1.size : Int) := of_decide_eq_true (by first | (with_reducible assumption) | assumption)
                              have hx19 := bt_at a1 x28_3
                              replace p19 := eq_true p19
                              replace q19 := eq_true q19
                              go_wp2_with (first | ((with_reducible refine gate_callee (f := 50) rfl ?_); refine goesL_ (some 36) rfl rfl Try.func50 (by kernel_rfl) rfl #[.int .i64 a0, .int .u8 (bt a1 x28_3)] rfl (by (try simp only [List.map_toArray, List.map_cons, List.map_nil]); first | done | rfl | (simp only [List.length_drop, List.length_take]; rfl)) ?_; (with_reducible refine (digits_written.calls a0 (bt a1 x28_3) t152 false _ A20.out).mono ?_); rintro e w25 ⟨rfl, hb⟩; refine ⟨_, rfl, ?_⟩; have n0_ := Aside0.mk (Kd.R_below (by (with_reducible repeat (first | apply Kd.R_alloc | apply Kd.R_drewN | apply Kd.R_drew)); exact HO_6.out) hb); have n1_ := Aside0.mk (below_step (by repeat (first | (with_reducible first | exact HB.out | apply below_alloc | apply pw_below_drewN | apply below_drew1) | exact HB.out)) hb); clear HO_6; clear HB; have HO_6 := n0_; have HB := n1_; clear n0_ n1_; (try clear hb); (try clear hb2); (try clear hk); (try clear hi)))
                              go_ret2
                              exact ⟨by first | rfl | (simp [errW_none, errW_some] <;> rfl) | (simp [*, errW_none, errW_some] <;> rfl), by repeat (first | (with_reducible first | exact HB.out | apply below_alloc | apply pw_below_drewN | apply below_drew1) | exact HB.out)⟩
                          · rw [if_neg c18] at H
                            exact absurd H (by simp)
                        · rw [if_neg c17] at H
                          exact absurd H (by simp)
                      · rw [if_neg c16] at H
                        have c16b0 : decide (x28_3 < (a1.size : Int)) = false := decide_eq_false c16
                        clear c16
                        simp only [Option.some.injEq, Prod.mk.injEq] at H
                        obtain ⟨rfl, rfl⟩ := H
                        have hcv26 := own_string (P := Try.prog) Try.underlying51 Try.underlying5 Try.underlying9 (Kd.own_of_R HO_6.out)
                        go_wp2
                        go_ret2
                        exact ⟨by first | rfl | (simp [errW_none, errW_some] <;> rfl) | (simp [*, errW_none, errW_some] <;> rfl), by repeat (first | (with_reducible first | exact HB.out | apply below_alloc | apply pw_below_drewN | apply below_drew1) | exact HB.out)⟩
                · rw [if_neg c13] at H
                  exact absurd H (by simp)
              · rw [if_neg c12] at H
                exact absurd H (by simp)
            · replace c11 := Bool.eq_false_iff.mpr c11
              subst c11
              have H1 : (some ((⟨#[]⟩ : ByteArray), 1)) = some (r1, r2) := by rw [if_neg (show ¬ (false = true) by decide)] at H; exact H
              clear H
              have H := H1
              clear H1
              simp only [Option.some.injEq, Prod.mk.injEq] at H
              obtain ⟨rfl, rfl⟩ := H
              go_wp2
              go_ret2
              exact ⟨by first | rfl | (simp [errW_none, errW_some] <;> rfl) | (simp [*, errW_none, errW_some] <;> rfl), by repeat (first | (with_reducible first | exact HB.out | apply below_alloc | apply pw_below_drewN | apply below_drew1) | exact HB.out)⟩

end Go.Proofs.Ytlpamhffpgoebaa.All

/- Plain lemmas on whole numbers, bytes and rounds that the pure statements of the digits seat share. No condition of their own. -/
namespace Go.Proofs.Ytlpamhffpgoebaa.Pure
open Go.RowKit Go.Proofs.YtlpamhffpgoebaaW.PrintWords Go.Proofs.YtlpamhffpgoebaaW.PrintLast Go.Proofs.YtlpamhffpgoebaaW.PrintMore

theorem wf64 {n : Int} (h : (Lit.int .i64 n).wf = true) : -9223372036854775808 ≤ n ∧ n ≤ 9223372036854775807 := by
  exact bounds_i64 h
theorem w64 {n : Int} (h : -9223372036854775808 ≤ n ∧ n ≤ 9223372036854775807) : wrap64 n = n := by
  unfold wrap64
  omega
/-- both tell the same, with enough rounds -/
def Same {α : Type} (g f : Nat → Option α) : Prop := ∃ r, Ev g r ∧ Ev f r
theorem Same.of {α : Type} {g f : Nat → Option α} {r : α} (h : Ev g r) (k : Ev f r) : Same g f := ⟨r, h, k⟩
theorem Same.step {α : Type} {g f g' f' : Nat → Option α} (hg : ∀ k, g (k + 1) = g' k) (hf : ∀ k, f (k + 1) = f' k) (h : Same g' f') : Same g f := by
  obtain ⟨r, h1, h2⟩ := h
  exact ⟨r, Ev.step hg h1, Ev.step hf h2⟩
theorem Ev.eq {α : Type} {g : Nat → Option α} {r s : α} (h : Ev g r) (k : Ev g s) : r = s := by
  obtain ⟨a, ha⟩ := h
  obtain ⟨b, hb⟩ := k
  have h1 := ha (max a b) (Nat.le_max_left _ _)
  rw [hb (max a b) (Nat.le_max_right _ _)] at h1
  exact (Option.some.inj h1).symm
theorem ev_some {α : Type} {g : Nat → Option α} {r : α} (h : ∀ k, g k = some r) : Ev g r := ⟨0, fun k _ => h k⟩
theorem evb {α β : Type} {g : Nat → Option α} {f : Nat → α → Option β} {a : α} {r : β} (h : Ev g a) (k : Ev (fun n => f n a) r) : Ev (fun n => (g n).bind (f n)) r := Ev.bind h k
theorem bt_lo (s : ByteArray) (i : Int) : 0 ≤ bt s i := (bt_range s i).1
theorem bt_hi (s : ByteArray) (i : Int) : bt s i ≤ 255 := (bt_range s i).2
end Go.Proofs.Ytlpamhffpgoebaa.Pure

/- Pack of digits, told with enough rounds as a plain function on lists of numbers. Condition: a text that an append in the model can bear. -/
namespace Go.Proofs.Ytlpamhffpgoebaa.Pure
open Go.RowKit Go.Proofs.Ytlpamhffpgoebaa.All Go.Proofs.YtlpamhffpgoebaaW.PrintWords Go.Proofs.YtlpamhffpgoebaaW.PrintLast Go.Proofs.YtlpamhffpgoebaaW.PrintMore

theorem dropBt (s : ByteArray) (i : Nat) (h : i < s.size) : (bytesOf s).drop i = bt s i :: (bytesOf s).drop (i + 1) := by
  have hl : i < (bytesOf s).length := by rw [bytesOf_length]; exact h
  rw [List.drop_eq_getElem_cons hl]
  congr 1
  rw [← rd_bytesOf s i]
  simp [rd, List.getD, List.getElem?_eq_getElem hl]
theorem dropAll (s : ByteArray) (i : Nat) (h : s.size ≤ i) : (bytesOf s).drop i = [] := by
  rw [List.drop_eq_nil_iff, bytesOf_length]; exact h
theorem bytesRange (s : ByteArray) : ∀ x ∈ bytesOf s, 0 ≤ x ∧ x ≤ 255 := by
  intro x hx
  unfold bytesOf at hx
  obtain ⟨b, _, rfl⟩ := List.mem_map.1 hx
  have := b.toNat_lt
  omega
theorem bitsOr16 (a b : Int) (ha : 0 ≤ a ∧ a < 16) (hb : 0 ≤ b ∧ b < 16) : Go.bits .or .u8 ((a * 16) % 256) b = 16 * a + b := by
  have : ∀ e f : Fin 16, Go.bits .or .u8 (((e.val : Int) * 16) % 256) (f.val : Int) = 16 * (e.val : Int) + (f.val : Int) := by decide +kernel
  have h := this ⟨a.toNat, by omega⟩ ⟨b.toNat, by omega⟩
  simp only [show ((a.toNat : Nat) : Int) = a by omega, show ((b.toNat : Nat) : Int) = b by omega] at h
  exact h

/-- f of each, if each has one -/
def mapO (f : Int → Option Int) : List Int → Option (List Int)
  | [] => some []
  | c :: r => (f c).bind fun v => (mapO f r).map (v :: ·)
def packEnd (xs : List Int) : Option (List Int) → ByteArray × Int
  | none => ((⟨#[]⟩ : ByteArray), 11)
  | some vs => (strOfNums (xs ++ vs), 0)
theorem packEnd_cons (f : Int → Option Int) (c v : Int) (r xs : List Int) (h : f c = some v) : packEnd xs (mapO f (c :: r)) = packEnd (xs ++ [v]) (mapO f r) := by
  simp only [mapO, h, Option.bind_some]
  cases mapO f r <;> simp [packEnd]
theorem packEnd_none (f : Int → Option Int) (c : Int) (r xs : List Int) (h : f c = none) : packEnd xs (mapO f (c :: r)) = ((⟨#[]⟩ : ByteArray), 11) := by
  simp [mapO, h, packEnd]

/-- the byte of a character, of ASCII, EBCDIC, BINARY -/
def wr (enc c : Int) : Option Int := if enc = 5 then some c else if c < 32 then none else if c > 126 then none else if enc = 4 then some (rd ebL (c - 32)) else some c
theorem written_is (enc c : Int) : digits_written.f enc c = some (match wr enc c with | some v => (v, true) | none => (0, false)) := by
  unfold digits_written.f wr
  by_cases c1 : enc = 5
  · rw [if_pos c1, if_pos c1]
  · rw [if_neg c1, if_neg c1]
    by_cases c2 : c < 32
    · rw [if_pos c2, if_pos c2]
    · rw [if_neg c2, if_neg c2]
      by_cases c3 : c > 126
      · rw [if_pos c3, if_pos c3]
      · rw [if_neg c3, if_neg c3]
        by_cases c4 : enc = 4
        · rw [if_pos c4, if_pos c4]
        · rw [if_neg c4, if_neg c4]

theorem pack_l0 (enc : Int) (s : ByteArray) (hs : s.size ≤ 140737488355300) : ∀ (d i : Nat) (xs : List Int), i + d = s.size → xs.length = i →
    Ev (fun k => digits_Pack.l0 k enc s xs (s.size : Int) (i : Int)) (packEnd xs (mapO (wr enc) ((bytesOf s).drop i))) := by
  intro d
  induction d with
  | zero =>
    intro i xs hi hx
    rw [dropAll s i (by omega)]
    refine Ev.step (f := fun _ => some (packEnd xs (mapO (wr enc) []))) (fun k => ?_) (Ev.now _)
    simp only [digits_Pack.l0]; rw [if_neg (by omega)]; simp [packEnd, mapO]
  | succ d ih =>
    intro i xs hi hx
    rw [dropBt s i (by omega)]
    have q1 : (i : Int) < (s.size : Int) := by omega
    have q2 : (0 : Int) ≤ (i : Int) := by omega
    cases hw : wr enc (bt s (i : Int)) with
    | none =>
      rw [packEnd_none _ _ _ _ hw]
      refine Ev.step (f := fun _ => some ((⟨#[]⟩ : ByteArray), 11)) (fun k => ?_) (Ev.now _)
      simp only [digits_Pack.l0, written_is, hw]; rw [if_pos q1, if_pos q2, if_pos q1]; rfl
    | some v =>
      rw [packEnd_cons _ _ v _ _ hw]
      refine Ev.step (fun k => ?_) (ih (i + 1) (xs ++ [v]) (by omega) (by simp [hx]))
      simp only [digits_Pack.l0, written_is, hw]; rw [if_pos q1, if_pos q2, if_pos q1, w64 (by omega)]
      simp only [Option.bind_some, if_true]
      rw [if_pos (by omega)]
      rfl

/-! ### two characters a byte -/
/-- the half of a character -/
def halfS (c : Int) : Option Int := if c = 61 then some 13 else if c < 48 then none else if c > 57 then none else some (c - 48)
theorem halfS_range {c v : Int} (h : halfS c = some v) : 0 ≤ v ∧ v < 16 := by
  unfold halfS at h
  by_cases c1 : c = 61
  · rw [if_pos c1] at h; injection h; omega
  · rw [if_neg c1] at h
    by_cases c2 : c < 48
    · rw [if_pos c2] at h; cases h
    · rw [if_neg c2] at h
      by_cases c3 : c > 57
      · rw [if_pos c3] at h; cases h
      · rw [if_neg c3] at h; injection h; omega
theorem mapO_range : ∀ (cs vs : List Int), mapO halfS cs = some vs → ∀ v ∈ vs, 0 ≤ v ∧ v < 16
  | [], vs, h, v, hv => by simp [mapO] at h; subst h; cases hv
  | c :: r, vs, h, v, hv => by
    simp only [mapO] at h
    cases hc : halfS c with
    | none => rw [hc] at h; simp at h
    | some u =>
      rw [hc] at h
      simp only [Option.bind_some] at h
      cases hr : mapO halfS r with
      | none => rw [hr] at h; simp at h
      | some us =>
        rw [hr] at h
        simp only [Option.map_some, Option.some.injEq] at h
        subst h
        rcases List.mem_cons.1 hv with e | e
        · subst e; exact halfS_range hc
        · exact mapO_range r us hr v e
def pairs : List Int → List Int
  | a :: b :: r => (16 * a + b) :: pairs r
  | _ => []
def padL (l : List Int) : List Int := if l.length % 2 = 1 then l ++ [15] else l
def halfEnd (xs : List Int) : Option (List Int) → ByteArray × Int
  | none => ((⟨#[]⟩ : ByteArray), 11)
  | some vs => (strOfNums (pairs (padL (xs ++ vs))), 0)
theorem halfEnd_cons (c v : Int) (r xs : List Int) (h : halfS c = some v) : halfEnd xs (mapO halfS (c :: r)) = halfEnd (xs ++ [v]) (mapO halfS r) := by
  simp only [mapO, h, Option.bind_some]
  cases mapO halfS r <;> simp [halfEnd]
theorem halfEnd_none (c : Int) (r xs : List Int) (h : halfS c = none) : halfEnd xs (mapO halfS (c :: r)) = ((⟨#[]⟩ : ByteArray), 11) := by
  simp [mapO, h, halfEnd]
theorem dropTwo (l : List Int) (i : Nat) (h : i + 1 < l.length) : l.drop i = rd l (i : Int) :: rd l ((i + 1 : Nat) : Int) :: l.drop (i + 2) := by
  have h0 : i < l.length := by omega
  rw [List.drop_eq_getElem_cons h0, List.drop_eq_getElem_cons h]
  simp [rd, List.getD, List.getElem?_eq_getElem h0, List.getElem?_eq_getElem h]
theorem rdRange (l : List Int) (hr : ∀ v ∈ l, 0 ≤ v ∧ v < 16) (i : Nat) (h : i < l.length) : 0 ≤ rd l (i : Int) ∧ rd l (i : Int) < 16 := by
  have : rd l (i : Int) = l[i] := by simp [rd, List.getD, List.getElem?_eq_getElem h]
  rw [this]
  exact hr _ (List.getElem_mem h)

theorem halves_l1 (l : List Int) (hl : l.length ≤ 140737488355320) (hev : l.length % 2 = 0) (hr : ∀ v ∈ l, 0 ≤ v ∧ v < 16) : ∀ (d j : Nat) (xs : List Int), 2 * j + 2 * d = l.length → xs.length = j →
    Ev (fun k => digits_packHalves.l1 k l xs ((2 * j : Nat) : Int)) (strOfNums (xs ++ pairs (l.drop (2 * j))), 0) := by
  intro d
  induction d with
  | zero =>
    intro j xs hj hx
    rw [List.drop_eq_nil_iff.2 (by omega)]
    refine Ev.step (f := fun _ => some (strOfNums (xs ++ pairs []), 0)) (fun k => ?_) (Ev.now _)
    simp only [digits_packHalves.l1]
    rw [if_neg (by omega)]
    simp [pairs]
  | succ d ih =>
    intro j xs hj hx
    rw [dropTwo l (2 * j) (by omega)]
    have ra := rdRange l hr (2 * j) (by omega)
    have rb := rdRange l hr (2 * j + 1) (by omega)
    have e : xs ++ pairs (rd l ((2 * j : Nat) : Int) :: rd l ((2 * j + 1 : Nat) : Int) :: l.drop (2 * j + 2)) = (xs ++ [16 * rd l ((2 * j : Nat) : Int) + rd l ((2 * j + 1 : Nat) : Int)]) ++ pairs (l.drop (2 * (j + 1))) := by
      simp [pairs]; rfl
    rw [e]
    refine Ev.step (fun k => ?_) (ih (j + 1) (xs ++ [16 * rd l ((2 * j : Nat) : Int) + rd l ((2 * j + 1 : Nat) : Int)]) (by omega) (by simp [hx]))
    have e1 : wrap64 (((2 * j : Nat) : Int) + 1) = ((2 * j + 1 : Nat) : Int) := by rw [w64 (by omega)]; omega
    have e2 : wrap64 (((2 * j : Nat) : Int) + 2) = ((2 * (j + 1) : Nat) : Int) := by rw [w64 (by omega)]; omega
    simp only [digits_packHalves.l1]
    rw [e1, e2, bitsOr16 _ _ ra rb, if_pos (by omega), if_pos (by omega), if_pos (by omega), if_pos (by omega), if_pos (by omega)]

theorem padL_len (l : List Int) : (padL l).length ≤ l.length + 1 := by
  unfold padL
  split
  · simp
  · omega
theorem padL_even (l : List Int) : (padL l).length % 2 = 0 := by
  unfold padL
  split
  · simp; omega
  · omega
theorem padL_range (l : List Int) (hr : ∀ v ∈ l, 0 ≤ v ∧ v < 16) : ∀ v ∈ padL l, 0 ≤ v ∧ v < 16 := by
  unfold padL
  split
  · intro v hv
    rcases List.mem_append.1 hv with h | h
    · exact hr v h
    · simp at h; omega
  · exact hr

theorem halves_j3 (l : List Int) (hl : l.length ≤ 140737488355310) (hr : ∀ v ∈ l, 0 ≤ v ∧ v < 16) :
    Ev (fun k => if ((l.length : Int) % 2) = 1 then (if l.length < 140737488355328 then (digits_packHalves.j3 k (l ++ [15])) else (none)) else (digits_packHalves.j3 k l)) (strOfNums (pairs (padL l)), 0) := by
  have hp := halves_l1 (padL l) (by have := padL_len l; omega) (padL_even l) (padL_range l hr) ((padL l).length / 2) 0 [] (by have := padL_even l; omega) rfl
  refine Ev.step (fun k => ?_) hp
  unfold padL
  by_cases h : l.length % 2 = 1
  · rw [if_pos (by omega), if_pos (by omega), if_pos h]
    simp only [digits_packHalves.j3]; rfl
  · rw [if_neg (by omega), if_neg h]
    simp only [digits_packHalves.j3]; rfl

theorem half_is (c : Int) : ∃ u, digits_half.f c = some (match halfS c with | some v => (v, true) | none => (u, false)) := by
  unfold digits_half.f halfS
  by_cases c1 : c = 61
  · rw [if_pos c1, if_pos c1]; exact ⟨0, rfl⟩
  · rw [if_neg c1, if_neg c1]
    by_cases c2 : c < 48
    · rw [if_neg (by omega), if_pos c2]; exact ⟨_, rfl⟩
    · rw [if_pos (by omega), if_neg c2]
      by_cases c3 : c > 57
      · rw [if_pos c3, decide_eq_false (by omega)]; exact ⟨_, rfl⟩
      · rw [if_neg c3, decide_eq_true (by omega)]; exact ⟨0, by simp; omega⟩

theorem halves_l0 (s : ByteArray) (hs : s.size ≤ 140737488355300) (z : Nat) (hz : z ≤ 1) : ∀ (d i : Nat) (xs : List Int), i + d = s.size → xs.length = i + z → (∀ v ∈ xs, 0 ≤ v ∧ v < 16) →
    Ev (fun k => digits_packHalves.l0 k s xs (s.size : Int) (i : Int)) (halfEnd xs (mapO halfS ((bytesOf s).drop i))) := by
  intro d
  induction d with
  | zero =>
    intro i xs hi hx hr
    rw [dropAll s i (by omega)]
    have h := halves_j3 xs (by omega) hr
    have e : halfEnd xs (mapO halfS []) = (strOfNums (pairs (padL xs)), 0) := by simp [halfEnd, mapO]
    rw [e]
    refine Ev.step (fun k => ?_) h
    simp only [digits_packHalves.l0]; rw [if_neg (by omega)]
  | succ d ih =>
    intro i xs hi hx hr
    rw [dropBt s i (by omega)]
    have q1 : (i : Int) < (s.size : Int) := by omega
    have q2 : (0 : Int) ≤ (i : Int) := by omega
    obtain ⟨u, hu⟩ := half_is (bt s (i : Int))
    cases hw : halfS (bt s (i : Int)) with
    | none =>
      rw [halfEnd_none _ _ _ hw]
      rw [hw] at hu
      refine Ev.step (f := fun _ => some ((⟨#[]⟩ : ByteArray), 11)) (fun k => ?_) (Ev.now _)
      simp only [digits_packHalves.l0, hu]; rw [if_pos q1, if_pos q2, if_pos q1]; rfl
    | some v =>
      rw [halfEnd_cons _ v _ _ hw]
      rw [hw] at hu
      refine Ev.step (fun k => ?_) (ih (i + 1) (xs ++ [v]) (by omega) (by simp [hx]; omega) (fun x hx => by
        rcases List.mem_append.1 hx with h | h
        · exact hr x h
        · simp at h; subst h; exact halfS_range hw))
      simp only [digits_packHalves.l0, hu]; rw [if_pos q1, if_pos q2, if_pos q1, w64 (by omega)]
      simp only [Option.bind_some, if_true]
      rw [if_pos (by omega)]
      rfl

/-- what Pack tells of BCD and BCDR -/
def halfPackS (enc : Int) (cs : List Int) : ByteArray × Int := halfEnd (if enc = 2 ∧ cs.length % 2 = 1 then [0] else []) (mapO halfS cs)
theorem halves_is (enc : Int) (s : ByteArray) (hs : s.size ≤ 140737488355300) : Ev (fun k => digits_packHalves.f k enc s) (halfPackS enc (bytesOf s)) := by
  unfold halfPackS
  rw [bytesOf_length]
  by_cases h2 : enc = 2 ∧ s.size % 2 = 1
  · rw [if_pos h2]
    have h := halves_l0 s hs 1 (by omega) s.size 0 [0] (by omega) rfl (fun v hv => by simp at hv; omega)
    refine Ev.step (f := fun k => digits_packHalves.j1 k s [0]) (fun k => ?_) (Ev.step (fun k => ?_) h)
    · unfold digits_packHalves.f
      rw [if_pos h2.1]
      have e : (((s.size : Int) % 2) == 1) = true := by rw [beq_iff_eq]; omega
      rw [e]
      simp only [digits_packHalves.j0]; rfl
    · simp only [digits_packHalves.j1]; rfl
  · rw [if_neg h2]
    have h := halves_l0 s hs 0 (by omega) s.size 0 [] (by omega) rfl (fun v hv => by cases hv)
    refine Ev.step (f := fun k => digits_packHalves.j1 k s []) (fun k => ?_) (Ev.step (fun k => ?_) h)
    · unfold digits_packHalves.f
      by_cases c2 : enc = 2
      · rw [if_pos c2]
        have e : (((s.size : Int) % 2) == 1) = false := by rw [beq_eq_false_iff_ne]; intro h; exact h2 ⟨c2, by omega⟩
        rw [e]
        simp only [digits_packHalves.j0]; rfl
      · rw [if_neg c2]
        simp only [digits_packHalves.j0]; rfl
    · simp only [digits_packHalves.j1]; rfl

/-! ### Pack -/
def packS (enc : Int) (cs : List Int) : ByteArray × Int :=
  if enc = 2 ∨ enc = 3 then halfPackS enc cs else if enc = 1 ∨ enc = 4 ∨ enc = 5 then packEnd [] (mapO (wr enc) cs) else ((⟨#[]⟩ : ByteArray), 1)
theorem pack_is (enc : Int) (s : ByteArray) (hs : s.size ≤ 140737488355300) : Ev (fun k => digits_Pack.f k enc s) (packS enc (bytesOf s)) := by
  unfold packS
  by_cases h23 : enc = 2 ∨ enc = 3
  · rw [if_pos h23]
    refine Ev.step (f := fun k => (digits_packHalves.f k enc s).bind fun b => some (b.1, b.2)) (fun k => ?_) (Ev.bind (halves_is enc s hs) (Ev.now _))
    unfold digits_Pack.f
    rcases h23 with h | h
    · subst h; rw [if_pos rfl]; simp only [digits_Pack.j0]; rfl
    · subst h; rw [if_neg (by decide)]; simp only [digits_Pack.j0]; rfl
  · rw [if_neg h23]
    have n2 : ¬ enc = 2 := fun h => h23 (.inl h)
    have n3 : (enc == 3) = false := beq_eq_false_iff_ne.mpr fun h => h23 (.inr h)
    by_cases h145 : enc = 1 ∨ enc = 4 ∨ enc = 5
    · rw [if_pos h145]
      have h := pack_l0 enc s hs s.size 0 [] (by omega) rfl
      refine Ev.step (f := fun k => digits_Pack.j1 k enc s true) (fun k => ?_) (Ev.step (fun k => ?_) h)
      · unfold digits_Pack.f
        rw [if_neg n2, n3]
        simp only [digits_Pack.j0]
        rcases h145 with h | h | h <;> subst h <;> rfl
      · simp only [digits_Pack.j1]
        rw [if_pos trivial, if_pos (by omega), if_pos (by omega)]
        rfl
    · rw [if_neg h145]
      refine Ev.step (f := fun k => digits_Pack.j1 k enc s false) (fun k => ?_) (Ev.step (f := fun _ => some ((⟨#[]⟩ : ByteArray), 1)) (fun k => ?_) (Ev.now _))
      · unfold digits_Pack.f
        rw [if_neg n2, n3]
        simp only [digits_Pack.j0]
        have m1 : ¬ enc = 1 := fun h => h145 (.inl h)
        have m4 : ¬ enc = 4 := fun h => h145 (.inr (.inl h))
        have m5 : (enc == 5) = false := beq_eq_false_iff_ne.mpr fun h => h145 (.inr (.inr h))
        rw [if_neg (by decide), if_neg m1, if_neg m4, m5]
      · simp only [digits_Pack.j1]; rfl
end Go.Proofs.Ytlpamhffpgoebaa.Pure

/- Pack of the reference, told with enough rounds as the same plain function as that of digits. Condition: a text whose halves, eight bytes each, an append in the model can bear. -/
namespace Go.Proofs.Ytlpamhffpgoebaa.Pure
open Go.RowKit Go.Proofs.Ytlpamhffpgoebaa.All Go.Proofs.YtlpamhffpgoebaaW.PrintWords Go.Proofs.YtlpamhffpgoebaaW.PrintLast Go.Proofs.YtlpamhffpgoebaaW.PrintMore

theorem code4 : ∀ e : Fin 256, turnstileref1_Code.f 100 4 (e.val : Int) = some (match wr 4 (e.val : Int) with | some v => (v, true) | none => (0, false)) := by decide +kernel
/-- the reference's byte of a character -/
theorem code_is (enc c : Int) (he : enc = 1 ∨ enc = 4 ∨ enc = 5) (h0 : 0 ≤ c) (h1 : c ≤ 255) : ∃ u, Ev (fun k => turnstileref1_Code.f k enc c) (match wr enc c with | some v => (v, true) | none => (u, false)) := by
  rcases he with h | h | h
  · subst h
    refine ⟨c, ev_some fun k => ?_⟩
    unfold turnstileref1_Code.f wr
    rw [if_pos rfl, if_neg (show ¬ (1 : Int) = 5 by decide)]
    by_cases c1 : c < 32
    · rw [if_neg (by omega), if_pos c1]
    · rw [if_pos (by omega), if_neg c1]
      by_cases c2 : c > 126
      · rw [if_pos c2, decide_eq_false (by omega)]
      · rw [if_neg c2, if_neg (show ¬ (1 : Int) = 4 by decide), decide_eq_true (by omega)]
  · subst h
    refine ⟨0, ?_⟩
    have h := code4 ⟨c.toNat, by omega⟩
    simp only [show ((c.toNat : Nat) : Int) = c by omega] at h
    exact Ev.of (fun k => turnstileref1_Code.mono _ _ k) h
  · subst h
    refine ⟨0, ev_some fun k => ?_⟩
    unfold turnstileref1_Code.f wr
    rw [if_neg (by decide), if_neg (by decide), if_pos rfl]
    rfl

theorem rpack_l0 (enc : Int) (he : enc = 1 ∨ enc = 4 ∨ enc = 5) (s : ByteArray) (hs : s.size ≤ 140737488355300) : ∀ (d i : Nat) (xs : List Int), i + d = s.size → xs.length = i →
    Ev (fun k => turnstileref1_Pack.l0 k enc s xs (i : Int)) (packEnd xs (mapO (wr enc) ((bytesOf s).drop i))) := by
  intro d
  induction d with
  | zero =>
    intro i xs hi hx
    rw [dropAll s i (by omega)]
    refine Ev.step (f := fun _ => some (packEnd xs (mapO (wr enc) []))) (fun k => ?_) (Ev.now _)
    simp only [turnstileref1_Pack.l0]; rw [if_neg (by omega)]; simp [packEnd, mapO]
  | succ d ih =>
    intro i xs hi hx
    rw [dropBt s i (by omega)]
    have q1 : (i : Int) < (s.size : Int) := by omega
    have q2 : (0 : Int) ≤ (i : Int) := by omega
    obtain ⟨u, hu⟩ := code_is enc (bt s (i : Int)) he (bt_lo _ _) (bt_hi _ _)
    refine Ev.step (f := fun k => (turnstileref1_Code.f k enc (bt s (i : Int))).bind fun b => if b.2 = true then turnstileref1_Pack.l0 k enc s (xs ++ [b.1]) ((i + 1 : Nat) : Int) else some ((⟨#[]⟩ : ByteArray), 11)) (fun k => ?_) ?_
    · have q3 : xs.length < 140737488355328 := by omega
      simp only [turnstileref1_Pack.l0]; rw [if_pos q1, if_pos q2, w64 (by omega)]
      simp only [if_pos q3]
      rfl
    · refine Ev.bind (f := fun k b => if b.2 = true then turnstileref1_Pack.l0 k enc s (xs ++ [b.1]) ((i + 1 : Nat) : Int) else some ((⟨#[]⟩ : ByteArray), 11)) hu ?_
      cases hw : wr enc (bt s (i : Int)) with
      | none => rw [packEnd_none _ _ _ _ hw]; exact ev_some fun k => rfl
      | some v =>
        rw [packEnd_cons _ _ v _ _ hw]
        exact ih (i + 1) (xs ++ [v]) (by omega) (by simp [hx])

theorem rhalves_l1 (l : List Int) (hl : l.length ≤ 140737488355320) (hev : l.length % 2 = 0) (hr : ∀ v ∈ l, 0 ≤ v ∧ v < 16) : ∀ (d j : Nat) (xs : List Int), 2 * j + 2 * d = l.length → xs.length = j →
    Ev (fun k => turnstileref1_halves.l1 k l xs ((2 * j : Nat) : Int)) (strOfNums (xs ++ pairs (l.drop (2 * j))), 0) := by
  intro d
  induction d with
  | zero =>
    intro j xs hj hx
    rw [List.drop_eq_nil_iff.2 (by omega)]
    refine Ev.step (f := fun _ => some (strOfNums (xs ++ pairs []), 0)) (fun k => ?_) (Ev.now _)
    simp only [turnstileref1_halves.l1]
    rw [if_neg (by omega)]
    simp [pairs]
  | succ d ih =>
    intro j xs hj hx
    rw [dropTwo l (2 * j) (by omega)]
    have ra := rdRange l hr (2 * j) (by omega)
    have rb := rdRange l hr (2 * j + 1) (by omega)
    have e : xs ++ pairs (rd l ((2 * j : Nat) : Int) :: rd l ((2 * j + 1 : Nat) : Int) :: l.drop (2 * j + 2)) = (xs ++ [16 * rd l ((2 * j : Nat) : Int) + rd l ((2 * j + 1 : Nat) : Int)]) ++ pairs (l.drop (2 * (j + 1))) := by
      simp [pairs]; rfl
    rw [e]
    refine Ev.step (fun k => ?_) (ih (j + 1) (xs ++ [16 * rd l ((2 * j : Nat) : Int) + rd l ((2 * j + 1 : Nat) : Int)]) (by omega) (by simp [hx]))
    have e1 : wrap64 (((2 * j : Nat) : Int) + 1) = ((2 * j + 1 : Nat) : Int) := by rw [w64 (by omega)]; omega
    have e2 : wrap64 (((2 * j : Nat) : Int) + 2) = ((2 * (j + 1) : Nat) : Int) := by rw [w64 (by omega)]; omega
    have e3 : (wrap64 ((wrap64 (16 * (rd l ((2 * j : Nat) : Int)))) + (rd l ((2 * j + 1 : Nat) : Int)))) % 256 = 16 * rd l ((2 * j : Nat) : Int) + rd l ((2 * j + 1 : Nat) : Int) := by
      generalize rd l ((2 * j : Nat) : Int) = a at ra ⊢
      generalize rd l ((2 * j + 1 : Nat) : Int) = b at rb ⊢
      rw [w64 (by omega : -9223372036854775808 ≤ 16 * a ∧ 16 * a ≤ 9223372036854775807), w64 (by omega)]
      omega
    simp only [turnstileref1_halves.l1]
    rw [e1, e2, e3, if_pos (by omega), if_pos (by omega), if_pos (by omega), if_pos (by omega), if_pos (by omega)]

theorem rhalves_j3 (l : List Int) (hl : l.length ≤ 17592186044400) (hr : ∀ v ∈ l, 0 ≤ v ∧ v < 16) :
    Ev (fun k => if ((l.length : Int) % 2) = 1 then (if l.length < 17592186044416 then (turnstileref1_halves.j3 k (l ++ [15])) else (none)) else (turnstileref1_halves.j3 k l)) (strOfNums (pairs (padL l)), 0) := by
  have hp := rhalves_l1 (padL l) (by have := padL_len l; omega) (padL_even l) (padL_range l hr) ((padL l).length / 2) 0 [] (by have := padL_even l; omega) rfl
  refine Ev.step (fun k => ?_) hp
  unfold padL
  by_cases h : l.length % 2 = 1
  · rw [if_pos (by omega), if_pos (by omega), if_pos h]
    simp only [turnstileref1_halves.j3]; rfl
  · rw [if_neg (by omega), if_neg h]
    simp only [turnstileref1_halves.j3]; rfl

theorem rhalf_is (c : Int) : turnstileref1_half.f c = some (match halfS c with | some v => v | none => -1) := by
  unfold turnstileref1_half.f halfS
  by_cases c1 : c = 61
  · rw [if_pos c1, if_pos c1]
  · rw [if_neg c1, if_neg c1]
    by_cases c2 : c < 48
    · rw [if_pos c2, if_pos c2]
    · rw [if_neg c2, if_neg c2]
      by_cases c3 : c > 57
      · rw [if_pos c3, if_pos c3]
      · rw [if_neg c3, if_neg c3]; simp; omega

theorem rhalves_l0 (s : ByteArray) (hs : s.size ≤ 17592186044390) (z : Nat) (hz : z ≤ 1) : ∀ (d i : Nat) (xs : List Int), i + d = s.size → xs.length = i + z → (∀ v ∈ xs, 0 ≤ v ∧ v < 16) →
    Ev (fun k => turnstileref1_halves.l0 k s xs (i : Int)) (halfEnd xs (mapO halfS ((bytesOf s).drop i))) := by
  intro d
  induction d with
  | zero =>
    intro i xs hi hx hr
    rw [dropAll s i (by omega)]
    have h := rhalves_j3 xs (by omega) hr
    have e : halfEnd xs (mapO halfS []) = (strOfNums (pairs (padL xs)), 0) := by simp [halfEnd, mapO]
    rw [e]
    refine Ev.step (fun k => ?_) h
    simp only [turnstileref1_halves.l0]; rw [if_neg (by omega)]
  | succ d ih =>
    intro i xs hi hx hr
    rw [dropBt s i (by omega)]
    have q1 : (i : Int) < (s.size : Int) := by omega
    have q2 : (0 : Int) ≤ (i : Int) := by omega
    cases hw : halfS (bt s (i : Int)) with
    | none =>
      rw [halfEnd_none _ _ _ hw]
      refine Ev.step (f := fun _ => some ((⟨#[]⟩ : ByteArray), 11)) (fun k => ?_) (Ev.now _)
      simp only [turnstileref1_halves.l0, rhalf_is, hw]; rw [if_pos q1, if_pos q2]; rfl
    | some v =>
      rw [halfEnd_cons _ v _ _ hw]
      have hv := halfS_range hw
      refine Ev.step (fun k => ?_) (ih (i + 1) (xs ++ [v]) (by omega) (by simp [hx]; omega) (fun x hx => by
        rcases List.mem_append.1 hx with h | h
        · exact hr x h
        · simp at h; subst h; exact hv))
      simp only [turnstileref1_halves.l0, rhalf_is, hw]; rw [if_pos q1, if_pos q2, w64 (by omega)]
      simp only [Option.bind_some]
      rw [if_neg (by omega), if_pos (by omega)]
      rfl

theorem rhalves_is (enc : Int) (s : ByteArray) (hs : s.size ≤ 17592186044390) : Ev (fun k => turnstileref1_halves.f k enc s) (halfPackS enc (bytesOf s)) := by
  unfold halfPackS
  rw [bytesOf_length]
  by_cases h2 : enc = 2 ∧ s.size % 2 = 1
  · rw [if_pos h2]
    have h := rhalves_l0 s hs 1 (by omega) s.size 0 [0] (by omega) rfl (fun v hv => by simp at hv; omega)
    refine Ev.step (f := fun k => turnstileref1_halves.j1 k s [0]) (fun k => ?_) (Ev.step (fun k => ?_) h)
    · unfold turnstileref1_halves.f
      rw [if_pos h2.1]
      have e : (((s.size : Int) % 2) == 1) = true := by rw [beq_iff_eq]; omega
      rw [e]
      simp only [turnstileref1_halves.j0]; rfl
    · simp only [turnstileref1_halves.j1]; rfl
  · rw [if_neg h2]
    have h := rhalves_l0 s hs 0 (by omega) s.size 0 [] (by omega) rfl (fun v hv => by cases hv)
    refine Ev.step (f := fun k => turnstileref1_halves.j1 k s []) (fun k => ?_) (Ev.step (fun k => ?_) h)
    · unfold turnstileref1_halves.f
      by_cases c2 : enc = 2
      · rw [if_pos c2]
        have e : (((s.size : Int) % 2) == 1) = false := by rw [beq_eq_false_iff_ne]; intro h; exact h2 ⟨c2, by omega⟩
        rw [e]
        simp only [turnstileref1_halves.j0]; rfl
      · rw [if_neg c2]
        simp only [turnstileref1_halves.j0]; rfl
    · simp only [turnstileref1_halves.j1]; rfl

theorem rpack_is (enc : Int) (s : ByteArray) (hs : s.size ≤ 17592186044390) : Ev (fun k => turnstileref1_Pack.f k enc s) (packS enc (bytesOf s)) := by
  unfold packS turnstileref1_Pack.f turnstileref1_known.f turnstileref1_Packed.f
  by_cases h23 : enc = 2 ∨ enc = 3
  · rw [if_pos h23]
    refine Ev.congr (f := fun k => (turnstileref1_halves.f k enc s).bind fun b => some (b.1, b.2)) (fun k => ?_) (Ev.bind (rhalves_is enc s hs) (Ev.now _))
    rcases h23 with h | h <;> subst h <;> rfl
  · rw [if_neg h23]
    by_cases h145 : enc = 1 ∨ enc = 4 ∨ enc = 5
    · rw [if_pos h145]
      refine Ev.congr (fun k => ?_) (rpack_l0 enc h145 s (by omega) s.size 0 [] (by omega) rfl)
      rcases h145 with h | h | h <;> subst h <;> rfl
    · rw [if_neg h145]
      refine ev_some fun k => ?_
      by_cases c1 : enc ≥ 1
      · rw [if_pos c1, decide_eq_false (by omega)]; rfl
      · rw [if_neg c1]; rfl
end Go.Proofs.Ytlpamhffpgoebaa.Pure

-- WRITTEN BY this session's own drv.py over the kit's print. Not trusted: Lean checks it.
namespace Go.Proofs.Ytlpamhffpgoebaa.All
open Go.RowKit Go.Proofs.YtlpamhffpgoebaaW.PrintWords Go.Proofs.YtlpamhffpgoebaaW.PrintLast Go.Proofs.YtlpamhffpgoebaaW.PrintMore
attribute [local go_sem] max2_int min2_int max_two min_two max_three min_three max_four min_four   -- for this text's walks alone
set_option linter.unusedVariables false
set_option linter.unusedSimpArgs false

/-! ### digits_Width: function 20 -/
def digits_Width.f (a0 : Int) (a1 : Int) : Option (Int) := if a1 < 0 then (some 0) else (if a0 = 2 then (some (wrap64 ((wrap64 (Int.tdiv a1 2)) + (Int.tmod a1 2)))) else (if a0 = 3 then (some (wrap64 ((wrap64 (Int.tdiv a1 2)) + (Int.tmod a1 2)))) else (if a0 = 1 then (some a1) else (if a0 = 4 then (some a1) else (if a0 = 5 then (some a1) else (some 0))))))
set_option maxHeartbeats 8000000 in
set_option maxRecDepth 100000 in
theorem digits_Width.calls (a0 : Int) (a1 : Int) (r : Int) (w : World) (h : digits_Width.f a0 a1 = some r) :
    Calls Try.prog 20 #[.int .i64 a0, .int .i64 a1] w fun e w' => e = .returned (.int .i64 r) ∧ Drawn0 w w' := by
  have H : (if a1 < 0 then (some 0) else (if a0 = 2 then (some (wrap64 ((wrap64 (Int.tdiv a1 2)) + (Int.tmod a1 2)))) else (if a0 = 3 then (some (wrap64 ((wrap64 (Int.tdiv a1 2)) + (Int.tmod a1 2)))) else (if a0 = 1 then (some a1) else (if a0 = 4 then (some a1) else (if a0 = 5 then (some a1) else (some 0))))))) = some r := h
  clear h
  by_cases c3 : a1 < 0
  · rw [if_pos c3] at H
    have c3b0 : decide (a1 < 0) = true := decide_eq_true c3
    clear c3
    obtain rfl := Option.some.inj H
    go_enter Try.func20, Try.ntmps20
    go_wp2
    go_ret
    exact ⟨by first | rfl | (simp; done) | (simp [*]; done), by repeat (first | exact Drawn0.refl _ | apply Drawn0.step)⟩
  · rw [if_neg c3] at H
    have c3b0 : decide (a1 < 0) = false := decide_eq_false c3
    clear c3
    by_cases c4 : a0 = 2
    · rw [if_pos c4] at H
      have c4b0 : (a0 == 2) = true := beq_iff_eq.mpr c4
      have c4b1 : (a0 != 2) = false := bne_eq_false_iff_eq.mpr c4
      clear c4
      obtain rfl := Option.some.inj H
      go_enter Try.func20, Try.ntmps20
      go_wp2
      go_ret
      exact ⟨by first | rfl | (simp; done) | (simp [*]; done), by repeat (first | exact Drawn0.refl _ | apply Drawn0.step)⟩
    · rw [if_neg c4] at H
      have c4b0 : (a0 == 2) = false := beq_eq_false_iff_ne.mpr c4
      have c4b1 : (a0 != 2) = true := bne_iff_ne.mpr c4
      by_cases c5 : a0 = 3
      · rw [if_pos c5] at H
        have c5b0 : (a0 == 3) = true := beq_iff_eq.mpr c5
        have c5b1 : (a0 != 3) = false := bne_eq_false_iff_eq.mpr c5
        clear c5
        obtain rfl := Option.some.inj H
        go_enter Try.func20, Try.ntmps20
        go_wp2
        go_ret
        exact ⟨by first | rfl | (simp; done) | (simp [*]; done), by repeat (first | exact Drawn0.refl _ | apply Drawn0.step)⟩
      · rw [if_neg c5] at H
        have c5b0 : (a0 == 3) = false := beq_eq_false_iff_ne.mpr c5
        have c5b1 : (a0 != 3) = true := bne_iff_ne.mpr c5
        by_cases c6 : a0 = 1
        · rw [if_pos c6] at H
          have c6b0 : (a0 == 1) = true := beq_iff_eq.mpr c6
          have c6b1 : (a0 != 1) = false := bne_eq_false_iff_eq.mpr c6
          clear c6
          obtain rfl := Option.some.inj H
          go_enter Try.func20, Try.ntmps20
          go_wp2
          go_ret
          exact ⟨by first | rfl | (simp; done) | (simp [*]; done), by repeat (first | exact Drawn0.refl _ | apply Drawn0.step)⟩
        · rw [if_neg c6] at H
          have c6b0 : (a0 == 1) = false := beq_eq_false_iff_ne.mpr c6
          have c6b1 : (a0 != 1) = true := bne_iff_ne.mpr c6
          by_cases c7 : a0 = 4
          · rw [if_pos c7] at H
            have c7b0 : (a0 == 4) = true := beq_iff_eq.mpr c7
            have c7b1 : (a0 != 4) = false := bne_eq_false_iff_eq.mpr c7
            clear c7
            obtain rfl := Option.some.inj H
            go_enter Try.func20, Try.ntmps20
            go_wp2
            go_ret
            exact ⟨by first | rfl | (simp; done) | (simp [*]; done), by repeat (first | exact Drawn0.refl _ | apply Drawn0.step)⟩
          · rw [if_neg c7] at H
            have c7b0 : (a0 == 4) = false := beq_eq_false_iff_ne.mpr c7
            have c7b1 : (a0 != 4) = true := bne_iff_ne.mpr c7
            by_cases c8 : a0 = 5
            · rw [if_pos c8] at H
              have c8b0 : (a0 == 5) = true := beq_iff_eq.mpr c8
              have c8b1 : (a0 != 5) = false := bne_eq_false_iff_eq.mpr c8
              clear c8
              obtain rfl := Option.some.inj H
              go_enter Try.func20, Try.ntmps20
              go_wp2
              go_ret
              exact ⟨by first | rfl | (simp; done) | (simp [*]; done), by repeat (first | exact Drawn0.refl _ | apply Drawn0.step)⟩
            · rw [if_neg c8] at H
              have c8b0 : (a0 == 5) = false := beq_eq_false_iff_ne.mpr c8
              have c8b1 : (a0 != 5) = true := bne_iff_ne.mpr c8
              obtain rfl := Option.some.inj H
              go_enter Try.func20, Try.ntmps20
              go_wp2
              go_ret
              exact ⟨by first | rfl | (simp; done) | (simp [*]; done), by repeat (first | exact Drawn0.refl _ | apply Drawn0.step)⟩

end Go.Proofs.Ytlpamhffpgoebaa.All

-- WRITTEN BY this session's own drv.py over the kit's print. Not trusted: Lean checks it.
namespace Go.Proofs.Ytlpamhffpgoebaa.All
open Go.RowKit Go.Proofs.YtlpamhffpgoebaaW.PrintWords Go.Proofs.YtlpamhffpgoebaaW.PrintLast Go.Proofs.YtlpamhffpgoebaaW.PrintMore
attribute [local go_sem] max2_int min2_int max_two min_two max_three min_three max_four min_four   -- for this text's walks alone
set_option linter.unusedVariables false
set_option linter.unusedSimpArgs false

/-! ### digits_character: function 62 -/
def digits_character.f (a0 : Int) : Option (Int × Bool) := if a0 = 13 then (some (61, true)) else (some ((48 + a0) % 256, decide (a0 ≤ 9)))
set_option maxHeartbeats 8000000 in
set_option maxRecDepth 100000 in
theorem digits_character.calls (a0 : Int) (r1 : Int) (r2 : Bool) (w : World) (h : digits_character.f a0 = some (r1, r2)) :
    Calls Try.prog 62 #[.int .u8 a0] w fun e w' => e = .returned (.tuple #[.int .u8 r1, .bool r2]) ∧ Drawn0 w w' := by
  have H : (if a0 = 13 then (some (61, true)) else (some ((48 + a0) % 256, decide (a0 ≤ 9)))) = some (r1, r2) := h
  clear h
  by_cases c2 : a0 = 13
  · rw [if_pos c2] at H
    have c2b0 : (a0 == 13) = true := beq_iff_eq.mpr c2
    have c2b1 : (a0 != 13) = false := bne_eq_false_iff_eq.mpr c2
    clear c2
    simp only [Option.some.injEq, Prod.mk.injEq] at H
    obtain ⟨rfl, rfl⟩ := H
    go_enter Try.func62, Try.ntmps62
    go_wp2
    go_ret2
    exact ⟨by first | rfl | (simp; done) | (simp [*]; done), by repeat (first | exact Drawn0.refl _ | apply Drawn0.step)⟩
  · rw [if_neg c2] at H
    have c2b0 : (a0 == 13) = false := beq_eq_false_iff_ne.mpr c2
    have c2b1 : (a0 != 13) = true := bne_iff_ne.mpr c2
    simp only [Option.some.injEq, Prod.mk.injEq] at H
    obtain ⟨rfl, rfl⟩ := H
    go_enter Try.func62, Try.ntmps62
    go_wp2
    go_ret2
    exact ⟨by first | rfl | (simp; done) | (simp [*]; done), by repeat (first | exact Drawn0.refl _ | apply Drawn0.step)⟩

end Go.Proofs.Ytlpamhffpgoebaa.All
