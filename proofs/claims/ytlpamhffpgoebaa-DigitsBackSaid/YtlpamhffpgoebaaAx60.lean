-- WRITTEN BY this session's own drv.py over the kit's print. Not trusted: Lean checks it.
import Derived.Test.YtlpamhffpgoebaaAx0
import Derived.Test.YtlpamhffpgoebaaAx6
import Derived.Test.YtlpamhffpgoebaaAx22
import Derived.Test.YtlpamhffpgoebaaAx47
import Derived.Test.YtlpamhffpgoebaaAx59
namespace Go.Proofs.Ytlpamhffpgoebaa.All
open Go.RowKit Go.Proofs.YtlpamhffpgoebaaW.PrintWords Go.Proofs.YtlpamhffpgoebaaW.PrintLast Go.Proofs.YtlpamhffpgoebaaW.PrintMore
attribute [local go_sem] max2_int min2_int max_two min_two max_three min_three max_four min_four   -- for this text's walks alone
set_option linter.unusedVariables false
set_option linter.unusedSimpArgs false

/-! ### turnstilelaw1_DigitsBack: function 14 -/
def turnstilelaw1_DigitsBack.j0 : Nat → Int → ByteArray → ByteArray → Bool → Option (Bool)
  | 0, _, _, _, _ => none
  | k + 1, x7, x8, x9, x63 => if x63 = true then (some false) else (if (x9.size : Int) = 0 then (some true) else (if 0 ≤ (wrap64 ((x9.size : Int) - 1)) then (if (wrap64 ((x9.size : Int) - 1)) ≤ (x9.size : Int) then ((digits_Unpack.f k x7 (x9.extract 0 ((wrap64 ((x9.size : Int) - 1)) : Int).toNat) (x8.size : Int)).bind fun bt412 => (if bt412.1.toList = ([] : List UInt8) then (if bt412.2.1 = 10 then (some (bt412.2.2 == (wrap64 ((x9.size : Int) - 1)))) else (some false)) else (some false))) else (none)) else (none)))
def turnstilelaw1_DigitsBack.f (k : Nat) (a0 : Int) (a1 : ByteArray) (a2 : ByteArray) : Option (Bool) := (turnstilelaw1_fitted.f k a0 a1).bind fun bt404 => ((digits_Pack.f k bt404.1 bt404.2).bind fun bt406 => (if bt406.1.size + a2.size ≤ 9223372036854775807 then ((digits_Unpack.f k bt404.1 (bt406.1 ++ a2) (bt404.2.size : Int)).bind fun bt408 => (if bt406.2 = 0 then (if bt408.2.1 = 0 then (if bt408.2.2 = 0 then (if bt408.1.toList = bt404.2.toList then ((digits_Width.f bt404.1 (bt404.2.size : Int)).bind fun t411 => (turnstilelaw1_DigitsBack.j0 k bt404.1 bt404.2 bt406.1 ((bt406.1.size : Int) != t411))) else (turnstilelaw1_DigitsBack.j0 k bt404.1 bt404.2 bt406.1 true)) else (turnstilelaw1_DigitsBack.j0 k bt404.1 bt404.2 bt406.1 true)) else (turnstilelaw1_DigitsBack.j0 k bt404.1 bt404.2 bt406.1 true)) else (turnstilelaw1_DigitsBack.j0 k bt404.1 bt404.2 bt406.1 true))) else (none)))
theorem turnstilelaw1_DigitsBack.mono_l : ∀ k, (∀ y0 y1 y2 y3, LeO (turnstilelaw1_DigitsBack.j0 k y0 y1 y2 y3) (turnstilelaw1_DigitsBack.j0 (k + 1) y0 y1 y2 y3))
  | 0 => fun _ _ _ _ r h => by simp [turnstilelaw1_DigitsBack.j0] at h
  | k + 1 => by
    have ih0 := turnstilelaw1_DigitsBack.mono_l k
    · intro y0 y1 y2 y3
      unfold turnstilelaw1_DigitsBack.j0
      repeat' first
      | (with_reducible exact ih0 _ _ _ _)
      | (with_reducible exact digits_Pack.mono _ _ _)
      | (with_reducible exact digits_Unpack.mono _ _ _ _)
      | (with_reducible exact turnstilelaw1_fitted.mono _ _ _)
      | (with_reducible exact LeO.refl _)
      | (with_reducible exact LeO.none _)
      | (with_reducible refine LeO.ite ?_ ?_)
      | (with_reducible refine LeO.bind ?_ (fun _ => ?_))
      | exact ih0 _ _ _ _
      | exact digits_Pack.mono _ _ _
      | exact digits_Unpack.mono _ _ _ _
      | exact turnstilelaw1_fitted.mono _ _ _
      | exact LeO.none _
      | refine LeO.ite ?_ ?_
      | refine LeO.bind ?_ (fun _ => ?_)
theorem turnstilelaw1_DigitsBack.mono : ∀ a0 a1 a2 k, LeO (turnstilelaw1_DigitsBack.f k a0 a1 a2) (turnstilelaw1_DigitsBack.f (k + 1) a0 a1 a2) := by
  intro a0 a1 a2 k
  have ih0 := turnstilelaw1_DigitsBack.mono_l k
  unfold turnstilelaw1_DigitsBack.f
  repeat' first
      | (with_reducible exact ih0 _ _ _ _)
      | (with_reducible exact digits_Pack.mono _ _ _)
      | (with_reducible exact digits_Unpack.mono _ _ _ _)
      | (with_reducible exact turnstilelaw1_fitted.mono _ _ _)
      | (with_reducible exact LeO.refl _)
      | (with_reducible exact LeO.none _)
      | (with_reducible refine LeO.ite ?_ ?_)
      | (with_reducible refine LeO.bind ?_ (fun _ => ?_))
      | exact ih0 _ _ _ _
      | exact digits_Pack.mono _ _ _
      | exact digits_Unpack.mono _ _ _ _
      | exact turnstilelaw1_fitted.mono _ _ _
      | exact LeO.none _
      | refine LeO.ite ?_ ?_
      | refine LeO.bind ?_ (fun _ => ?_)
set_option maxHeartbeats 8000000 in
set_option maxRecDepth 100000 in
theorem turnstilelaw1_DigitsBack.calls (k : Nat) (a0 : Int) (a1 : ByteArray) (a2 : ByteArray) (r : Bool) (w : World) (h : turnstilelaw1_DigitsBack.f k a0 a1 a2 = some r) :
    Calls Try.prog 14 #[.int .i64 a0, .string a1, .string a2] w fun e w' => e = .returned (.bool r) ∧ Below w.heap.size w w' := by
  have HB := Aside0.mk (Below.refl w.heap.size w)
  have H : ((turnstilelaw1_fitted.f k a0 a1).bind fun bt404 => ((digits_Pack.f k bt404.1 bt404.2).bind fun bt406 => (if bt406.1.size + a2.size ≤ 9223372036854775807 then ((digits_Unpack.f k bt404.1 (bt406.1 ++ a2) (bt404.2.size : Int)).bind fun bt408 => (if bt406.2 = 0 then (if bt408.2.1 = 0 then (if bt408.2.2 = 0 then (if bt408.1.toList = bt404.2.toList then ((digits_Width.f bt404.1 (bt404.2.size : Int)).bind fun t411 => (turnstilelaw1_DigitsBack.j0 k bt404.1 bt404.2 bt406.1 ((bt406.1.size : Int) != t411))) else (turnstilelaw1_DigitsBack.j0 k bt404.1 bt404.2 bt406.1 true)) else (turnstilelaw1_DigitsBack.j0 k bt404.1 bt404.2 bt406.1 true)) else (turnstilelaw1_DigitsBack.j0 k bt404.1 bt404.2 bt406.1 true)) else (turnstilelaw1_DigitsBack.j0 k bt404.1 bt404.2 bt406.1 true))) else (none)))) = some r := h
  clear h
  replace H := Option.bind_eq_some_iff.mp H
  obtain ⟨⟨t404, t405⟩, A40, H⟩ := H
  replace H : ((digits_Pack.f k t404 t405).bind fun bt406 => (if bt406.1.size + a2.size ≤ 9223372036854775807 then ((digits_Unpack.f k t404 (bt406.1 ++ a2) (t405.size : Int)).bind fun bt408 => (if bt406.2 = 0 then (if bt408.2.1 = 0 then (if bt408.2.2 = 0 then (if bt408.1.toList = t405.toList then ((digits_Width.f t404 (t405.size : Int)).bind fun t411 => (turnstilelaw1_DigitsBack.j0 k t404 t405 bt406.1 ((bt406.1.size : Int) != t411))) else (turnstilelaw1_DigitsBack.j0 k t404 t405 bt406.1 true)) else (turnstilelaw1_DigitsBack.j0 k t404 t405 bt406.1 true)) else (turnstilelaw1_DigitsBack.j0 k t404 t405 bt406.1 true)) else (turnstilelaw1_DigitsBack.j0 k t404 t405 bt406.1 true))) else (none))) = some r := H
  have A4 := Aside0.mk A40
  clear A40
  replace H := Option.bind_eq_some_iff.mp H
  obtain ⟨⟨t406, t407⟩, A50, H⟩ := H
  replace H : (if t406.size + a2.size ≤ 9223372036854775807 then ((digits_Unpack.f k t404 (t406 ++ a2) (t405.size : Int)).bind fun bt408 => (if t407 = 0 then (if bt408.2.1 = 0 then (if bt408.2.2 = 0 then (if bt408.1.toList = t405.toList then ((digits_Width.f t404 (t405.size : Int)).bind fun t411 => (turnstilelaw1_DigitsBack.j0 k t404 t405 t406 ((t406.size : Int) != t411))) else (turnstilelaw1_DigitsBack.j0 k t404 t405 t406 true)) else (turnstilelaw1_DigitsBack.j0 k t404 t405 t406 true)) else (turnstilelaw1_DigitsBack.j0 k t404 t405 t406 true)) else (turnstilelaw1_DigitsBack.j0 k t404 t405 t406 true))) else (none)) = some r := H
  have A5 := Aside0.mk A50
  clear A50
  by_cases c6 : t406.size + a2.size ≤ 9223372036854775807
  · rw [if_pos c6] at H
    have c6b0 := eq_true c6
    have c6b1 : decide (t406.size + a2.size ≤ 9223372036854775807) = true := decide_eq_true c6
    try have c6b2 : (9223372036854775807 < t406.size + a2.size) = False := eq_false (Nat.not_lt.2 c6)
    replace H := Option.bind_eq_some_iff.mp H
    obtain ⟨⟨t408, t409, t410⟩, A70, H⟩ := H
    replace H : (if t407 = 0 then (if t409 = 0 then (if t410 = 0 then (if t408.toList = t405.toList then ((digits_Width.f t404 (t405.size : Int)).bind fun t411 => (turnstilelaw1_DigitsBack.j0 k t404 t405 t406 ((t406.size : Int) != t411))) else (turnstilelaw1_DigitsBack.j0 k t404 t405 t406 true)) else (turnstilelaw1_DigitsBack.j0 k t404 t405 t406 true)) else (turnstilelaw1_DigitsBack.j0 k t404 t405 t406 true)) else (turnstilelaw1_DigitsBack.j0 k t404 t405 t406 true)) = some r := H
    have A7 := Aside0.mk A70
    clear A70
    have HC8 := Aside0.mk H
    clear H
    go_enter Try.func14, Try.ntmps14
    go_upto_region 4 with (first | ((with_reducible refine gate_callee (f := 38) rfl ?_); refine goesL_ (some 20) rfl rfl Try.func38 (by kernel_rfl) rfl #[.int .i64 a0, .string a1] rfl (by (try simp only [List.map_toArray, List.map_cons, List.map_nil]); first | done | rfl | (simp only [List.length_drop, List.length_take]; rfl)) ?_; (with_reducible refine (turnstilelaw1_fitted.calls k a0 a1 t404 t405 _ A4.out).mono ?_); rintro e w9 ⟨rfl, hb⟩; refine ⟨_, rfl, ?_⟩; have n0_ := Aside0.mk (below_step (by repeat (first | (with_reducible first | exact HB.out | apply below_alloc | apply pw_below_drewN | apply below_drew1) | exact HB.out)) hb); clear HB; have HB := n0_; clear n0_; (try clear hb); (try clear hb2); (try clear hk); (try clear hi)) | ((with_reducible refine gate_callee (f := 32) rfl ?_); refine goesL_ (some 26) rfl rfl Try.func32 (by kernel_rfl) rfl #[.int .i64 t404, .string t405] rfl (by (try simp only [List.map_toArray, List.map_cons, List.map_nil]); first | done | rfl | (simp only [List.length_drop, List.length_take]; rfl)) ?_; (with_reducible refine (digits_Pack.calls k t404 t405 t406 t407 _ A5.out).mono ?_); rintro e w10 ⟨rfl, hb⟩; refine ⟨_, rfl, ?_⟩; have n0_ := Aside0.mk (below_step (by repeat (first | (with_reducible first | exact HB.out | apply below_alloc | apply pw_below_drewN | apply below_drew1) | exact HB.out)) hb); clear HB; have HB := n0_; clear n0_; (try clear hb); (try clear hb2); (try clear hk); (try clear hi)) | ((with_reducible refine gate_callee (f := 34) rfl ?_); refine goesL_ (some 36) rfl rfl Try.func34 (by kernel_rfl) rfl #[.int .i64 t404, .string (t406 ++ a2), .int .i64 (t405.size : Int)] rfl (by (try simp only [List.map_toArray, List.map_cons, List.map_nil]); first | done | rfl | (simp only [List.length_drop, List.length_take]; rfl)) ?_; (with_reducible refine (digits_Unpack.calls k t404 (t406 ++ a2) (t405.size : Int) t408 t409 t410 _ A7.out).mono ?_); rintro e w11 ⟨rfl, hb⟩; refine ⟨_, rfl, ?_⟩; have n0_ := Aside0.mk (below_step (by repeat (first | (with_reducible first | exact HB.out | apply below_alloc | apply pw_below_drewN | apply below_drew1) | exact HB.out)) hb); clear HB; have HB := n0_; clear n0_; (try clear hb); (try clear hb2); (try clear hk); (try clear hi)))
    (try simp only [Act.put, List.setIfInBounds_toArray, List.set_cons_zero, List.set_cons_succ])
    go_cut [63] (fun v63 wc => ∃ (kq : Nat) (x63_7 : Bool), v63 = .bool x63_7 ∧ Aside0 (turnstilelaw1_DigitsBack.j0 kq t404 t405 t406 x63_7 = some r) ∧ Aside0 (kq ≤ k) ∧ Aside0 (Below w.heap.size w wc))
    case first =>
      have H := HC8.out
      clear HC8
      by_cases c12 : t407 = 0
      · rw [if_pos c12] at H
        have c12b0 : (t407 == 0) = true := beq_iff_eq.mpr c12
        have c12b1 : (t407 != 0) = false := bne_eq_false_iff_eq.mpr c12
        clear c12
        (first | rw [c12b0] | (simp only [i64_w, i32_w]; rw [c12b0]) | skip)
        by_cases c13 : t409 = 0
        · rw [if_pos c13] at H
          have c13b0 : (t409 == 0) = true := beq_iff_eq.mpr c13
          have c13b1 : (t409 != 0) = false := bne_eq_false_iff_eq.mpr c13
          clear c13
          by_cases c14 : t410 = 0
          · rw [if_pos c14] at H
            have c14b0 : (t410 == 0) = true := beq_iff_eq.mpr c14
            have c14b1 : (t410 != 0) = false := bne_eq_false_iff_eq.mpr c14
            clear c14
            by_cases c15 : t408.toList = t405.toList
            · rw [if_pos c15] at H
              have c15b0 : (t408.toList == t405.toList) = true := beq_iff_eq.mpr c15
              have c15b1 : (t408.toList != t405.toList) = false := bne_eq_false_iff_eq.mpr c15
              clear c15
              replace H := Option.bind_eq_some_iff.mp H
              obtain ⟨t411, A160, H⟩ := H
              replace H : (turnstilelaw1_DigitsBack.j0 k t404 t405 t406 ((t406.size : Int) != t411)) = some r := H
              have A16 := Aside0.mk A160
              clear A160
              have H' := Aside0.mk H
              clear H
              go_wp2_with (first | (go_at_call 20; (with_reducible refine (digits_Width.calls t404 (t405.size : Int) t411 _ A16.out).mono ?_); rintro e w' ⟨rfl, ⟨nd, rfl⟩⟩))
              go_meet
              case rel => exact ⟨_, (((t406.size : Int) != t411)), (by first | rfl | (simp; done) | (simp [*]; done)), H', ⟨by first | omega | exact Nat.le_refl _⟩, ⟨by repeat (first | (with_reducible first | exact HB.out | apply below_alloc | apply pw_below_drewN | apply below_drew1) | exact HB.out)⟩⟩
            · rw [if_neg c15] at H
              have c15b0 : (t408.toList == t405.toList) = false := beq_eq_false_iff_ne.mpr c15
              have c15b1 : (t408.toList != t405.toList) = true := bne_iff_ne.mpr c15
              have H' := Aside0.mk H
              clear H
              go_wp2
              go_meet
              case rel => exact ⟨_, (true), (by first | rfl | (simp; done) | (simp [*]; done)), H', ⟨by first | omega | exact Nat.le_refl _⟩, ⟨by repeat (first | (with_reducible first | exact HB.out | apply below_alloc | apply pw_below_drewN | apply below_drew1) | exact HB.out)⟩⟩
          · rw [if_neg c14] at H
            have c14b0 : (t410 == 0) = false := beq_eq_false_iff_ne.mpr c14
            have c14b1 : (t410 != 0) = true := bne_iff_ne.mpr c14
            have H' := Aside0.mk H
            clear H
            go_wp2
            go_meet
            case rel => exact ⟨_, (true), (by first | rfl | (simp; done) | (simp [*]; done)), H', ⟨by first | omega | exact Nat.le_refl _⟩, ⟨by repeat (first | (with_reducible first | exact HB.out | apply below_alloc | apply pw_below_drewN | apply below_drew1) | exact HB.out)⟩⟩
        · rw [if_neg c13] at H
          have c13b0 : (t409 == 0) = false := beq_eq_false_iff_ne.mpr c13
          have c13b1 : (t409 != 0) = true := bne_iff_ne.mpr c13
          have H' := Aside0.mk H
          clear H
          go_wp2
          go_meet
          case rel => exact ⟨_, (true), (by first | rfl | (simp; done) | (simp [*]; done)), H', ⟨by first | omega | exact Nat.le_refl _⟩, ⟨by repeat (first | (with_reducible first | exact HB.out | apply below_alloc | apply pw_below_drewN | apply below_drew1) | exact HB.out)⟩⟩
      · rw [if_neg c12] at H
        have c12b0 : (t407 == 0) = false := beq_eq_false_iff_ne.mpr c12
        have c12b1 : (t407 != 0) = true := bne_iff_ne.mpr c12
        (first | rw [c12b0] | (simp only [i64_w, i32_w]; rw [c12b0]) | skip)
        have H' := Aside0.mk H
        clear H
        go_wp2
        go_meet
        case rel => exact ⟨_, (true), (by first | rfl | (simp; done) | (simp [*]; done)), H', ⟨by first | omega | exact Nat.le_refl _⟩, ⟨by repeat (first | (with_reducible first | exact HB.out | apply below_alloc | apply pw_below_drewN | apply below_drew1) | exact HB.out)⟩⟩
    case rest =>
      clear HC8
      try clear c1
      try clear p2
      try clear c3
      try clear c6
      try clear c6b0
      try clear c6b1
      try clear c6b2
      try clear c12
      try clear c12b0
      try clear c12b1
      try clear c13
      try clear c13b0
      try clear c13b1
      try clear c14
      try clear c14b0
      try clear c14b1
      try clear c15
      try clear c15b0
      try clear c15b1
      obtain ⟨kq, x63_7, rfl, HA, HJ7, HB⟩ := hcut
      cases kq with
      | zero => exact absurd HA.out (by simp [turnstilelaw1_DigitsBack.j0])
      | succ kj7 =>
        have H := HA.out
        clear HA
        simp only [turnstilelaw1_DigitsBack.j0] at H
        by_cases c17 : x63_7 = true
        · subst c17
          have H1 : (some false) = some r := by rw [if_pos rfl] at H; exact H
          clear H
          have H := H1
          clear H1
          obtain rfl := Option.some.inj H
          go_wp2
          go_ret
          exact ⟨by first | rfl | (simp [errW_none, errW_some] <;> rfl) | (simp [*, errW_none, errW_some] <;> rfl), by repeat (first | (with_reducible first | exact HB.out | apply below_alloc | apply pw_below_drewN | apply below_drew1) | exact HB.out)⟩
        · replace c17 := Bool.eq_false_iff.mpr c17
          subst c17
          have H1 : (if (t406.size : Int) = 0 then (some true) else (if 0 ≤ (wrap64 ((t406.size : Int) - 1)) then (if (wrap64 ((t406.size : Int) - 1)) ≤ (t406.size : Int) then ((digits_Unpack.f kj7 t404 (t406.extract 0 ((wrap64 ((t406.size : Int) - 1)) : Int).toNat) (t405.size : Int)).bind fun bt412 => (if bt412.1.toList = ([] : List UInt8) then (if bt412.2.1 = 10 then (some (bt412.2.2 == (wrap64 ((t406.size : Int) - 1)))) else (some false)) else (some false))) else (none)) else (none))) = some r := by rw [if_neg (show ¬ (false = true) by decide)] at H; exact H
          clear H
          have H := H1
          clear H1
          by_cases c18 : (t406.size : Int) = 0
          · rw [if_pos c18] at H
            have c18b0 : ((t406.size : Int) == 0) = true := beq_iff_eq.mpr c18
            have c18b1 : ((t406.size : Int) != 0) = false := bne_eq_false_iff_eq.mpr c18
            clear c18
            obtain rfl := Option.some.inj H
            go_wp2
            go_ret
            exact ⟨by first | rfl | (simp [errW_none, errW_some] <;> rfl) | (simp [*, errW_none, errW_some] <;> rfl), by repeat (first | (with_reducible first | exact HB.out | apply below_alloc | apply pw_below_drewN | apply below_drew1) | exact HB.out)⟩
          · rw [if_neg c18] at H
            have c18b0 : ((t406.size : Int) == 0) = false := beq_eq_false_iff_ne.mpr c18
            have c18b1 : ((t406.size : Int) != 0) = true := bne_iff_ne.mpr c18
            obtain ⟨ji19, hji19⟩ : ∃ j_ : Int, (wrap64 ((t406.size : Int) - 1)) = j_ := ⟨_, rfl⟩
            replace H : (if 0 ≤ (ji19) then (if (ji19) ≤ (t406.size : Int) then ((digits_Unpack.f kj7 t404 (t406.extract 0 ((ji19) : Int).toNat) (t405.size : Int)).bind fun bt412 => (if bt412.1.toList = ([] : List UInt8) then (if bt412.2.1 = 10 then (some (bt412.2.2 == (ji19))) else (some false)) else (some false))) else (none)) else (none)) = some r := by first | (rw [hji19] at H; exact H) | (simp only [hji19] at H ⊢; exact H)
            have hji19w : (IntKind.i64.wrap ((t406.size : Int) - 1)) = ji19 := (i64_w _).trans hji19
            by_cases c20 : 0 ≤ (ji19)
            · rw [if_pos c20] at H
              have c20b0 := eq_true c20
              have c20b1 : decide (0 ≤ (ji19)) = true := decide_eq_true c20
              clear c20
              by_cases c21 : (ji19) ≤ (t406.size : Int)
              · rw [if_pos c21] at H
                have c21b0 := eq_true c21
                have c21b1 : decide ((ji19) ≤ (t406.size : Int)) = true := decide_eq_true c21
                clear c21
                replace H := Option.bind_eq_some_iff.mp H
                obtain ⟨⟨t412, t413, t414⟩, A220, H⟩ := H
                replace H : (if t412.toList = ([] : List UInt8) then (if t413 = 10 then (some (t414 == (ji19))) else (some false)) else (some false)) = some r := H
                have A22 := Aside0.mk A220
                clear A220
                by_cases c23 : t412.toList = ([] : List UInt8)
                · rw [if_pos c23] at H
                  have c23b0 : (t412.toList == ([] : List UInt8)) = true := beq_iff_eq.mpr c23
                  have c23b1 : (t412.toList != ([] : List UInt8)) = false := bne_eq_false_iff_eq.mpr c23
                  clear c23
                  by_cases c24 : t413 = 10
                  · rw [if_pos c24] at H
                    have c24b0 : (t413 == 10) = true := beq_iff_eq.mpr c24
                    have c24b1 : (t413 != 10) = false := bne_eq_false_iff_eq.mpr c24
                    clear c24
                    obtain rfl := Option.some.inj H
                    go_wp2_with (first | ((with_reducible refine gate_callee (f := 34) rfl ?_); refine goesL_ (some 76) rfl rfl Try.func34 (by kernel_rfl) rfl #[.int .i64 t404, .string (t406.extract 0 ((ji19) : Int).toNat), .int .i64 (t405.size : Int)] rfl (by (try simp only [List.map_toArray, List.map_cons, List.map_nil]); first | done | (simp only [hji19]; rfl) | rfl | (simp only [List.length_drop, List.length_take]; rfl)) ?_; (with_reducible refine (digits_Unpack.calls kj7 t404 (t406.extract 0 ((ji19) : Int).toNat) (t405.size : Int) t412 t413 t414 _ A22.out).mono ?_); rintro e w25 ⟨rfl, hb⟩; refine ⟨_, rfl, ?_⟩; have n0_ := Aside0.mk (below_step (by repeat (first | (with_reducible first | exact HB.out | apply below_alloc | apply pw_below_drewN | apply below_drew1) | exact HB.out)) hb); clear HB; have HB := n0_; clear n0_; (try clear hb); (try clear hb2); (try clear hk); (try clear hi)))
                    go_ret
                    exact ⟨by first | rfl | (simp [errW_none, errW_some] <;> rfl) | (simp only [← hji19]; first | rfl | (simp [errW_none, errW_some] <;> rfl)) | (simp [*, errW_none, errW_some] <;> rfl), by repeat (first | (with_reducible first | exact HB.out | apply below_alloc | apply pw_below_drewN | apply below_drew1) | exact HB.out)⟩
                  · rw [if_neg c24] at H
                    have c24b0 : (t413 == 10) = false := beq_eq_false_iff_ne.mpr c24
                    have c24b1 : (t413 != 10) = true := bne_iff_ne.mpr c24
                    obtain rfl := Option.some.inj H
                    go_wp2_with (first | ((with_reducible refine gate_callee (f := 34) rfl ?_); refine goesL_ (some 76) rfl rfl Try.func34 (by kernel_rfl) rfl #[.int .i64 t404, .string (t406.extract 0 ((ji19) : Int).toNat), .int .i64 (t405.size : Int)] rfl (by (try simp only [List.map_toArray, List.map_cons, List.map_nil]); first | done | (simp only [hji19]; rfl) | rfl | (simp only [List.length_drop, List.length_take]; rfl)) ?_; (with_reducible refine (digits_Unpack.calls kj7 t404 (t406.extract 0 ((ji19) : Int).toNat) (t405.size : Int) t412 t413 t414 _ A22.out).mono ?_); rintro e w26 ⟨rfl, hb⟩; refine ⟨_, rfl, ?_⟩; have n0_ := Aside0.mk (below_step (by repeat (first | (with_reducible first | exact HB.out | apply below_alloc | apply pw_below_drewN | apply below_drew1) | exact HB.out)) hb); clear HB; have HB := n0_; clear n0_; (try clear hb); (try clear hb2); (try clear hk); (try clear hi)))
                    go_ret
                    exact ⟨by first | rfl | (simp [errW_none, errW_some] <;> rfl) | (simp only [← hji19]; first | rfl | (simp [errW_none, errW_some] <;> rfl)) | (simp [*, errW_none, errW_some] <;> rfl), by repeat (first | (with_reducible first | exact HB.out | apply below_alloc | apply pw_below_drewN | apply below_drew1) | exact HB.out)⟩
                · rw [if_neg c23] at H
                  have c23b0 : (t412.toList == ([] : List UInt8)) = false := beq_eq_false_iff_ne.mpr c23
                  have c23b1 : (t412.toList != ([] : List UInt8)) = true := bne_iff_ne.mpr c23
                  obtain rfl := Option.some.inj H
                  go_wp2_with (first | ((with_reducible refine gate_callee (f := 34) rfl ?_); refine goesL_ (some 76) rfl rfl Try.func34 (by kernel_rfl) rfl #[.int .i64 t404, .string (t406.extract 0 ((ji19) : Int).toNat), .int .i64 (t405.size : Int)] rfl (by (try simp only [List.map_toArray, List.map_cons, List.map_nil]); first | done | (simp only [hji19]; rfl) | rfl | (simp only [List.length_drop, List.length_take]; rfl)) ?_; (with_reducible refine (digits_Unpack.calls kj7 t404 (t406.extract 0 ((ji19) : Int).toNat) (t405.size : Int) t412 t413 t414 _ A22.out).mono ?_); rintro e w27 ⟨rfl, hb⟩; refine ⟨_, rfl, ?_⟩; have n0_ := Aside0.mk (below_step (by repeat (first | (with_reducible first | exact HB.out | apply below_alloc | apply pw_below_drewN | apply below_drew1) | exact HB.out)) hb); clear HB; have HB := n0_; clear n0_; (try clear hb); (try clear hb2); (try clear hk); (try clear hi)))
                  go_ret
                  exact ⟨by first | rfl | (simp [errW_none, errW_some] <;> rfl) | (simp only [← hji19]; first | rfl | (simp [errW_none, errW_some] <;> rfl)) | (simp [*, errW_none, errW_some] <;> rfl), by repeat (first | (with_reducible first | exact HB.out | apply below_alloc | apply pw_below_drewN | apply below_drew1) | exact HB.out)⟩
              · rw [if_neg c21] at H
                exact absurd H (by simp)
            · rw [if_neg c20] at H
              exact absurd H (by simp)
  · rw [if_neg c6] at H
    exact absurd H (by simp)

/-- THE ONE PURE STATEMENT of turnstilelaw1_DigitsBack: yours. -/
def turnstilelaw1_DigitsBack.Pure : Prop := ∀ (a0 : Int) (a1 : ByteArray) (a2 : ByteArray), (Lit.int .i64 a0).wf = true → a1.size ≤ 140737488351232 → a2.size ≤ 140737488351232 → ∃ k, turnstilelaw1_DigitsBack.f k a0 a1 a2 = some true
theorem turnstilelaw1_DigitsBack.walk (P : turnstilelaw1_DigitsBack.Pure) (a0 : Int) (a1 : ByteArray) (a2 : ByteArray) (w : World) (w0 : (Lit.int .i64 a0).wf = true) (w1 : a1.size ≤ 140737488351232) (w2 : a2.size ≤ 140737488351232) :
    Calls Try.prog 14 #[.int .i64 a0, .string a1, .string a2] w fun e w' => e = .returned (.bool true) ∧ Below w.heap.size w w' := by
  obtain ⟨k, h⟩ := P a0 a1 a2 w0 w1 w2
  refine (turnstilelaw1_DigitsBack.calls k a0 a1 a2 true w h).mono ?_
  rintro e w' ⟨rfl, hd⟩
  exact ⟨rfl, hd⟩

end Go.Proofs.Ytlpamhffpgoebaa.All
