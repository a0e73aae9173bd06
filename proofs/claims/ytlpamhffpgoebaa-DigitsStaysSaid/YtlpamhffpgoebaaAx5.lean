-- WRITTEN BY this session's own drv.py over the kit's print. Not trusted: Lean checks it.
import Derived.Test.YtlpamhffpgoebaaAx0
import Derived.Test.YtlpamhffpgoebaaAx1
import Derived.Test.YtlpamhffpgoebaaAx4
namespace Go.Proofs.Ytlpamhffpgoebaa.All
open Go.RowKit Go.Proofs.YtlpamhffpgoebaaW.PrintWords Go.Proofs.YtlpamhffpgoebaaW.PrintLast Go.Proofs.YtlpamhffpgoebaaW.PrintMore
attribute [local go_sem] max2_int min2_int max_two min_two max_three min_three max_four min_four   -- for this text's walks alone
set_option linter.unusedVariables false
set_option linter.unusedSimpArgs false

/-! ### turnstilelaw1_DigitsStays: function 4 -/
mutual
def turnstilelaw1_DigitsStays.j0 : Nat → Int → Int → Int → Int → Bool → Option (Bool)
  | 0, _, _, _, _, _ => none
  | k + 1, x7, x8, x9, x10, x37 => if x37 = true then (some false) else (if x7 ≤ x8 then (turnstilelaw1_DigitsStays.j1 k x7 x8 x9 x10 (decide (x9 ≤ (wrap64 (x8 - x7))))) else (turnstilelaw1_DigitsStays.j1 k x7 x8 x9 x10 false))
def turnstilelaw1_DigitsStays.j1 : Nat → Int → Int → Int → Int → Bool → Option (Bool)
  | 0, _, _, _, _, _ => none
  | k + 1, x7, x8, x9, x10, x47 => if x47 = true then (some (x10 == (wrap64 (x7 + x9)))) else (if x10 = x8 then ((digits_Count.f (wrap64 ((wrap64 (-x7)) - 1)) x9 x8).bind fun t108 => ((digits_Count.f 0 x9 x8).bind fun t109 => (some (t108 == t109)))) else (some false))
end
def turnstilelaw1_DigitsStays.f (k : Nat) (a0 : Int) (a1 : Int) (a2 : Int) : Option (Bool) := (turnstilelaw1_pick.f a0 4611686018427387904).bind fun t104 => ((turnstilelaw1_pick.f a2 4611686018427387904).bind fun t105 => ((turnstilelaw1_pick.f a1 4611686018427387904).bind fun t106 => ((digits_Count.f t104 t106 t105).bind fun t107 => (if t107 > t105 then (turnstilelaw1_DigitsStays.j0 k t104 t105 t106 t107 true) else (if t107 < 0 then (turnstilelaw1_DigitsStays.j0 k t104 t105 t106 t107 true) else (if t104 ≤ t105 then (turnstilelaw1_DigitsStays.j0 k t104 t105 t106 t107 (decide (t107 < t104))) else (turnstilelaw1_DigitsStays.j0 k t104 t105 t106 t107 false)))))))
theorem turnstilelaw1_DigitsStays.mono_l : ∀ k, (∀ y0 y1 y2 y3 y4, LeO (turnstilelaw1_DigitsStays.j0 k y0 y1 y2 y3 y4) (turnstilelaw1_DigitsStays.j0 (k + 1) y0 y1 y2 y3 y4)) ∧ (∀ y0 y1 y2 y3 y4, LeO (turnstilelaw1_DigitsStays.j1 k y0 y1 y2 y3 y4) (turnstilelaw1_DigitsStays.j1 (k + 1) y0 y1 y2 y3 y4))
  | 0 => ⟨fun _ _ _ _ _ r h => by simp [turnstilelaw1_DigitsStays.j0] at h, fun _ _ _ _ _ r h => by simp [turnstilelaw1_DigitsStays.j1] at h⟩
  | k + 1 => by
    obtain ⟨ih0, ih1⟩ := turnstilelaw1_DigitsStays.mono_l k
    refine ⟨?_, ?_⟩
    · intro y0 y1 y2 y3 y4
      unfold turnstilelaw1_DigitsStays.j0
      repeat' first
      | (with_reducible exact ih0 _ _ _ _ _)
      | (with_reducible exact ih1 _ _ _ _ _)
      | (with_reducible exact LeO.refl _)
      | (with_reducible exact LeO.none _)
      | (with_reducible refine LeO.ite ?_ ?_)
      | (with_reducible refine LeO.bind ?_ (fun _ => ?_))
      | exact ih0 _ _ _ _ _
      | exact ih1 _ _ _ _ _
      | exact LeO.none _
      | refine LeO.ite ?_ ?_
      | refine LeO.bind ?_ (fun _ => ?_)
    · intro y0 y1 y2 y3 y4
      unfold turnstilelaw1_DigitsStays.j1
      repeat' first
      | (with_reducible exact ih0 _ _ _ _ _)
      | (with_reducible exact ih1 _ _ _ _ _)
      | (with_reducible exact LeO.refl _)
      | (with_reducible exact LeO.none _)
      | (with_reducible refine LeO.ite ?_ ?_)
      | (with_reducible refine LeO.bind ?_ (fun _ => ?_))
      | exact ih0 _ _ _ _ _
      | exact ih1 _ _ _ _ _
      | exact LeO.none _
      | refine LeO.ite ?_ ?_
      | refine LeO.bind ?_ (fun _ => ?_)
theorem turnstilelaw1_DigitsStays.mono : ∀ a0 a1 a2 k, LeO (turnstilelaw1_DigitsStays.f k a0 a1 a2) (turnstilelaw1_DigitsStays.f (k + 1) a0 a1 a2) := by
  intro a0 a1 a2 k
  obtain ⟨ih0, ih1⟩ := turnstilelaw1_DigitsStays.mono_l k
  unfold turnstilelaw1_DigitsStays.f
  repeat' first
      | (with_reducible exact ih0 _ _ _ _ _)
      | (with_reducible exact ih1 _ _ _ _ _)
      | (with_reducible exact LeO.refl _)
      | (with_reducible exact LeO.none _)
      | (with_reducible refine LeO.ite ?_ ?_)
      | (with_reducible refine LeO.bind ?_ (fun _ => ?_))
      | exact ih0 _ _ _ _ _
      | exact ih1 _ _ _ _ _
      | exact LeO.none _
      | refine LeO.ite ?_ ?_
      | refine LeO.bind ?_ (fun _ => ?_)
set_option maxHeartbeats 8000000 in
set_option maxRecDepth 100000 in
theorem turnstilelaw1_DigitsStays.calls (k : Nat) (a0 : Int) (a1 : Int) (a2 : Int) (r : Bool) (w : World) (h : turnstilelaw1_DigitsStays.f k a0 a1 a2 = some r) :
    Calls Try.prog 4 #[.int .i64 a0, .int .i64 a1, .int .i64 a2] w fun e w' => e = .returned (.bool r) ∧ Below w.heap.size w w' := by
  have HB := Aside0.mk (Below.refl w.heap.size w)
  have H : ((turnstilelaw1_pick.f a0 4611686018427387904).bind fun t104 => ((turnstilelaw1_pick.f a2 4611686018427387904).bind fun t105 => ((turnstilelaw1_pick.f a1 4611686018427387904).bind fun t106 => ((digits_Count.f t104 t106 t105).bind fun t107 => (if t107 > t105 then (turnstilelaw1_DigitsStays.j0 k t104 t105 t106 t107 true) else (if t107 < 0 then (turnstilelaw1_DigitsStays.j0 k t104 t105 t106 t107 true) else (if t104 ≤ t105 then (turnstilelaw1_DigitsStays.j0 k t104 t105 t106 t107 (decide (t107 < t104))) else (turnstilelaw1_DigitsStays.j0 k t104 t105 t106 t107 false)))))))) = some r := h
  clear h
  replace H := Option.bind_eq_some_iff.mp H
  obtain ⟨t104, A40, H⟩ := H
  replace H : ((turnstilelaw1_pick.f a2 4611686018427387904).bind fun t105 => ((turnstilelaw1_pick.f a1 4611686018427387904).bind fun t106 => ((digits_Count.f t104 t106 t105).bind fun t107 => (if t107 > t105 then (turnstilelaw1_DigitsStays.j0 k t104 t105 t106 t107 true) else (if t107 < 0 then (turnstilelaw1_DigitsStays.j0 k t104 t105 t106 t107 true) else (if t104 ≤ t105 then (turnstilelaw1_DigitsStays.j0 k t104 t105 t106 t107 (decide (t107 < t104))) else (turnstilelaw1_DigitsStays.j0 k t104 t105 t106 t107 false))))))) = some r := H
  have A4 := Aside0.mk A40
  clear A40
  replace H := Option.bind_eq_some_iff.mp H
  obtain ⟨t105, A50, H⟩ := H
  replace H : ((turnstilelaw1_pick.f a1 4611686018427387904).bind fun t106 => ((digits_Count.f t104 t106 t105).bind fun t107 => (if t107 > t105 then (turnstilelaw1_DigitsStays.j0 k t104 t105 t106 t107 true) else (if t107 < 0 then (turnstilelaw1_DigitsStays.j0 k t104 t105 t106 t107 true) else (if t104 ≤ t105 then (turnstilelaw1_DigitsStays.j0 k t104 t105 t106 t107 (decide (t107 < t104))) else (turnstilelaw1_DigitsStays.j0 k t104 t105 t106 t107 false)))))) = some r := H
  have A5 := Aside0.mk A50
  clear A50
  replace H := Option.bind_eq_some_iff.mp H
  obtain ⟨t106, A60, H⟩ := H
  replace H : ((digits_Count.f t104 t106 t105).bind fun t107 => (if t107 > t105 then (turnstilelaw1_DigitsStays.j0 k t104 t105 t106 t107 true) else (if t107 < 0 then (turnstilelaw1_DigitsStays.j0 k t104 t105 t106 t107 true) else (if t104 ≤ t105 then (turnstilelaw1_DigitsStays.j0 k t104 t105 t106 t107 (decide (t107 < t104))) else (turnstilelaw1_DigitsStays.j0 k t104 t105 t106 t107 false))))) = some r := H
  have A6 := Aside0.mk A60
  clear A60
  replace H := Option.bind_eq_some_iff.mp H
  obtain ⟨t107, A70, H⟩ := H
  replace H : (if t107 > t105 then (turnstilelaw1_DigitsStays.j0 k t104 t105 t106 t107 true) else (if t107 < 0 then (turnstilelaw1_DigitsStays.j0 k t104 t105 t106 t107 true) else (if t104 ≤ t105 then (turnstilelaw1_DigitsStays.j0 k t104 t105 t106 t107 (decide (t107 < t104))) else (turnstilelaw1_DigitsStays.j0 k t104 t105 t106 t107 false)))) = some r := H
  have A7 := Aside0.mk A70
  clear A70
  have HC8 := Aside0.mk H
  clear H
  go_enter Try.func4, Try.ntmps4
  go_upto_region 5 with (first | ((with_reducible refine gate_callee (f := 19) rfl ?_); refine goesL_ (some 12) rfl rfl Try.func19 (by kernel_rfl) rfl #[.int .i64 a0, .int .i64 4611686018427387904] rfl (by (try simp only [List.map_toArray, List.map_cons, List.map_nil]); first | done | rfl | (simp only [List.length_drop, List.length_take]; rfl)) ?_; (with_reducible refine (turnstilelaw1_pick.calls a0 4611686018427387904 t104 _ A4.out).mono ?_); rintro e w' ⟨rfl, ⟨nd, rfl⟩⟩; refine ⟨_, rfl, ?_⟩) | ((with_reducible refine gate_callee (f := 19) rfl ?_); refine goesL_ (some 14) rfl rfl Try.func19 (by kernel_rfl) rfl #[.int .i64 a2, .int .i64 4611686018427387904] rfl (by (try simp only [List.map_toArray, List.map_cons, List.map_nil]); first | done | rfl | (simp only [List.length_drop, List.length_take]; rfl)) ?_; (with_reducible refine (turnstilelaw1_pick.calls a2 4611686018427387904 t105 _ A5.out).mono ?_); rintro e w' ⟨rfl, ⟨nd, rfl⟩⟩; refine ⟨_, rfl, ?_⟩) | ((with_reducible refine gate_callee (f := 19) rfl ?_); refine goesL_ (some 16) rfl rfl Try.func19 (by kernel_rfl) rfl #[.int .i64 a1, .int .i64 4611686018427387904] rfl (by (try simp only [List.map_toArray, List.map_cons, List.map_nil]); first | done | rfl | (simp only [List.length_drop, List.length_take]; rfl)) ?_; (with_reducible refine (turnstilelaw1_pick.calls a1 4611686018427387904 t106 _ A6.out).mono ?_); rintro e w' ⟨rfl, ⟨nd, rfl⟩⟩; refine ⟨_, rfl, ?_⟩) | ((with_reducible refine gate_callee (f := 17) rfl ?_); refine goesL_ (some 20) rfl rfl Try.func17 (by kernel_rfl) rfl #[.int .i64 t104, .int .i64 t106, .int .i64 t105] rfl (by (try simp only [List.map_toArray, List.map_cons, List.map_nil]); first | done | rfl | (simp only [List.length_drop, List.length_take]; rfl)) ?_; (with_reducible refine (digits_Count.calls t104 t106 t105 t107 _ A7.out).mono ?_); rintro e w9 ⟨rfl, hb⟩; refine ⟨_, rfl, ?_⟩; have n0_ := Aside0.mk (below_step (by repeat (first | (with_reducible first | exact HB.out | apply below_alloc | apply pw_below_drewN | apply below_drew1) | exact HB.out)) hb); clear HB; have HB := n0_; clear n0_; (try clear hb); (try clear hb2); (try clear hk); (try clear hi)))
  (try simp only [Act.put, List.setIfInBounds_toArray, List.set_cons_zero, List.set_cons_succ])
  go_cut [37] (fun v37 wc => ∃ (kq : Nat) (x37_7 : Bool), v37 = .bool x37_7 ∧ Aside0 (turnstilelaw1_DigitsStays.j0 kq t104 t105 t106 t107 x37_7 = some r) ∧ Aside0 (kq ≤ k) ∧ Aside0 (Below w.heap.size w wc))
  case first =>
    have H := HC8.out
    clear HC8
    by_cases c10 : t107 > t105
    · rw [if_pos c10] at H
      have c10b0 : decide (t105 < t107) = true := decide_eq_true c10
      clear c10
      (first | rw [c10b0] | (simp only [i64_w, i32_w]; rw [c10b0]) | skip)
      have H' := Aside0.mk H
      clear H
      go_wp2
      go_meet
      case rel => exact ⟨_, (true), (by first | rfl | (simp; done) | (simp [*]; done)), H', ⟨by first | omega | exact Nat.le_refl _⟩, ⟨by repeat (first | (with_reducible first | exact HB.out | apply below_alloc | apply pw_below_drewN | apply below_drew1) | exact HB.out)⟩⟩
    · rw [if_neg c10] at H
      have c10b0 : decide (t105 < t107) = false := decide_eq_false c10
      clear c10
      (first | rw [c10b0] | (simp only [i64_w, i32_w]; rw [c10b0]) | skip)
      by_cases c11 : t107 < 0
      · rw [if_pos c11] at H
        have c11b0 : decide (t107 < 0) = true := decide_eq_true c11
        clear c11
        have H' := Aside0.mk H
        clear H
        go_wp2
        go_meet
        case rel => exact ⟨_, (true), (by first | rfl | (simp; done) | (simp [*]; done)), H', ⟨by first | omega | exact Nat.le_refl _⟩, ⟨by repeat (first | (with_reducible first | exact HB.out | apply below_alloc | apply pw_below_drewN | apply below_drew1) | exact HB.out)⟩⟩
      · rw [if_neg c11] at H
        have c11b0 : decide (t107 < 0) = false := decide_eq_false c11
        clear c11
        by_cases c12 : t104 ≤ t105
        · rw [if_pos c12] at H
          have c12b0 : decide (t104 ≤ t105) = true := decide_eq_true c12
          clear c12
          have H' := Aside0.mk H
          clear H
          go_wp2
          go_meet
          case rel => exact ⟨_, (decide (t107 < t104)), (by first | rfl | (simp; done) | (simp [*]; done)), H', ⟨by first | omega | exact Nat.le_refl _⟩, ⟨by repeat (first | (with_reducible first | exact HB.out | apply below_alloc | apply pw_below_drewN | apply below_drew1) | exact HB.out)⟩⟩
        · rw [if_neg c12] at H
          have c12b0 : decide (t104 ≤ t105) = false := decide_eq_false c12
          clear c12
          have H' := Aside0.mk H
          clear H
          go_wp2
          go_meet
          case rel => exact ⟨_, (false), (by first | rfl | (simp; done) | (simp [*]; done)), H', ⟨by first | omega | exact Nat.le_refl _⟩, ⟨by repeat (first | (with_reducible first | exact HB.out | apply below_alloc | apply pw_below_drewN | apply below_drew1) | exact HB.out)⟩⟩
  case rest =>
    clear HC8
    try clear c1
    try clear p2
    try clear c4
    try clear c10
    try clear c10b0
    try clear c11
    try clear c11b0
    try clear c12
    try clear c12b0
    obtain ⟨kq, x37_7, rfl, HA, HJ7, HB⟩ := hcut
    cases kq with
    | zero => exact absurd HA.out (by simp [turnstilelaw1_DigitsStays.j0])
    | succ kj7 =>
      have H := HA.out
      clear HA
      simp only [turnstilelaw1_DigitsStays.j0] at H
      by_cases c13 : x37_7 = true
      · subst c13
        have H1 : (some false) = some r := by rw [if_pos rfl] at H; exact H
        clear H
        have H := H1
        clear H1
        obtain rfl := Option.some.inj H
        go_wp2
        go_ret
        exact ⟨by first | rfl | (simp [errW_none, errW_some] <;> rfl) | (simp [*, errW_none, errW_some] <;> rfl), by repeat (first | (with_reducible first | exact HB.out | apply below_alloc | apply pw_below_drewN | apply below_drew1) | exact HB.out)⟩
      · replace c13 := Bool.eq_false_iff.mpr c13
        subst c13
        have H1 : (if t104 ≤ t105 then (turnstilelaw1_DigitsStays.j1 kj7 t104 t105 t106 t107 (decide (t106 ≤ (wrap64 (t105 - t104))))) else (turnstilelaw1_DigitsStays.j1 kj7 t104 t105 t106 t107 false)) = some r := by rw [if_neg (show ¬ (false = true) by decide)] at H; exact H
        clear H
        have H := H1
        clear H1
        have HC14 := Aside0.mk H
        clear H
        go_upto_region 7 with (fail)
        go_cut [47] (fun v47 wc => ∃ (kq : Nat) (x47_13 : Bool), v47 = .bool x47_13 ∧ Aside0 (turnstilelaw1_DigitsStays.j1 kq t104 t105 t106 t107 x47_13 = some r) ∧ Aside0 (kq ≤ kj7) ∧ Aside0 (Below w.heap.size w wc))
        case first =>
          have H := HC14.out
          clear HC14
          by_cases c15 : t104 ≤ t105
          · rw [if_pos c15] at H
            have c15b0 : decide (t104 ≤ t105) = true := decide_eq_true c15
            clear c15
            (first | rw [c15b0] | (simp only [i64_w, i32_w]; rw [c15b0]) | skip)
            have H' := Aside0.mk H
            clear H
            go_wp2
            go_meet
            case rel => exact ⟨_, (decide (t106 ≤ (wrap64 (t105 - t104)))), (by first | rfl | (simp; done) | (simp [*]; done)), H', ⟨by have := HJ7.out; first | omega | exact Nat.le_refl _⟩, ⟨by repeat (first | (with_reducible first | exact HB.out | apply below_alloc | apply pw_below_drewN | apply below_drew1) | exact HB.out)⟩⟩
          · rw [if_neg c15] at H
            have c15b0 : decide (t104 ≤ t105) = false := decide_eq_false c15
            clear c15
            (first | rw [c15b0] | (simp only [i64_w, i32_w]; rw [c15b0]) | skip)
            have H' := Aside0.mk H
            clear H
            go_wp2
            go_meet
            case rel => exact ⟨_, (false), (by first | rfl | (simp; done) | (simp [*]; done)), H', ⟨by have := HJ7.out; first | omega | exact Nat.le_refl _⟩, ⟨by repeat (first | (with_reducible first | exact HB.out | apply below_alloc | apply pw_below_drewN | apply below_drew1) | exact HB.out)⟩⟩
        case rest =>
          clear HC14
          try clear c1
          try clear p2
          try clear c4
          try clear p6
          try clear c10
          try clear c10b0
          try clear c11
          try clear c11b0
          try clear c12
          try clear c12b0
          try clear c13
          try clear c15
          try clear c15b0
          try clear p2
          obtain ⟨kq, x47_13, rfl, HA, HJ13, HB⟩ := hcut
          cases kq with
          | zero => exact absurd HA.out (by simp [turnstilelaw1_DigitsStays.j1])
          | succ kj13 =>
            have H := HA.out
            clear HA
            simp only [turnstilelaw1_DigitsStays.j1] at H
            by_cases c16 : x47_13 = true
            · subst c16
              have H1 : (some (t107 == (wrap64 (t104 + t106)))) = some r := by rw [if_pos rfl] at H; exact H
              clear H
              have H := H1
              clear H1
              obtain rfl := Option.some.inj H
              go_wp2
              go_ret
              exact ⟨by first | rfl | (simp [errW_none, errW_some] <;> rfl) | (simp [*, errW_none, errW_some] <;> rfl), by repeat (first | (with_reducible first | exact HB.out | apply below_alloc | apply pw_below_drewN | apply below_drew1) | exact HB.out)⟩
            · replace c16 := Bool.eq_false_iff.mpr c16
              subst c16
              have H1 : (if t107 = t105 then ((digits_Count.f (wrap64 ((wrap64 (-t104)) - 1)) t106 t105).bind fun t108 => ((digits_Count.f 0 t106 t105).bind fun t109 => (some (t108 == t109)))) else (some false)) = some r := by rw [if_neg (show ¬ (false = true) by decide)] at H; exact H
              clear H
              have H := H1
              clear H1
              by_cases c17 : t107 = t105
              · rw [if_pos c17] at H
                have c17b0 : (t107 == t105) = true := beq_iff_eq.mpr c17
                have c17b1 : (t107 != t105) = false := bne_eq_false_iff_eq.mpr c17
                clear c17
                replace H := Option.bind_eq_some_iff.mp H
                obtain ⟨t108, A180, H⟩ := H
                replace H : ((digits_Count.f 0 t106 t105).bind fun t109 => (some (t108 == t109))) = some r := H
                have A18 := Aside0.mk A180
                clear A180
                replace H := Option.bind_eq_some_iff.mp H
                obtain ⟨t109, A190, H⟩ := H
                replace H : (some (t108 == t109)) = some r := H
                have A19 := Aside0.mk A190
                clear A190
                obtain rfl := Option.some.inj H
                go_wp2_with (first | (go_at_call 17; (with_reducible refine (digits_Count.calls (wrap64 ((wrap64 (-t104)) - 1)) t106 t105 t108 _ A18.out).mono ?_); rintro e w20 ⟨rfl, hb⟩; have n0_ := Aside0.mk (below_step (by repeat (first | (with_reducible first | exact HB.out | apply below_alloc | apply pw_below_drewN | apply below_drew1) | exact HB.out)) hb); clear HB; have HB := n0_; clear n0_; (try clear hb); (try clear hb2); (try clear hk); (try clear hi)) | (go_at_call 17; (with_reducible refine (digits_Count.calls 0 t106 t105 t109 _ A19.out).mono ?_); rintro e w21 ⟨rfl, hb⟩; have n0_ := Aside0.mk (below_step (by repeat (first | (with_reducible first | exact HB.out | apply below_alloc | apply pw_below_drewN | apply below_drew1) | exact HB.out)) hb); clear HB; have HB := n0_; clear n0_; (try clear hb); (try clear hb2); (try clear hk); (try clear hi)))
                go_ret
                exact ⟨by first | rfl | (simp [errW_none, errW_some] <;> rfl) | (simp [*, errW_none, errW_some] <;> rfl), by repeat (first | (with_reducible first | exact HB.out | apply below_alloc | apply pw_below_drewN | apply below_drew1) | exact HB.out)⟩
              · rw [if_neg c17] at H
                have c17b0 : (t107 == t105) = false := beq_eq_false_iff_ne.mpr c17
                have c17b1 : (t107 != t105) = true := bne_iff_ne.mpr c17
                obtain rfl := Option.some.inj H
                go_wp2
                go_ret
                exact ⟨by first | rfl | (simp [errW_none, errW_some] <;> rfl) | (simp [*, errW_none, errW_some] <;> rfl), by repeat (first | (with_reducible first | exact HB.out | apply below_alloc | apply pw_below_drewN | apply below_drew1) | exact HB.out)⟩

/-- THE ONE PURE STATEMENT of turnstilelaw1_DigitsStays: yours. -/
def turnstilelaw1_DigitsStays.Pure : Prop := ∀ (a0 : Int) (a1 : Int) (a2 : Int), (Lit.int .i64 a0).wf = true → (Lit.int .i64 a1).wf = true → (Lit.int .i64 a2).wf = true → ∃ k, turnstilelaw1_DigitsStays.f k a0 a1 a2 = some true
theorem turnstilelaw1_DigitsStays.walk (P : turnstilelaw1_DigitsStays.Pure) (a0 : Int) (a1 : Int) (a2 : Int) (w : World) (w0 : (Lit.int .i64 a0).wf = true) (w1 : (Lit.int .i64 a1).wf = true) (w2 : (Lit.int .i64 a2).wf = true) :
    Calls Try.prog 4 #[.int .i64 a0, .int .i64 a1, .int .i64 a2] w fun e w' => e = .returned (.bool true) ∧ Below w.heap.size w w' := by
  obtain ⟨k, h⟩ := P a0 a1 a2 w0 w1 w2
  refine (turnstilelaw1_DigitsStays.calls k a0 a1 a2 true w h).mono ?_
  rintro e w' ⟨rfl, hd⟩
  exact ⟨rfl, hd⟩

end Go.Proofs.Ytlpamhffpgoebaa.All
