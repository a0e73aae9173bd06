-- WRITTEN BY this session's own drv.py over the kit's print. Not trusted: Lean checks it.
import Derived.Test.YtlpamhffpgoebaaAx0
namespace Go.Proofs.Ytlpamhffpgoebaa.All
open Go.RowKit Go.Proofs.YtlpamhffpgoebaaW.PrintWords Go.Proofs.YtlpamhffpgoebaaW.PrintLast Go.Proofs.YtlpamhffpgoebaaW.PrintMore
attribute [local go_sem] max2_int min2_int max_two min_two max_three min_three max_four min_four   -- for this text's walks alone
set_option linter.unusedVariables false
set_option linter.unusedSimpArgs false

/-! ### turnstilelaw1_turned: function 39 -/
mutual
def turnstilelaw1_turned.j0 : Nat → Int → Int → Int → Int → Bool → Option (ByteArray)
  | 0, _, _, _, _, _ => none
  | k + 1, x0, x1, x2, x3, x9 => if x9 = true then (some (⟨#[5]⟩ : ByteArray)) else (if x0 = 3 then (if (Int.tmod x3 2) = 1 then (turnstilelaw1_turned.j1 k x0 x1 (x2 == (wrap64 (Int.tdiv x3 2)))) else (turnstilelaw1_turned.j1 k x0 x1 false)) else (turnstilelaw1_turned.j1 k x0 x1 false))
def turnstilelaw1_turned.j1 : Nat → Int → Int → Bool → Option (ByteArray)
  | 0, _, _, _ => none
  | k + 1, x0, x1, x21 => if x21 = true then (some (⟨#[95]⟩ : ByteArray)) else (if x0 = 2 then (turnstilelaw1_turned.j2 k x0 x1 true) else (turnstilelaw1_turned.j2 k x0 x1 (x0 == 3)))
def turnstilelaw1_turned.j2 : Nat → Int → Int → Bool → Option (ByteArray)
  | 0, _, _, _ => none
  | k + 1, x0, x1, x35 => if x35 = true then (some (⟨#[55]⟩ : ByteArray)) else (if x0 = 1 then (some (⟨#[55]⟩ : ByteArray)) else (if x0 = 4 then (some (⟨#[247]⟩ : ByteArray)) else (some (strOfNums (([x1] : List Int))))))
end
def turnstilelaw1_turned.f (k : Nat) (a0 : Int) (a1 : Int) (a2 : Int) (a3 : Int) : Option (ByteArray) := if a0 = 2 then (if (Int.tmod a3 2) = 1 then (turnstilelaw1_turned.j0 k a0 a1 a2 a3 (a2 == 0)) else (turnstilelaw1_turned.j0 k a0 a1 a2 a3 false)) else (turnstilelaw1_turned.j0 k a0 a1 a2 a3 false)
theorem turnstilelaw1_turned.mono_l : ∀ k, (∀ y0 y1 y2 y3 y4, LeO (turnstilelaw1_turned.j0 k y0 y1 y2 y3 y4) (turnstilelaw1_turned.j0 (k + 1) y0 y1 y2 y3 y4)) ∧ (∀ y0 y1 y2, LeO (turnstilelaw1_turned.j1 k y0 y1 y2) (turnstilelaw1_turned.j1 (k + 1) y0 y1 y2)) ∧ (∀ y0 y1 y2, LeO (turnstilelaw1_turned.j2 k y0 y1 y2) (turnstilelaw1_turned.j2 (k + 1) y0 y1 y2))
  | 0 => ⟨fun _ _ _ _ _ r h => by simp [turnstilelaw1_turned.j0] at h, fun _ _ _ r h => by simp [turnstilelaw1_turned.j1] at h, fun _ _ _ r h => by simp [turnstilelaw1_turned.j2] at h⟩
  | k + 1 => by
    obtain ⟨ih0, ih1, ih2⟩ := turnstilelaw1_turned.mono_l k
    refine ⟨?_, ?_, ?_⟩
    · intro y0 y1 y2 y3 y4
      unfold turnstilelaw1_turned.j0
      repeat' first
      | (with_reducible exact ih0 _ _ _ _ _)
      | (with_reducible exact ih1 _ _ _)
      | (with_reducible exact ih2 _ _ _)
      | (with_reducible exact LeO.refl _)
      | (with_reducible exact LeO.none _)
      | (with_reducible refine LeO.ite ?_ ?_)
      | (with_reducible refine LeO.bind ?_ (fun _ => ?_))
      | exact ih0 _ _ _ _ _
      | exact ih1 _ _ _
      | exact ih2 _ _ _
      | exact LeO.none _
      | refine LeO.ite ?_ ?_
      | refine LeO.bind ?_ (fun _ => ?_)
    · intro y0 y1 y2
      unfold turnstilelaw1_turned.j1
      repeat' first
      | (with_reducible exact ih0 _ _ _ _ _)
      | (with_reducible exact ih1 _ _ _)
      | (with_reducible exact ih2 _ _ _)
      | (with_reducible exact LeO.refl _)
      | (with_reducible exact LeO.none _)
      | (with_reducible refine LeO.ite ?_ ?_)
      | (with_reducible refine LeO.bind ?_ (fun _ => ?_))
      | exact ih0 _ _ _ _ _
      | exact ih1 _ _ _
      | exact ih2 _ _ _
      | exact LeO.none _
      | refine LeO.ite ?_ ?_
      | refine LeO.bind ?_ (fun _ => ?_)
    · intro y0 y1 y2
      unfold turnstilelaw1_turned.j2
      repeat' first
      | (with_reducible exact ih0 _ _ _ _ _)
      | (with_reducible exact ih1 _ _ _)
      | (with_reducible exact ih2 _ _ _)
      | (with_reducible exact LeO.refl _)
      | (with_reducible exact LeO.none _)
      | (with_reducible refine LeO.ite ?_ ?_)
      | (with_reducible refine LeO.bind ?_ (fun _ => ?_))
      | exact ih0 _ _ _ _ _
      | exact ih1 _ _ _
      | exact ih2 _ _ _
      | exact LeO.none _
      | refine LeO.ite ?_ ?_
      | refine LeO.bind ?_ (fun _ => ?_)
theorem turnstilelaw1_turned.mono : ∀ a0 a1 a2 a3 k, LeO (turnstilelaw1_turned.f k a0 a1 a2 a3) (turnstilelaw1_turned.f (k + 1) a0 a1 a2 a3) := by
  intro a0 a1 a2 a3 k
  obtain ⟨ih0, ih1, ih2⟩ := turnstilelaw1_turned.mono_l k
  unfold turnstilelaw1_turned.f
  repeat' first
      | (with_reducible exact ih0 _ _ _ _ _)
      | (with_reducible exact ih1 _ _ _)
      | (with_reducible exact ih2 _ _ _)
      | (with_reducible exact LeO.refl _)
      | (with_reducible exact LeO.none _)
      | (with_reducible refine LeO.ite ?_ ?_)
      | (with_reducible refine LeO.bind ?_ (fun _ => ?_))
      | exact ih0 _ _ _ _ _
      | exact ih1 _ _ _
      | exact ih2 _ _ _
      | exact LeO.none _
      | refine LeO.ite ?_ ?_
      | refine LeO.bind ?_ (fun _ => ?_)
set_option maxHeartbeats 8000000 in
set_option maxRecDepth 100000 in
theorem turnstilelaw1_turned.calls (k : Nat) (a0 : Int) (a1 : Int) (a2 : Int) (a3 : Int) (r : ByteArray) (w : World) (h : turnstilelaw1_turned.f k a0 a1 a2 a3 = some r) :
    Calls Try.prog 39 #[.int .i64 a0, .int .u8 a1, .int .i64 a2, .int .i64 a3] w fun e w' => e = .returned (.string r) ∧ Below w.heap.size w w' := by
  have HB := Aside0.mk (Below.refl w.heap.size w)
  have H : (if a0 = 2 then (if (Int.tmod a3 2) = 1 then (turnstilelaw1_turned.j0 k a0 a1 a2 a3 (a2 == 0)) else (turnstilelaw1_turned.j0 k a0 a1 a2 a3 false)) else (turnstilelaw1_turned.j0 k a0 a1 a2 a3 false)) = some r := h
  clear h
  have HC5 := Aside0.mk H
  clear H
  go_enter Try.func39, Try.ntmps39
  go_upto_region 1 with (fail)
  go_cut [9] (fun v9 wc => ∃ (kq : Nat) (x9_4 : Bool), v9 = .bool x9_4 ∧ Aside0 (turnstilelaw1_turned.j0 kq a0 a1 a2 a3 x9_4 = some r) ∧ Aside0 (kq ≤ k) ∧ Aside0 (Below w.heap.size w wc))
  case first =>
    have H := HC5.out
    clear HC5
    by_cases c6 : a0 = 2
    · rw [if_pos c6] at H
      have c6b0 : (a0 == 2) = true := beq_iff_eq.mpr c6
      have c6b1 : (a0 != 2) = false := bne_eq_false_iff_eq.mpr c6
      clear c6
      (first | rw [c6b0] | (simp only [i64_w, i32_w]; rw [c6b0]) | skip)
      by_cases c7 : (Int.tmod a3 2) = 1
      · rw [if_pos c7] at H
        have c7b0 : ((Int.tmod a3 2) == 1) = true := beq_iff_eq.mpr c7
        have c7b1 : ((Int.tmod a3 2) != 1) = false := bne_eq_false_iff_eq.mpr c7
        clear c7
        have H' := Aside0.mk H
        clear H
        go_wp2
        go_meet
        case rel => exact ⟨_, ((a2 == 0)), (by first | rfl | (simp; done) | (simp [*]; done)), H', ⟨by first | omega | exact Nat.le_refl _⟩, ⟨by repeat (first | (with_reducible first | exact HB.out | apply below_alloc | apply pw_below_drewN | apply below_drew1) | exact HB.out)⟩⟩
      · rw [if_neg c7] at H
        have c7b0 : ((Int.tmod a3 2) == 1) = false := beq_eq_false_iff_ne.mpr c7
        have c7b1 : ((Int.tmod a3 2) != 1) = true := bne_iff_ne.mpr c7
        have H' := Aside0.mk H
        clear H
        go_wp2
        go_meet
        case rel => exact ⟨_, (false), (by first | rfl | (simp; done) | (simp [*]; done)), H', ⟨by first | omega | exact Nat.le_refl _⟩, ⟨by repeat (first | (with_reducible first | exact HB.out | apply below_alloc | apply pw_below_drewN | apply below_drew1) | exact HB.out)⟩⟩
    · rw [if_neg c6] at H
      have c6b0 : (a0 == 2) = false := beq_eq_false_iff_ne.mpr c6
      have c6b1 : (a0 != 2) = true := bne_iff_ne.mpr c6
      (first | rw [c6b0] | (simp only [i64_w, i32_w]; rw [c6b0]) | skip)
      have H' := Aside0.mk H
      clear H
      go_wp2
      go_meet
      case rel => exact ⟨_, (false), (by first | rfl | (simp; done) | (simp [*]; done)), H', ⟨by first | omega | exact Nat.le_refl _⟩, ⟨by repeat (first | (with_reducible first | exact HB.out | apply below_alloc | apply pw_below_drewN | apply below_drew1) | exact HB.out)⟩⟩
  case rest =>
    clear HC5
    try clear p2
    try clear c3
    try clear c6
    try clear c6b0
    try clear c6b1
    try clear c7
    try clear c7b0
    try clear c7b1
    obtain ⟨kq, x9_4, rfl, HA, HJ4, HB⟩ := hcut
    cases kq with
    | zero => exact absurd HA.out (by simp [turnstilelaw1_turned.j0])
    | succ kj4 =>
      have H := HA.out
      clear HA
      simp only [turnstilelaw1_turned.j0] at H
      by_cases c8 : x9_4 = true
      · subst c8
        have H1 : (some (⟨#[5]⟩ : ByteArray)) = some r := by rw [if_pos rfl] at H; exact H
        clear H
        have H := H1
        clear H1
        obtain rfl := Option.some.inj H
        go_wp2
        go_ret
        exact ⟨by first | rfl | (simp [errW_none, errW_some] <;> rfl) | (simp [*, errW_none, errW_some] <;> rfl), by repeat (first | (with_reducible first | exact HB.out | apply below_alloc | apply pw_below_drewN | apply below_drew1) | exact HB.out)⟩
      · replace c8 := Bool.eq_false_iff.mpr c8
        subst c8
        have H1 : (if a0 = 3 then (if (Int.tmod a3 2) = 1 then (turnstilelaw1_turned.j1 kj4 a0 a1 (a2 == (wrap64 (Int.tdiv a3 2)))) else (turnstilelaw1_turned.j1 kj4 a0 a1 false)) else (turnstilelaw1_turned.j1 kj4 a0 a1 false)) = some r := by rw [if_neg (show ¬ (false = true) by decide)] at H; exact H
        clear H
        have H := H1
        clear H1
        have HC9 := Aside0.mk H
        clear H
        go_upto_region 3 with (fail)
        go_cut [21] (fun v21 wc => ∃ (kq : Nat) (x21_8 : Bool), v21 = .bool x21_8 ∧ Aside0 (turnstilelaw1_turned.j1 kq a0 a1 x21_8 = some r) ∧ Aside0 (kq ≤ kj4) ∧ Aside0 (Below w.heap.size w wc))
        case first =>
          have H := HC9.out
          clear HC9
          by_cases c10 : a0 = 3
          · rw [if_pos c10] at H
            have c10b0 : (a0 == 3) = true := beq_iff_eq.mpr c10
            have c10b1 : (a0 != 3) = false := bne_eq_false_iff_eq.mpr c10
            clear c10
            (first | rw [c10b0] | (simp only [i64_w, i32_w]; rw [c10b0]) | skip)
            by_cases c11 : (Int.tmod a3 2) = 1
            · rw [if_pos c11] at H
              have c11b0 : ((Int.tmod a3 2) == 1) = true := beq_iff_eq.mpr c11
              have c11b1 : ((Int.tmod a3 2) != 1) = false := bne_eq_false_iff_eq.mpr c11
              clear c11
              have H' := Aside0.mk H
              clear H
              go_wp2
              go_meet
              case rel => exact ⟨_, ((a2 == (wrap64 (Int.tdiv a3 2)))), (by first | rfl | (simp; done) | (simp [*]; done)), H', ⟨by have := HJ4.out; first | omega | exact Nat.le_refl _⟩, ⟨by repeat (first | (with_reducible first | exact HB.out | apply below_alloc | apply pw_below_drewN | apply below_drew1) | exact HB.out)⟩⟩
            · rw [if_neg c11] at H
              have c11b0 : ((Int.tmod a3 2) == 1) = false := beq_eq_false_iff_ne.mpr c11
              have c11b1 : ((Int.tmod a3 2) != 1) = true := bne_iff_ne.mpr c11
              have H' := Aside0.mk H
              clear H
              go_wp2
              go_meet
              case rel => exact ⟨_, (false), (by first | rfl | (simp; done) | (simp [*]; done)), H', ⟨by have := HJ4.out; first | omega | exact Nat.le_refl _⟩, ⟨by repeat (first | (with_reducible first | exact HB.out | apply below_alloc | apply pw_below_drewN | apply below_drew1) | exact HB.out)⟩⟩
          · rw [if_neg c10] at H
            have c10b0 : (a0 == 3) = false := beq_eq_false_iff_ne.mpr c10
            have c10b1 : (a0 != 3) = true := bne_iff_ne.mpr c10
            (first | rw [c10b0] | (simp only [i64_w, i32_w]; rw [c10b0]) | skip)
            have H' := Aside0.mk H
            clear H
            go_wp2
            go_meet
            case rel => exact ⟨_, (false), (by first | rfl | (simp; done) | (simp [*]; done)), H', ⟨by have := HJ4.out; first | omega | exact Nat.le_refl _⟩, ⟨by repeat (first | (with_reducible first | exact HB.out | apply below_alloc | apply pw_below_drewN | apply below_drew1) | exact HB.out)⟩⟩
        case rest =>
          clear HC9
          try clear c1
          try clear p2
          try clear c3
          try clear c6
          try clear c6b0
          try clear c6b1
          try clear p6
          try clear c7
          try clear c7b0
          try clear c7b1
          try clear c8
          try clear c10
          try clear c10b0
          try clear c10b1
          try clear c11
          try clear c11b0
          try clear c11b1
          try clear p2
          obtain ⟨kq, x21_8, rfl, HA, HJ8, HB⟩ := hcut
          cases kq with
          | zero => exact absurd HA.out (by simp [turnstilelaw1_turned.j1])
          | succ kj8 =>
            have H := HA.out
            clear HA
            simp only [turnstilelaw1_turned.j1] at H
            by_cases c12 : x21_8 = true
            · subst c12
              have H1 : (some (⟨#[95]⟩ : ByteArray)) = some r := by rw [if_pos rfl] at H; exact H
              clear H
              have H := H1
              clear H1
              obtain rfl := Option.some.inj H
              go_wp2
              go_ret
              exact ⟨by first | rfl | (simp [errW_none, errW_some] <;> rfl) | (simp [*, errW_none, errW_some] <;> rfl), by repeat (first | (with_reducible first | exact HB.out | apply below_alloc | apply pw_below_drewN | apply below_drew1) | exact HB.out)⟩
            · replace c12 := Bool.eq_false_iff.mpr c12
              subst c12
              have H1 : (if a0 = 2 then (turnstilelaw1_turned.j2 kj8 a0 a1 true) else (turnstilelaw1_turned.j2 kj8 a0 a1 (a0 == 3))) = some r := by rw [if_neg (show ¬ (false = true) by decide)] at H; exact H
              clear H
              have H := H1
              clear H1
              have HC13 := Aside0.mk H
              clear H
              go_upto_region 5 with (fail)
              go_cut [35] (fun v35 wc => ∃ (kq : Nat) (x35_12 : Bool), v35 = .bool x35_12 ∧ Aside0 (turnstilelaw1_turned.j2 kq a0 a1 x35_12 = some r) ∧ Aside0 (kq ≤ kj8) ∧ Aside0 (Below w.heap.size w wc))
              case first =>
                have H := HC13.out
                clear HC13
                by_cases c14 : a0 = 2
                · rw [if_pos c14] at H
                  have c14b0 : (a0 == 2) = true := beq_iff_eq.mpr c14
                  have c14b1 : (a0 != 2) = false := bne_eq_false_iff_eq.mpr c14
                  clear c14
                  (first | rw [c14b0] | (simp only [i64_w, i32_w]; rw [c14b0]) | skip)
                  have H' := Aside0.mk H
                  clear H
                  go_wp2
                  go_meet
                  case rel => exact ⟨_, (true), (by first | rfl | (simp; done) | (simp [*]; done)), H', ⟨by have := HJ4.out; have := HJ8.out; first | omega | exact Nat.le_refl _⟩, ⟨by repeat (first | (with_reducible first | exact HB.out | apply below_alloc | apply pw_below_drewN | apply below_drew1) | exact HB.out)⟩⟩
                · rw [if_neg c14] at H
                  have c14b0 : (a0 == 2) = false := beq_eq_false_iff_ne.mpr c14
                  have c14b1 : (a0 != 2) = true := bne_iff_ne.mpr c14
                  (first | rw [c14b0] | (simp only [i64_w, i32_w]; rw [c14b0]) | skip)
                  have H' := Aside0.mk H
                  clear H
                  go_wp2
                  go_meet
                  case rel => exact ⟨_, ((a0 == 3)), (by first | rfl | (simp; done) | (simp [*]; done)), H', ⟨by have := HJ4.out; have := HJ8.out; first | omega | exact Nat.le_refl _⟩, ⟨by repeat (first | (with_reducible first | exact HB.out | apply below_alloc | apply pw_below_drewN | apply below_drew1) | exact HB.out)⟩⟩
              case rest =>
                clear HC13
                try clear c1
                try clear p2
                try clear c3
                try clear c6
                try clear c6b0
                try clear c6b1
                try clear p6
                try clear c7
                try clear c7b0
                try clear c7b1
                try clear c8
                try clear c10
                try clear c10b0
                try clear c10b1
                try clear c11
                try clear c11b0
                try clear c11b1
                try clear c12
                try clear c14
                try clear c14b0
                try clear c14b1
                try clear p2
                try clear p6
                obtain ⟨kq, x35_12, rfl, HA, HJ12, HB⟩ := hcut
                cases kq with
                | zero => exact absurd HA.out (by simp [turnstilelaw1_turned.j2])
                | succ kj12 =>
                  have H := HA.out
                  clear HA
                  simp only [turnstilelaw1_turned.j2] at H
                  by_cases c15 : x35_12 = true
                  · subst c15
                    have H1 : (some (⟨#[55]⟩ : ByteArray)) = some r := by rw [if_pos rfl] at H; exact H
                    clear H
                    have H := H1
                    clear H1
                    obtain rfl := Option.some.inj H
                    go_wp2
                    go_ret
                    exact ⟨by first | rfl | (simp [errW_none, errW_some] <;> rfl) | (simp [*, errW_none, errW_some] <;> rfl), by repeat (first | (with_reducible first | exact HB.out | apply below_alloc | apply pw_below_drewN | apply below_drew1) | exact HB.out)⟩
                  · replace c15 := Bool.eq_false_iff.mpr c15
                    subst c15
                    have H1 : (if a0 = 1 then (some (⟨#[55]⟩ : ByteArray)) else (if a0 = 4 then (some (⟨#[247]⟩ : ByteArray)) else (some (strOfNums (([a1] : List Int)))))) = some r := by rw [if_neg (show ¬ (false = true) by decide)] at H; exact H
                    clear H
                    have H := H1
                    clear H1
                    by_cases c16 : a0 = 1
                    · rw [if_pos c16] at H
                      have c16b0 : (a0 == 1) = true := beq_iff_eq.mpr c16
                      have c16b1 : (a0 != 1) = false := bne_eq_false_iff_eq.mpr c16
                      clear c16
                      obtain rfl := Option.some.inj H
                      go_wp2
                      go_ret
                      exact ⟨by first | rfl | (simp [errW_none, errW_some] <;> rfl) | (simp [*, errW_none, errW_some] <;> rfl), by repeat (first | (with_reducible first | exact HB.out | apply below_alloc | apply pw_below_drewN | apply below_drew1) | exact HB.out)⟩
                    · rw [if_neg c16] at H
                      have c16b0 : (a0 == 1) = false := beq_eq_false_iff_ne.mpr c16
                      have c16b1 : (a0 != 1) = true := bne_iff_ne.mpr c16
                      by_cases c17 : a0 = 4
                      · rw [if_pos c17] at H
                        have c17b0 : (a0 == 4) = true := beq_iff_eq.mpr c17
                        have c17b1 : (a0 != 4) = false := bne_eq_false_iff_eq.mpr c17
                        clear c17
                        obtain rfl := Option.some.inj H
                        go_wp2
                        go_ret
                        exact ⟨by first | rfl | (simp [errW_none, errW_some] <;> rfl) | (simp [*, errW_none, errW_some] <;> rfl), by repeat (first | (with_reducible first | exact HB.out | apply below_alloc | apply pw_below_drewN | apply below_drew1) | exact HB.out)⟩
                      · rw [if_neg c17] at H
                        have c17b0 : (a0 == 4) = false := beq_eq_false_iff_ne.mpr c17
                        have c17b1 : (a0 != 4) = true := bne_iff_ne.mpr c17
                        obtain ⟨y415, hy415⟩ : ∃ y_ : List Int, y_ = (([a1] : List Int)) := ⟨_, rfl⟩
                        replace H : (some (strOfNums y415)) = some r := by first | (rw [hy415]; with_reducible exact H) | (have H2_ := (Option.bind_some _ _).symm.trans H; rw [hy415]; with_reducible exact H2_) | (have H2_ := (Option.bind_some _ _).symm.trans H; with_reducible exact H2_) | with_reducible exact H | (rw [hy415]; exact H) | exact H
                        have Ny415 := Aside0.mk hy415
                        clear hy415
                        obtain rfl := Option.some.inj H
                        go_wp2_with (first | ((with_reducible refine gate_dst (N := 49) rfl ?_); refine Kd.R_lit (Kd.int .u8) _ 5 ?hg (N := 49) ?hd (xs := ([a1] : List Int)) (inner := [.int .u8 a1]) (ok := fun _ => True) (okp := fun _ => True) ?hr ?hp (fun _ hk => hk) trivial (Below.refl _ _) (Nat.le_refl _) (by simp) ?_; (case hd => rfl); (case hg => rfl); (case hr => first | (go_simp; done) | (go_simp; rfl)); (case hp => exact (Reps.one (show Kd.M (Kd.int .u8) _ _ _ a1 [.int .u8 a1] from rfl) (Reps.none _ _))); intro v416 w18 ho19 hb hg_ hnew_; clear hg_ hnew_; (first | rw [← Ny415.out] at ho19 | (simp only [Int.reduceToNat] at ho19; rw [← Ny415.out] at ho19)); have n0_ := Aside0.mk (Kd.R_lower ho19 (below_size (by repeat (first | (with_reducible first | exact HB.out | apply below_alloc | apply pw_below_drewN | apply below_drew1) | exact HB.out)))); have n1_ := Aside0.mk (below_step (by repeat (first | (with_reducible first | exact HB.out | apply below_alloc | apply pw_below_drewN | apply below_drew1) | exact HB.out)) hb); clear HB; have HO417 := n0_; have HB := n1_; clear n0_ n1_; clear hb ho19; have hcv20 := own_string (P := Try.prog) Try.underlying51 Try.underlying5 Try.underlying9 (Kd.own_of_R HO417.out)))
                        go_ret
                        exact ⟨by first | rfl | (simp [errW_none, errW_some] <;> rfl) | (simp [*, errW_none, errW_some] <;> rfl), by repeat (first | (with_reducible first | exact HB.out | apply below_alloc | apply pw_below_drewN | apply below_drew1) | exact HB.out)⟩

end Go.Proofs.Ytlpamhffpgoebaa.All
