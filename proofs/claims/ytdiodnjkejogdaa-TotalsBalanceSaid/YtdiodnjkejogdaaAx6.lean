-- WRITTEN BY this session's own drv.py over the kit's print. Not trusted: Lean checks it.
import Derived.Test.YtdiodnjkejogdaaAx0
namespace Go.Proofs.Ytdiodnjkejogdaa.All
open Go.RowKit Go.Proofs.YtdiodnjkejogdaaW.PrintWords Go.Proofs.YtdiodnjkejogdaaW.PrintLast Go.Proofs.YtdiodnjkejogdaaW.PrintMore
attribute [local go_sem] max2_int min2_int max_two min_two max_three min_three max_four min_four   -- for this text's walks alone
set_option linter.unusedVariables false
set_option linter.unusedSimpArgs false

/-! ### message_Right: function 78 -/
mutual
def message_Right.j0 : Nat → ByteArray → Bool → Option (Bool)
  | 0, _, _ => none
  | k + 1, x0, x27 => if x27 = true then (some false) else (if 1 < (x0.size : Int) then (if 2 < (x0.size : Int) then (if 3 < (x0.size : Int) then (if (bt x0 3) = 49 then (if (bt x0 2) = 48 then (message_Right.j1 k (bt x0 1) (bt x0 2) false) else (message_Right.j1 k (bt x0 1) (bt x0 2) ((bt x0 2) != 50))) else (message_Right.j1 k (bt x0 1) (bt x0 2) false)) else (none)) else (none)) else (none))
def message_Right.j1 : Nat → Int → Int → Bool → Option (Bool)
  | 0, _, _, _ => none
  | k + 1, x3, x4, x42 => if x42 = true then (some false) else (if x3 = 49 then (message_Right.j2 k x4 x3 (x3 == 49)) else (message_Right.j2 k x4 x3 (x3 == 50)))
def message_Right.j2 : Nat → Int → Int → Bool → Option (Bool)
  | 0, _, _, _ => none
  | k + 1, x4, x43, x44 => if x44 = true then (if x4 ≥ 48 then (some (decide (x4 ≤ 51))) else (some false)) else (if x43 = 52 then (if x4 = 50 then (some true) else (some (x4 == 51))) else (if x43 = 53 then (if x4 = 48 then (some true) else (some (x4 == 49))) else (if x43 = 56 then (if x4 = 48 then (some true) else (some (x4 == 49))) else (some false))))
end
def message_Right.f (k : Nat) (a0 : ByteArray) : Option (Bool) := if (a0.size : Int) = 4 then (if 0 < (a0.size : Int) then (if (bt a0 0) = 48 then (if 3 < (a0.size : Int) then (if (bt a0 3) = 48 then (message_Right.j0 k a0 false) else (message_Right.j0 k a0 ((bt a0 3) != 49))) else (none)) else (if (bt a0 0) = 49 then (if 3 < (a0.size : Int) then (if (bt a0 3) = 48 then (message_Right.j0 k a0 false) else (message_Right.j0 k a0 ((bt a0 3) != 49))) else (none)) else (message_Right.j0 k a0 true))) else (none)) else (message_Right.j0 k a0 true)
theorem message_Right.mono_l : ∀ k, (∀ y0 y1, LeO (message_Right.j0 k y0 y1) (message_Right.j0 (k + 1) y0 y1)) ∧ (∀ y0 y1 y2, LeO (message_Right.j1 k y0 y1 y2) (message_Right.j1 (k + 1) y0 y1 y2)) ∧ (∀ y0 y1 y2, LeO (message_Right.j2 k y0 y1 y2) (message_Right.j2 (k + 1) y0 y1 y2))
  | 0 => ⟨fun _ _ r h => by simp [message_Right.j0] at h, fun _ _ _ r h => by simp [message_Right.j1] at h, fun _ _ _ r h => by simp [message_Right.j2] at h⟩
  | k + 1 => by
    obtain ⟨ih0, ih1, ih2⟩ := message_Right.mono_l k
    refine ⟨?_, ?_, ?_⟩
    · intro y0 y1
      unfold message_Right.j0
      repeat' first
      | (with_reducible exact ih0 _ _)
      | (with_reducible exact ih1 _ _ _)
      | (with_reducible exact ih2 _ _ _)
      | (with_reducible exact LeO.refl _)
      | (with_reducible exact LeO.none _)
      | (with_reducible refine LeO.ite ?_ ?_)
      | (with_reducible refine LeO.bind ?_ (fun _ => ?_))
      | exact ih0 _ _
      | exact ih1 _ _ _
      | exact ih2 _ _ _
      | exact LeO.none _
      | refine LeO.ite ?_ ?_
      | refine LeO.bind ?_ (fun _ => ?_)
    · intro y0 y1 y2
      unfold message_Right.j1
      repeat' first
      | (with_reducible exact ih0 _ _)
      | (with_reducible exact ih1 _ _ _)
      | (with_reducible exact ih2 _ _ _)
      | (with_reducible exact LeO.refl _)
      | (with_reducible exact LeO.none _)
      | (with_reducible refine LeO.ite ?_ ?_)
      | (with_reducible refine LeO.bind ?_ (fun _ => ?_))
      | exact ih0 _ _
      | exact ih1 _ _ _
      | exact ih2 _ _ _
      | exact LeO.none _
      | refine LeO.ite ?_ ?_
      | refine LeO.bind ?_ (fun _ => ?_)
    · intro y0 y1 y2
      unfold message_Right.j2
      repeat' first
      | (with_reducible exact ih0 _ _)
      | (with_reducible exact ih1 _ _ _)
      | (with_reducible exact ih2 _ _ _)
      | (with_reducible exact LeO.refl _)
      | (with_reducible exact LeO.none _)
      | (with_reducible refine LeO.ite ?_ ?_)
      | (with_reducible refine LeO.bind ?_ (fun _ => ?_))
      | exact ih0 _ _
      | exact ih1 _ _ _
      | exact ih2 _ _ _
      | exact LeO.none _
      | refine LeO.ite ?_ ?_
      | refine LeO.bind ?_ (fun _ => ?_)
theorem message_Right.mono : ∀ a0 k, LeO (message_Right.f k a0) (message_Right.f (k + 1) a0) := by
  intro a0 k
  obtain ⟨ih0, ih1, ih2⟩ := message_Right.mono_l k
  unfold message_Right.f
  repeat' first
      | (with_reducible exact ih0 _ _)
      | (with_reducible exact ih1 _ _ _)
      | (with_reducible exact ih2 _ _ _)
      | (with_reducible exact LeO.refl _)
      | (with_reducible exact LeO.none _)
      | (with_reducible refine LeO.ite ?_ ?_)
      | (with_reducible refine LeO.bind ?_ (fun _ => ?_))
      | exact ih0 _ _
      | exact ih1 _ _ _
      | exact ih2 _ _ _
      | exact LeO.none _
      | refine LeO.ite ?_ ?_
      | refine LeO.bind ?_ (fun _ => ?_)
set_option maxHeartbeats 8000000 in
set_option maxRecDepth 100000 in
theorem message_Right.calls (k : Nat) (a0 : ByteArray) (r : Bool) (w : World) (h : message_Right.f k a0 = some r) :
    Calls Try.prog 78 #[.string a0] w fun e w' => e = .returned (.bool r) ∧ Drawn0 w w' := by
  have H : (if (a0.size : Int) = 4 then (if 0 < (a0.size : Int) then (if (bt a0 0) = 48 then (if 3 < (a0.size : Int) then (if (bt a0 3) = 48 then (message_Right.j0 k a0 false) else (message_Right.j0 k a0 ((bt a0 3) != 49))) else (none)) else (if (bt a0 0) = 49 then (if 3 < (a0.size : Int) then (if (bt a0 3) = 48 then (message_Right.j0 k a0 false) else (message_Right.j0 k a0 ((bt a0 3) != 49))) else (none)) else (message_Right.j0 k a0 true))) else (none)) else (message_Right.j0 k a0 true)) = some r := h
  clear h
  have HC2 := Aside0.mk H
  clear H
  go_enter Try.func78, Try.ntmps78
  go_upto_region 1 with (fail)
  repeat (go_quiet (fail); go_upto_region 1 with (fail))
  go_cut [27] (fun v27 wc => ∃ (kq : Nat) (x27_1 : Bool), v27 = .bool x27_1 ∧ Aside0 (message_Right.j0 kq a0 x27_1 = some r) ∧ Aside0 (kq ≤ k) ∧ Drawn0 w wc)
  case first =>
    have H := HC2.out
    clear HC2
    by_cases c3 : (a0.size : Int) = 4
    · rw [if_pos c3] at H
      have c3b0 : ((a0.size : Int) == 4) = true := beq_iff_eq.mpr c3
      have c3b1 : ((a0.size : Int) != 4) = false := bne_eq_false_iff_eq.mpr c3
      clear c3
      (first | rw [c3b0] | (simp only [i64_w, i32_w]; rw [c3b0]) | skip)
      by_cases c4 : 0 < (a0.size : Int)
      · rw [if_pos c4] at H
        have c4b0 : decide (0 < (a0.size : Int)) = true := decide_eq_true c4
        have c4b1 : decide (0 < a0.size) = true := decide_eq_true (by omega)
        clear c4
        by_cases c6 : (bt a0 0) = 48
        · rw [if_pos c6] at H
          have c6b0 : ((bt a0 0) == 48) = true := beq_iff_eq.mpr c6
          have c6b1 : ((bt a0 0) != 48) = false := bne_eq_false_iff_eq.mpr c6
          clear c6
          by_cases c7 : 3 < (a0.size : Int)
          · rw [if_pos c7] at H
            have c7b0 : decide (3 < (a0.size : Int)) = true := decide_eq_true c7
            have c7b1 : decide (3 < a0.size) = true := decide_eq_true (by omega)
            clear c7
            by_cases c9 : (bt a0 3) = 48
            · rw [if_pos c9] at H
              have c9b0 : ((bt a0 3) == 48) = true := beq_iff_eq.mpr c9
              have c9b1 : ((bt a0 3) != 48) = false := bne_eq_false_iff_eq.mpr c9
              clear c9
              have H' := Aside0.mk H
              clear H
              have p5 : 0 ≤ (0 : Int) := (by omega)
              have q5 : 0 < a0.size := (by have : (0 : Int) < (a0.size : Int) := of_decide_eq_true (by first | (with_reducible assumption) | assumption); omega)
              have hx5 : ∀ h : 0 < a0.size, ((a0[0]'h).toNat : Int) = bt a0 0 := bt_at a0 0
              clear p5
              have qi5 : (0 < (a0.size : Int)) = True := eq_true (of_decide_eq_true (by first | (with_reducible assumption) | assumption))
              replace q5 := eq_true q5
              have p8 : 0 ≤ (3 : Int) := (by omega)
              have q8 : 3 < a0.size := (by have : (3 : Int) < (a0.size : Int) := of_decide_eq_true (by first | (with_reducible assumption) | assumption); omega)
              have hx8 : ∀ h : 3 < a0.size, ((a0[3]'h).toNat : Int) = bt a0 3 := bt_at a0 3
              clear p8
              have qi8 : (3 < (a0.size : Int)) = True := eq_true (of_decide_eq_true (by first | (with_reducible assumption) | assumption))
              replace q8 := eq_true q8
              go_wp2
              repeat (go_quiet (fail); try go_wp2)
              go_meet
              case rel => exact ⟨_, (false), (by first | rfl | (simp; done) | (simp [*]; done)), H', ⟨by first | omega | exact Nat.le_refl _⟩, by repeat (first | exact Drawn0.refl _ | apply Drawn0.step)⟩
            · rw [if_neg c9] at H
              have c9b0 : ((bt a0 3) == 48) = false := beq_eq_false_iff_ne.mpr c9
              have c9b1 : ((bt a0 3) != 48) = true := bne_iff_ne.mpr c9
              have H' := Aside0.mk H
              clear H
              have p5 : 0 ≤ (0 : Int) := (by omega)
              have q5 : 0 < a0.size := (by have : (0 : Int) < (a0.size : Int) := of_decide_eq_true (by first | (with_reducible assumption) | assumption); omega)
              have hx5 : ∀ h : 0 < a0.size, ((a0[0]'h).toNat : Int) = bt a0 0 := bt_at a0 0
              clear p5
              have qi5 : (0 < (a0.size : Int)) = True := eq_true (of_decide_eq_true (by first | (with_reducible assumption) | assumption))
              replace q5 := eq_true q5
              have p8 : 0 ≤ (3 : Int) := (by omega)
              have q8 : 3 < a0.size := (by have : (3 : Int) < (a0.size : Int) := of_decide_eq_true (by first | (with_reducible assumption) | assumption); omega)
              have hx8 : ∀ h : 3 < a0.size, ((a0[3]'h).toNat : Int) = bt a0 3 := bt_at a0 3
              clear p8
              have qi8 : (3 < (a0.size : Int)) = True := eq_true (of_decide_eq_true (by first | (with_reducible assumption) | assumption))
              replace q8 := eq_true q8
              have p10 : 0 ≤ (3 : Int) := (by omega)
              have q10 : 3 < a0.size := (by have : (3 : Int) < (a0.size : Int) := of_decide_eq_true (by first | (with_reducible assumption) | assumption); omega)
              have hx10 : ∀ h : 3 < a0.size, ((a0[3]'h).toNat : Int) = bt a0 3 := bt_at a0 3
              clear p10
              have qi10 : (3 < (a0.size : Int)) = True := eq_true (of_decide_eq_true (by first | (with_reducible assumption) | assumption))
              replace q10 := eq_true q10
              go_wp2
              repeat (go_quiet (fail); try go_wp2)
              go_meet
              case rel => exact ⟨_, (((bt a0 3) != 49)), (by first | rfl | (simp; done) | (simp [*]; done)), H', ⟨by first | omega | exact Nat.le_refl _⟩, by repeat (first | exact Drawn0.refl _ | apply Drawn0.step)⟩
          · rw [if_neg c7] at H
            exact absurd H (by simp)
        · rw [if_neg c6] at H
          have c6b0 : ((bt a0 0) == 48) = false := beq_eq_false_iff_ne.mpr c6
          have c6b1 : ((bt a0 0) != 48) = true := bne_iff_ne.mpr c6
          by_cases c12 : (bt a0 0) = 49
          · rw [if_pos c12] at H
            have c12b0 : ((bt a0 0) == 49) = true := beq_iff_eq.mpr c12
            have c12b1 : ((bt a0 0) != 49) = false := bne_eq_false_iff_eq.mpr c12
            clear c12
            by_cases c13 : 3 < (a0.size : Int)
            · rw [if_pos c13] at H
              have c13b0 : decide (3 < (a0.size : Int)) = true := decide_eq_true c13
              have c13b1 : decide (3 < a0.size) = true := decide_eq_true (by omega)
              clear c13
              by_cases c15 : (bt a0 3) = 48
              · rw [if_pos c15] at H
                have c15b0 : ((bt a0 3) == 48) = true := beq_iff_eq.mpr c15
                have c15b1 : ((bt a0 3) != 48) = false := bne_eq_false_iff_eq.mpr c15
                clear c15
                have H' := Aside0.mk H
                clear H
                have p5 : 0 ≤ (0 : Int) := (by omega)
                have q5 : 0 < a0.size := (by have : (0 : Int) < (a0.size : Int) := of_decide_eq_true (by first | (with_reducible assumption) | assumption); omega)
                have hx5 : ∀ h : 0 < a0.size, ((a0[0]'h).toNat : Int) = bt a0 0 := bt_at a0 0
                clear p5
                have qi5 : (0 < (a0.size : Int)) = True := eq_true (of_decide_eq_true (by first | (with_reducible assumption) | assumption))
                replace q5 := eq_true q5
                have p11 : 0 ≤ (0 : Int) := (by omega)
                have q11 : 0 < a0.size := (by have : (0 : Int) < (a0.size : Int) := of_decide_eq_true (by first | (with_reducible assumption) | assumption); omega)
                have hx11 : ∀ h : 0 < a0.size, ((a0[0]'h).toNat : Int) = bt a0 0 := bt_at a0 0
                clear p11
                have qi11 : (0 < (a0.size : Int)) = True := eq_true (of_decide_eq_true (by first | (with_reducible assumption) | assumption))
                replace q11 := eq_true q11
                have p14 : 0 ≤ (3 : Int) := (by omega)
                have q14 : 3 < a0.size := (by have : (3 : Int) < (a0.size : Int) := of_decide_eq_true (by first | (with_reducible assumption) | assumption); omega)
                have hx14 : ∀ h : 3 < a0.size, ((a0[3]'h).toNat : Int) = bt a0 3 := bt_at a0 3
                clear p14
                have qi14 : (3 < (a0.size : Int)) = True := eq_true (of_decide_eq_true (by first | (with_reducible assumption) | assumption))
                replace q14 := eq_true q14
                go_wp2
                repeat (go_quiet (fail); try go_wp2)
                go_meet
                case rel => exact ⟨_, (false), (by first | rfl | (simp; done) | (simp [*]; done)), H', ⟨by first | omega | exact Nat.le_refl _⟩, by repeat (first | exact Drawn0.refl _ | apply Drawn0.step)⟩
              · rw [if_neg c15] at H
                have c15b0 : ((bt a0 3) == 48) = false := beq_eq_false_iff_ne.mpr c15
                have c15b1 : ((bt a0 3) != 48) = true := bne_iff_ne.mpr c15
                have H' := Aside0.mk H
                clear H
                have p5 : 0 ≤ (0 : Int) := (by omega)
                have q5 : 0 < a0.size := (by have : (0 : Int) < (a0.size : Int) := of_decide_eq_true (by first | (with_reducible assumption) | assumption); omega)
                have hx5 : ∀ h : 0 < a0.size, ((a0[0]'h).toNat : Int) = bt a0 0 := bt_at a0 0
                clear p5
                have qi5 : (0 < (a0.size : Int)) = True := eq_true (of_decide_eq_true (by first | (with_reducible assumption) | assumption))
                replace q5 := eq_true q5
                have p11 : 0 ≤ (0 : Int) := (by omega)
                have q11 : 0 < a0.size := (by have : (0 : Int) < (a0.size : Int) := of_decide_eq_true (by first | (with_reducible assumption) | assumption); omega)
                have hx11 : ∀ h : 0 < a0.size, ((a0[0]'h).toNat : Int) = bt a0 0 := bt_at a0 0
                clear p11
                have qi11 : (0 < (a0.size : Int)) = True := eq_true (of_decide_eq_true (by first | (with_reducible assumption) | assumption))
                replace q11 := eq_true q11
                have p14 : 0 ≤ (3 : Int) := (by omega)
                have q14 : 3 < a0.size := (by have : (3 : Int) < (a0.size : Int) := of_decide_eq_true (by first | (with_reducible assumption) | assumption); omega)
                have hx14 : ∀ h : 3 < a0.size, ((a0[3]'h).toNat : Int) = bt a0 3 := bt_at a0 3
                clear p14
                have qi14 : (3 < (a0.size : Int)) = True := eq_true (of_decide_eq_true (by first | (with_reducible assumption) | assumption))
                replace q14 := eq_true q14
                have p16 : 0 ≤ (3 : Int) := (by omega)
                have q16 : 3 < a0.size := (by have : (3 : Int) < (a0.size : Int) := of_decide_eq_true (by first | (with_reducible assumption) | assumption); omega)
                have hx16 : ∀ h : 3 < a0.size, ((a0[3]'h).toNat : Int) = bt a0 3 := bt_at a0 3
                clear p16
                have qi16 : (3 < (a0.size : Int)) = True := eq_true (of_decide_eq_true (by first | (with_reducible assumption) | assumption))
                replace q16 := eq_true q16
                go_wp2
                repeat (go_quiet (fail); try go_wp2)
                go_meet
                case rel => exact ⟨_, (((bt a0 3) != 49)), (by first | rfl | (simp; done) | (simp [*]; done)), H', ⟨by first | omega | exact Nat.le_refl _⟩, by repeat (first | exact Drawn0.refl _ | apply Drawn0.step)⟩
            · rw [if_neg c13] at H
              exact absurd H (by simp)
          · rw [if_neg c12] at H
            have c12b0 : ((bt a0 0) == 49) = false := beq_eq_false_iff_ne.mpr c12
            have c12b1 : ((bt a0 0) != 49) = true := bne_iff_ne.mpr c12
            have H' := Aside0.mk H
            clear H
            have p5 : 0 ≤ (0 : Int) := (by omega)
            have q5 : 0 < a0.size := (by have : (0 : Int) < (a0.size : Int) := of_decide_eq_true (by first | (with_reducible assumption) | assumption); omega)
            have hx5 : ∀ h : 0 < a0.size, ((a0[0]'h).toNat : Int) = bt a0 0 := bt_at a0 0
            clear p5
            have qi5 : (0 < (a0.size : Int)) = True := eq_true (of_decide_eq_true (by first | (with_reducible assumption) | assumption))
            replace q5 := eq_true q5
            have p11 : 0 ≤ (0 : Int) := (by omega)
            have q11 : 0 < a0.size := (by have : (0 : Int) < (a0.size : Int) := of_decide_eq_true (by first | (with_reducible assumption) | assumption); omega)
            have hx11 : ∀ h : 0 < a0.size, ((a0[0]'h).toNat : Int) = bt a0 0 := bt_at a0 0
            clear p11
            have qi11 : (0 < (a0.size : Int)) = True := eq_true (of_decide_eq_true (by first | (with_reducible assumption) | assumption))
            replace q11 := eq_true q11
            go_wp2
            repeat (go_quiet (fail); try go_wp2)
            go_meet
            case rel => exact ⟨_, (true), (by first | rfl | (simp; done) | (simp [*]; done)), H', ⟨by first | omega | exact Nat.le_refl _⟩, by repeat (first | exact Drawn0.refl _ | apply Drawn0.step)⟩
      · rw [if_neg c4] at H
        exact absurd H (by simp)
    · rw [if_neg c3] at H
      have c3b0 : ((a0.size : Int) == 4) = false := beq_eq_false_iff_ne.mpr c3
      have c3b1 : ((a0.size : Int) != 4) = true := bne_iff_ne.mpr c3
      (first | rw [c3b0] | (simp only [i64_w, i32_w]; rw [c3b0]) | skip)
      have H' := Aside0.mk H
      clear H
      go_wp2
      repeat (go_quiet (fail); try go_wp2)
      go_meet
      case rel => exact ⟨_, (true), (by first | rfl | (simp; done) | (simp [*]; done)), H', ⟨by first | omega | exact Nat.le_refl _⟩, by repeat (first | exact Drawn0.refl _ | apply Drawn0.step)⟩
  case rest =>
    clear HC2
    try clear c1
    try clear p1
    try clear q1
    try clear hx1
    try clear qi1
    try clear p2
    try clear c3
    try clear c3b0
    try clear c3b1
    try clear c4
    try clear c4b0
    try clear c4b1
    try clear p5
    try clear q5
    try clear hx5
    try clear qi5
    try clear c6
    try clear c6b0
    try clear c6b1
    try clear c7
    try clear c7b0
    try clear c7b1
    try clear p8
    try clear q8
    try clear hx8
    try clear qi8
    try clear c9
    try clear c9b0
    try clear c9b1
    try clear p10
    try clear q10
    try clear hx10
    try clear qi10
    try clear p11
    try clear q11
    try clear hx11
    try clear qi11
    try clear c12
    try clear c12b0
    try clear c12b1
    try clear c13
    try clear c13b0
    try clear c13b1
    try clear p14
    try clear q14
    try clear hx14
    try clear qi14
    try clear c15
    try clear c15b0
    try clear c15b1
    try clear p16
    try clear q16
    try clear hx16
    try clear qi16
    try clear p10
    try clear p11
    try clear p14
    try clear p16
    try clear p5
    try clear p8
    try clear q10
    try clear q11
    try clear q14
    try clear q16
    try clear q5
    try clear q8
    obtain ⟨kq, x27_1, rfl, HA, HJ1, ⟨mc1, rfl⟩⟩ := hcut
    cases kq with
    | zero => exact absurd HA.out (by simp [message_Right.j0])
    | succ kj1 =>
      have H := HA.out
      clear HA
      simp only [message_Right.j0] at H
      by_cases c17 : x27_1 = true
      · subst c17
        have H1 : (some false) = some r := by rw [if_pos rfl] at H; exact H
        clear H
        have H := H1
        clear H1
        obtain rfl := Option.some.inj H
        go_wp2
        repeat (go_quiet (fail); try go_wp2)
        go_ret
        exact ⟨by first | rfl | (simp; done) | (simp [*]; done), by repeat (first | exact Drawn0.refl _ | apply Drawn0.step)⟩
      · replace c17 := Bool.eq_false_iff.mpr c17
        subst c17
        have H1 : (if 1 < (a0.size : Int) then (if 2 < (a0.size : Int) then (if 3 < (a0.size : Int) then (if (bt a0 3) = 49 then (if (bt a0 2) = 48 then (message_Right.j1 kj1 (bt a0 1) (bt a0 2) false) else (message_Right.j1 kj1 (bt a0 1) (bt a0 2) ((bt a0 2) != 50))) else (message_Right.j1 kj1 (bt a0 1) (bt a0 2) false)) else (none)) else (none)) else (none)) = some r := by rw [if_neg (show ¬ (false = true) by decide)] at H; exact H
        clear H
        have H := H1
        clear H1
        by_cases c18 : 1 < (a0.size : Int)
        · rw [if_pos c18] at H
          have c18b0 : decide (1 < (a0.size : Int)) = true := decide_eq_true c18
          have c18b1 : decide (1 < a0.size) = true := decide_eq_true (by omega)
          clear c18
          by_cases c20 : 2 < (a0.size : Int)
          · rw [if_pos c20] at H
            have c20b0 : decide (2 < (a0.size : Int)) = true := decide_eq_true c20
            have c20b1 : decide (2 < a0.size) = true := decide_eq_true (by omega)
            clear c20
            have HC22 := Aside0.mk H
            clear H
            have p19 : 0 ≤ (1 : Int) := (by omega)
            have q19 : 1 < a0.size := (by have : (1 : Int) < (a0.size : Int) := of_decide_eq_true (by first | (with_reducible assumption) | assumption); omega)
            have hx19 : ∀ h : 1 < a0.size, ((a0[1]'h).toNat : Int) = bt a0 1 := bt_at a0 1
            clear p19
            have qi19 : (1 < (a0.size : Int)) = True := eq_true (of_decide_eq_true (by first | (with_reducible assumption) | assumption))
            replace q19 := eq_true q19
            have p21 : 0 ≤ (2 : Int) := (by omega)
            have q21 : 2 < a0.size := (by have : (2 : Int) < (a0.size : Int) := of_decide_eq_true (by first | (with_reducible assumption) | assumption); omega)
            have hx21 : ∀ h : 2 < a0.size, ((a0[2]'h).toNat : Int) = bt a0 2 := bt_at a0 2
            clear p21
            have qi21 : (2 < (a0.size : Int)) = True := eq_true (of_decide_eq_true (by first | (with_reducible assumption) | assumption))
            replace q21 := eq_true q21
            go_upto_region 4 with (fail)
            repeat (go_quiet (fail); go_upto_region 4 with (fail))
            go_cut [42] (fun v42 wc => ∃ (kq : Nat) (x42_21 : Bool), v42 = .bool x42_21 ∧ Aside0 (message_Right.j1 kq (bt a0 1) (bt a0 2) x42_21 = some r) ∧ Aside0 (kq ≤ kj1) ∧ Drawn0 w wc)
            case first =>
              have H := HC22.out
              clear HC22
              by_cases c23 : 3 < (a0.size : Int)
              · rw [if_pos c23] at H
                have c23b0 : decide (3 < (a0.size : Int)) = true := decide_eq_true c23
                have c23b1 : decide (3 < a0.size) = true := decide_eq_true (by omega)
                clear c23
                (first | rw [c23b0] | (simp only [i64_w, i32_w]; rw [c23b0]) | skip)
                by_cases c25 : (bt a0 3) = 49
                · rw [if_pos c25] at H
                  have c25b0 : ((bt a0 3) == 49) = true := beq_iff_eq.mpr c25
                  have c25b1 : ((bt a0 3) != 49) = false := bne_eq_false_iff_eq.mpr c25
                  clear c25
                  by_cases c26 : (bt a0 2) = 48
                  · rw [if_pos c26] at H
                    have c26b0 : ((bt a0 2) == 48) = true := beq_iff_eq.mpr c26
                    have c26b1 : ((bt a0 2) != 48) = false := bne_eq_false_iff_eq.mpr c26
                    clear c26
                    have H' := Aside0.mk H
                    clear H
                    have p24 : 0 ≤ (3 : Int) := (by omega)
                    have q24 : 3 < a0.size := (by have : (3 : Int) < (a0.size : Int) := of_decide_eq_true (by first | (with_reducible assumption) | assumption); omega)
                    have hx24 : ∀ h : 3 < a0.size, ((a0[3]'h).toNat : Int) = bt a0 3 := bt_at a0 3
                    clear p24
                    have qi24 : (3 < (a0.size : Int)) = True := eq_true (of_decide_eq_true (by first | (with_reducible assumption) | assumption))
                    replace q24 := eq_true q24
                    go_wp2
                    repeat (go_quiet (fail); try go_wp2)
                    go_meet
                    case rel => exact ⟨_, (false), (by first | rfl | (simp; done) | (simp [*]; done)), H', ⟨by have := HJ1.out; first | omega | exact Nat.le_refl _⟩, by repeat (first | exact Drawn0.refl _ | apply Drawn0.step)⟩
                  · rw [if_neg c26] at H
                    have c26b0 : ((bt a0 2) == 48) = false := beq_eq_false_iff_ne.mpr c26
                    have c26b1 : ((bt a0 2) != 48) = true := bne_iff_ne.mpr c26
                    have H' := Aside0.mk H
                    clear H
                    have p24 : 0 ≤ (3 : Int) := (by omega)
                    have q24 : 3 < a0.size := (by have : (3 : Int) < (a0.size : Int) := of_decide_eq_true (by first | (with_reducible assumption) | assumption); omega)
                    have hx24 : ∀ h : 3 < a0.size, ((a0[3]'h).toNat : Int) = bt a0 3 := bt_at a0 3
                    clear p24
                    have qi24 : (3 < (a0.size : Int)) = True := eq_true (of_decide_eq_true (by first | (with_reducible assumption) | assumption))
                    replace q24 := eq_true q24
                    go_wp2
                    repeat (go_quiet (fail); try go_wp2)
                    go_meet
                    case rel => exact ⟨_, (((bt a0 2) != 50)), (by first | rfl | (simp; done) | (simp [*]; done)), H', ⟨by have := HJ1.out; first | omega | exact Nat.le_refl _⟩, by repeat (first | exact Drawn0.refl _ | apply Drawn0.step)⟩
                · rw [if_neg c25] at H
                  have c25b0 : ((bt a0 3) == 49) = false := beq_eq_false_iff_ne.mpr c25
                  have c25b1 : ((bt a0 3) != 49) = true := bne_iff_ne.mpr c25
                  have H' := Aside0.mk H
                  clear H
                  have p24 : 0 ≤ (3 : Int) := (by omega)
                  have q24 : 3 < a0.size := (by have : (3 : Int) < (a0.size : Int) := of_decide_eq_true (by first | (with_reducible assumption) | assumption); omega)
                  have hx24 : ∀ h : 3 < a0.size, ((a0[3]'h).toNat : Int) = bt a0 3 := bt_at a0 3
                  clear p24
                  have qi24 : (3 < (a0.size : Int)) = True := eq_true (of_decide_eq_true (by first | (with_reducible assumption) | assumption))
                  replace q24 := eq_true q24
                  go_wp2
                  repeat (go_quiet (fail); try go_wp2)
                  go_meet
                  case rel => exact ⟨_, (false), (by first | rfl | (simp; done) | (simp [*]; done)), H', ⟨by have := HJ1.out; first | omega | exact Nat.le_refl _⟩, by repeat (first | exact Drawn0.refl _ | apply Drawn0.step)⟩
              · rw [if_neg c23] at H
                exact absurd H (by simp)
            case rest =>
              clear HC22
              try clear c1
              try clear p1
              try clear q1
              try clear hx1
              try clear qi1
              try clear c2
              try clear p2
              try clear q2
              try clear hx2
              try clear qi2
              try clear c3
              try clear c3b0
              try clear c3b1
              try clear c4
              try clear c4b0
              try clear c4b1
              try clear p5
              try clear q5
              try clear hx5
              try clear qi5
              try clear c6
              try clear c6b0
              try clear c6b1
              try clear c7
              try clear c7b0
              try clear c7b1
              try clear p8
              try clear q8
              try clear hx8
              try clear qi8
              try clear c9
              try clear c9b0
              try clear c9b1
              try clear p10
              try clear q10
              try clear hx10
              try clear qi10
              try clear p11
              try clear q11
              try clear hx11
              try clear qi11
              try clear c12
              try clear c12b0
              try clear c12b1
              try clear c13
              try clear c13b0
              try clear c13b1
              try clear p14
              try clear q14
              try clear hx14
              try clear qi14
              try clear c15
              try clear c15b0
              try clear c15b1
              try clear p16
              try clear q16
              try clear hx16
              try clear qi16
              try clear c17
              try clear c18
              try clear c18b0
              try clear c18b1
              try clear p19
              try clear q19
              try clear hx19
              try clear qi19
              try clear c20
              try clear c20b0
              try clear c20b1
              try clear p21
              try clear q21
              try clear hx21
              try clear qi21
              try clear c23
              try clear c23b0
              try clear c23b1
              try clear p24
              try clear q24
              try clear hx24
              try clear qi24
              try clear c25
              try clear c25b0
              try clear c25b1
              try clear c26
              try clear c26b0
              try clear c26b1
              try clear p1
              try clear p10
              try clear p11
              try clear p14
              try clear p16
              try clear p19
              try clear p2
              try clear p21
              try clear p24
              try clear p5
              try clear p8
              try clear q1
              try clear q10
              try clear q11
              try clear q14
              try clear q16
              try clear q19
              try clear q21
              try clear q24
              try clear q5
              try clear q8
              obtain ⟨kq, x42_21, rfl, HA, HJ21, ⟨mc21, rfl⟩⟩ := hcut
              cases kq with
              | zero => exact absurd HA.out (by simp [message_Right.j1])
              | succ kj21 =>
                have H := HA.out
                clear HA
                simp only [message_Right.j1] at H
                by_cases c27 : x42_21 = true
                · subst c27
                  have H1 : (some false) = some r := by rw [if_pos rfl] at H; exact H
                  clear H
                  have H := H1
                  clear H1
                  obtain rfl := Option.some.inj H
                  go_wp2
                  repeat (go_quiet (fail); try go_wp2)
                  go_ret
                  exact ⟨by first | rfl | (simp; done) | (simp [*]; done), by repeat (first | exact Drawn0.refl _ | apply Drawn0.step)⟩
                · replace c27 := Bool.eq_false_iff.mpr c27
                  subst c27
                  have H1 : (if (bt a0 1) = 49 then (message_Right.j2 kj21 (bt a0 2) (bt a0 1) ((bt a0 1) == 49)) else (message_Right.j2 kj21 (bt a0 2) (bt a0 1) ((bt a0 1) == 50))) = some r := by rw [if_neg (show ¬ (false = true) by decide)] at H; exact H
                  clear H
                  have H := H1
                  clear H1
                  have HC28 := Aside0.mk H
                  clear H
                  go_upto_if 44 with (fail)
                  repeat (go_quiet (fail); go_upto_if 44 with (fail))
                  go_cut [44] (fun v44 wc => ∃ (kq : Nat) (x44_27 : Bool), v44 = .bool x44_27 ∧ Aside0 (message_Right.j2 kq (bt a0 2) (bt a0 1) x44_27 = some r) ∧ Aside0 (kq ≤ kj21) ∧ Drawn0 w wc)
                  case first =>
                    have H := HC28.out
                    clear HC28
                    by_cases c29 : (bt a0 1) = 49
                    · rw [if_pos c29] at H
                      have c29b0 : ((bt a0 1) == 49) = true := beq_iff_eq.mpr c29
                      have c29b1 : ((bt a0 1) != 49) = false := bne_eq_false_iff_eq.mpr c29
                      clear c29
                      (first | rw [c29b0] | (simp only [i64_w, i32_w]; rw [c29b0]) | skip)
                      have H' := Aside0.mk H
                      clear H
                      go_wp2
                      repeat (go_quiet (fail); try go_wp2)
                      go_meet
                      case rel => exact ⟨_, (((bt a0 1) == 49)), (by first | rfl | (simp; done) | (simp [*]; done)), H', ⟨by have := HJ1.out; have := HJ21.out; first | omega | exact Nat.le_refl _⟩, by repeat (first | exact Drawn0.refl _ | apply Drawn0.step)⟩
                    · rw [if_neg c29] at H
                      have c29b0 : ((bt a0 1) == 49) = false := beq_eq_false_iff_ne.mpr c29
                      have c29b1 : ((bt a0 1) != 49) = true := bne_iff_ne.mpr c29
                      (first | rw [c29b0] | (simp only [i64_w, i32_w]; rw [c29b0]) | skip)
                      have H' := Aside0.mk H
                      clear H
                      go_wp2
                      repeat (go_quiet (fail); try go_wp2)
                      go_meet
                      case rel => exact ⟨_, (((bt a0 1) == 50)), (by first | rfl | (simp; done) | (simp [*]; done)), H', ⟨by have := HJ1.out; have := HJ21.out; first | omega | exact Nat.le_refl _⟩, by repeat (first | exact Drawn0.refl _ | apply Drawn0.step)⟩
                  case rest =>
                    clear HC28
                    try clear c1
                    try clear p1
                    try clear q1
                    try clear hx1
                    try clear qi1
                    try clear c2
                    try clear p2
                    try clear q2
                    try clear hx2
                    try clear qi2
                    try clear c3
                    try clear c3b0
                    try clear c3b1
                    try clear c4
                    try clear c4b0
                    try clear c4b1
                    try clear p5
                    try clear q5
                    try clear hx5
                    try clear qi5
                    try clear c6
                    try clear c6b0
                    try clear c6b1
                    try clear c7
                    try clear c7b0
                    try clear c7b1
                    try clear p8
                    try clear q8
                    try clear hx8
                    try clear qi8
                    try clear c9
                    try clear c9b0
                    try clear c9b1
                    try clear p10
                    try clear q10
                    try clear hx10
                    try clear qi10
                    try clear p11
                    try clear q11
                    try clear hx11
                    try clear qi11
                    try clear c12
                    try clear c12b0
                    try clear c12b1
                    try clear c13
                    try clear c13b0
                    try clear c13b1
                    try clear p14
                    try clear q14
                    try clear hx14
                    try clear qi14
                    try clear c15
                    try clear c15b0
                    try clear c15b1
                    try clear p16
                    try clear q16
                    try clear hx16
                    try clear qi16
                    try clear c17
                    try clear c18
                    try clear c18b0
                    try clear c18b1
                    try clear p19
                    try clear q19
                    try clear hx19
                    try clear qi19
                    try clear c20
                    try clear c20b0
                    try clear c20b1
                    try clear c21
                    try clear p21
                    try clear q21
                    try clear hx21
                    try clear qi21
                    try clear c23
                    try clear c23b0
                    try clear c23b1
                    try clear p24
                    try clear q24
                    try clear hx24
                    try clear qi24
                    try clear c25
                    try clear c25b0
                    try clear c25b1
                    try clear c26
                    try clear c26b0
                    try clear c26b1
                    try clear c27
                    try clear c29
                    try clear c29b0
                    try clear c29b1
                    try clear p1
                    try clear p10
                    try clear p11
                    try clear p14
                    try clear p16
                    try clear p19
                    try clear p2
                    try clear p21
                    try clear p24
                    try clear p5
                    try clear p8
                    try clear q1
                    try clear q10
                    try clear q11
                    try clear q14
                    try clear q16
                    try clear q19
                    try clear q2
                    try clear q21
                    try clear q24
                    try clear q5
                    try clear q8
                    obtain ⟨kq, x44_27, rfl, HA, HJ27, ⟨mc27, rfl⟩⟩ := hcut
                    cases kq with
                    | zero => exact absurd HA.out (by simp [message_Right.j2])
                    | succ kj27 =>
                      have H := HA.out
                      clear HA
                      simp only [message_Right.j2] at H
                      by_cases c30 : x44_27 = true
                      · subst c30
                        have H1 : (if (bt a0 2) ≥ 48 then (some (decide ((bt a0 2) ≤ 51))) else (some false)) = some r := by rw [if_pos rfl] at H; exact H
                        clear H
                        have H := H1
                        clear H1
                        by_cases c31 : (bt a0 2) ≥ 48
                        · rw [if_pos c31] at H
                          have c31b0 : decide (48 ≤ (bt a0 2)) = true := decide_eq_true c31
                          clear c31
                          obtain rfl := Option.some.inj H
                          go_wp2
                          repeat (go_quiet (fail); try go_wp2)
                          go_ret
                          exact ⟨by first | rfl | (simp; done) | (simp [*]; done), by repeat (first | exact Drawn0.refl _ | apply Drawn0.step)⟩
                        · rw [if_neg c31] at H
                          have c31b0 : decide (48 ≤ (bt a0 2)) = false := decide_eq_false c31
                          clear c31
                          obtain rfl := Option.some.inj H
                          go_wp2
                          repeat (go_quiet (fail); try go_wp2)
                          go_ret
                          exact ⟨by first | rfl | (simp; done) | (simp [*]; done), by repeat (first | exact Drawn0.refl _ | apply Drawn0.step)⟩
                      · replace c30 := Bool.eq_false_iff.mpr c30
                        subst c30
                        have H1 : (if (bt a0 1) = 52 then (if (bt a0 2) = 50 then (some true) else (some ((bt a0 2) == 51))) else (if (bt a0 1) = 53 then (if (bt a0 2) = 48 then (some true) else (some ((bt a0 2) == 49))) else (if (bt a0 1) = 56 then (if (bt a0 2) = 48 then (some true) else (some ((bt a0 2) == 49))) else (some false)))) = some r := by rw [if_neg (show ¬ (false = true) by decide)] at H; exact H
                        clear H
                        have H := H1
                        clear H1
                        by_cases c32 : (bt a0 1) = 52
                        · rw [if_pos c32] at H
                          have c32b0 : ((bt a0 1) == 52) = true := beq_iff_eq.mpr c32
                          have c32b1 : ((bt a0 1) != 52) = false := bne_eq_false_iff_eq.mpr c32
                          clear c32
                          by_cases c33 : (bt a0 2) = 50
                          · rw [if_pos c33] at H
                            have c33b0 : ((bt a0 2) == 50) = true := beq_iff_eq.mpr c33
                            have c33b1 : ((bt a0 2) != 50) = false := bne_eq_false_iff_eq.mpr c33
                            clear c33
                            obtain rfl := Option.some.inj H
                            go_wp2
                            repeat (go_quiet (fail); try go_wp2)
                            go_ret
                            exact ⟨by first | rfl | (simp; done) | (simp [*]; done), by repeat (first | exact Drawn0.refl _ | apply Drawn0.step)⟩
                          · rw [if_neg c33] at H
                            have c33b0 : ((bt a0 2) == 50) = false := beq_eq_false_iff_ne.mpr c33
                            have c33b1 : ((bt a0 2) != 50) = true := bne_iff_ne.mpr c33
                            obtain rfl := Option.some.inj H
                            go_wp2
                            repeat (go_quiet (fail); try go_wp2)
                            go_ret
                            exact ⟨by first | rfl | (simp; done) | (simp [*]; done), by repeat (first | exact Drawn0.refl _ | apply Drawn0.step)⟩
                        · rw [if_neg c32] at H
                          have c32b0 : ((bt a0 1) == 52) = false := beq_eq_false_iff_ne.mpr c32
                          have c32b1 : ((bt a0 1) != 52) = true := bne_iff_ne.mpr c32
                          by_cases c34 : (bt a0 1) = 53
                          · rw [if_pos c34] at H
                            have c34b0 : ((bt a0 1) == 53) = true := beq_iff_eq.mpr c34
                            have c34b1 : ((bt a0 1) != 53) = false := bne_eq_false_iff_eq.mpr c34
                            clear c34
                            by_cases c35 : (bt a0 2) = 48
                            · rw [if_pos c35] at H
                              have c35b0 : ((bt a0 2) == 48) = true := beq_iff_eq.mpr c35
                              have c35b1 : ((bt a0 2) != 48) = false := bne_eq_false_iff_eq.mpr c35
                              clear c35
                              obtain rfl := Option.some.inj H
                              go_wp2
                              repeat (go_quiet (fail); try go_wp2)
                              go_ret
                              exact ⟨by first | rfl | (simp; done) | (simp [*]; done), by repeat (first | exact Drawn0.refl _ | apply Drawn0.step)⟩
                            · rw [if_neg c35] at H
                              have c35b0 : ((bt a0 2) == 48) = false := beq_eq_false_iff_ne.mpr c35
                              have c35b1 : ((bt a0 2) != 48) = true := bne_iff_ne.mpr c35
                              obtain rfl := Option.some.inj H
                              go_wp2
                              repeat (go_quiet (fail); try go_wp2)
                              go_ret
                              exact ⟨by first | rfl | (simp; done) | (simp [*]; done), by repeat (first | exact Drawn0.refl _ | apply Drawn0.step)⟩
                          · rw [if_neg c34] at H
                            have c34b0 : ((bt a0 1) == 53) = false := beq_eq_false_iff_ne.mpr c34
                            have c34b1 : ((bt a0 1) != 53) = true := bne_iff_ne.mpr c34
                            by_cases c36 : (bt a0 1) = 56
                            · rw [if_pos c36] at H
                              have c36b0 : ((bt a0 1) == 56) = true := beq_iff_eq.mpr c36
                              have c36b1 : ((bt a0 1) != 56) = false := bne_eq_false_iff_eq.mpr c36
                              clear c36
                              by_cases c37 : (bt a0 2) = 48
                              · rw [if_pos c37] at H
                                have c37b0 : ((bt a0 2) == 48) = true := beq_iff_eq.mpr c37
                                have c37b1 : ((bt a0 2) != 48) = false := bne_eq_false_iff_eq.mpr c37
                                clear c37
                                obtain rfl := Option.some.inj H
                                go_wp2
                                repeat (go_quiet (fail); try go_wp2)
                                go_ret
                                exact ⟨by first | rfl | (simp; done) | (simp [*]; done), by repeat (first | exact Drawn0.refl _ | apply Drawn0.step)⟩
                              · rw [if_neg c37] at H
                                have c37b0 : ((bt a0 2) == 48) = false := beq_eq_false_iff_ne.mpr c37
                                have c37b1 : ((bt a0 2) != 48) = true := bne_iff_ne.mpr c37
                                obtain rfl := Option.some.inj H
                                go_wp2
                                repeat (go_quiet (fail); try go_wp2)
                                go_ret
                                exact ⟨by first | rfl | (simp; done) | (simp [*]; done), by repeat (first | exact Drawn0.refl _ | apply Drawn0.step)⟩
                            · rw [if_neg c36] at H
                              have c36b0 : ((bt a0 1) == 56) = false := beq_eq_false_iff_ne.mpr c36
                              have c36b1 : ((bt a0 1) != 56) = true := bne_iff_ne.mpr c36
                              obtain rfl := Option.some.inj H
                              go_wp2
                              repeat (go_quiet (fail); try go_wp2)
                              go_ret
                              exact ⟨by first | rfl | (simp; done) | (simp [*]; done), by repeat (first | exact Drawn0.refl _ | apply Drawn0.step)⟩
          · rw [if_neg c20] at H
            exact absurd H (by simp)
        · rw [if_neg c18] at H
          exact absurd H (by simp)

end Go.Proofs.Ytdiodnjkejogdaa.All
