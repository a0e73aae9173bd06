-- WRITTEN BY this session's own drv.py over the kit's print. Not trusted: Lean checks it.
import Derived.Test.YtlpamhffpgoebaaAx0
import Derived.Test.YtlpamhffpgoebaaAx30
import Derived.Test.YtlpamhffpgoebaaAx34
namespace Go.Proofs.Ytlpamhffpgoebaa.All
open Go.RowKit Go.Proofs.YtlpamhffpgoebaaW.PrintWords Go.Proofs.YtlpamhffpgoebaaW.PrintLast Go.Proofs.YtlpamhffpgoebaaW.PrintMore
attribute [local go_sem] max2_int min2_int max_two min_two max_three min_three max_four min_four   -- for this text's walks alone
set_option linter.unusedVariables false
set_option linter.unusedSimpArgs false

/-! ### turnstilelaw1_DigitsSixteenths: function 9 -/
mutual
def turnstilelaw1_DigitsSixteenths.j0 : Nat → ByteArray → Bool → Option (Bool)
  | 0, _, _ => none
  | k + 1, x1, x48 => if x48 = true then (some false) else ((digits_Unhex.f k x1).bind fun bt251 => (if bt251.2.1 = 0 then (if bt251.2.2 = 0 then ((digits_Hex.f k bt251.1).bind fun t254 => (some (t254.toList == x1.toList))) else (some false)) else (if bt251.2.1 = 10 then (if x1.size + 1 ≤ 9223372036854775807 then ((digits_Unhex.f k (x1 ++ (⟨#[48]⟩ : ByteArray))).bind fun bt255 => (if bt251.1.toList = ([] : List UInt8) then (if bt251.2.2 = (x1.size : Int) then (if ((x1.size : Int) % 2) = 1 then (some (bt255.2.1 == 0)) else (some false)) else (some false)) else (some false))) else (none)) else (if bt251.2.1 = 11 then (if bt251.1.toList = ([] : List UInt8) then (if bt251.2.2 < 0 then (turnstilelaw1_DigitsSixteenths.j1 k x1 bt251.2.2 true) else (turnstilelaw1_DigitsSixteenths.j1 k x1 bt251.2.2 (decide (bt251.2.2 ≥ (x1.size : Int))))) else (turnstilelaw1_DigitsSixteenths.j1 k x1 bt251.2.2 true)) else (turnstilelaw1_DigitsSixteenths.j1 k x1 bt251.2.2 true)))))
def turnstilelaw1_DigitsSixteenths.j1 : Nat → ByteArray → Int → Bool → Option (Bool)
  | 0, _, _, _ => none
  | k + 1, x1, x11, x107 => if x107 = true then (some false) else (if 0 ≤ (wrap64 (x11 - (Int.tmod x11 2))) then (if (wrap64 (x11 - (Int.tmod x11 2))) ≤ (x1.size : Int) then ((digits_Unhex.f k (x1.extract 0 ((wrap64 (x11 - (Int.tmod x11 2))) : Int).toNat)).bind fun bt258 => (if 0 ≤ x11 then (if x11 ≤ (wrap64 (x11 + 1)) then (if (wrap64 (x11 + 1)) ≤ (x1.size : Int) then (if (x1.extract (x11 : Int).toNat ((wrap64 (x11 + 1)) : Int).toNat).size + 1 ≤ 9223372036854775807 then ((digits_Unhex.f k ((x1.extract (x11 : Int).toNat ((wrap64 (x11 + 1)) : Int).toNat) ++ (⟨#[48]⟩ : ByteArray))).bind fun bt261 => (if bt258.2.1 = 0 then (some (bt261.2.1 == 11)) else (some false))) else (none)) else (none)) else (none)) else (none))) else (none)) else (none))
end
def turnstilelaw1_DigitsSixteenths.f (k : Nat) (a0 : ByteArray) (a1 : ByteArray) : Option (Bool) := (digits_Hex.f k a0).bind fun t247 => ((digits_Unhex.f k t247).bind fun bt248 => (if bt248.2.1 = 0 then (if bt248.2.2 = 0 then (if bt248.1.toList = a0.toList then (turnstilelaw1_DigitsSixteenths.j0 k a1 ((t247.size : Int) != (wrap64 (2 * (a0.size : Int))))) else (turnstilelaw1_DigitsSixteenths.j0 k a1 true)) else (turnstilelaw1_DigitsSixteenths.j0 k a1 true)) else (turnstilelaw1_DigitsSixteenths.j0 k a1 true)))
theorem turnstilelaw1_DigitsSixteenths.mono_l : ∀ k, (∀ y0 y1, LeO (turnstilelaw1_DigitsSixteenths.j0 k y0 y1) (turnstilelaw1_DigitsSixteenths.j0 (k + 1) y0 y1)) ∧ (∀ y0 y1 y2, LeO (turnstilelaw1_DigitsSixteenths.j1 k y0 y1 y2) (turnstilelaw1_DigitsSixteenths.j1 (k + 1) y0 y1 y2))
  | 0 => ⟨fun _ _ r h => by simp [turnstilelaw1_DigitsSixteenths.j0] at h, fun _ _ _ r h => by simp [turnstilelaw1_DigitsSixteenths.j1] at h⟩
  | k + 1 => by
    obtain ⟨ih0, ih1⟩ := turnstilelaw1_DigitsSixteenths.mono_l k
    refine ⟨?_, ?_⟩
    · intro y0 y1
      unfold turnstilelaw1_DigitsSixteenths.j0
      repeat' first
      | (with_reducible exact ih0 _ _)
      | (with_reducible exact ih1 _ _ _)
      | (with_reducible exact digits_Hex.mono _ _)
      | (with_reducible exact digits_Unhex.mono _ _)
      | (with_reducible exact LeO.refl _)
      | (with_reducible exact LeO.none _)
      | (with_reducible refine LeO.ite ?_ ?_)
      | (with_reducible refine LeO.bind ?_ (fun _ => ?_))
      | exact ih0 _ _
      | exact ih1 _ _ _
      | exact digits_Hex.mono _ _
      | exact digits_Unhex.mono _ _
      | exact LeO.none _
      | refine LeO.ite ?_ ?_
      | refine LeO.bind ?_ (fun _ => ?_)
    · intro y0 y1 y2
      unfold turnstilelaw1_DigitsSixteenths.j1
      repeat' first
      | (with_reducible exact ih0 _ _)
      | (with_reducible exact ih1 _ _ _)
      | (with_reducible exact digits_Hex.mono _ _)
      | (with_reducible exact digits_Unhex.mono _ _)
      | (with_reducible exact LeO.refl _)
      | (with_reducible exact LeO.none _)
      | (with_reducible refine LeO.ite ?_ ?_)
      | (with_reducible refine LeO.bind ?_ (fun _ => ?_))
      | exact ih0 _ _
      | exact ih1 _ _ _
      | exact digits_Hex.mono _ _
      | exact digits_Unhex.mono _ _
      | exact LeO.none _
      | refine LeO.ite ?_ ?_
      | refine LeO.bind ?_ (fun _ => ?_)
theorem turnstilelaw1_DigitsSixteenths.mono : ∀ a0 a1 k, LeO (turnstilelaw1_DigitsSixteenths.f k a0 a1) (turnstilelaw1_DigitsSixteenths.f (k + 1) a0 a1) := by
  intro a0 a1 k
  obtain ⟨ih0, ih1⟩ := turnstilelaw1_DigitsSixteenths.mono_l k
  unfold turnstilelaw1_DigitsSixteenths.f
  repeat' first
      | (with_reducible exact ih0 _ _)
      | (with_reducible exact ih1 _ _ _)
      | (with_reducible exact digits_Hex.mono _ _)
      | (with_reducible exact digits_Unhex.mono _ _)
      | (with_reducible exact LeO.refl _)
      | (with_reducible exact LeO.none _)
      | (with_reducible refine LeO.ite ?_ ?_)
      | (with_reducible refine LeO.bind ?_ (fun _ => ?_))
      | exact ih0 _ _
      | exact ih1 _ _ _
      | exact digits_Hex.mono _ _
      | exact digits_Unhex.mono _ _
      | exact LeO.none _
      | refine LeO.ite ?_ ?_
      | refine LeO.bind ?_ (fun _ => ?_)
set_option maxHeartbeats 8000000 in
set_option maxRecDepth 100000 in
theorem turnstilelaw1_DigitsSixteenths.calls (k : Nat) (a0 : ByteArray) (a1 : ByteArray) (r : Bool) (w : World) (h : turnstilelaw1_DigitsSixteenths.f k a0 a1 = some r) :
    Calls Try.prog 9 #[.string a0, .string a1] w fun e w' => e = .returned (.bool r) ∧ Below w.heap.size w w' := by
  have HB := Aside0.mk (Below.refl w.heap.size w)
  have H : ((digits_Hex.f k a0).bind fun t247 => ((digits_Unhex.f k t247).bind fun bt248 => (if bt248.2.1 = 0 then (if bt248.2.2 = 0 then (if bt248.1.toList = a0.toList then (turnstilelaw1_DigitsSixteenths.j0 k a1 ((t247.size : Int) != (wrap64 (2 * (a0.size : Int))))) else (turnstilelaw1_DigitsSixteenths.j0 k a1 true)) else (turnstilelaw1_DigitsSixteenths.j0 k a1 true)) else (turnstilelaw1_DigitsSixteenths.j0 k a1 true)))) = some r := h
  clear h
  replace H := Option.bind_eq_some_iff.mp H
  obtain ⟨t247, A30, H⟩ := H
  replace H : ((digits_Unhex.f k t247).bind fun bt248 => (if bt248.2.1 = 0 then (if bt248.2.2 = 0 then (if bt248.1.toList = a0.toList then (turnstilelaw1_DigitsSixteenths.j0 k a1 ((t247.size : Int) != (wrap64 (2 * (a0.size : Int))))) else (turnstilelaw1_DigitsSixteenths.j0 k a1 true)) else (turnstilelaw1_DigitsSixteenths.j0 k a1 true)) else (turnstilelaw1_DigitsSixteenths.j0 k a1 true))) = some r := H
  have A3 := Aside0.mk A30
  clear A30
  replace H := Option.bind_eq_some_iff.mp H
  obtain ⟨⟨t248, t249, t250⟩, A40, H⟩ := H
  replace H : (if t249 = 0 then (if t250 = 0 then (if t248.toList = a0.toList then (turnstilelaw1_DigitsSixteenths.j0 k a1 ((t247.size : Int) != (wrap64 (2 * (a0.size : Int))))) else (turnstilelaw1_DigitsSixteenths.j0 k a1 true)) else (turnstilelaw1_DigitsSixteenths.j0 k a1 true)) else (turnstilelaw1_DigitsSixteenths.j0 k a1 true)) = some r := H
  have A4 := Aside0.mk A40
  clear A40
  have HC5 := Aside0.mk H
  clear H
  go_enter Try.func9, Try.ntmps9
  go_upto_region 3 with (first | ((with_reducible refine gate_callee (f := 28) rfl ?_); refine goesL_ (some 23) rfl rfl Try.func28 (by kernel_rfl) rfl #[.string a0] rfl (by (try simp only [List.map_toArray, List.map_cons, List.map_nil]); first | done | rfl | (simp only [List.length_drop, List.length_take]; rfl)) ?_; (with_reducible refine (digits_Hex.calls k a0 t247 _ A3.out).mono ?_); rintro e w6 ⟨rfl, hb⟩; refine ⟨_, rfl, ?_⟩; have n0_ := Aside0.mk (below_step (by repeat (first | (with_reducible first | exact HB.out | apply below_alloc | apply pw_below_drewN | apply below_drew1) | exact HB.out)) hb); clear HB; have HB := n0_; clear n0_; (try clear hb); (try clear hb2); (try clear hk); (try clear hi)) | ((with_reducible refine gate_callee (f := 29) rfl ?_); refine goesL_ (some 26) rfl rfl Try.func29 (by kernel_rfl) rfl #[.string t247] rfl (by (try simp only [List.map_toArray, List.map_cons, List.map_nil]); first | done | rfl | (simp only [List.length_drop, List.length_take]; rfl)) ?_; (with_reducible refine (digits_Unhex.calls k t247 t248 t249 t250 _ A4.out).mono ?_); rintro e w7 ⟨rfl, hb⟩; refine ⟨_, rfl, ?_⟩; have n0_ := Aside0.mk (below_step (by repeat (first | (with_reducible first | exact HB.out | apply below_alloc | apply pw_below_drewN | apply below_drew1) | exact HB.out)) hb); clear HB; have HB := n0_; clear n0_; (try clear hb); (try clear hb2); (try clear hk); (try clear hi)))
  (try simp only [Act.put, List.setIfInBounds_toArray, List.set_cons_zero, List.set_cons_succ])
  go_cut [48] (fun v48 wc => ∃ (kq : Nat) (x48_4 : Bool), v48 = .bool x48_4 ∧ Aside0 (turnstilelaw1_DigitsSixteenths.j0 kq a1 x48_4 = some r) ∧ Aside0 (kq ≤ k) ∧ Aside0 (Below w.heap.size w wc))
  case first =>
    have H := HC5.out
    clear HC5
    by_cases c8 : t249 = 0
    · rw [if_pos c8] at H
      have c8b0 : (t249 == 0) = true := beq_iff_eq.mpr c8
      have c8b1 : (t249 != 0) = false := bne_eq_false_iff_eq.mpr c8
      clear c8
      (first | rw [c8b0] | (simp only [i64_w, i32_w]; rw [c8b0]) | skip)
      by_cases c9 : t250 = 0
      · rw [if_pos c9] at H
        have c9b0 : (t250 == 0) = true := beq_iff_eq.mpr c9
        have c9b1 : (t250 != 0) = false := bne_eq_false_iff_eq.mpr c9
        clear c9
        by_cases c10 : t248.toList = a0.toList
        · rw [if_pos c10] at H
          have c10b0 : (t248.toList == a0.toList) = true := beq_iff_eq.mpr c10
          have c10b1 : (t248.toList != a0.toList) = false := bne_eq_false_iff_eq.mpr c10
          clear c10
          have H' := Aside0.mk H
          clear H
          go_wp2
          go_meet
          case rel => exact ⟨_, (((t247.size : Int) != (wrap64 (2 * (a0.size : Int))))), (by first | rfl | (simp; done) | (simp [*]; done)), H', ⟨by first | omega | exact Nat.le_refl _⟩, ⟨by repeat (first | (with_reducible first | exact HB.out | apply below_alloc | apply pw_below_drewN | apply below_drew1) | exact HB.out)⟩⟩
        · rw [if_neg c10] at H
          have c10b0 : (t248.toList == a0.toList) = false := beq_eq_false_iff_ne.mpr c10
          have c10b1 : (t248.toList != a0.toList) = true := bne_iff_ne.mpr c10
          have H' := Aside0.mk H
          clear H
          go_wp2
          go_meet
          case rel => exact ⟨_, (true), (by first | rfl | (simp; done) | (simp [*]; done)), H', ⟨by first | omega | exact Nat.le_refl _⟩, ⟨by repeat (first | (with_reducible first | exact HB.out | apply below_alloc | apply pw_below_drewN | apply below_drew1) | exact HB.out)⟩⟩
      · rw [if_neg c9] at H
        have c9b0 : (t250 == 0) = false := beq_eq_false_iff_ne.mpr c9
        have c9b1 : (t250 != 0) = true := bne_iff_ne.mpr c9
        have H' := Aside0.mk H
        clear H
        go_wp2
        go_meet
        case rel => exact ⟨_, (true), (by first | rfl | (simp; done) | (simp [*]; done)), H', ⟨by first | omega | exact Nat.le_refl _⟩, ⟨by repeat (first | (with_reducible first | exact HB.out | apply below_alloc | apply pw_below_drewN | apply below_drew1) | exact HB.out)⟩⟩
    · rw [if_neg c8] at H
      have c8b0 : (t249 == 0) = false := beq_eq_false_iff_ne.mpr c8
      have c8b1 : (t249 != 0) = true := bne_iff_ne.mpr c8
      (first | rw [c8b0] | (simp only [i64_w, i32_w]; rw [c8b0]) | skip)
      have H' := Aside0.mk H
      clear H
      go_wp2
      go_meet
      case rel => exact ⟨_, (true), (by first | rfl | (simp; done) | (simp [*]; done)), H', ⟨by first | omega | exact Nat.le_refl _⟩, ⟨by repeat (first | (with_reducible first | exact HB.out | apply below_alloc | apply pw_below_drewN | apply below_drew1) | exact HB.out)⟩⟩
  case rest =>
    clear HC5
    try clear c1
    try clear c2
    try clear p2
    try clear p6
    try clear c8
    try clear c8b0
    try clear c8b1
    try clear c9
    try clear c9b0
    try clear c9b1
    try clear c10
    try clear c10b0
    try clear c10b1
    obtain ⟨kq, x48_4, rfl, HA, HJ4, HB⟩ := hcut
    cases kq with
    | zero => exact absurd HA.out (by simp [turnstilelaw1_DigitsSixteenths.j0])
    | succ kj4 =>
      have H := HA.out
      clear HA
      simp only [turnstilelaw1_DigitsSixteenths.j0] at H
      by_cases c11 : x48_4 = true
      · subst c11
        have H1 : (some false) = some r := by rw [if_pos rfl] at H; exact H
        clear H
        have H := H1
        clear H1
        obtain rfl := Option.some.inj H
        go_wp2
        go_ret
        exact ⟨by first | rfl | (simp [errW_none, errW_some] <;> rfl) | (simp [*, errW_none, errW_some] <;> rfl), by repeat (first | (with_reducible first | exact HB.out | apply below_alloc | apply pw_below_drewN | apply below_drew1) | exact HB.out)⟩
      · replace c11 := Bool.eq_false_iff.mpr c11
        subst c11
        have H1 : ((digits_Unhex.f kj4 a1).bind fun bt251 => (if bt251.2.1 = 0 then (if bt251.2.2 = 0 then ((digits_Hex.f kj4 bt251.1).bind fun t254 => (some (t254.toList == a1.toList))) else (some false)) else (if bt251.2.1 = 10 then (if a1.size + 1 ≤ 9223372036854775807 then ((digits_Unhex.f kj4 (a1 ++ (⟨#[48]⟩ : ByteArray))).bind fun bt255 => (if bt251.1.toList = ([] : List UInt8) then (if bt251.2.2 = (a1.size : Int) then (if ((a1.size : Int) % 2) = 1 then (some (bt255.2.1 == 0)) else (some false)) else (some false)) else (some false))) else (none)) else (if bt251.2.1 = 11 then (if bt251.1.toList = ([] : List UInt8) then (if bt251.2.2 < 0 then (turnstilelaw1_DigitsSixteenths.j1 kj4 a1 bt251.2.2 true) else (turnstilelaw1_DigitsSixteenths.j1 kj4 a1 bt251.2.2 (decide (bt251.2.2 ≥ (a1.size : Int))))) else (turnstilelaw1_DigitsSixteenths.j1 kj4 a1 bt251.2.2 true)) else (turnstilelaw1_DigitsSixteenths.j1 kj4 a1 bt251.2.2 true))))) = some r := by rw [if_neg (show ¬ (false = true) by decide)] at H; exact H
        clear H
        have H := H1
        clear H1
        replace H := Option.bind_eq_some_iff.mp H
        obtain ⟨⟨t251, t252, t253⟩, A120, H⟩ := H
        replace H : (if t252 = 0 then (if t253 = 0 then ((digits_Hex.f kj4 t251).bind fun t254 => (some (t254.toList == a1.toList))) else (some false)) else (if t252 = 10 then (if a1.size + 1 ≤ 9223372036854775807 then ((digits_Unhex.f kj4 (a1 ++ (⟨#[48]⟩ : ByteArray))).bind fun bt255 => (if t251.toList = ([] : List UInt8) then (if t253 = (a1.size : Int) then (if ((a1.size : Int) % 2) = 1 then (some (bt255.2.1 == 0)) else (some false)) else (some false)) else (some false))) else (none)) else (if t252 = 11 then (if t251.toList = ([] : List UInt8) then (if t253 < 0 then (turnstilelaw1_DigitsSixteenths.j1 kj4 a1 t253 true) else (turnstilelaw1_DigitsSixteenths.j1 kj4 a1 t253 (decide (t253 ≥ (a1.size : Int))))) else (turnstilelaw1_DigitsSixteenths.j1 kj4 a1 t253 true)) else (turnstilelaw1_DigitsSixteenths.j1 kj4 a1 t253 true)))) = some r := H
        have A12 := Aside0.mk A120
        clear A120
        by_cases c13 : t252 = 0
        · rw [if_pos c13] at H
          have c13b0 : (t252 == 0) = true := beq_iff_eq.mpr c13
          have c13b1 : (t252 != 0) = false := bne_eq_false_iff_eq.mpr c13
          clear c13
          by_cases c14 : t253 = 0
          · rw [if_pos c14] at H
            have c14b0 : (t253 == 0) = true := beq_iff_eq.mpr c14
            have c14b1 : (t253 != 0) = false := bne_eq_false_iff_eq.mpr c14
            clear c14
            replace H := Option.bind_eq_some_iff.mp H
            obtain ⟨t254, A150, H⟩ := H
            replace H : (some (t254.toList == a1.toList)) = some r := H
            have A15 := Aside0.mk A150
            clear A150
            obtain rfl := Option.some.inj H
            go_wp2_with (first | ((with_reducible refine gate_callee (f := 29) rfl ?_); refine goesL_ (some 51) rfl rfl Try.func29 (by kernel_rfl) rfl #[.string a1] rfl (by (try simp only [List.map_toArray, List.map_cons, List.map_nil]); first | done | rfl | (simp only [List.length_drop, List.length_take]; rfl)) ?_; (with_reducible refine (digits_Unhex.calls kj4 a1 t251 t252 t253 _ A12.out).mono ?_); rintro e w16 ⟨rfl, hb⟩; refine ⟨_, rfl, ?_⟩; have n0_ := Aside0.mk (below_step (by repeat (first | (with_reducible first | exact HB.out | apply below_alloc | apply pw_below_drewN | apply below_drew1) | exact HB.out)) hb); clear HB; have HB := n0_; clear n0_; (try clear hb); (try clear hb2); (try clear hk); (try clear hi)) | (go_at_call 28; (with_reducible refine (digits_Hex.calls kj4 t251 t254 _ A15.out).mono ?_); rintro e w17 ⟨rfl, hb⟩; have n0_ := Aside0.mk (below_step (by repeat (first | (with_reducible first | exact HB.out | apply below_alloc | apply pw_below_drewN | apply below_drew1) | exact HB.out)) hb); clear HB; have HB := n0_; clear n0_; (try clear hb); (try clear hb2); (try clear hk); (try clear hi)))
            go_ret
            exact ⟨by first | rfl | (simp [errW_none, errW_some] <;> rfl) | (simp [*, errW_none, errW_some] <;> rfl), by repeat (first | (with_reducible first | exact HB.out | apply below_alloc | apply pw_below_drewN | apply below_drew1) | exact HB.out)⟩
          · rw [if_neg c14] at H
            have c14b0 : (t253 == 0) = false := beq_eq_false_iff_ne.mpr c14
            have c14b1 : (t253 != 0) = true := bne_iff_ne.mpr c14
            obtain rfl := Option.some.inj H
            go_wp2_with (first | ((with_reducible refine gate_callee (f := 29) rfl ?_); refine goesL_ (some 51) rfl rfl Try.func29 (by kernel_rfl) rfl #[.string a1] rfl (by (try simp only [List.map_toArray, List.map_cons, List.map_nil]); first | done | rfl | (simp only [List.length_drop, List.length_take]; rfl)) ?_; (with_reducible refine (digits_Unhex.calls kj4 a1 t251 t252 t253 _ A12.out).mono ?_); rintro e w18 ⟨rfl, hb⟩; refine ⟨_, rfl, ?_⟩; have n0_ := Aside0.mk (below_step (by repeat (first | (with_reducible first | exact HB.out | apply below_alloc | apply pw_below_drewN | apply below_drew1) | exact HB.out)) hb); clear HB; have HB := n0_; clear n0_; (try clear hb); (try clear hb2); (try clear hk); (try clear hi)))
            go_ret
            exact ⟨by first | rfl | (simp [errW_none, errW_some] <;> rfl) | (simp [*, errW_none, errW_some] <;> rfl), by repeat (first | (with_reducible first | exact HB.out | apply below_alloc | apply pw_below_drewN | apply below_drew1) | exact HB.out)⟩
        · rw [if_neg c13] at H
          have c13b0 : (t252 == 0) = false := beq_eq_false_iff_ne.mpr c13
          have c13b1 : (t252 != 0) = true := bne_iff_ne.mpr c13
          by_cases c19 : t252 = 10
          · rw [if_pos c19] at H
            have c19b0 : (t252 == 10) = true := beq_iff_eq.mpr c19
            have c19b1 : (t252 != 10) = false := bne_eq_false_iff_eq.mpr c19
            clear c19
            by_cases c20 : a1.size + 1 ≤ 9223372036854775807
            · rw [if_pos c20] at H
              have c20b0 := eq_true c20
              have c20b1 : decide (a1.size + 1 ≤ 9223372036854775807) = true := decide_eq_true c20
              try have c20b2 : (9223372036854775807 < a1.size + 1) = False := eq_false (Nat.not_lt.2 c20)
              replace H := Option.bind_eq_some_iff.mp H
              obtain ⟨⟨t255, t256, t257⟩, A210, H⟩ := H
              replace H : (if t251.toList = ([] : List UInt8) then (if t253 = (a1.size : Int) then (if ((a1.size : Int) % 2) = 1 then (some (t256 == 0)) else (some false)) else (some false)) else (some false)) = some r := H
              have A21 := Aside0.mk A210
              clear A210
              by_cases c22 : t251.toList = ([] : List UInt8)
              · rw [if_pos c22] at H
                have c22b0 : (t251.toList == ([] : List UInt8)) = true := beq_iff_eq.mpr c22
                have c22b1 : (t251.toList != ([] : List UInt8)) = false := bne_eq_false_iff_eq.mpr c22
                clear c22
                by_cases c23 : t253 = (a1.size : Int)
                · rw [if_pos c23] at H
                  have c23b0 : (t253 == (a1.size : Int)) = true := beq_iff_eq.mpr c23
                  have c23b1 : (t253 != (a1.size : Int)) = false := bne_eq_false_iff_eq.mpr c23
                  clear c23
                  by_cases c24 : ((a1.size : Int) % 2) = 1
                  · rw [if_pos c24] at H
                    have c24b0 : (((a1.size : Int) % 2) == 1) = true := beq_iff_eq.mpr c24
                    have c24b1 : (((a1.size : Int) % 2) != 1) = false := bne_eq_false_iff_eq.mpr c24
                    clear c24
                    obtain rfl := Option.some.inj H
                    go_wp2_with (first | ((with_reducible refine gate_callee (f := 29) rfl ?_); refine goesL_ (some 51) rfl rfl Try.func29 (by kernel_rfl) rfl #[.string a1] rfl (by (try simp only [List.map_toArray, List.map_cons, List.map_nil]); first | done | rfl | (simp only [List.length_drop, List.length_take]; rfl)) ?_; (with_reducible refine (digits_Unhex.calls kj4 a1 t251 t252 t253 _ A12.out).mono ?_); rintro e w25 ⟨rfl, hb⟩; refine ⟨_, rfl, ?_⟩; have n0_ := Aside0.mk (below_step (by repeat (first | (with_reducible first | exact HB.out | apply below_alloc | apply pw_below_drewN | apply below_drew1) | exact HB.out)) hb); clear HB; have HB := n0_; clear n0_; (try clear hb); (try clear hb2); (try clear hk); (try clear hi)) | ((with_reducible refine gate_callee (f := 29) rfl ?_); refine goesL_ (some 70) rfl rfl Try.func29 (by kernel_rfl) rfl #[.string (a1 ++ (⟨#[48]⟩ : ByteArray))] rfl (by (try simp only [List.map_toArray, List.map_cons, List.map_nil]); first | done | rfl | (simp only [List.length_drop, List.length_take]; rfl)) ?_; (with_reducible refine (digits_Unhex.calls kj4 (a1 ++ (⟨#[48]⟩ : ByteArray)) t255 t256 t257 _ A21.out).mono ?_); rintro e w26 ⟨rfl, hb⟩; refine ⟨_, rfl, ?_⟩; have n0_ := Aside0.mk (below_step (by repeat (first | (with_reducible first | exact HB.out | apply below_alloc | apply pw_below_drewN | apply below_drew1) | exact HB.out)) hb); clear HB; have HB := n0_; clear n0_; (try clear hb); (try clear hb2); (try clear hk); (try clear hi)))
                    go_ret
                    exact ⟨by first | rfl | (simp [errW_none, errW_some] <;> rfl) | (simp [*, errW_none, errW_some] <;> rfl), by repeat (first | (with_reducible first | exact HB.out | apply below_alloc | apply pw_below_drewN | apply below_drew1) | exact HB.out)⟩
                  · rw [if_neg c24] at H
                    have c24b0 : (((a1.size : Int) % 2) == 1) = false := beq_eq_false_iff_ne.mpr c24
                    have c24b1 : (((a1.size : Int) % 2) != 1) = true := bne_iff_ne.mpr c24
                    obtain rfl := Option.some.inj H
                    go_wp2_with (first | ((with_reducible refine gate_callee (f := 29) rfl ?_); refine goesL_ (some 51) rfl rfl Try.func29 (by kernel_rfl) rfl #[.string a1] rfl (by (try simp only [List.map_toArray, List.map_cons, List.map_nil]); first | done | rfl | (simp only [List.length_drop, List.length_take]; rfl)) ?_; (with_reducible refine (digits_Unhex.calls kj4 a1 t251 t252 t253 _ A12.out).mono ?_); rintro e w27 ⟨rfl, hb⟩; refine ⟨_, rfl, ?_⟩; have n0_ := Aside0.mk (below_step (by repeat (first | (with_reducible first | exact HB.out | apply below_alloc | apply pw_below_drewN | apply below_drew1) | exact HB.out)) hb); clear HB; have HB := n0_; clear n0_; (try clear hb); (try clear hb2); (try clear hk); (try clear hi)) | ((with_reducible refine gate_callee (f := 29) rfl ?_); refine goesL_ (some 70) rfl rfl Try.func29 (by kernel_rfl) rfl #[.string (a1 ++ (⟨#[48]⟩ : ByteArray))] rfl (by (try simp only [List.map_toArray, List.map_cons, List.map_nil]); first | done | rfl | (simp only [List.length_drop, List.length_take]; rfl)) ?_; (with_reducible refine (digits_Unhex.calls kj4 (a1 ++ (⟨#[48]⟩ : ByteArray)) t255 t256 t257 _ A21.out).mono ?_); rintro e w28 ⟨rfl, hb⟩; refine ⟨_, rfl, ?_⟩; have n0_ := Aside0.mk (below_step (by repeat (first | (with_reducible first | exact HB.out | apply below_alloc | apply pw_below_drewN | apply below_drew1) | exact HB.out)) hb); clear HB; have HB := n0_; clear n0_; (try clear hb); (try clear hb2); (try clear hk); (try clear hi)))
                    go_ret
                    exact ⟨by first | rfl | (simp [errW_none, errW_some] <;> rfl) | (simp [*, errW_none, errW_some] <;> rfl), by repeat (first | (with_reducible first | exact HB.out | apply below_alloc | apply pw_below_drewN | apply below_drew1) | exact HB.out)⟩
                · rw [if_neg c23] at H
                  have c23b0 : (t253 == (a1.size : Int)) = false := beq_eq_false_iff_ne.mpr c23
                  have c23b1 : (t253 != (a1.size : Int)) = true := bne_iff_ne.mpr c23
                  obtain rfl := Option.some.inj H
                  go_wp2_with (first | ((with_reducible refine gate_callee (f := 29) rfl ?_); refine goesL_ (some 51) rfl rfl Try.func29 (by kernel_rfl) rfl #[.string a1] rfl (by (try simp only [List.map_toArray, List.map_cons, List.map_nil]); first | done | rfl | (simp only [List.length_drop, List.length_take]; rfl)) ?_; (with_reducible refine (digits_Unhex.calls kj4 a1 t251 t252 t253 _ A12.out).mono ?_); rintro e w29 ⟨rfl, hb⟩; refine ⟨_, rfl, ?_⟩; have n0_ := Aside0.mk (below_step (by repeat (first | (with_reducible first | exact HB.out | apply below_alloc | apply pw_below_drewN | apply below_drew1) | exact HB.out)) hb); clear HB; have HB := n0_; clear n0_; (try clear hb); (try clear hb2); (try clear hk); (try clear hi)) | ((with_reducible refine gate_callee (f := 29) rfl ?_); refine goesL_ (some 70) rfl rfl Try.func29 (by kernel_rfl) rfl #[.string (a1 ++ (⟨#[48]⟩ : ByteArray))] rfl (by (try simp only [List.map_toArray, List.map_cons, List.map_nil]); first | done | rfl | (simp only [List.length_drop, List.length_take]; rfl)) ?_; (with_reducible refine (digits_Unhex.calls kj4 (a1 ++ (⟨#[48]⟩ : ByteArray)) t255 t256 t257 _ A21.out).mono ?_); rintro e w30 ⟨rfl, hb⟩; refine ⟨_, rfl, ?_⟩; have n0_ := Aside0.mk (below_step (by repeat (first | (with_reducible first | exact HB.out | apply below_alloc | apply pw_below_drewN | apply below_drew1) | exact HB.out)) hb); clear HB; have HB := n0_; clear n0_; (try clear hb); (try clear hb2); (try clear hk); (try clear hi)))
                  go_ret
                  exact ⟨by first | rfl | (simp [errW_none, errW_some] <;> rfl) | (simp [*, errW_none, errW_some] <;> rfl), by repeat (first | (with_reducible first | exact HB.out | apply below_alloc | apply pw_below_drewN | apply below_drew1) | exact HB.out)⟩
              · rw [if_neg c22] at H
                have c22b0 : (t251.toList == ([] : List UInt8)) = false := beq_eq_false_iff_ne.mpr c22
                have c22b1 : (t251.toList != ([] : List UInt8)) = true := bne_iff_ne.mpr c22
                obtain rfl := Option.some.inj H
                go_wp2_with (first | ((with_reducible refine gate_callee (f := 29) rfl ?_); refine goesL_ (some 51) rfl rfl Try.func29 (by kernel_rfl) rfl #[.string a1] rfl (by (try simp only [List.map_toArray, List.map_cons, List.map_nil]); first | done | rfl | (simp only [List.length_drop, List.length_take]; rfl)) ?_; (with_reducible refine (digits_Unhex.calls kj4 a1 t251 t252 t253 _ A12.out).mono ?_); rintro e w31 ⟨rfl, hb⟩; refine ⟨_, rfl, ?_⟩; have n0_ := Aside0.mk (below_step (by repeat (first | (with_reducible first | exact HB.out | apply below_alloc | apply pw_below_drewN | apply below_drew1) | exact HB.out)) hb); clear HB; have HB := n0_; clear n0_; (try clear hb); (try clear hb2); (try clear hk); (try clear hi)) | ((with_reducible refine gate_callee (f := 29) rfl ?_); refine goesL_ (some 70) rfl rfl Try.func29 (by kernel_rfl) rfl #[.string (a1 ++ (⟨#[48]⟩ : ByteArray))] rfl (by (try simp only [List.map_toArray, List.map_cons, List.map_nil]); first | done | rfl | (simp only [List.length_drop, List.length_take]; rfl)) ?_; (with_reducible refine (digits_Unhex.calls kj4 (a1 ++ (⟨#[48]⟩ : ByteArray)) t255 t256 t257 _ A21.out).mono ?_); rintro e w32 ⟨rfl, hb⟩; refine ⟨_, rfl, ?_⟩; have n0_ := Aside0.mk (below_step (by repeat (first | (with_reducible first | exact HB.out | apply below_alloc | apply pw_below_drewN | apply below_drew1) | exact HB.out)) hb); clear HB; have HB := n0_; clear n0_; (try clear hb); (try clear hb2); (try clear hk); (try clear hi)))
                go_ret
                exact ⟨by first | rfl | (simp [errW_none, errW_some] <;> rfl) | (simp [*, errW_none, errW_some] <;> rfl), by repeat (first | (with_reducible first | exact HB.out | apply below_alloc | apply pw_below_drewN | apply below_drew1) | exact HB.out)⟩
            · rw [if_neg c20] at H
              exact absurd H (by simp)
          · rw [if_neg c19] at H
            have c19b0 : (t252 == 10) = false := beq_eq_false_iff_ne.mpr c19
            have c19b1 : (t252 != 10) = true := bne_iff_ne.mpr c19
            have HC33 := Aside0.mk H
            clear H
            go_upto_region 11 with (first | ((with_reducible refine gate_callee (f := 29) rfl ?_); refine goesL_ (some 51) rfl rfl Try.func29 (by kernel_rfl) rfl #[.string a1] rfl (by (try simp only [List.map_toArray, List.map_cons, List.map_nil]); first | done | rfl | (simp only [List.length_drop, List.length_take]; rfl)) ?_; (with_reducible refine (digits_Unhex.calls kj4 a1 t251 t252 t253 _ A12.out).mono ?_); rintro e w34 ⟨rfl, hb⟩; refine ⟨_, rfl, ?_⟩; have n0_ := Aside0.mk (below_step (by repeat (first | (with_reducible first | exact HB.out | apply below_alloc | apply pw_below_drewN | apply below_drew1) | exact HB.out)) hb); clear HB; have HB := n0_; clear n0_; (try clear hb); (try clear hb2); (try clear hk); (try clear hi)))
            (try simp only [Act.put, List.setIfInBounds_toArray, List.set_cons_zero, List.set_cons_succ])
            go_cut [107] (fun v107 wc => ∃ (kq : Nat) (x107_32 : Bool), v107 = .bool x107_32 ∧ Aside0 (turnstilelaw1_DigitsSixteenths.j1 kq a1 t253 x107_32 = some r) ∧ Aside0 (kq ≤ kj4) ∧ Aside0 (Below w.heap.size w wc))
            case first =>
              have H := HC33.out
              clear HC33
              by_cases c35 : t252 = 11
              · rw [if_pos c35] at H
                have c35b0 : (t252 == 11) = true := beq_iff_eq.mpr c35
                have c35b1 : (t252 != 11) = false := bne_eq_false_iff_eq.mpr c35
                clear c35
                (first | rw [c35b0] | (simp only [i64_w, i32_w]; rw [c35b0]) | skip)
                by_cases c36 : t251.toList = ([] : List UInt8)
                · rw [if_pos c36] at H
                  have c36b0 : (t251.toList == ([] : List UInt8)) = true := beq_iff_eq.mpr c36
                  have c36b1 : (t251.toList != ([] : List UInt8)) = false := bne_eq_false_iff_eq.mpr c36
                  clear c36
                  by_cases c37 : t253 < 0
                  · rw [if_pos c37] at H
                    have c37b0 : decide (t253 < 0) = true := decide_eq_true c37
                    clear c37
                    have H' := Aside0.mk H
                    clear H
                    go_wp2
                    go_meet
                    case rel => exact ⟨_, (true), (by first | rfl | (simp; done) | (simp [*]; done)), H', ⟨by have := HJ4.out; first | omega | exact Nat.le_refl _⟩, ⟨by repeat (first | (with_reducible first | exact HB.out | apply below_alloc | apply pw_below_drewN | apply below_drew1) | exact HB.out)⟩⟩
                  · rw [if_neg c37] at H
                    have c37b0 : decide (t253 < 0) = false := decide_eq_false c37
                    clear c37
                    have H' := Aside0.mk H
                    clear H
                    go_wp2
                    go_meet
                    case rel => exact ⟨_, (decide (t253 ≥ (a1.size : Int))), (by first | rfl | (simp; done) | (simp [*]; done)), H', ⟨by have := HJ4.out; first | omega | exact Nat.le_refl _⟩, ⟨by repeat (first | (with_reducible first | exact HB.out | apply below_alloc | apply pw_below_drewN | apply below_drew1) | exact HB.out)⟩⟩
                · rw [if_neg c36] at H
                  have c36b0 : (t251.toList == ([] : List UInt8)) = false := beq_eq_false_iff_ne.mpr c36
                  have c36b1 : (t251.toList != ([] : List UInt8)) = true := bne_iff_ne.mpr c36
                  have H' := Aside0.mk H
                  clear H
                  go_wp2
                  go_meet
                  case rel => exact ⟨_, (true), (by first | rfl | (simp; done) | (simp [*]; done)), H', ⟨by have := HJ4.out; first | omega | exact Nat.le_refl _⟩, ⟨by repeat (first | (with_reducible first | exact HB.out | apply below_alloc | apply pw_below_drewN | apply below_drew1) | exact HB.out)⟩⟩
              · rw [if_neg c35] at H
                have c35b0 : (t252 == 11) = false := beq_eq_false_iff_ne.mpr c35
                have c35b1 : (t252 != 11) = true := bne_iff_ne.mpr c35
                (first | rw [c35b0] | (simp only [i64_w, i32_w]; rw [c35b0]) | skip)
                have H' := Aside0.mk H
                clear H
                go_wp2
                go_meet
                case rel => exact ⟨_, (true), (by first | rfl | (simp; done) | (simp [*]; done)), H', ⟨by have := HJ4.out; first | omega | exact Nat.le_refl _⟩, ⟨by repeat (first | (with_reducible first | exact HB.out | apply below_alloc | apply pw_below_drewN | apply below_drew1) | exact HB.out)⟩⟩
            case rest =>
              clear HC33
              try clear c1
              try clear c2
              try clear p2
              try clear c3
              try clear p6
              try clear c8
              try clear c8b0
              try clear c8b1
              try clear c9
              try clear c9b0
              try clear c9b1
              try clear c10
              try clear c10b0
              try clear c10b1
              try clear c11
              try clear c13
              try clear c13b0
              try clear c13b1
              try clear c14
              try clear c14b0
              try clear c14b1
              try clear c19
              try clear c19b0
              try clear c19b1
              try clear c20
              try clear c20b0
              try clear c20b1
              try clear c20b2
              try clear c22
              try clear c22b0
              try clear c22b1
              try clear c23
              try clear c23b0
              try clear c23b1
              try clear c24
              try clear c24b0
              try clear c24b1
              try clear c28
              try clear c29
              try clear c35
              try clear c35b0
              try clear c35b1
              try clear c36
              try clear c36b0
              try clear c36b1
              try clear c37
              try clear c37b0
              try clear p2
              try clear p6
              obtain ⟨kq, x107_32, rfl, HA, HJ32, HB⟩ := hcut
              cases kq with
              | zero => exact absurd HA.out (by simp [turnstilelaw1_DigitsSixteenths.j1])
              | succ kj32 =>
                have H := HA.out
                clear HA
                simp only [turnstilelaw1_DigitsSixteenths.j1] at H
                by_cases c38 : x107_32 = true
                · subst c38
                  have H1 : (some false) = some r := by rw [if_pos rfl] at H; exact H
                  clear H
                  have H := H1
                  clear H1
                  obtain rfl := Option.some.inj H
                  go_wp2
                  go_ret
                  exact ⟨by first | rfl | (simp [errW_none, errW_some] <;> rfl) | (simp [*, errW_none, errW_some] <;> rfl), by repeat (first | (with_reducible first | exact HB.out | apply below_alloc | apply pw_below_drewN | apply below_drew1) | exact HB.out)⟩
                · replace c38 := Bool.eq_false_iff.mpr c38
                  subst c38
                  have H1 : (if 0 ≤ (wrap64 (t253 - (Int.tmod t253 2))) then (if (wrap64 (t253 - (Int.tmod t253 2))) ≤ (a1.size : Int) then ((digits_Unhex.f kj32 (a1.extract 0 ((wrap64 (t253 - (Int.tmod t253 2))) : Int).toNat)).bind fun bt258 => (if 0 ≤ t253 then (if t253 ≤ (wrap64 (t253 + 1)) then (if (wrap64 (t253 + 1)) ≤ (a1.size : Int) then (if (a1.extract (t253 : Int).toNat ((wrap64 (t253 + 1)) : Int).toNat).size + 1 ≤ 9223372036854775807 then ((digits_Unhex.f kj32 ((a1.extract (t253 : Int).toNat ((wrap64 (t253 + 1)) : Int).toNat) ++ (⟨#[48]⟩ : ByteArray))).bind fun bt261 => (if bt258.2.1 = 0 then (some (bt261.2.1 == 11)) else (some false))) else (none)) else (none)) else (none)) else (none))) else (none)) else (none)) = some r := by rw [if_neg (show ¬ (false = true) by decide)] at H; exact H
                  clear H
                  have H := H1
                  clear H1
                  obtain ⟨ji39, hji39⟩ : ∃ j_ : Int, (wrap64 (t253 - (Int.tmod t253 2))) = j_ := ⟨_, rfl⟩
                  replace H : (if 0 ≤ (ji39) then (if (ji39) ≤ (a1.size : Int) then ((digits_Unhex.f kj32 (a1.extract 0 ((ji39) : Int).toNat)).bind fun bt258 => (if 0 ≤ t253 then (if t253 ≤ (wrap64 (t253 + 1)) then (if (wrap64 (t253 + 1)) ≤ (a1.size : Int) then (if (a1.extract (t253 : Int).toNat ((wrap64 (t253 + 1)) : Int).toNat).size + 1 ≤ 9223372036854775807 then ((digits_Unhex.f kj32 ((a1.extract (t253 : Int).toNat ((wrap64 (t253 + 1)) : Int).toNat) ++ (⟨#[48]⟩ : ByteArray))).bind fun bt261 => (if bt258.2.1 = 0 then (some (bt261.2.1 == 11)) else (some false))) else (none)) else (none)) else (none)) else (none))) else (none)) else (none)) = some r := by first | (rw [hji39] at H; exact H) | (simp only [hji39] at H ⊢; exact H)
                  have hji39w : (IntKind.i64.wrap (t253 - (Int.tmod t253 2))) = ji39 := (i64_w _).trans hji39
                  by_cases c40 : 0 ≤ (ji39)
                  · rw [if_pos c40] at H
                    have c40b0 := eq_true c40
                    have c40b1 : decide (0 ≤ (ji39)) = true := decide_eq_true c40
                    clear c40
                    by_cases c41 : (ji39) ≤ (a1.size : Int)
                    · rw [if_pos c41] at H
                      have c41b0 := eq_true c41
                      have c41b1 : decide ((ji39) ≤ (a1.size : Int)) = true := decide_eq_true c41
                      clear c41
                      replace H := Option.bind_eq_some_iff.mp H
                      obtain ⟨⟨t258, t259, t260⟩, A420, H⟩ := H
                      replace H : (if 0 ≤ t253 then (if t253 ≤ (wrap64 (t253 + 1)) then (if (wrap64 (t253 + 1)) ≤ (a1.size : Int) then (if (a1.extract (t253 : Int).toNat ((wrap64 (t253 + 1)) : Int).toNat).size + 1 ≤ 9223372036854775807 then ((digits_Unhex.f kj32 ((a1.extract (t253 : Int).toNat ((wrap64 (t253 + 1)) : Int).toNat) ++ (⟨#[48]⟩ : ByteArray))).bind fun bt261 => (if t259 = 0 then (some (bt261.2.1 == 11)) else (some false))) else (none)) else (none)) else (none)) else (none)) = some r := H
                      have A42 := Aside0.mk A420
                      clear A420
                      by_cases c43 : 0 ≤ t253
                      · rw [if_pos c43] at H
                        have c43b0 := eq_true c43
                        have c43b1 : decide (0 ≤ t253) = true := decide_eq_true c43
                        clear c43
                        by_cases c44 : t253 ≤ (wrap64 (t253 + 1))
                        · rw [if_pos c44] at H
                          have c44b0 := eq_true c44
                          have c44b1 : decide (t253 ≤ (wrap64 (t253 + 1))) = true := decide_eq_true c44
                          by_cases c45 : (wrap64 (t253 + 1)) ≤ (a1.size : Int)
                          · rw [if_pos c45] at H
                            have c45b0 := eq_true c45
                            have c45b1 : decide ((wrap64 (t253 + 1)) ≤ (a1.size : Int)) = true := decide_eq_true c45
                            by_cases c46 : (a1.extract (t253 : Int).toNat ((wrap64 (t253 + 1)) : Int).toNat).size + 1 ≤ 9223372036854775807
                            · rw [if_pos c46] at H
                              have c46b0 := eq_true c46
                              have c46b1 : decide ((a1.extract (t253 : Int).toNat ((wrap64 (t253 + 1)) : Int).toNat).size + 1 ≤ 9223372036854775807) = true := decide_eq_true c46
                              try have c46b2 : (9223372036854775807 < (a1.extract (t253 : Int).toNat ((wrap64 (t253 + 1)) : Int).toNat).size + 1) = False := eq_false (Nat.not_lt.2 c46)
                              have c46b3 : (9223372036854775807 < (wrap64 (t253 + 1)).toNat - t253.toNat + 1) = False := eq_false (by have h_ := c46; rw [ByteArray.size_extract] at h_; omega)
                              replace H := Option.bind_eq_some_iff.mp H
                              obtain ⟨⟨t261, t262, t263⟩, A470, H⟩ := H
                              replace H : (if t259 = 0 then (some (t262 == 11)) else (some false)) = some r := H
                              have A47 := Aside0.mk A470
                              clear A470
                              by_cases c48 : t259 = 0
                              · rw [if_pos c48] at H
                                have c48b0 : (t259 == 0) = true := beq_iff_eq.mpr c48
                                have c48b1 : (t259 != 0) = false := bne_eq_false_iff_eq.mpr c48
                                clear c48
                                obtain rfl := Option.some.inj H
                                go_wp2_with (first | ((with_reducible refine gate_callee (f := 29) rfl ?_); refine goesL_ (some 116) rfl rfl Try.func29 (by kernel_rfl) rfl #[.string (a1.extract 0 ((ji39) : Int).toNat)] rfl (by (try simp only [List.map_toArray, List.map_cons, List.map_nil]); first | done | (simp only [hji39]; rfl) | rfl | (simp only [List.length_drop, List.length_take]; rfl)) ?_; (with_reducible refine (digits_Unhex.calls kj32 (a1.extract 0 ((ji39) : Int).toNat) t258 t259 t260 _ A42.out).mono ?_); rintro e w49 ⟨rfl, hb⟩; refine ⟨_, rfl, ?_⟩; have n0_ := Aside0.mk (below_step (by repeat (first | (with_reducible first | exact HB.out | apply below_alloc | apply pw_below_drewN | apply below_drew1) | exact HB.out)) hb); clear HB; have HB := n0_; clear n0_; (try clear hb); (try clear hb2); (try clear hk); (try clear hi)) | ((with_reducible refine gate_callee (f := 29) rfl ?_); refine goesL_ (some 127) rfl rfl Try.func29 (by kernel_rfl) rfl #[.string ((a1.extract (t253 : Int).toNat ((wrap64 (t253 + 1)) : Int).toNat) ++ (⟨#[48]⟩ : ByteArray))] rfl (by (try simp only [List.map_toArray, List.map_cons, List.map_nil]); first | done | rfl | (simp only [List.length_drop, List.length_take]; rfl)) ?_; (with_reducible refine (digits_Unhex.calls kj32 ((a1.extract (t253 : Int).toNat ((wrap64 (t253 + 1)) : Int).toNat) ++ (⟨#[48]⟩ : ByteArray)) t261 t262 t263 _ A47.out).mono ?_); rintro e w50 ⟨rfl, hb⟩; refine ⟨_, rfl, ?_⟩; have n0_ := Aside0.mk (below_step (by repeat (first | (with_reducible first | exact HB.out | apply below_alloc | apply pw_below_drewN | apply below_drew1) | exact HB.out)) hb); clear HB; have HB := n0_; clear n0_; (try clear hb); (try clear hb2); (try clear hk); (try clear hi)))
                                go_ret
                                exact ⟨by first | rfl | (simp [errW_none, errW_some] <;> rfl) | (simp only [← hji39]; first | rfl | (simp [errW_none, errW_some] <;> rfl)) | (simp [*, errW_none, errW_some] <;> rfl), by repeat (first | (with_reducible first | exact HB.out | apply below_alloc | apply pw_below_drewN | apply below_drew1) | exact HB.out)⟩
                              · rw [if_neg c48] at H
                                have c48b0 : (t259 == 0) = false := beq_eq_false_iff_ne.mpr c48
                                have c48b1 : (t259 != 0) = true := bne_iff_ne.mpr c48
                                obtain rfl := Option.some.inj H
                                go_wp2_with (first | ((with_reducible refine gate_callee (f := 29) rfl ?_); refine goesL_ (some 116) rfl rfl Try.func29 (by kernel_rfl) rfl #[.string (a1.extract 0 ((ji39) : Int).toNat)] rfl (by (try simp only [List.map_toArray, List.map_cons, List.map_nil]); first | done | (simp only [hji39]; rfl) | rfl | (simp only [List.length_drop, List.length_take]; rfl)) ?_; (with_reducible refine (digits_Unhex.calls kj32 (a1.extract 0 ((ji39) : Int).toNat) t258 t259 t260 _ A42.out).mono ?_); rintro e w51 ⟨rfl, hb⟩; refine ⟨_, rfl, ?_⟩; have n0_ := Aside0.mk (below_step (by repeat (first | (with_reducible first | exact HB.out | apply below_alloc | apply pw_below_drewN | apply below_drew1) | exact HB.out)) hb); clear HB; have HB := n0_; clear n0_; (try clear hb); (try clear hb2); (try clear hk); (try clear hi)) | ((with_reducible refine gate_callee (f := 29) rfl ?_); refine goesL_ (some 127) rfl rfl Try.func29 (by kernel_rfl) rfl #[.string ((a1.extract (t253 : Int).toNat ((wrap64 (t253 + 1)) : Int).toNat) ++ (⟨#[48]⟩ : ByteArray))] rfl (by (try simp only [List.map_toArray, List.map_cons, List.map_nil]); first | done | rfl | (simp only [List.length_drop, List.length_take]; rfl)) ?_; (with_reducible refine (digits_Unhex.calls kj32 ((a1.extract (t253 : Int).toNat ((wrap64 (t253 + 1)) : Int).toNat) ++ (⟨#[48]⟩ : ByteArray)) t261 t262 t263 _ A47.out).mono ?_); rintro e w52 ⟨rfl, hb⟩; refine ⟨_, rfl, ?_⟩; have n0_ := Aside0.mk (below_step (by repeat (first | (with_reducible first | exact HB.out | apply below_alloc | apply pw_below_drewN | apply below_drew1) | exact HB.out)) hb); clear HB; have HB := n0_; clear n0_; (try clear hb); (try clear hb2); (try clear hk); (try clear hi)))
                                go_ret
                                exact ⟨by first | rfl | (simp [errW_none, errW_some] <;> rfl) | (simp only [← hji39]; first | rfl | (simp [errW_none, errW_some] <;> rfl)) | (simp [*, errW_none, errW_some] <;> rfl), by repeat (first | (with_reducible first | exact HB.out | apply below_alloc | apply pw_below_drewN | apply below_drew1) | exact HB.out)⟩
                            · rw [if_neg c46] at H
                              exact absurd H (by simp)
                          · rw [if_neg c45] at H
                            exact absurd H (by simp)
                        · rw [if_neg c44] at H
                          exact absurd H (by simp)
                      · rw [if_neg c43] at H
                        exact absurd H (by simp)
                    · rw [if_neg c41] at H
                      exact absurd H (by simp)
                  · rw [if_neg c40] at H
                    exact absurd H (by simp)

/-- THE ONE PURE STATEMENT of turnstilelaw1_DigitsSixteenths: yours. -/
def turnstilelaw1_DigitsSixteenths.Pure : Prop := ∀ (a0 : ByteArray) (a1 : ByteArray), a0.size ≤ 140737488351232 → a1.size ≤ 140737488351232 → ∃ k, turnstilelaw1_DigitsSixteenths.f k a0 a1 = some true
theorem turnstilelaw1_DigitsSixteenths.walk (P : turnstilelaw1_DigitsSixteenths.Pure) (a0 : ByteArray) (a1 : ByteArray) (w : World) (w0 : a0.size ≤ 140737488351232) (w1 : a1.size ≤ 140737488351232) :
    Calls Try.prog 9 #[.string a0, .string a1] w fun e w' => e = .returned (.bool true) ∧ Below w.heap.size w w' := by
  obtain ⟨k, h⟩ := P a0 a1 w0 w1
  refine (turnstilelaw1_DigitsSixteenths.calls k a0 a1 true w h).mono ?_
  rintro e w' ⟨rfl, hd⟩
  exact ⟨rfl, hd⟩

end Go.Proofs.Ytlpamhffpgoebaa.All
