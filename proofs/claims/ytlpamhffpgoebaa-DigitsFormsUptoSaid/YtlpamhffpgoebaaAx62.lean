-- WRITTEN BY this session's own drv.py over the kit's print. Not trusted: Lean checks it.
import Derived.Test.YtlpamhffpgoebaaAx0
import Derived.Test.YtlpamhffpgoebaaAx4
import Derived.Test.YtlpamhffpgoebaaAx6
import Derived.Test.YtlpamhffpgoebaaAx22
import Derived.Test.YtlpamhffpgoebaaAx47
import Derived.Test.YtlpamhffpgoebaaAx61
namespace Go.Proofs.Ytlpamhffpgoebaa.All
open Go.RowKit Go.Proofs.YtlpamhffpgoebaaW.PrintWords Go.Proofs.YtlpamhffpgoebaaW.PrintLast Go.Proofs.YtlpamhffpgoebaaW.PrintMore
attribute [local go_sem] max2_int min2_int max_two min_two max_three min_three max_four min_four   -- for this text's walks alone
set_option linter.unusedVariables false
set_option linter.unusedSimpArgs false

/-! ### turnstilelaw1_DigitsForms: function 15 -/
mutual
def turnstilelaw1_DigitsForms.j0 : Nat → ByteArray → Int → Int → ByteArray → Int → Int → Bool → Option (Bool)
  | 0, _, _, _, _, _, _, _ => none
  | k + 1, x1, x2, x7, x11, x12, x13, x43 => if x43 = true then (some false) else ((digits_Width.f x7 x2).bind fun t425 => (if x12 = 0 then ((digits_Pack.f k x7 x11).bind fun bt426 => (if x2 ≥ 0 then (if (x11.size : Int) = x2 then (if t425 ≤ (x1.size : Int) then (if bt426.2 = 0 then (if 0 ≤ t425 then (some (bt426.1.toList == (x1.extract 0 (t425 : Int).toNat).toList)) else (none)) else (some false)) else (some false)) else (some false)) else (some false))) else (if x11.toList = ([] : List UInt8) then (if x12 = 1 then (if x2 < 0 then (some (x13 == 0)) else (some false)) else (if x12 = 10 then (if x2 ≥ 0 then (if t425 > (x1.size : Int) then (some (x13 == (x1.size : Int))) else (some false)) else (some false)) else (if x12 = 11 then (if x13 < 0 then (turnstilelaw1_DigitsForms.j1 k x1 x2 x7 x13 true) else (if x13 ≥ t425 then (turnstilelaw1_DigitsForms.j1 k x1 x2 x7 x13 true) else (turnstilelaw1_DigitsForms.j1 k x1 x2 x7 x13 (decide (t425 > (x1.size : Int)))))) else (if x12 = 12 then (if x13 < 0 then (turnstilelaw1_DigitsForms.j1 k x1 x2 x7 x13 true) else (if x13 ≥ t425 then (turnstilelaw1_DigitsForms.j1 k x1 x2 x7 x13 true) else (turnstilelaw1_DigitsForms.j1 k x1 x2 x7 x13 (decide (t425 > (x1.size : Int)))))) else (turnstilelaw1_DigitsForms.j1 k x1 x2 x7 x13 true))))) else (some false))))
def turnstilelaw1_DigitsForms.j1 : Nat → ByteArray → Int → Int → Int → Bool → Option (Bool)
  | 0, _, _, _, _, _ => none
  | k + 1, x1, x2, x7, x13, x127 => if x127 = true then (some false) else (if 0 ≤ x13 then (if x13 ≤ (x1.size : Int) then (if x13 < (x1.size : Int) then ((turnstilelaw1_turned.f k x7 (bt x1 x13) x13 x2).bind fun t428 => (if (x1.extract 0 (x13 : Int).toNat).size + t428.size ≤ 9223372036854775807 then (if 0 ≤ (wrap64 (x13 + 1)) then (if (wrap64 (x13 + 1)) ≤ (x1.size : Int) then (if ((x1.extract 0 (x13 : Int).toNat) ++ t428).size + (x1.extract ((wrap64 (x13 + 1)) : Int).toNat x1.size).size ≤ 9223372036854775807 then ((digits_Unpack.f k x7 (((x1.extract 0 (x13 : Int).toNat) ++ t428) ++ (x1.extract ((wrap64 (x13 + 1)) : Int).toNat x1.size)) x2).bind fun bt429 => (if bt429.2.1 = 0 then (some true) else (some (decide (bt429.2.2 > x13))))) else (none)) else (none)) else (none)) else (none))) else (none)) else (none)) else (none))
end
def turnstilelaw1_DigitsForms.f (k : Nat) (a0 : Int) (a1 : ByteArray) (a2 : Int) : Option (Bool) := (turnstilelaw1_pick.f a0 5).bind fun t418 => ((digits_Unpack.f k (wrap64 (1 + t418)) (⟨#[]⟩ : ByteArray) 0).bind fun bt419 => ((digits_Unpack.f k (wrap64 (1 + t418)) a1 a2).bind fun bt422 => (if bt419.2.1 = 0 then (turnstilelaw1_DigitsForms.j0 k a1 a2 (wrap64 (1 + t418)) bt422.1 bt422.2.1 bt422.2.2 (bt419.1.toList != ([] : List UInt8))) else (turnstilelaw1_DigitsForms.j0 k a1 a2 (wrap64 (1 + t418)) bt422.1 bt422.2.1 bt422.2.2 true))))
theorem turnstilelaw1_DigitsForms.mono_l : ∀ k, (∀ y0 y1 y2 y3 y4 y5 y6, LeO (turnstilelaw1_DigitsForms.j0 k y0 y1 y2 y3 y4 y5 y6) (turnstilelaw1_DigitsForms.j0 (k + 1) y0 y1 y2 y3 y4 y5 y6)) ∧ (∀ y0 y1 y2 y3 y4, LeO (turnstilelaw1_DigitsForms.j1 k y0 y1 y2 y3 y4) (turnstilelaw1_DigitsForms.j1 (k + 1) y0 y1 y2 y3 y4))
  | 0 => ⟨fun _ _ _ _ _ _ _ r h => by simp [turnstilelaw1_DigitsForms.j0] at h, fun _ _ _ _ _ r h => by simp [turnstilelaw1_DigitsForms.j1] at h⟩
  | k + 1 => by
    obtain ⟨ih0, ih1⟩ := turnstilelaw1_DigitsForms.mono_l k
    refine ⟨?_, ?_⟩
    · intro y0 y1 y2 y3 y4 y5 y6
      unfold turnstilelaw1_DigitsForms.j0
      repeat' first
      | (with_reducible exact ih0 _ _ _ _ _ _ _)
      | (with_reducible exact ih1 _ _ _ _ _)
      | (with_reducible exact digits_Pack.mono _ _ _)
      | (with_reducible exact digits_Unpack.mono _ _ _ _)
      | (with_reducible exact turnstilelaw1_turned.mono _ _ _ _ _)
      | (with_reducible exact LeO.refl _)
      | (with_reducible exact LeO.none _)
      | (with_reducible refine LeO.ite ?_ ?_)
      | (with_reducible refine LeO.bind ?_ (fun _ => ?_))
      | exact ih0 _ _ _ _ _ _ _
      | exact ih1 _ _ _ _ _
      | exact digits_Pack.mono _ _ _
      | exact digits_Unpack.mono _ _ _ _
      | exact turnstilelaw1_turned.mono _ _ _ _ _
      | exact LeO.none _
      | refine LeO.ite ?_ ?_
      | refine LeO.bind ?_ (fun _ => ?_)
    · intro y0 y1 y2 y3 y4
      unfold turnstilelaw1_DigitsForms.j1
      repeat' first
      | (with_reducible exact ih0 _ _ _ _ _ _ _)
      | (with_reducible exact ih1 _ _ _ _ _)
      | (with_reducible exact digits_Pack.mono _ _ _)
      | (with_reducible exact digits_Unpack.mono _ _ _ _)
      | (with_reducible exact turnstilelaw1_turned.mono _ _ _ _ _)
      | (with_reducible exact LeO.refl _)
      | (with_reducible exact LeO.none _)
      | (with_reducible refine LeO.ite ?_ ?_)
      | (with_reducible refine LeO.bind ?_ (fun _ => ?_))
      | exact ih0 _ _ _ _ _ _ _
      | exact ih1 _ _ _ _ _
      | exact digits_Pack.mono _ _ _
      | exact digits_Unpack.mono _ _ _ _
      | exact turnstilelaw1_turned.mono _ _ _ _ _
      | exact LeO.none _
      | refine LeO.ite ?_ ?_
      | refine LeO.bind ?_ (fun _ => ?_)
theorem turnstilelaw1_DigitsForms.mono : ∀ a0 a1 a2 k, LeO (turnstilelaw1_DigitsForms.f k a0 a1 a2) (turnstilelaw1_DigitsForms.f (k + 1) a0 a1 a2) := by
  intro a0 a1 a2 k
  obtain ⟨ih0, ih1⟩ := turnstilelaw1_DigitsForms.mono_l k
  unfold turnstilelaw1_DigitsForms.f
  repeat' first
      | (with_reducible exact ih0 _ _ _ _ _ _ _)
      | (with_reducible exact ih1 _ _ _ _ _)
      | (with_reducible exact digits_Pack.mono _ _ _)
      | (with_reducible exact digits_Unpack.mono _ _ _ _)
      | (with_reducible exact turnstilelaw1_turned.mono _ _ _ _ _)
      | (with_reducible exact LeO.refl _)
      | (with_reducible exact LeO.none _)
      | (with_reducible refine LeO.ite ?_ ?_)
      | (with_reducible refine LeO.bind ?_ (fun _ => ?_))
      | exact ih0 _ _ _ _ _ _ _
      | exact ih1 _ _ _ _ _
      | exact digits_Pack.mono _ _ _
      | exact digits_Unpack.mono _ _ _ _
      | exact turnstilelaw1_turned.mono _ _ _ _ _
      | exact LeO.none _
      | refine LeO.ite ?_ ?_
      | refine LeO.bind ?_ (fun _ => ?_)
def turnstilelaw1_DigitsForms.T19 : Bool × List (List Nat × List Nat) := (true, [([], []), ([], []), ([0, 1], [0, 1]), ([], []), ([], []), ([], []), ([4, 5], [4, 5]), ([], []), ([], []), ([3, 6, 7, 8], [3, 6, 7, 8]), ([2, 9], [2, 9]), ([], []), ([], []), ([12], [12]), ([11, 13], [11, 13]), ([10, 14], [10, 14]), ([15, 9, 0, 1, 2, 3, 4, 5, 6, 7, 8, 9, 10, 11, 12, 13, 14, 15], [15])])
def turnstilelaw1_DigitsForms.B19 : List Nat := [0, 0, 3, 0, 0, 0, 48, 0, 0, 504, 1023, 0, 0, 4096, 14336, 32767, 65535]
theorem turnstilelaw1_DigitsForms.tab19 : rtab .any (opsOf Try.f15 19) = turnstilelaw1_DigitsForms.T19 := by kernel_rfl
theorem turnstilelaw1_DigitsForms.bits19 : waitsOk turnstilelaw1_DigitsForms.T19.2 turnstilelaw1_DigitsForms.B19 = true := by kernel_rfl
set_option maxHeartbeats 8000000 in
set_option maxRecDepth 100000 in
theorem turnstilelaw1_DigitsForms.calls (k : Nat) (a0 : Int) (a1 : ByteArray) (a2 : Int) (r : Bool) (w : World) (h : turnstilelaw1_DigitsForms.f k a0 a1 a2 = some r) :
    Calls Try.prog 15 #[.int .i64 a0, .string a1, .int .i64 a2] w fun e w' => e = .returned (.bool r) ∧ Below w.heap.size w w' := by
  have HB := Aside0.mk (Below.refl w.heap.size w)
  have H : ((turnstilelaw1_pick.f a0 5).bind fun t418 => ((digits_Unpack.f k (wrap64 (1 + t418)) (⟨#[]⟩ : ByteArray) 0).bind fun bt419 => ((digits_Unpack.f k (wrap64 (1 + t418)) a1 a2).bind fun bt422 => (if bt419.2.1 = 0 then (turnstilelaw1_DigitsForms.j0 k a1 a2 (wrap64 (1 + t418)) bt422.1 bt422.2.1 bt422.2.2 (bt419.1.toList != ([] : List UInt8))) else (turnstilelaw1_DigitsForms.j0 k a1 a2 (wrap64 (1 + t418)) bt422.1 bt422.2.1 bt422.2.2 true))))) = some r := h
  clear h
  replace H := Option.bind_eq_some_iff.mp H
  obtain ⟨t418, A40, H⟩ := H
  replace H : ((digits_Unpack.f k (wrap64 (1 + t418)) (⟨#[]⟩ : ByteArray) 0).bind fun bt419 => ((digits_Unpack.f k (wrap64 (1 + t418)) a1 a2).bind fun bt422 => (if bt419.2.1 = 0 then (turnstilelaw1_DigitsForms.j0 k a1 a2 (wrap64 (1 + t418)) bt422.1 bt422.2.1 bt422.2.2 (bt419.1.toList != ([] : List UInt8))) else (turnstilelaw1_DigitsForms.j0 k a1 a2 (wrap64 (1 + t418)) bt422.1 bt422.2.1 bt422.2.2 true)))) = some r := H
  have A4 := Aside0.mk A40
  clear A40
  replace H := Option.bind_eq_some_iff.mp H
  obtain ⟨⟨t419, t420, t421⟩, A50, H⟩ := H
  replace H : ((digits_Unpack.f k (wrap64 (1 + t418)) a1 a2).bind fun bt422 => (if t420 = 0 then (turnstilelaw1_DigitsForms.j0 k a1 a2 (wrap64 (1 + t418)) bt422.1 bt422.2.1 bt422.2.2 (t419.toList != ([] : List UInt8))) else (turnstilelaw1_DigitsForms.j0 k a1 a2 (wrap64 (1 + t418)) bt422.1 bt422.2.1 bt422.2.2 true))) = some r := H
  have A5 := Aside0.mk A50
  clear A50
  replace H := Option.bind_eq_some_iff.mp H
  obtain ⟨⟨t422, t423, t424⟩, A60, H⟩ := H
  replace H : (if t420 = 0 then (turnstilelaw1_DigitsForms.j0 k a1 a2 (wrap64 (1 + t418)) t422 t423 t424 (t419.toList != ([] : List UInt8))) else (turnstilelaw1_DigitsForms.j0 k a1 a2 (wrap64 (1 + t418)) t422 t423 t424 true)) = some r := H
  have A6 := Aside0.mk A60
  clear A60
  have HC7 := Aside0.mk H
  clear H
  go_enter Try.func15, Try.ntmps15
  go_upto_region 4 with (first | ((with_reducible refine gate_callee (f := 19) rfl ?_); refine goesL_ (some 22) rfl rfl Try.func19 (by kernel_rfl) rfl #[.int .i64 a0, .int .i64 5] rfl (by (try simp only [List.map_toArray, List.map_cons, List.map_nil]); first | done | rfl | (simp only [List.length_drop, List.length_take]; rfl)) ?_; (with_reducible refine (turnstilelaw1_pick.calls a0 5 t418 _ A4.out).mono ?_); rintro e w' ⟨rfl, ⟨nd, rfl⟩⟩; refine ⟨_, rfl, ?_⟩) | ((with_reducible refine gate_callee (f := 34) rfl ?_); refine goesL_ (some 26) rfl rfl Try.func34 (by kernel_rfl) rfl #[.int .i64 (wrap64 (1 + t418)), .string (⟨#[]⟩ : ByteArray), .int .i64 0] rfl (by (try simp only [List.map_toArray, List.map_cons, List.map_nil]); first | done | rfl | (simp only [List.length_drop, List.length_take]; rfl)) ?_; (with_reducible refine (digits_Unpack.calls k (wrap64 (1 + t418)) (⟨#[]⟩ : ByteArray) 0 t419 t420 t421 _ A5.out).mono ?_); rintro e w8 ⟨rfl, hb⟩; refine ⟨_, rfl, ?_⟩; have n0_ := Aside0.mk (below_step (by repeat (first | (with_reducible first | exact HB.out | apply below_alloc | apply pw_below_drewN | apply below_drew1) | exact HB.out)) hb); clear HB; have HB := n0_; clear n0_; (try clear hb); (try clear hb2); (try clear hk); (try clear hi)) | ((with_reducible refine gate_callee (f := 34) rfl ?_); refine goesL_ (some 34) rfl rfl Try.func34 (by kernel_rfl) rfl #[.int .i64 (wrap64 (1 + t418)), .string a1, .int .i64 a2] rfl (by (try simp only [List.map_toArray, List.map_cons, List.map_nil]); first | done | rfl | (simp only [List.length_drop, List.length_take]; rfl)) ?_; (with_reducible refine (digits_Unpack.calls k (wrap64 (1 + t418)) a1 a2 t422 t423 t424 _ A6.out).mono ?_); rintro e w9 ⟨rfl, hb⟩; refine ⟨_, rfl, ?_⟩; have n0_ := Aside0.mk (below_step (by repeat (first | (with_reducible first | exact HB.out | apply below_alloc | apply pw_below_drewN | apply below_drew1) | exact HB.out)) hb); clear HB; have HB := n0_; clear n0_; (try clear hb); (try clear hb2); (try clear hk); (try clear hi)))
  (try simp only [Act.put, List.setIfInBounds_toArray, List.set_cons_zero, List.set_cons_succ])
  go_cut [43] (fun v43 wc => ∃ (kq : Nat) (x43_6 : Bool), v43 = .bool x43_6 ∧ Aside0 (turnstilelaw1_DigitsForms.j0 kq a1 a2 (wrap64 (1 + t418)) t422 t423 t424 x43_6 = some r) ∧ Aside0 (kq ≤ k) ∧ Aside0 (Below w.heap.size w wc))
  case first =>
    have H := HC7.out
    clear HC7
    by_cases c10 : t420 = 0
    · rw [if_pos c10] at H
      have c10b0 : (t420 == 0) = true := beq_iff_eq.mpr c10
      have c10b1 : (t420 != 0) = false := bne_eq_false_iff_eq.mpr c10
      clear c10
      (first | rw [c10b0] | (simp only [i64_w, i32_w]; rw [c10b0]) | skip)
      have H' := Aside0.mk H
      clear H
      go_wp2
      go_meet
      case rel => exact ⟨_, ((t419.toList != ([] : List UInt8))), (by first | rfl | (simp; cases t419.toList <;> rfl) | (simp; done) | (simp [*]; done)), H', ⟨by first | omega | exact Nat.le_refl _⟩, ⟨by repeat (first | (with_reducible first | exact HB.out | apply below_alloc | apply pw_below_drewN | apply below_drew1) | exact HB.out)⟩⟩
    · rw [if_neg c10] at H
      have c10b0 : (t420 == 0) = false := beq_eq_false_iff_ne.mpr c10
      have c10b1 : (t420 != 0) = true := bne_iff_ne.mpr c10
      (first | rw [c10b0] | (simp only [i64_w, i32_w]; rw [c10b0]) | skip)
      have H' := Aside0.mk H
      clear H
      go_wp2
      go_meet
      case rel => exact ⟨_, (true), (by first | rfl | (simp; done) | (simp [*]; done)), H', ⟨by first | omega | exact Nat.le_refl _⟩, ⟨by repeat (first | (with_reducible first | exact HB.out | apply below_alloc | apply pw_below_drewN | apply below_drew1) | exact HB.out)⟩⟩
  case rest =>
    clear HC7
    try clear c1
    try clear p2
    try clear c3
    try clear p6
    try clear c10
    try clear c10b0
    try clear c10b1
    obtain ⟨kq, x43_6, rfl, HA, HJ6, HB⟩ := hcut
    cases kq with
    | zero => exact absurd HA.out (by simp [turnstilelaw1_DigitsForms.j0])
    | succ kj6 =>
      have H := HA.out
      clear HA
      simp only [turnstilelaw1_DigitsForms.j0] at H
      by_cases c11 : x43_6 = true
      · subst c11
        have H1 : (some false) = some r := by rw [if_pos rfl] at H; exact H
        clear H
        have H := H1
        clear H1
        obtain rfl := Option.some.inj H
        go_wp2
        go_ret
        exact ⟨by first | rfl | (simp [errW_none, errW_some] <;> rfl) | (simp [*, errW_none, errW_some] <;> rfl), by repeat (first | (with_reducible first | exact HB.out | apply below_alloc | apply pw_below_drewN | apply below_drew1) | exact HB.out)⟩
      · replace c11 := Bool.eq_false_iff.mpr c11
        subst c11
        have H1 : ((digits_Width.f (wrap64 (1 + t418)) a2).bind fun t425 => (if t423 = 0 then ((digits_Pack.f kj6 (wrap64 (1 + t418)) t422).bind fun bt426 => (if a2 ≥ 0 then (if (t422.size : Int) = a2 then (if t425 ≤ (a1.size : Int) then (if bt426.2 = 0 then (if 0 ≤ t425 then (some (bt426.1.toList == (a1.extract 0 (t425 : Int).toNat).toList)) else (none)) else (some false)) else (some false)) else (some false)) else (some false))) else (if t422.toList = ([] : List UInt8) then (if t423 = 1 then (if a2 < 0 then (some (t424 == 0)) else (some false)) else (if t423 = 10 then (if a2 ≥ 0 then (if t425 > (a1.size : Int) then (some (t424 == (a1.size : Int))) else (some false)) else (some false)) else (if t423 = 11 then (if t424 < 0 then (turnstilelaw1_DigitsForms.j1 kj6 a1 a2 (wrap64 (1 + t418)) t424 true) else (if t424 ≥ t425 then (turnstilelaw1_DigitsForms.j1 kj6 a1 a2 (wrap64 (1 + t418)) t424 true) else (turnstilelaw1_DigitsForms.j1 kj6 a1 a2 (wrap64 (1 + t418)) t424 (decide (t425 > (a1.size : Int)))))) else (if t423 = 12 then (if t424 < 0 then (turnstilelaw1_DigitsForms.j1 kj6 a1 a2 (wrap64 (1 + t418)) t424 true) else (if t424 ≥ t425 then (turnstilelaw1_DigitsForms.j1 kj6 a1 a2 (wrap64 (1 + t418)) t424 true) else (turnstilelaw1_DigitsForms.j1 kj6 a1 a2 (wrap64 (1 + t418)) t424 (decide (t425 > (a1.size : Int)))))) else (turnstilelaw1_DigitsForms.j1 kj6 a1 a2 (wrap64 (1 + t418)) t424 true))))) else (some false)))) = some r := by rw [if_neg (show ¬ (false = true) by decide)] at H; exact H
        clear H
        have H := H1
        clear H1
        replace H := Option.bind_eq_some_iff.mp H
        obtain ⟨t425, A120, H⟩ := H
        replace H : (if t423 = 0 then ((digits_Pack.f kj6 (wrap64 (1 + t418)) t422).bind fun bt426 => (if a2 ≥ 0 then (if (t422.size : Int) = a2 then (if t425 ≤ (a1.size : Int) then (if bt426.2 = 0 then (if 0 ≤ t425 then (some (bt426.1.toList == (a1.extract 0 (t425 : Int).toNat).toList)) else (none)) else (some false)) else (some false)) else (some false)) else (some false))) else (if t422.toList = ([] : List UInt8) then (if t423 = 1 then (if a2 < 0 then (some (t424 == 0)) else (some false)) else (if t423 = 10 then (if a2 ≥ 0 then (if t425 > (a1.size : Int) then (some (t424 == (a1.size : Int))) else (some false)) else (some false)) else (if t423 = 11 then (if t424 < 0 then (turnstilelaw1_DigitsForms.j1 kj6 a1 a2 (wrap64 (1 + t418)) t424 true) else (if t424 ≥ t425 then (turnstilelaw1_DigitsForms.j1 kj6 a1 a2 (wrap64 (1 + t418)) t424 true) else (turnstilelaw1_DigitsForms.j1 kj6 a1 a2 (wrap64 (1 + t418)) t424 (decide (t425 > (a1.size : Int)))))) else (if t423 = 12 then (if t424 < 0 then (turnstilelaw1_DigitsForms.j1 kj6 a1 a2 (wrap64 (1 + t418)) t424 true) else (if t424 ≥ t425 then (turnstilelaw1_DigitsForms.j1 kj6 a1 a2 (wrap64 (1 + t418)) t424 true) else (turnstilelaw1_DigitsForms.j1 kj6 a1 a2 (wrap64 (1 + t418)) t424 (decide (t425 > (a1.size : Int)))))) else (turnstilelaw1_DigitsForms.j1 kj6 a1 a2 (wrap64 (1 + t418)) t424 true))))) else (some false))) = some r := H
        have A12 := Aside0.mk A120
        clear A120
        by_cases c13 : t423 = 0
        · rw [if_pos c13] at H
          have c13b0 : (t423 == 0) = true := beq_iff_eq.mpr c13
          have c13b1 : (t423 != 0) = false := bne_eq_false_iff_eq.mpr c13
          clear c13
          replace H := Option.bind_eq_some_iff.mp H
          obtain ⟨⟨t426, t427⟩, A140, H⟩ := H
          replace H : (if a2 ≥ 0 then (if (t422.size : Int) = a2 then (if t425 ≤ (a1.size : Int) then (if t427 = 0 then (if 0 ≤ t425 then (some (t426.toList == (a1.extract 0 (t425 : Int).toNat).toList)) else (none)) else (some false)) else (some false)) else (some false)) else (some false)) = some r := H
          have A14 := Aside0.mk A140
          clear A140
          by_cases c15 : a2 ≥ 0
          · rw [if_pos c15] at H
            have c15b0 : decide (0 ≤ a2) = true := decide_eq_true c15
            clear c15
            by_cases c16 : (t422.size : Int) = a2
            · rw [if_pos c16] at H
              have c16b0 : ((t422.size : Int) == a2) = true := beq_iff_eq.mpr c16
              have c16b1 : ((t422.size : Int) != a2) = false := bne_eq_false_iff_eq.mpr c16
              clear c16
              by_cases c17 : t425 ≤ (a1.size : Int)
              · rw [if_pos c17] at H
                have c17b0 : decide (t425 ≤ (a1.size : Int)) = true := decide_eq_true c17
                clear c17
                by_cases c18 : t427 = 0
                · rw [if_pos c18] at H
                  have c18b0 : (t427 == 0) = true := beq_iff_eq.mpr c18
                  have c18b1 : (t427 != 0) = false := bne_eq_false_iff_eq.mpr c18
                  clear c18
                  by_cases c19 : 0 ≤ t425
                  · rw [if_pos c19] at H
                    have c19b0 := eq_true c19
                    have c19b1 : decide (0 ≤ t425) = true := decide_eq_true c19
                    clear c19
                    have c20b0 := eq_true (of_decide_eq_true (by first | (with_reducible assumption) | assumption) : t425 ≤ (a1.size : Int))
                    obtain rfl := Option.some.inj H
                    go_wp2_with (first | ((with_reducible refine gate_callee (f := 20) rfl ?_); refine goesL_ (some 46) rfl rfl Try.func20 (by kernel_rfl) rfl #[.int .i64 (wrap64 (1 + t418)), .int .i64 a2] rfl (by (try simp only [List.map_toArray, List.map_cons, List.map_nil]); first | done | rfl | (simp only [List.length_drop, List.length_take]; rfl)) ?_; (with_reducible refine (digits_Width.calls (wrap64 (1 + t418)) a2 t425 _ A12.out).mono ?_); rintro e w' ⟨rfl, ⟨nd, rfl⟩⟩; refine ⟨_, rfl, ?_⟩) | ((with_reducible refine gate_callee (f := 32) rfl ?_); refine goesL_ (some 52) rfl rfl Try.func32 (by kernel_rfl) rfl #[.int .i64 (wrap64 (1 + t418)), .string t422] rfl (by (try simp only [List.map_toArray, List.map_cons, List.map_nil]); first | done | rfl | (simp only [List.length_drop, List.length_take]; rfl)) ?_; (with_reducible refine (digits_Pack.calls kj6 (wrap64 (1 + t418)) t422 t426 t427 _ A14.out).mono ?_); rintro e w21 ⟨rfl, hb⟩; refine ⟨_, rfl, ?_⟩; have n0_ := Aside0.mk (below_step (by repeat (first | (with_reducible first | exact HB.out | apply below_alloc | apply pw_below_drewN | apply below_drew1) | exact HB.out)) hb); clear HB; have HB := n0_; clear n0_; (try clear hb); (try clear hb2); (try clear hk); (try clear hi)))
                    go_ret
                    exact ⟨by first | rfl | (simp [errW_none, errW_some] <;> rfl) | (simp [*, errW_none, errW_some] <;> rfl), by repeat (first | (with_reducible first | exact HB.out | apply below_alloc | apply pw_below_drewN | apply below_drew1) | exact HB.out)⟩
                  · rw [if_neg c19] at H
                    exact absurd H (by simp)
                · rw [if_neg c18] at H
                  have c18b0 : (t427 == 0) = false := beq_eq_false_iff_ne.mpr c18
                  have c18b1 : (t427 != 0) = true := bne_iff_ne.mpr c18
                  obtain rfl := Option.some.inj H
                  go_wp2_with (first | ((with_reducible refine gate_callee (f := 20) rfl ?_); refine goesL_ (some 46) rfl rfl Try.func20 (by kernel_rfl) rfl #[.int .i64 (wrap64 (1 + t418)), .int .i64 a2] rfl (by (try simp only [List.map_toArray, List.map_cons, List.map_nil]); first | done | rfl | (simp only [List.length_drop, List.length_take]; rfl)) ?_; (with_reducible refine (digits_Width.calls (wrap64 (1 + t418)) a2 t425 _ A12.out).mono ?_); rintro e w' ⟨rfl, ⟨nd, rfl⟩⟩; refine ⟨_, rfl, ?_⟩) | ((with_reducible refine gate_callee (f := 32) rfl ?_); refine goesL_ (some 52) rfl rfl Try.func32 (by kernel_rfl) rfl #[.int .i64 (wrap64 (1 + t418)), .string t422] rfl (by (try simp only [List.map_toArray, List.map_cons, List.map_nil]); first | done | rfl | (simp only [List.length_drop, List.length_take]; rfl)) ?_; (with_reducible refine (digits_Pack.calls kj6 (wrap64 (1 + t418)) t422 t426 t427 _ A14.out).mono ?_); rintro e w22 ⟨rfl, hb⟩; refine ⟨_, rfl, ?_⟩; have n0_ := Aside0.mk (below_step (by repeat (first | (with_reducible first | exact HB.out | apply below_alloc | apply pw_below_drewN | apply below_drew1) | exact HB.out)) hb); clear HB; have HB := n0_; clear n0_; (try clear hb); (try clear hb2); (try clear hk); (try clear hi)))
                  go_ret
                  exact ⟨by first | rfl | (simp [errW_none, errW_some] <;> rfl) | (simp [*, errW_none, errW_some] <;> rfl), by repeat (first | (with_reducible first | exact HB.out | apply below_alloc | apply pw_below_drewN | apply below_drew1) | exact HB.out)⟩
              · rw [if_neg c17] at H
                have c17b0 : decide (t425 ≤ (a1.size : Int)) = false := decide_eq_false c17
                clear c17
                obtain rfl := Option.some.inj H
                go_wp2_with (first | ((with_reducible refine gate_callee (f := 20) rfl ?_); refine goesL_ (some 46) rfl rfl Try.func20 (by kernel_rfl) rfl #[.int .i64 (wrap64 (1 + t418)), .int .i64 a2] rfl (by (try simp only [List.map_toArray, List.map_cons, List.map_nil]); first | done | rfl | (simp only [List.length_drop, List.length_take]; rfl)) ?_; (with_reducible refine (digits_Width.calls (wrap64 (1 + t418)) a2 t425 _ A12.out).mono ?_); rintro e w' ⟨rfl, ⟨nd, rfl⟩⟩; refine ⟨_, rfl, ?_⟩) | ((with_reducible refine gate_callee (f := 32) rfl ?_); refine goesL_ (some 52) rfl rfl Try.func32 (by kernel_rfl) rfl #[.int .i64 (wrap64 (1 + t418)), .string t422] rfl (by (try simp only [List.map_toArray, List.map_cons, List.map_nil]); first | done | rfl | (simp only [List.length_drop, List.length_take]; rfl)) ?_; (with_reducible refine (digits_Pack.calls kj6 (wrap64 (1 + t418)) t422 t426 t427 _ A14.out).mono ?_); rintro e w23 ⟨rfl, hb⟩; refine ⟨_, rfl, ?_⟩; have n0_ := Aside0.mk (below_step (by repeat (first | (with_reducible first | exact HB.out | apply below_alloc | apply pw_below_drewN | apply below_drew1) | exact HB.out)) hb); clear HB; have HB := n0_; clear n0_; (try clear hb); (try clear hb2); (try clear hk); (try clear hi)))
                go_ret
                exact ⟨by first | rfl | (simp [errW_none, errW_some] <;> rfl) | (simp [*, errW_none, errW_some] <;> rfl), by repeat (first | (with_reducible first | exact HB.out | apply below_alloc | apply pw_below_drewN | apply below_drew1) | exact HB.out)⟩
            · rw [if_neg c16] at H
              have c16b0 : ((t422.size : Int) == a2) = false := beq_eq_false_iff_ne.mpr c16
              have c16b1 : ((t422.size : Int) != a2) = true := bne_iff_ne.mpr c16
              obtain rfl := Option.some.inj H
              go_wp2_with (first | ((with_reducible refine gate_callee (f := 20) rfl ?_); refine goesL_ (some 46) rfl rfl Try.func20 (by kernel_rfl) rfl #[.int .i64 (wrap64 (1 + t418)), .int .i64 a2] rfl (by (try simp only [List.map_toArray, List.map_cons, List.map_nil]); first | done | rfl | (simp only [List.length_drop, List.length_take]; rfl)) ?_; (with_reducible refine (digits_Width.calls (wrap64 (1 + t418)) a2 t425 _ A12.out).mono ?_); rintro e w' ⟨rfl, ⟨nd, rfl⟩⟩; refine ⟨_, rfl, ?_⟩) | ((with_reducible refine gate_callee (f := 32) rfl ?_); refine goesL_ (some 52) rfl rfl Try.func32 (by kernel_rfl) rfl #[.int .i64 (wrap64 (1 + t418)), .string t422] rfl (by (try simp only [List.map_toArray, List.map_cons, List.map_nil]); first | done | rfl | (simp only [List.length_drop, List.length_take]; rfl)) ?_; (with_reducible refine (digits_Pack.calls kj6 (wrap64 (1 + t418)) t422 t426 t427 _ A14.out).mono ?_); rintro e w24 ⟨rfl, hb⟩; refine ⟨_, rfl, ?_⟩; have n0_ := Aside0.mk (below_step (by repeat (first | (with_reducible first | exact HB.out | apply below_alloc | apply pw_below_drewN | apply below_drew1) | exact HB.out)) hb); clear HB; have HB := n0_; clear n0_; (try clear hb); (try clear hb2); (try clear hk); (try clear hi)))
              go_ret
              exact ⟨by first | rfl | (simp [errW_none, errW_some] <;> rfl) | (simp [*, errW_none, errW_some] <;> rfl), by repeat (first | (with_reducible first | exact HB.out | apply below_alloc | apply pw_below_drewN | apply below_drew1) | exact HB.out)⟩
          · rw [if_neg c15] at H
            have c15b0 : decide (0 ≤ a2) = false := decide_eq_false c15
            clear c15
            obtain rfl := Option.some.inj H
            go_wp2_with (first | ((with_reducible refine gate_callee (f := 20) rfl ?_); refine goesL_ (some 46) rfl rfl Try.func20 (by kernel_rfl) rfl #[.int .i64 (wrap64 (1 + t418)), .int .i64 a2] rfl (by (try simp only [List.map_toArray, List.map_cons, List.map_nil]); first | done | rfl | (simp only [List.length_drop, List.length_take]; rfl)) ?_; (with_reducible refine (digits_Width.calls (wrap64 (1 + t418)) a2 t425 _ A12.out).mono ?_); rintro e w' ⟨rfl, ⟨nd, rfl⟩⟩; refine ⟨_, rfl, ?_⟩) | ((with_reducible refine gate_callee (f := 32) rfl ?_); refine goesL_ (some 52) rfl rfl Try.func32 (by kernel_rfl) rfl #[.int .i64 (wrap64 (1 + t418)), .string t422] rfl (by (try simp only [List.map_toArray, List.map_cons, List.map_nil]); first | done | rfl | (simp only [List.length_drop, List.length_take]; rfl)) ?_; (with_reducible refine (digits_Pack.calls kj6 (wrap64 (1 + t418)) t422 t426 t427 _ A14.out).mono ?_); rintro e w25 ⟨rfl, hb⟩; refine ⟨_, rfl, ?_⟩; have n0_ := Aside0.mk (below_step (by repeat (first | (with_reducible first | exact HB.out | apply below_alloc | apply pw_below_drewN | apply below_drew1) | exact HB.out)) hb); clear HB; have HB := n0_; clear n0_; (try clear hb); (try clear hb2); (try clear hk); (try clear hi)))
            go_ret
            exact ⟨by first | rfl | (simp [errW_none, errW_some] <;> rfl) | (simp [*, errW_none, errW_some] <;> rfl), by repeat (first | (with_reducible first | exact HB.out | apply below_alloc | apply pw_below_drewN | apply below_drew1) | exact HB.out)⟩
        · rw [if_neg c13] at H
          have c13b0 : (t423 == 0) = false := beq_eq_false_iff_ne.mpr c13
          have c13b1 : (t423 != 0) = true := bne_iff_ne.mpr c13
          by_cases c26 : t422.toList = ([] : List UInt8)
          · rw [if_pos c26] at H
            have c26b0 : (t422.toList == ([] : List UInt8)) = true := beq_iff_eq.mpr c26
            have c26b1 : (t422.toList != ([] : List UInt8)) = false := bne_eq_false_iff_eq.mpr c26
            clear c26
            by_cases c27 : t423 = 1
            · rw [if_pos c27] at H
              have c27b0 : (t423 == 1) = true := beq_iff_eq.mpr c27
              have c27b1 : (t423 != 1) = false := bne_eq_false_iff_eq.mpr c27
              clear c27
              by_cases c28 : a2 < 0
              · rw [if_pos c28] at H
                have c28b0 : decide (a2 < 0) = true := decide_eq_true c28
                clear c28
                obtain rfl := Option.some.inj H
                go_wp2_with (first | ((with_reducible refine gate_callee (f := 20) rfl ?_); refine goesL_ (some 46) rfl rfl Try.func20 (by kernel_rfl) rfl #[.int .i64 (wrap64 (1 + t418)), .int .i64 a2] rfl (by (try simp only [List.map_toArray, List.map_cons, List.map_nil]); first | done | rfl | (simp only [List.length_drop, List.length_take]; rfl)) ?_; (with_reducible refine (digits_Width.calls (wrap64 (1 + t418)) a2 t425 _ A12.out).mono ?_); rintro e w' ⟨rfl, ⟨nd, rfl⟩⟩; refine ⟨_, rfl, ?_⟩))
                go_ret
                exact ⟨by first | rfl | (simp [errW_none, errW_some] <;> rfl) | (simp [*, errW_none, errW_some] <;> rfl), by repeat (first | (with_reducible first | exact HB.out | apply below_alloc | apply pw_below_drewN | apply below_drew1) | exact HB.out)⟩
              · rw [if_neg c28] at H
                have c28b0 : decide (a2 < 0) = false := decide_eq_false c28
                clear c28
                obtain rfl := Option.some.inj H
                go_wp2_with (first | ((with_reducible refine gate_callee (f := 20) rfl ?_); refine goesL_ (some 46) rfl rfl Try.func20 (by kernel_rfl) rfl #[.int .i64 (wrap64 (1 + t418)), .int .i64 a2] rfl (by (try simp only [List.map_toArray, List.map_cons, List.map_nil]); first | done | rfl | (simp only [List.length_drop, List.length_take]; rfl)) ?_; (with_reducible refine (digits_Width.calls (wrap64 (1 + t418)) a2 t425 _ A12.out).mono ?_); rintro e w' ⟨rfl, ⟨nd, rfl⟩⟩; refine ⟨_, rfl, ?_⟩))
                go_ret
                exact ⟨by first | rfl | (simp [errW_none, errW_some] <;> rfl) | (simp [*, errW_none, errW_some] <;> rfl), by repeat (first | (with_reducible first | exact HB.out | apply below_alloc | apply pw_below_drewN | apply below_drew1) | exact HB.out)⟩
            · rw [if_neg c27] at H
              have c27b0 : (t423 == 1) = false := beq_eq_false_iff_ne.mpr c27
              have c27b1 : (t423 != 1) = true := bne_iff_ne.mpr c27
              by_cases c29 : t423 = 10
              · rw [if_pos c29] at H
                have c29b0 : (t423 == 10) = true := beq_iff_eq.mpr c29
                have c29b1 : (t423 != 10) = false := bne_eq_false_iff_eq.mpr c29
                clear c29
                by_cases c30 : a2 ≥ 0
                · rw [if_pos c30] at H
                  have c30b0 : decide (0 ≤ a2) = true := decide_eq_true c30
                  clear c30
                  by_cases c31 : t425 > (a1.size : Int)
                  · rw [if_pos c31] at H
                    have c31b0 : decide ((a1.size : Int) < t425) = true := decide_eq_true c31
                    clear c31
                    obtain rfl := Option.some.inj H
                    go_wp2_with (first | ((with_reducible refine gate_callee (f := 20) rfl ?_); refine goesL_ (some 46) rfl rfl Try.func20 (by kernel_rfl) rfl #[.int .i64 (wrap64 (1 + t418)), .int .i64 a2] rfl (by (try simp only [List.map_toArray, List.map_cons, List.map_nil]); first | done | rfl | (simp only [List.length_drop, List.length_take]; rfl)) ?_; (with_reducible refine (digits_Width.calls (wrap64 (1 + t418)) a2 t425 _ A12.out).mono ?_); rintro e w' ⟨rfl, ⟨nd, rfl⟩⟩; refine ⟨_, rfl, ?_⟩))
                    go_ret
                    exact ⟨by first | rfl | (simp [errW_none, errW_some] <;> rfl) | (simp [*, errW_none, errW_some] <;> rfl), by repeat (first | (with_reducible first | exact HB.out | apply below_alloc | apply pw_below_drewN | apply below_drew1) | exact HB.out)⟩
                  · rw [if_neg c31] at H
                    have c31b0 : decide ((a1.size : Int) < t425) = false := decide_eq_false c31
                    clear c31
                    obtain rfl := Option.some.inj H
                    go_wp2_with (first | ((with_reducible refine gate_callee (f := 20) rfl ?_); refine goesL_ (some 46) rfl rfl Try.func20 (by kernel_rfl) rfl #[.int .i64 (wrap64 (1 + t418)), .int .i64 a2] rfl (by (try simp only [List.map_toArray, List.map_cons, List.map_nil]); first | done | rfl | (simp only [List.length_drop, List.length_take]; rfl)) ?_; (with_reducible refine (digits_Width.calls (wrap64 (1 + t418)) a2 t425 _ A12.out).mono ?_); rintro e w' ⟨rfl, ⟨nd, rfl⟩⟩; refine ⟨_, rfl, ?_⟩))
                    go_ret
                    exact ⟨by first | rfl | (simp [errW_none, errW_some] <;> rfl) | (simp [*, errW_none, errW_some] <;> rfl), by repeat (first | (with_reducible first | exact HB.out | apply below_alloc | apply pw_below_drewN | apply below_drew1) | exact HB.out)⟩
                · rw [if_neg c30] at H
                  have c30b0 : decide (0 ≤ a2) = false := decide_eq_false c30
                  clear c30
                  obtain rfl := Option.some.inj H
                  go_wp2_with (first | ((with_reducible refine gate_callee (f := 20) rfl ?_); refine goesL_ (some 46) rfl rfl Try.func20 (by kernel_rfl) rfl #[.int .i64 (wrap64 (1 + t418)), .int .i64 a2] rfl (by (try simp only [List.map_toArray, List.map_cons, List.map_nil]); first | done | rfl | (simp only [List.length_drop, List.length_take]; rfl)) ?_; (with_reducible refine (digits_Width.calls (wrap64 (1 + t418)) a2 t425 _ A12.out).mono ?_); rintro e w' ⟨rfl, ⟨nd, rfl⟩⟩; refine ⟨_, rfl, ?_⟩))
                  go_ret
                  exact ⟨by first | rfl | (simp [errW_none, errW_some] <;> rfl) | (simp [*, errW_none, errW_some] <;> rfl), by repeat (first | (with_reducible first | exact HB.out | apply below_alloc | apply pw_below_drewN | apply below_drew1) | exact HB.out)⟩
              · rw [if_neg c29] at H
                have c29b0 : (t423 == 10) = false := beq_eq_false_iff_ne.mpr c29
                have c29b1 : (t423 != 10) = true := bne_iff_ne.mpr c29
                have HC32 := Aside0.mk H
                clear H
                go_upto_region 17 with (first | ((with_reducible refine gate_callee (f := 20) rfl ?_); refine goesL_ (some 46) rfl rfl Try.func20 (by kernel_rfl) rfl #[.int .i64 (wrap64 (1 + t418)), .int .i64 a2] rfl (by (try simp only [List.map_toArray, List.map_cons, List.map_nil]); first | done | rfl | (simp only [List.length_drop, List.length_take]; rfl)) ?_; (with_reducible refine (digits_Width.calls (wrap64 (1 + t418)) a2 t425 _ A12.out).mono ?_); rintro e w' ⟨rfl, ⟨nd, rfl⟩⟩; refine ⟨_, rfl, ?_⟩))
                (try simp only [Act.put, List.setIfInBounds_toArray, List.set_cons_zero, List.set_cons_succ])
                go_cut [127] (fun v127 wc => ∃ (kq : Nat) (x127_31 : Bool), v127 = .bool x127_31 ∧ Aside0 (turnstilelaw1_DigitsForms.j1 kq a1 a2 (wrap64 (1 + t418)) t424 x127_31 = some r) ∧ Aside0 (kq ≤ kj6) ∧ Aside0 (Below w.heap.size w wc))
                case first =>
                  have H := HC32.out
                  clear HC32
                  by_cases c33 : t423 = 11
                  · rw [if_pos c33] at H
                    have c33b0 : (t423 == 11) = true := beq_iff_eq.mpr c33
                    have c33b1 : (t423 != 11) = false := bne_eq_false_iff_eq.mpr c33
                    clear c33
                    (first | rw [c33b0] | (simp only [i64_w, i32_w]; rw [c33b0]) | skip)
                    by_cases c34 : t424 < 0
                    · rw [if_pos c34] at H
                      have c34b0 : decide (t424 < 0) = true := decide_eq_true c34
                      clear c34
                      have H' := Aside0.mk H
                      clear H
                      go_wp2
                      go_meet
                      case rel => exact ⟨_, (true), (by first | rfl | (simp; done) | (simp [*]; done)), H', ⟨by have := HJ6.out; first | omega | exact Nat.le_refl _⟩, ⟨by repeat (first | (with_reducible first | exact HB.out | apply below_alloc | apply pw_below_drewN | apply below_drew1) | exact HB.out)⟩⟩
                    · rw [if_neg c34] at H
                      have c34b0 : decide (t424 < 0) = false := decide_eq_false c34
                      clear c34
                      by_cases c35 : t424 ≥ t425
                      · rw [if_pos c35] at H
                        have c35b0 : decide (t425 ≤ t424) = true := decide_eq_true c35
                        clear c35
                        have H' := Aside0.mk H
                        clear H
                        go_wp2
                        go_meet
                        case rel => exact ⟨_, (true), (by first | rfl | (simp; done) | (simp [*]; done)), H', ⟨by have := HJ6.out; first | omega | exact Nat.le_refl _⟩, ⟨by repeat (first | (with_reducible first | exact HB.out | apply below_alloc | apply pw_below_drewN | apply below_drew1) | exact HB.out)⟩⟩
                      · rw [if_neg c35] at H
                        have c35b0 : decide (t425 ≤ t424) = false := decide_eq_false c35
                        clear c35
                        have H' := Aside0.mk H
                        clear H
                        go_wp2
                        go_meet
                        case rel => exact ⟨_, (decide (t425 > (a1.size : Int))), (by first | rfl | (simp; done) | (simp [*]; done)), H', ⟨by have := HJ6.out; first | omega | exact Nat.le_refl _⟩, ⟨by repeat (first | (with_reducible first | exact HB.out | apply below_alloc | apply pw_below_drewN | apply below_drew1) | exact HB.out)⟩⟩
                  · rw [if_neg c33] at H
                    have c33b0 : (t423 == 11) = false := beq_eq_false_iff_ne.mpr c33
                    have c33b1 : (t423 != 11) = true := bne_iff_ne.mpr c33
                    (first | rw [c33b0] | (simp only [i64_w, i32_w]; rw [c33b0]) | skip)
                    by_cases c36 : t423 = 12
                    · rw [if_pos c36] at H
                      have c36b0 : (t423 == 12) = true := beq_iff_eq.mpr c36
                      have c36b1 : (t423 != 12) = false := bne_eq_false_iff_eq.mpr c36
                      clear c36
                      by_cases c37 : t424 < 0
                      · rw [if_pos c37] at H
                        have c37b0 : decide (t424 < 0) = true := decide_eq_true c37
                        clear c37
                        have H' := Aside0.mk H
                        clear H
                        go_wp2
                        go_meet
                        case rel => exact ⟨_, (true), (by first | rfl | (simp; done) | (simp [*]; done)), H', ⟨by have := HJ6.out; first | omega | exact Nat.le_refl _⟩, ⟨by repeat (first | (with_reducible first | exact HB.out | apply below_alloc | apply pw_below_drewN | apply below_drew1) | exact HB.out)⟩⟩
                      · rw [if_neg c37] at H
                        have c37b0 : decide (t424 < 0) = false := decide_eq_false c37
                        clear c37
                        by_cases c38 : t424 ≥ t425
                        · rw [if_pos c38] at H
                          have c38b0 : decide (t425 ≤ t424) = true := decide_eq_true c38
                          clear c38
                          have H' := Aside0.mk H
                          clear H
                          go_wp2
                          go_meet
                          case rel => exact ⟨_, (true), (by first | rfl | (simp; done) | (simp [*]; done)), H', ⟨by have := HJ6.out; first | omega | exact Nat.le_refl _⟩, ⟨by repeat (first | (with_reducible first | exact HB.out | apply below_alloc | apply pw_below_drewN | apply below_drew1) | exact HB.out)⟩⟩
                        · rw [if_neg c38] at H
                          have c38b0 : decide (t425 ≤ t424) = false := decide_eq_false c38
                          clear c38
                          have H' := Aside0.mk H
                          clear H
                          go_wp2
                          go_meet
                          case rel => exact ⟨_, (decide (t425 > (a1.size : Int))), (by first | rfl | (simp; done) | (simp [*]; done)), H', ⟨by have := HJ6.out; first | omega | exact Nat.le_refl _⟩, ⟨by repeat (first | (with_reducible first | exact HB.out | apply below_alloc | apply pw_below_drewN | apply below_drew1) | exact HB.out)⟩⟩
                    · rw [if_neg c36] at H
                      have c36b0 : (t423 == 12) = false := beq_eq_false_iff_ne.mpr c36
                      have c36b1 : (t423 != 12) = true := bne_iff_ne.mpr c36
                      have H' := Aside0.mk H
                      clear H
                      go_wp2
                      go_meet
                      case rel => exact ⟨_, (true), (by first | rfl | (simp; done) | (simp [*]; done)), H', ⟨by have := HJ6.out; first | omega | exact Nat.le_refl _⟩, ⟨by repeat (first | (with_reducible first | exact HB.out | apply below_alloc | apply pw_below_drewN | apply below_drew1) | exact HB.out)⟩⟩
                case rest =>
                  clear HC32
                  try clear c1
                  try clear c2
                  try clear p2
                  try clear c3
                  try clear p6
                  try clear c10
                  try clear c10b0
                  try clear c10b1
                  try clear c11
                  try clear c13
                  try clear c13b0
                  try clear c13b1
                  try clear c15
                  try clear c15b0
                  try clear c16
                  try clear c16b0
                  try clear c16b1
                  try clear c17
                  try clear c17b0
                  try clear c18
                  try clear c18b0
                  try clear c18b1
                  try clear c19
                  try clear c19b0
                  try clear c19b1
                  try clear c20
                  try clear c20b0
                  try clear c26
                  try clear c26b0
                  try clear c26b1
                  try clear c27
                  try clear c27b0
                  try clear c27b1
                  try clear c28
                  try clear c28b0
                  try clear c29
                  try clear c29b0
                  try clear c29b1
                  try clear c30
                  try clear c30b0
                  try clear c31
                  try clear c31b0
                  try clear c32
                  try clear c33
                  try clear c33b0
                  try clear c33b1
                  try clear c34
                  try clear c34b0
                  try clear c35
                  try clear c35b0
                  try clear c36
                  try clear c36b0
                  try clear c36b1
                  try clear c37
                  try clear c37b0
                  try clear c38
                  try clear c38b0
                  try clear p2
                  try clear p6
                  obtain ⟨kq, x127_31, rfl, HA, HJ31, HB⟩ := hcut
                  cases kq with
                  | zero => exact absurd HA.out (by simp [turnstilelaw1_DigitsForms.j1])
                  | succ kj31 =>
                    have H := HA.out
                    clear HA
                    simp only [turnstilelaw1_DigitsForms.j1] at H
                    by_cases c39 : x127_31 = true
                    · subst c39
                      have H1 : (some false) = some r := by rw [if_pos rfl] at H; exact H
                      clear H
                      have H := H1
                      clear H1
                      obtain rfl := Option.some.inj H
                      go_wp2
                      go_ret
                      exact ⟨by first | rfl | (simp [errW_none, errW_some] <;> rfl) | (simp [*, errW_none, errW_some] <;> rfl), by repeat (first | (with_reducible first | exact HB.out | apply below_alloc | apply pw_below_drewN | apply below_drew1) | exact HB.out)⟩
                    · replace c39 := Bool.eq_false_iff.mpr c39
                      subst c39
                      have H1 : (if 0 ≤ t424 then (if t424 ≤ (a1.size : Int) then (if t424 < (a1.size : Int) then ((turnstilelaw1_turned.f kj31 (wrap64 (1 + t418)) (bt a1 t424) t424 a2).bind fun t428 => (if (a1.extract 0 (t424 : Int).toNat).size + t428.size ≤ 9223372036854775807 then (if 0 ≤ (wrap64 (t424 + 1)) then (if (wrap64 (t424 + 1)) ≤ (a1.size : Int) then (if ((a1.extract 0 (t424 : Int).toNat) ++ t428).size + (a1.extract ((wrap64 (t424 + 1)) : Int).toNat a1.size).size ≤ 9223372036854775807 then ((digits_Unpack.f kj31 (wrap64 (1 + t418)) (((a1.extract 0 (t424 : Int).toNat) ++ t428) ++ (a1.extract ((wrap64 (t424 + 1)) : Int).toNat a1.size)) a2).bind fun bt429 => (if bt429.2.1 = 0 then (some true) else (some (decide (bt429.2.2 > t424))))) else (none)) else (none)) else (none)) else (none))) else (none)) else (none)) else (none)) = some r := by rw [if_neg (show ¬ (false = true) by decide)] at H; exact H
                      clear H
                      have H := H1
                      clear H1
                      by_cases c40 : 0 ≤ t424
                      · rw [if_pos c40] at H
                        have c40b0 := eq_true c40
                        have c40b1 : decide (0 ≤ t424) = true := decide_eq_true c40
                        clear c40
                        by_cases c41 : t424 ≤ (a1.size : Int)
                        · rw [if_pos c41] at H
                          have c41b0 := eq_true c41
                          have c41b1 : decide (t424 ≤ (a1.size : Int)) = true := decide_eq_true c41
                          clear c41
                          by_cases c42 : t424 < (a1.size : Int)
                          · rw [if_pos c42] at H
                            have c42b0 : decide (t424 < (a1.size : Int)) = true := decide_eq_true c42
                            clear c42
                            replace H := Option.bind_eq_some_iff.mp H
                            obtain ⟨t428, A440, H⟩ := H
                            replace H : (if (a1.extract 0 (t424 : Int).toNat).size + t428.size ≤ 9223372036854775807 then (if 0 ≤ (wrap64 (t424 + 1)) then (if (wrap64 (t424 + 1)) ≤ (a1.size : Int) then (if ((a1.extract 0 (t424 : Int).toNat) ++ t428).size + (a1.extract ((wrap64 (t424 + 1)) : Int).toNat a1.size).size ≤ 9223372036854775807 then ((digits_Unpack.f kj31 (wrap64 (1 + t418)) (((a1.extract 0 (t424 : Int).toNat) ++ t428) ++ (a1.extract ((wrap64 (t424 + 1)) : Int).toNat a1.size)) a2).bind fun bt429 => (if bt429.2.1 = 0 then (some true) else (some (decide (bt429.2.2 > t424))))) else (none)) else (none)) else (none)) else (none)) = some r := H
                            have A44 := Aside0.mk A440
                            clear A440
                            by_cases c45 : (a1.extract 0 (t424 : Int).toNat).size + t428.size ≤ 9223372036854775807
                            · rw [if_pos c45] at H
                              have c45b0 := eq_true c45
                              have c45b1 : decide ((a1.extract 0 (t424 : Int).toNat).size + t428.size ≤ 9223372036854775807) = true := decide_eq_true c45
                              try have c45b2 : (9223372036854775807 < (a1.extract 0 (t424 : Int).toNat).size + t428.size) = False := eq_false (Nat.not_lt.2 c45)
                              have c45b3 : (9223372036854775807 < t424.toNat + t428.size) = False := eq_false (by have h_ := c45; have h2_ := of_decide_eq_true (show decide (t424 ≤ (a1.size : Int)) = true by assumption); rw [ByteArray.size_extract] at h_; omega)
                              obtain ⟨ji46, hji46⟩ : ∃ j_ : Int, (wrap64 (t424 + 1)) = j_ := ⟨_, rfl⟩
                              replace H : (if 0 ≤ (ji46) then (if (ji46) ≤ (a1.size : Int) then (if ((a1.extract 0 (t424 : Int).toNat) ++ t428).size + (a1.extract ((ji46) : Int).toNat a1.size).size ≤ 9223372036854775807 then ((digits_Unpack.f kj31 (wrap64 (1 + t418)) (((a1.extract 0 (t424 : Int).toNat) ++ t428) ++ (a1.extract ((ji46) : Int).toNat a1.size)) a2).bind fun bt429 => (if bt429.2.1 = 0 then (some true) else (some (decide (bt429.2.2 > t424))))) else (none)) else (none)) else (none)) = some r := by first | (rw [hji46] at H; exact H) | (simp only [hji46] at H ⊢; exact H)
                              (try rw [hji46] at A44)
                              have hji46w : (IntKind.i64.wrap (t424 + 1)) = ji46 := (i64_w _).trans hji46
                              by_cases c47 : 0 ≤ (ji46)
                              · rw [if_pos c47] at H
                                have c47b0 := eq_true c47
                                have c47b1 : decide (0 ≤ (ji46)) = true := decide_eq_true c47
                                clear c47
                                by_cases c48 : (ji46) ≤ (a1.size : Int)
                                · rw [if_pos c48] at H
                                  have c48b0 := eq_true c48
                                  have c48b1 : decide ((ji46) ≤ (a1.size : Int)) = true := decide_eq_true c48
                                  clear c48
                                  by_cases c49 : ((a1.extract 0 (t424 : Int).toNat) ++ t428).size + (a1.extract ((ji46) : Int).toNat a1.size).size ≤ 9223372036854775807
                                  · rw [if_pos c49] at H
                                    have c49b0 := eq_true c49
                                    have c49b1 : decide (((a1.extract 0 (t424 : Int).toNat) ++ t428).size + (a1.extract ((ji46) : Int).toNat a1.size).size ≤ 9223372036854775807) = true := decide_eq_true c49
                                    try have c49b2 : (9223372036854775807 < ((a1.extract 0 (t424 : Int).toNat) ++ t428).size + (a1.extract ((ji46) : Int).toNat a1.size).size) = False := eq_false (Nat.not_lt.2 c49)
                                    have c49b3 : (9223372036854775807 < t424.toNat + t428.size + (a1.size - ji46.toNat)) = False := eq_false (by have h_ := c49; have h2_ := of_decide_eq_true (show decide (t424 ≤ (a1.size : Int)) = true by assumption); rw [ByteArray.size_append, ByteArray.size_extract, ByteArray.size_extract] at h_; omega)
                                    replace H := Option.bind_eq_some_iff.mp H
                                    obtain ⟨⟨t429, t430, t431⟩, A500, H⟩ := H
                                    replace H : (if t430 = 0 then (some true) else (some (decide (t431 > t424)))) = some r := H
                                    have A50 := Aside0.mk A500
                                    clear A500
                                    by_cases c51 : t430 = 0
                                    · rw [if_pos c51] at H
                                      have c51b0 : (t430 == 0) = true := beq_iff_eq.mpr c51
                                      have c51b1 : (t430 != 0) = false := bne_eq_false_iff_eq.mpr c51
                                      clear c51
                                      obtain rfl := Option.some.inj H
                                      try go_wp2
                                      have n0_ := Aside0.mk (below_drew1 HB.out)
                                      clear HB
                                      have HB := n0_
                                      clear n0_
                                      have p43 : 0 ≤ (t424 : Int) := of_decide_eq_true (by first | (with_reducible assumption) | assumption)
                                      have q43 : t424 < (a1.size : Int) := of_decide_eq_true (by first | (with_reducible assumption) | assumption)
                                      have hx43 := bt_at a1 t424
                                      replace p43 := eq_true p43
                                      replace q43 := eq_true q43
                                      refine start_ (n := 17) (S := fun w' => True) (ds := []) #[false, false, false, false, false, false, false, false, false, false, false, false, false, false, false, false, false] (by kernel_rfl) rfl rfl trivial (fun hHeld => ?_); refine with_tabW turnstilelaw1_DigitsForms.tab19 turnstilelaw1_DigitsForms.bits19 (fun HT_ HW_ => ?_)
                                      generalize wc.drew = w52 at HB hHeld ⊢
                                      refine pure_ (i := 0) (N := some 128) (v := ?_) (a' := ?_) #[true, false, false, false, false, false, false, false, false, false, false, false, false, false, false, false, false] rfl rfl (any_of HT_.out (by kernel_rfl)) (fun _ _ _ h => h) (Or.inl ⟨by rfl, ?_⟩) ?_ ?_
                                      rotate_left
                                      · intro w'
                                        go_simp
                                        with_reducible rfl
                                      rotate_left
                                      · simp only [Act.put, List.setIfInBounds_toArray, List.set_cons_zero, List.set_cons_succ, i64_w, i32_w]
                                        rfl
                                      refine pure_ (i := 1) (N := some 129) (v := ?_) (a' := ?_) #[true, true, false, false, false, false, false, false, false, false, false, false, false, false, false, false, false] rfl rfl (any_of HT_.out (by kernel_rfl)) (fun _ _ _ h => h) (Or.inl ⟨by rfl, ?_⟩) ?_ ?_
                                      rotate_left
                                      · intro w'
                                        go_simp
                                        with_reducible rfl
                                      rotate_left
                                      · simp only [Act.put, List.setIfInBounds_toArray, List.set_cons_zero, List.set_cons_succ, i64_w, i32_w]
                                        rfl
                                      refine pure_ (i := 2) (N := some 130) (v := ?_) (a' := ?_) #[true, true, true, false, false, false, false, false, false, false, false, false, false, false, false, false, false] rfl rfl (any_of HT_.out (by kernel_rfl)) (fun _ _ _ h => h) (Or.inl ⟨by rfl, ?_⟩) ?_ ?_
                                      rotate_left
                                      · intro w'
                                        go_simp
                                        with_reducible rfl
                                      rotate_left
                                      · simp only [Act.put, List.setIfInBounds_toArray, List.set_cons_zero, List.set_cons_succ, i64_w, i32_w]
                                        rfl
                                      refine pure_ (i := 3) (N := some 131) (v := ?_) (a' := ?_) #[true, true, true, true, false, false, false, false, false, false, false, false, false, false, false, false, false] rfl rfl (any_of HT_.out (by kernel_rfl)) (fun _ _ _ h => h) (Or.inl ⟨by rfl, ?_⟩) ?_ ?_
                                      rotate_left
                                      · intro w'
                                        go_simp
                                        with_reducible rfl
                                      rotate_left
                                      · simp only [Act.put, List.setIfInBounds_toArray, List.set_cons_zero, List.set_cons_succ, i64_w, i32_w]
                                        rfl
                                      refine pure_ (i := 4) (N := some 132) (v := ?_) (a' := ?_) #[true, true, true, true, true, false, false, false, false, false, false, false, false, false, false, false, false] rfl rfl (any_of HT_.out (by kernel_rfl)) (fun _ _ _ h => h) (Or.inl ⟨by rfl, ?_⟩) ?_ ?_
                                      rotate_left
                                      · intro w'
                                        go_simp
                                        with_reducible rfl
                                      rotate_left
                                      · simp only [Act.put, List.setIfInBounds_toArray, List.set_cons_zero, List.set_cons_succ, i64_w, i32_w]
                                        rfl
                                      refine pure_ (i := 5) (N := some 133) (v := ?_) (a' := ?_) #[true, true, true, true, true, true, false, false, false, false, false, false, false, false, false, false, false] rfl rfl (any_of HT_.out (by kernel_rfl)) (fun _ _ _ h => h) (Or.inl ⟨by rfl, ?_⟩) ?_ ?_
                                      rotate_left
                                      · intro w'
                                        go_simp
                                        with_reducible rfl
                                      rotate_left
                                      · simp only [Act.put, List.setIfInBounds_toArray, List.set_cons_zero, List.set_cons_succ, i64_w, i32_w]
                                        rfl
                                      refine pure_ (i := 7) (N := some 135) (v := ?_) (a' := ?_) #[true, true, true, true, true, true, false, true, false, false, false, false, false, false, false, false, false] rfl rfl (any_of HT_.out (by kernel_rfl)) (fun _ _ _ h => h) (Or.inl ⟨by rfl, ?_⟩) ?_ ?_
                                      rotate_left
                                      · intro w'
                                        go_simp
                                        with_reducible rfl
                                      rotate_left
                                      · simp only [Act.put, List.setIfInBounds_toArray, List.set_cons_zero, List.set_cons_succ, i64_w, i32_w]
                                        rfl
                                      refine pure_ (i := 8) (N := some 136) (v := ?_) (a' := ?_) #[true, true, true, true, true, true, false, true, true, false, false, false, false, false, false, false, false] rfl rfl (any_of HT_.out (by kernel_rfl)) (fun _ _ _ h => h) (Or.inl ⟨by rfl, ?_⟩) ?_ ?_
                                      rotate_left
                                      · intro w'
                                        go_simp
                                        with_reducible rfl
                                      rotate_left
                                      · simp only [Act.put, List.setIfInBounds_toArray, List.set_cons_zero, List.set_cons_succ, i64_w, i32_w]
                                        rfl
                                      refine pure_ (i := 11) (N := some 139) (v := ?_) (a' := ?_) #[true, true, true, true, true, true, false, true, true, false, false, true, false, false, false, false, false] rfl rfl (any_of HT_.out (by kernel_rfl)) (fun _ _ _ h => h) (Or.inl ⟨by rfl, ?_⟩) ?_ ?_
                                      rotate_left
                                      · intro w'
                                        go_simp
                                        with_reducible rfl
                                      rotate_left
                                      · simp only [Act.put, List.setIfInBounds_toArray, List.set_cons_zero, List.set_cons_succ, i64_w, i32_w]
                                        rfl
                                      refine pure_ (i := 12) (N := some 140) (v := ?_) (a' := ?_) #[true, true, true, true, true, true, false, true, true, false, false, true, true, false, false, false, false] rfl rfl (any_of HT_.out (by kernel_rfl)) (fun _ _ _ h => h) (Or.inl ⟨by rfl, ?_⟩) ?_ ?_
                                      rotate_left
                                      · intro w'
                                        go_simp
                                        with_reducible rfl
                                      rotate_left
                                      · simp only [Act.put, List.setIfInBounds_toArray, List.set_cons_zero, List.set_cons_succ, i64_w, i32_w]
                                        rfl
                                      refine pure_ (i := 13) (N := some 141) (v := ?_) (a' := ?_) #[true, true, true, true, true, true, false, true, true, false, false, true, true, true, false, false, false] rfl rfl (any_of HT_.out (by kernel_rfl)) (fun _ _ _ h => h) (Or.inl ⟨by rfl, ?_⟩) ?_ ?_
                                      rotate_left
                                      · intro w'
                                        go_simp
                                        with_reducible rfl
                                      rotate_left
                                      · simp only [Act.put, List.setIfInBounds_toArray, List.set_cons_zero, List.set_cons_succ, i64_w, i32_w]
                                        rfl
                                      refine pure_ (i := 14) (N := some 142) (v := ?_) (a' := ?_) #[true, true, true, true, true, true, false, true, true, false, false, true, true, true, true, false, false] rfl rfl (any_of HT_.out (by kernel_rfl)) (fun _ _ _ h => h) (Or.inl ⟨by rfl, ?_⟩) ?_ ?_
                                      rotate_left
                                      · intro w'
                                        go_simp
                                        with_reducible rfl
                                      rotate_left
                                      · simp only [Act.put, List.setIfInBounds_toArray, List.set_cons_zero, List.set_cons_succ, i64_w, i32_w]
                                        rfl
                                      refine take_ (i := 6) (N := some 134) (v := ?_) (a' := ?_) #[true, true, true, true, true, true, true, true, true, false, false, true, true, true, true, false, false] rfl rfl (take_ofW HT_.out HW_.out (by kernel_rfl)) (fun _ _ _ h => h) (Or.inl ⟨by rfl, ?_⟩) hHeld ?_ ?_
                                      rotate_left
                                      · intro w' _
                                        go_simp
                                        with_reducible rfl
                                      rotate_left
                                      · simp only [Act.put, List.setIfInBounds_toArray, List.set_cons_zero, List.set_cons_succ, i64_w, i32_w]
                                        rfl
                                      refine one_ (i := 9) (N := some 137) #[true, true, true, true, true, true, true, true, true, true, false, true, true, true, true, false, false] rfl rfl (one_of HT_.out (by kernel_rfl)) (by decide) (fun K hK => ?_)
                                      refine goes_ Try.func39 (by kernel_rfl) rfl #[.int .i64 (wrap64 (1 + t418)), .int .u8 (bt a1 t424), .int .i64 t424, .int .i64 a2] (by rfl) rfl rfl (by (try simp only [List.map_toArray, List.map_cons, List.map_nil]); first | done | rfl | (simp only [List.length_drop, List.length_take]; rfl)) ?_
                                      with_reducible refine (turnstilelaw1_turned.calls kj31 (wrap64 (1 + t418)) (bt a1 t424) t424 a2 t428 _ A44.out).mono ?_
                                      rintro e w53 ⟨rfl, hb⟩
                                      refine ⟨_, rfl, ?_⟩
                                      have n0_ := Aside0.mk (below_step (by repeat (first | (with_reducible first | exact HB.out | apply below_alloc | apply pw_below_drewN | apply below_drew1) | exact HB.out)) hb)
                                      clear HB
                                      have HB := n0_
                                      clear n0_
                                      (try clear hb)
                                      (try clear hb2)
                                      (try clear hk)
                                      (try clear hi)
                                      refine hK.out _ _ trivial (fun hHeld => ?_)
                                      clear hK K
                                      refine norm_ (a' := ?_) ?_ ?_
                                      rotate_left
                                      · show Act.put _ (some 137) _ = _
                                        simp only [Act.put, List.setIfInBounds_toArray, List.set_cons_zero, List.set_cons_succ, i64_w, i32_w]
                                        rfl
                                      refine pure_ (i := 10) (N := some 138) (v := ?_) (a' := ?_) #[true, true, true, true, true, true, true, true, true, true, true, true, true, true, true, false, false] rfl rfl (any_of HT_.out (by kernel_rfl)) (fun _ _ _ h => h) (Or.inl ⟨by rfl, ?_⟩) ?_ ?_
                                      rotate_left
                                      · intro w'
                                        go_simp
                                        with_reducible rfl
                                      rotate_left
                                      · simp only [Act.put, List.setIfInBounds_toArray, List.set_cons_zero, List.set_cons_succ, i64_w, i32_w]
                                        rfl
                                      refine pure_ (i := 15) (N := some 143) (v := ?_) (a' := ?_) #[true, true, true, true, true, true, true, true, true, true, true, true, true, true, true, true, false] rfl rfl (any_of HT_.out (by kernel_rfl)) (fun _ _ _ h => h) (Or.inl ⟨by rfl, ?_⟩) ?_ ?_
                                      rotate_left
                                      · intro w'
                                        go_simp
                                        with_reducible rfl
                                      rotate_left
                                      · simp only [Act.put, List.setIfInBounds_toArray, List.set_cons_zero, List.set_cons_succ, i64_w, i32_w]
                                        rfl
                                      refine pure_ (i := 16) (N := some 17) (v := ?_) (a' := ?_) #[true, true, true, true, true, true, true, true, true, true, true, true, true, true, true, true, true] rfl rfl (any_of HT_.out (by kernel_rfl)) (fun _ _ _ h => h) (Or.inl ⟨by rfl, ?_⟩) ?_ ?_
                                      rotate_left
                                      · intro w'
                                        go_simp
                                        with_reducible rfl
                                      rotate_left
                                      · simp only [Act.put, List.setIfInBounds_toArray, List.set_cons_zero, List.set_cons_succ, i64_w, i32_w]
                                        rfl
                                      refine done_ (done_of HT_.out (by kernel_rfl)) ?_
                                      try go_wp2_with (first | ((with_reducible refine gate_callee (f := 34) rfl ?_); refine goesL_ (some 148) rfl rfl Try.func34 (by kernel_rfl) rfl #[.int .i64 (wrap64 (1 + t418)), .string (((a1.extract 0 (t424 : Int).toNat) ++ t428) ++ (a1.extract ((ji46) : Int).toNat a1.size)), .int .i64 a2] rfl (by (try simp only [List.map_toArray, List.map_cons, List.map_nil]); first | done | (simp only [hji46]; rfl) | rfl | (simp only [List.length_drop, List.length_take]; rfl)) ?_; (with_reducible refine (digits_Unpack.calls kj31 (wrap64 (1 + t418)) (((a1.extract 0 (t424 : Int).toNat) ++ t428) ++ (a1.extract ((ji46) : Int).toNat a1.size)) a2 t429 t430 t431 _ A50.out).mono ?_); rintro e w54 ⟨rfl, hb⟩; refine ⟨_, rfl, ?_⟩; have n0_ := Aside0.mk (below_step (by repeat (first | (with_reducible first | exact HB.out | apply below_alloc | apply pw_below_drewN | apply below_drew1) | exact HB.out)) hb); clear HB; have HB := n0_; clear n0_; (try clear hb); (try clear hb2); (try clear hk); (try clear hi)))
                                      go_ret
                                      exact ⟨by first | rfl | (simp [errW_none, errW_some] <;> rfl) | (simp only [← hji46]; first | rfl | (simp [errW_none, errW_some] <;> rfl)) | (simp [*, errW_none, errW_some] <;> rfl), by repeat (first | (with_reducible first | exact HB.out | apply below_alloc | apply pw_below_drewN | apply below_drew1) | exact HB.out)⟩
                                    · rw [if_neg c51] at H
                                      have c51b0 : (t430 == 0) = false := beq_eq_false_iff_ne.mpr c51
                                      have c51b1 : (t430 != 0) = true := bne_iff_ne.mpr c51
                                      obtain rfl := Option.some.inj H
                                      try go_wp2
                                      have n0_ := Aside0.mk (below_drew1 HB.out)
                                      clear HB
                                      have HB := n0_
                                      clear n0_
                                      have p43 : 0 ≤ (t424 : Int) := of_decide_eq_true (by first | (with_reducible assumption) | assumption)
                                      have q43 : t424 < (a1.size : Int) := of_decide_eq_true (by first | (with_reducible assumption) | assumption)
                                      have hx43 := bt_at a1 t424
                                      replace p43 := eq_true p43
                                      replace q43 := eq_true q43
                                      refine start_ (n := 17) (S := fun w' => True) (ds := []) #[false, false, false, false, false, false, false, false, false, false, false, false, false, false, false, false, false] (by kernel_rfl) rfl rfl trivial (fun hHeld => ?_); refine with_tabW turnstilelaw1_DigitsForms.tab19 turnstilelaw1_DigitsForms.bits19 (fun HT_ HW_ => ?_)
                                      generalize wc.drew = w55 at HB hHeld ⊢
                                      refine pure_ (i := 0) (N := some 128) (v := ?_) (a' := ?_) #[true, false, false, false, false, false, false, false, false, false, false, false, false, false, false, false, false] rfl rfl (any_of HT_.out (by kernel_rfl)) (fun _ _ _ h => h) (Or.inl ⟨by rfl, ?_⟩) ?_ ?_
                                      rotate_left
                                      · intro w'
                                        go_simp
                                        with_reducible rfl
                                      rotate_left
                                      · simp only [Act.put, List.setIfInBounds_toArray, List.set_cons_zero, List.set_cons_succ, i64_w, i32_w]
                                        rfl
                                      refine pure_ (i := 1) (N := some 129) (v := ?_) (a' := ?_) #[true, true, false, false, false, false, false, false, false, false, false, false, false, false, false, false, false] rfl rfl (any_of HT_.out (by kernel_rfl)) (fun _ _ _ h => h) (Or.inl ⟨by rfl, ?_⟩) ?_ ?_
                                      rotate_left
                                      · intro w'
                                        go_simp
                                        with_reducible rfl
                                      rotate_left
                                      · simp only [Act.put, List.setIfInBounds_toArray, List.set_cons_zero, List.set_cons_succ, i64_w, i32_w]
                                        rfl
                                      refine pure_ (i := 2) (N := some 130) (v := ?_) (a' := ?_) #[true, true, true, false, false, false, false, false, false, false, false, false, false, false, false, false, false] rfl rfl (any_of HT_.out (by kernel_rfl)) (fun _ _ _ h => h) (Or.inl ⟨by rfl, ?_⟩) ?_ ?_
                                      rotate_left
                                      · intro w'
                                        go_simp
                                        with_reducible rfl
                                      rotate_left
                                      · simp only [Act.put, List.setIfInBounds_toArray, List.set_cons_zero, List.set_cons_succ, i64_w, i32_w]
                                        rfl
                                      refine pure_ (i := 3) (N := some 131) (v := ?_) (a' := ?_) #[true, true, true, true, false, false, false, false, false, false, false, false, false, false, false, false, false] rfl rfl (any_of HT_.out (by kernel_rfl)) (fun _ _ _ h => h) (Or.inl ⟨by rfl, ?_⟩) ?_ ?_
                                      rotate_left
                                      · intro w'
                                        go_simp
                                        with_reducible rfl
                                      rotate_left
                                      · simp only [Act.put, List.setIfInBounds_toArray, List.set_cons_zero, List.set_cons_succ, i64_w, i32_w]
                                        rfl
                                      refine pure_ (i := 4) (N := some 132) (v := ?_) (a' := ?_) #[true, true, true, true, true, false, false, false, false, false, false, false, false, false, false, false, false] rfl rfl (any_of HT_.out (by kernel_rfl)) (fun _ _ _ h => h) (Or.inl ⟨by rfl, ?_⟩) ?_ ?_
                                      rotate_left
                                      · intro w'
                                        go_simp
                                        with_reducible rfl
                                      rotate_left
                                      · simp only [Act.put, List.setIfInBounds_toArray, List.set_cons_zero, List.set_cons_succ, i64_w, i32_w]
                                        rfl
                                      refine pure_ (i := 5) (N := some 133) (v := ?_) (a' := ?_) #[true, true, true, true, true, true, false, false, false, false, false, false, false, false, false, false, false] rfl rfl (any_of HT_.out (by kernel_rfl)) (fun _ _ _ h => h) (Or.inl ⟨by rfl, ?_⟩) ?_ ?_
                                      rotate_left
                                      · intro w'
                                        go_simp
                                        with_reducible rfl
                                      rotate_left
                                      · simp only [Act.put, List.setIfInBounds_toArray, List.set_cons_zero, List.set_cons_succ, i64_w, i32_w]
                                        rfl
                                      refine pure_ (i := 7) (N := some 135) (v := ?_) (a' := ?_) #[true, true, true, true, true, true, false, true, false, false, false, false, false, false, false, false, false] rfl rfl (any_of HT_.out (by kernel_rfl)) (fun _ _ _ h => h) (Or.inl ⟨by rfl, ?_⟩) ?_ ?_
                                      rotate_left
                                      · intro w'
                                        go_simp
                                        with_reducible rfl
                                      rotate_left
                                      · simp only [Act.put, List.setIfInBounds_toArray, List.set_cons_zero, List.set_cons_succ, i64_w, i32_w]
                                        rfl
                                      refine pure_ (i := 8) (N := some 136) (v := ?_) (a' := ?_) #[true, true, true, true, true, true, false, true, true, false, false, false, false, false, false, false, false] rfl rfl (any_of HT_.out (by kernel_rfl)) (fun _ _ _ h => h) (Or.inl ⟨by rfl, ?_⟩) ?_ ?_
                                      rotate_left
                                      · intro w'
                                        go_simp
                                        with_reducible rfl
                                      rotate_left
                                      · simp only [Act.put, List.setIfInBounds_toArray, List.set_cons_zero, List.set_cons_succ, i64_w, i32_w]
                                        rfl
                                      refine pure_ (i := 11) (N := some 139) (v := ?_) (a' := ?_) #[true, true, true, true, true, true, false, true, true, false, false, true, false, false, false, false, false] rfl rfl (any_of HT_.out (by kernel_rfl)) (fun _ _ _ h => h) (Or.inl ⟨by rfl, ?_⟩) ?_ ?_
                                      rotate_left
                                      · intro w'
                                        go_simp
                                        with_reducible rfl
                                      rotate_left
                                      · simp only [Act.put, List.setIfInBounds_toArray, List.set_cons_zero, List.set_cons_succ, i64_w, i32_w]
                                        rfl
                                      refine pure_ (i := 12) (N := some 140) (v := ?_) (a' := ?_) #[true, true, true, true, true, true, false, true, true, false, false, true, true, false, false, false, false] rfl rfl (any_of HT_.out (by kernel_rfl)) (fun _ _ _ h => h) (Or.inl ⟨by rfl, ?_⟩) ?_ ?_
                                      rotate_left
                                      · intro w'
                                        go_simp
                                        with_reducible rfl
                                      rotate_left
                                      · simp only [Act.put, List.setIfInBounds_toArray, List.set_cons_zero, List.set_cons_succ, i64_w, i32_w]
                                        rfl
                                      refine pure_ (i := 13) (N := some 141) (v := ?_) (a' := ?_) #[true, true, true, true, true, true, false, true, true, false, false, true, true, true, false, false, false] rfl rfl (any_of HT_.out (by kernel_rfl)) (fun _ _ _ h => h) (Or.inl ⟨by rfl, ?_⟩) ?_ ?_
                                      rotate_left
                                      · intro w'
                                        go_simp
                                        with_reducible rfl
                                      rotate_left
                                      · simp only [Act.put, List.setIfInBounds_toArray, List.set_cons_zero, List.set_cons_succ, i64_w, i32_w]
                                        rfl
                                      refine pure_ (i := 14) (N := some 142) (v := ?_) (a' := ?_) #[true, true, true, true, true, true, false, true, true, false, false, true, true, true, true, false, false] rfl rfl (any_of HT_.out (by kernel_rfl)) (fun _ _ _ h => h) (Or.inl ⟨by rfl, ?_⟩) ?_ ?_
                                      rotate_left
                                      · intro w'
                                        go_simp
                                        with_reducible rfl
                                      rotate_left
                                      · simp only [Act.put, List.setIfInBounds_toArray, List.set_cons_zero, List.set_cons_succ, i64_w, i32_w]
                                        rfl
                                      refine take_ (i := 6) (N := some 134) (v := ?_) (a' := ?_) #[true, true, true, true, true, true, true, true, true, false, false, true, true, true, true, false, false] rfl rfl (take_ofW HT_.out HW_.out (by kernel_rfl)) (fun _ _ _ h => h) (Or.inl ⟨by rfl, ?_⟩) hHeld ?_ ?_
                                      rotate_left
                                      · intro w' _
                                        go_simp
                                        with_reducible rfl
                                      rotate_left
                                      · simp only [Act.put, List.setIfInBounds_toArray, List.set_cons_zero, List.set_cons_succ, i64_w, i32_w]
                                        rfl
                                      refine one_ (i := 9) (N := some 137) #[true, true, true, true, true, true, true, true, true, true, false, true, true, true, true, false, false] rfl rfl (one_of HT_.out (by kernel_rfl)) (by decide) (fun K hK => ?_)
                                      refine goes_ Try.func39 (by kernel_rfl) rfl #[.int .i64 (wrap64 (1 + t418)), .int .u8 (bt a1 t424), .int .i64 t424, .int .i64 a2] (by rfl) rfl rfl (by (try simp only [List.map_toArray, List.map_cons, List.map_nil]); first | done | rfl | (simp only [List.length_drop, List.length_take]; rfl)) ?_
                                      with_reducible refine (turnstilelaw1_turned.calls kj31 (wrap64 (1 + t418)) (bt a1 t424) t424 a2 t428 _ A44.out).mono ?_
                                      rintro e w56 ⟨rfl, hb⟩
                                      refine ⟨_, rfl, ?_⟩
                                      have n0_ := Aside0.mk (below_step (by repeat (first | (with_reducible first | exact HB.out | apply below_alloc | apply pw_below_drewN | apply below_drew1) | exact HB.out)) hb)
                                      clear HB
                                      have HB := n0_
                                      clear n0_
                                      (try clear hb)
                                      (try clear hb2)
                                      (try clear hk)
                                      (try clear hi)
                                      refine hK.out _ _ trivial (fun hHeld => ?_)
                                      clear hK K
                                      refine norm_ (a' := ?_) ?_ ?_
                                      rotate_left
                                      · show Act.put _ (some 137) _ = _
                                        simp only [Act.put, List.setIfInBounds_toArray, List.set_cons_zero, List.set_cons_succ, i64_w, i32_w]
                                        rfl
                                      refine pure_ (i := 10) (N := some 138) (v := ?_) (a' := ?_) #[true, true, true, true, true, true, true, true, true, true, true, true, true, true, true, false, false] rfl rfl (any_of HT_.out (by kernel_rfl)) (fun _ _ _ h => h) (Or.inl ⟨by rfl, ?_⟩) ?_ ?_
                                      rotate_left
                                      · intro w'
                                        go_simp
                                        with_reducible rfl
                                      rotate_left
                                      · simp only [Act.put, List.setIfInBounds_toArray, List.set_cons_zero, List.set_cons_succ, i64_w, i32_w]
                                        rfl
                                      refine pure_ (i := 15) (N := some 143) (v := ?_) (a' := ?_) #[true, true, true, true, true, true, true, true, true, true, true, true, true, true, true, true, false] rfl rfl (any_of HT_.out (by kernel_rfl)) (fun _ _ _ h => h) (Or.inl ⟨by rfl, ?_⟩) ?_ ?_
                                      rotate_left
                                      · intro w'
                                        go_simp
                                        with_reducible rfl
                                      rotate_left
                                      · simp only [Act.put, List.setIfInBounds_toArray, List.set_cons_zero, List.set_cons_succ, i64_w, i32_w]
                                        rfl
                                      refine pure_ (i := 16) (N := some 17) (v := ?_) (a' := ?_) #[true, true, true, true, true, true, true, true, true, true, true, true, true, true, true, true, true] rfl rfl (any_of HT_.out (by kernel_rfl)) (fun _ _ _ h => h) (Or.inl ⟨by rfl, ?_⟩) ?_ ?_
                                      rotate_left
                                      · intro w'
                                        go_simp
                                        with_reducible rfl
                                      rotate_left
                                      · simp only [Act.put, List.setIfInBounds_toArray, List.set_cons_zero, List.set_cons_succ, i64_w, i32_w]
                                        rfl
                                      refine done_ (done_of HT_.out (by kernel_rfl)) ?_
                                      try go_wp2_with (first | ((with_reducible refine gate_callee (f := 34) rfl ?_); refine goesL_ (some 148) rfl rfl Try.func34 (by kernel_rfl) rfl #[.int .i64 (wrap64 (1 + t418)), .string (((a1.extract 0 (t424 : Int).toNat) ++ t428) ++ (a1.extract ((ji46) : Int).toNat a1.size)), .int .i64 a2] rfl (by (try simp only [List.map_toArray, List.map_cons, List.map_nil]); first | done | (simp only [hji46]; rfl) | rfl | (simp only [List.length_drop, List.length_take]; rfl)) ?_; (with_reducible refine (digits_Unpack.calls kj31 (wrap64 (1 + t418)) (((a1.extract 0 (t424 : Int).toNat) ++ t428) ++ (a1.extract ((ji46) : Int).toNat a1.size)) a2 t429 t430 t431 _ A50.out).mono ?_); rintro e w57 ⟨rfl, hb⟩; refine ⟨_, rfl, ?_⟩; have n0_ := Aside0.mk (below_step (by repeat (first | (with_reducible first | exact HB.out | apply below_alloc | apply pw_below_drewN | apply below_drew1) | exact HB.out)) hb); clear HB; have HB := n0_; clear n0_; (try clear hb); (try clear hb2); (try clear hk); (try clear hi)))
                                      go_ret
                                      exact ⟨by first | rfl | (simp [errW_none, errW_some] <;> rfl) | (simp only [← hji46]; first | rfl | (simp [errW_none, errW_some] <;> rfl)) | (simp [*, errW_none, errW_some] <;> rfl), by repeat (first | (with_reducible first | exact HB.out | apply below_alloc | apply pw_below_drewN | apply below_drew1) | exact HB.out)⟩
                                  · rw [if_neg c49] at H
                                    exact absurd H (by simp)
                                · rw [if_neg c48] at H
                                  exact absurd H (by simp)
                              · rw [if_neg c47] at H
                                exact absurd H (by simp)
                            · rw [if_neg c45] at H
                              exact absurd H (by simp)
                          · rw [if_neg c42] at H
                            exact absurd H (by simp)
                        · rw [if_neg c41] at H
                          exact absurd H (by simp)
                      · rw [if_neg c40] at H
                        exact absurd H (by simp)
          · rw [if_neg c26] at H
            have c26b0 : (t422.toList == ([] : List UInt8)) = false := beq_eq_false_iff_ne.mpr c26
            have c26b1 : (t422.toList != ([] : List UInt8)) = true := bne_iff_ne.mpr c26
            obtain rfl := Option.some.inj H
            go_wp2_with (first | ((with_reducible refine gate_callee (f := 20) rfl ?_); refine goesL_ (some 46) rfl rfl Try.func20 (by kernel_rfl) rfl #[.int .i64 (wrap64 (1 + t418)), .int .i64 a2] rfl (by (try simp only [List.map_toArray, List.map_cons, List.map_nil]); first | done | rfl | (simp only [List.length_drop, List.length_take]; rfl)) ?_; (with_reducible refine (digits_Width.calls (wrap64 (1 + t418)) a2 t425 _ A12.out).mono ?_); rintro e w' ⟨rfl, ⟨nd, rfl⟩⟩; refine ⟨_, rfl, ?_⟩))
            go_ret
            exact ⟨by first | rfl | (simp [errW_none, errW_some] <;> rfl) | (simp [*, errW_none, errW_some] <;> rfl), by repeat (first | (with_reducible first | exact HB.out | apply below_alloc | apply pw_below_drewN | apply below_drew1) | exact HB.out)⟩

/-- THE ONE PURE STATEMENT of turnstilelaw1_DigitsForms: yours. -/
def turnstilelaw1_DigitsForms.Pure : Prop := ∀ (a0 : Int) (a1 : ByteArray) (a2 : Int), (Lit.int .i64 a0).wf = true → a1.size ≤ 1048576 → (Lit.int .i64 a2).wf = true → ∃ k, turnstilelaw1_DigitsForms.f k a0 a1 a2 = some true
theorem turnstilelaw1_DigitsForms.walk (P : turnstilelaw1_DigitsForms.Pure) (a0 : Int) (a1 : ByteArray) (a2 : Int) (w : World) (w0 : (Lit.int .i64 a0).wf = true) (w1 : a1.size ≤ 1048576) (w2 : (Lit.int .i64 a2).wf = true) :
    Calls Try.prog 15 #[.int .i64 a0, .string a1, .int .i64 a2] w fun e w' => e = .returned (.bool true) ∧ Below w.heap.size w w' := by
  obtain ⟨k, h⟩ := P a0 a1 a2 w0 w1 w2
  refine (turnstilelaw1_DigitsForms.calls k a0 a1 a2 true w h).mono ?_
  rintro e w' ⟨rfl, hd⟩
  exact ⟨rfl, hd⟩

end Go.Proofs.Ytlpamhffpgoebaa.All
