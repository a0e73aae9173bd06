/- DigitsMeasured of the package turnstilelaw1: of every three integers and every text: a number is written, and read, as what it is, in each length that has room for it; a length that was read is written so again. No condition. Texts of this claim laid together by merge.py: Ax29, Ax12, Ax13, Ax15, Ax16, Pa, Pb, Pd, Pf, Ax6, Ax45, Ax46, Ax47 -/
import Derived.Test.YtlpamhffpgoebaaMMeasureda
import Derived.OpenShut
-- WRITTEN BY this session's own drv.py over the kit's print. Not trusted: Lean checks it.
namespace Go.Proofs.Ytlpamhffpgoebaa.All
open Go.RowKit Go.Proofs.YtlpamhffpgoebaaW.PrintWords Go.Proofs.YtlpamhffpgoebaaW.PrintLast Go.Proofs.YtlpamhffpgoebaaW.PrintMore
attribute [local go_sem] max2_int min2_int max_two min_two max_three min_three max_four min_four   -- for this text's walks alone
set_option linter.unusedVariables false
set_option linter.unusedSimpArgs false

/-! ### turnstilelaw1_DigitsMeasured: function 7 -/
mutual
def turnstilelaw1_DigitsMeasured.l0 : Nat → Int → ByteArray → Int → Int → Int → Int → Option (Bool)
  | 0, _, _, _, _, _, _ => none
  | k + 1, x2, x3, x9, x10, x11, x12 => if x12 < x10 then (turnstilelaw1_DigitsMeasured.l0 k x2 x3 x9 x10 (wrap64 (x11 * 10)) (wrap64 (x12 + 1))) else ((turnstilelaw1_pick.f x2 x11).bind fun t193 => ((digits_Prefix.f k x9 x10 t193).bind fun bt194 => (if bt194.1.size + x3.size ≤ 9223372036854775807 then ((digits_Length.f k x9 x10 (bt194.1 ++ x3)).bind fun bt196 => ((digits_Prefix.f k x9 x10 (wrap64 (x11 + t193))).bind fun bt199 => (if bt194.2 = 0 then (if bt196.2.1 = 0 then (if bt196.1 = t193 then (if bt196.2.2 = (bt194.1.size : Int) then (turnstilelaw1_DigitsMeasured.j1 k x2 x3 x9 x10 x11 t193 (bt199.2 != 13)) else (turnstilelaw1_DigitsMeasured.j1 k x2 x3 x9 x10 x11 t193 true)) else (turnstilelaw1_DigitsMeasured.j1 k x2 x3 x9 x10 x11 t193 true)) else (turnstilelaw1_DigitsMeasured.j1 k x2 x3 x9 x10 x11 t193 true)) else (turnstilelaw1_DigitsMeasured.j1 k x2 x3 x9 x10 x11 t193 true)))) else (none))))
def turnstilelaw1_DigitsMeasured.j1 : Nat → Int → ByteArray → Int → Int → Int → Int → Bool → Option (Bool)
  | 0, _, _, _, _, _, _, _ => none
  | k + 1, x2, x3, x9, x10, x11, x13, x94 => if x94 = true then (some false) else ((turnstilelaw1_pick.f x2 14).bind fun t201 => ((digits_Write.f k x13 (wrap64 ((wrap64 (1 + t201)) + 4))).bind fun bt202 => ((digits_Number.f k bt202.1).bind fun bt204 => (if bt202.2 = 0 then (if bt204.2 = 0 then (turnstilelaw1_DigitsMeasured.j2 k x3 x9 x10 x11 (bt204.1 != x13)) else (turnstilelaw1_DigitsMeasured.j2 k x3 x9 x10 x11 true)) else (turnstilelaw1_DigitsMeasured.j2 k x3 x9 x10 x11 true)))))
def turnstilelaw1_DigitsMeasured.j2 : Nat → ByteArray → Int → Int → Int → Bool → Option (Bool)
  | 0, _, _, _, _, _ => none
  | k + 1, x3, x9, x10, x11, x119 => if x119 = true then (some false) else ((digits_Length.f k x9 x10 x3).bind fun bt206 => (if bt206.2.1 = 0 then ((digits_Prefix.f k x9 x10 bt206.1).bind fun bt209 => (if bt206.1 ≥ 0 then (if bt206.1 < x11 then (if bt209.2 = 0 then (if bt206.2.2 = (bt209.1.size : Int) then (if bt206.2.2 ≤ (x3.size : Int) then (if 0 ≤ bt206.2.2 then (some (bt209.1.toList == (x3.extract 0 (bt206.2.2 : Int).toNat).toList)) else (none)) else (some false)) else (some false)) else (some false)) else (some false)) else (some false))) else (some (bt206.1 == 0))))
end
def turnstilelaw1_DigitsMeasured.f (k : Nat) (a0 : Int) (a1 : Int) (a2 : Int) (a3 : ByteArray) : Option (Bool) := (some (([1, 2, 4, 5] : List Int) : List Int)).bind fun y187 => ((turnstilelaw1_pick.f a0 4).bind fun t190 => (if 0 ≤ t190 then (if t190 < (y187.length : Int) then ((turnstilelaw1_pick.f a1 4).bind fun t192 => (turnstilelaw1_DigitsMeasured.l0 k a2 a3 (rd y187 t190) (wrap64 (1 + t192)) 1 0)) else (none)) else (none)))
theorem turnstilelaw1_DigitsMeasured.mono_l : ∀ k, (∀ y0 y1 y2 y3 y4 y5, LeO (turnstilelaw1_DigitsMeasured.l0 k y0 y1 y2 y3 y4 y5) (turnstilelaw1_DigitsMeasured.l0 (k + 1) y0 y1 y2 y3 y4 y5)) ∧ (∀ y0 y1 y2 y3 y4 y5 y6, LeO (turnstilelaw1_DigitsMeasured.j1 k y0 y1 y2 y3 y4 y5 y6) (turnstilelaw1_DigitsMeasured.j1 (k + 1) y0 y1 y2 y3 y4 y5 y6)) ∧ (∀ y0 y1 y2 y3 y4, LeO (turnstilelaw1_DigitsMeasured.j2 k y0 y1 y2 y3 y4) (turnstilelaw1_DigitsMeasured.j2 (k + 1) y0 y1 y2 y3 y4))
  | 0 => ⟨fun _ _ _ _ _ _ r h => by simp [turnstilelaw1_DigitsMeasured.l0] at h, fun _ _ _ _ _ _ _ r h => by simp [turnstilelaw1_DigitsMeasured.j1] at h, fun _ _ _ _ _ r h => by simp [turnstilelaw1_DigitsMeasured.j2] at h⟩
  | k + 1 => by
    obtain ⟨ih0, ih1, ih2⟩ := turnstilelaw1_DigitsMeasured.mono_l k
    refine ⟨?_, ?_, ?_⟩
    · intro y0 y1 y2 y3 y4 y5
      unfold turnstilelaw1_DigitsMeasured.l0
      repeat' first
      | (with_reducible exact ih0 _ _ _ _ _ _)
      | (with_reducible exact ih1 _ _ _ _ _ _ _)
      | (with_reducible exact ih2 _ _ _ _ _)
      | (with_reducible exact digits_Length.mono _ _ _ _)
      | (with_reducible exact digits_Number.mono _ _)
      | (with_reducible exact digits_Prefix.mono _ _ _ _)
      | (with_reducible exact digits_Write.mono _ _ _)
      | (with_reducible exact LeO.refl _)
      | (with_reducible exact LeO.none _)
      | (with_reducible refine LeO.ite ?_ ?_)
      | (with_reducible refine LeO.bind ?_ (fun _ => ?_))
      | exact ih0 _ _ _ _ _ _
      | exact ih1 _ _ _ _ _ _ _
      | exact ih2 _ _ _ _ _
      | exact digits_Length.mono _ _ _ _
      | exact digits_Number.mono _ _
      | exact digits_Prefix.mono _ _ _ _
      | exact digits_Write.mono _ _ _
      | exact LeO.none _
      | refine LeO.ite ?_ ?_
      | refine LeO.bind ?_ (fun _ => ?_)
    · intro y0 y1 y2 y3 y4 y5 y6
      unfold turnstilelaw1_DigitsMeasured.j1
      repeat' first
      | (with_reducible exact ih0 _ _ _ _ _ _)
      | (with_reducible exact ih1 _ _ _ _ _ _ _)
      | (with_reducible exact ih2 _ _ _ _ _)
      | (with_reducible exact digits_Length.mono _ _ _ _)
      | (with_reducible exact digits_Number.mono _ _)
      | (with_reducible exact digits_Prefix.mono _ _ _ _)
      | (with_reducible exact digits_Write.mono _ _ _)
      | (with_reducible exact LeO.refl _)
      | (with_reducible exact LeO.none _)
      | (with_reducible refine LeO.ite ?_ ?_)
      | (with_reducible refine LeO.bind ?_ (fun _ => ?_))
      | exact ih0 _ _ _ _ _ _
      | exact ih1 _ _ _ _ _ _ _
      | exact ih2 _ _ _ _ _
      | exact digits_Length.mono _ _ _ _
      | exact digits_Number.mono _ _
      | exact digits_Prefix.mono _ _ _ _
      | exact digits_Write.mono _ _ _
      | exact LeO.none _
      | refine LeO.ite ?_ ?_
      | refine LeO.bind ?_ (fun _ => ?_)
    · intro y0 y1 y2 y3 y4
      unfold turnstilelaw1_DigitsMeasured.j2
      repeat' first
      | (with_reducible exact ih0 _ _ _ _ _ _)
      | (with_reducible exact ih1 _ _ _ _ _ _ _)
      | (with_reducible exact ih2 _ _ _ _ _)
      | (with_reducible exact digits_Length.mono _ _ _ _)
      | (with_reducible exact digits_Number.mono _ _)
      | (with_reducible exact digits_Prefix.mono _ _ _ _)
      | (with_reducible exact digits_Write.mono _ _ _)
      | (with_reducible exact LeO.refl _)
      | (with_reducible exact LeO.none _)
      | (with_reducible refine LeO.ite ?_ ?_)
      | (with_reducible refine LeO.bind ?_ (fun _ => ?_))
      | exact ih0 _ _ _ _ _ _
      | exact ih1 _ _ _ _ _ _ _
      | exact ih2 _ _ _ _ _
      | exact digits_Length.mono _ _ _ _
      | exact digits_Number.mono _ _
      | exact digits_Prefix.mono _ _ _ _
      | exact digits_Write.mono _ _ _
      | exact LeO.none _
      | refine LeO.ite ?_ ?_
      | refine LeO.bind ?_ (fun _ => ?_)
theorem turnstilelaw1_DigitsMeasured.mono : ∀ a0 a1 a2 a3 k, LeO (turnstilelaw1_DigitsMeasured.f k a0 a1 a2 a3) (turnstilelaw1_DigitsMeasured.f (k + 1) a0 a1 a2 a3) := by
  intro a0 a1 a2 a3 k
  obtain ⟨ih0, ih1, ih2⟩ := turnstilelaw1_DigitsMeasured.mono_l k
  unfold turnstilelaw1_DigitsMeasured.f
  repeat' first
      | (with_reducible exact ih0 _ _ _ _ _ _)
      | (with_reducible exact ih1 _ _ _ _ _ _ _)
      | (with_reducible exact ih2 _ _ _ _ _)
      | (with_reducible exact digits_Length.mono _ _ _ _)
      | (with_reducible exact digits_Number.mono _ _)
      | (with_reducible exact digits_Prefix.mono _ _ _ _)
      | (with_reducible exact digits_Write.mono _ _ _)
      | (with_reducible exact LeO.refl _)
      | (with_reducible exact LeO.none _)
      | (with_reducible refine LeO.ite ?_ ?_)
      | (with_reducible refine LeO.bind ?_ (fun _ => ?_))
      | exact ih0 _ _ _ _ _ _
      | exact ih1 _ _ _ _ _ _ _
      | exact ih2 _ _ _ _ _
      | exact digits_Length.mono _ _ _ _
      | exact digits_Number.mono _ _
      | exact digits_Prefix.mono _ _ _ _
      | exact digits_Write.mono _ _ _
      | exact LeO.none _
      | refine LeO.ite ?_ ?_
      | refine LeO.bind ?_ (fun _ => ?_)
set_option maxHeartbeats 8000000 in
set_option maxRecDepth 100000 in
theorem turnstilelaw1_DigitsMeasured.calls (k : Nat) (a0 : Int) (a1 : Int) (a2 : Int) (a3 : ByteArray) (r : Bool) (w : World) (h : turnstilelaw1_DigitsMeasured.f k a0 a1 a2 a3 = some r) :
    Calls Try.prog 7 #[.int .i64 a0, .int .i64 a1, .int .i64 a2, .string a3] w fun e w' => e = .returned (.bool r) ∧ Below w.heap.size w w' := by
  have HB := Aside0.mk (Below.refl w.heap.size w)
  have H : ((some (([1, 2, 4, 5] : List Int) : List Int)).bind fun y187 => ((turnstilelaw1_pick.f a0 4).bind fun t190 => (if 0 ≤ t190 then (if t190 < (y187.length : Int) then ((turnstilelaw1_pick.f a1 4).bind fun t192 => (turnstilelaw1_DigitsMeasured.l0 k a2 a3 (rd y187 t190) (wrap64 (1 + t192)) 1 0)) else (none)) else (none)))) = some r := h
  clear h
  obtain ⟨y187, hy187⟩ : ∃ y_ : List Int, y_ = (([1, 2, 4, 5] : List Int)) := ⟨_, rfl⟩
  replace H : ((turnstilelaw1_pick.f a0 4).bind fun t190 => (if 0 ≤ t190 then (if t190 < (y187.length : Int) then ((turnstilelaw1_pick.f a1 4).bind fun t192 => (turnstilelaw1_DigitsMeasured.l0 k a2 a3 (rd y187 t190) (wrap64 (1 + t192)) 1 0)) else (none)) else (none))) = some r := by first | (rw [hy187]; with_reducible exact H) | (have H2_ := (Option.bind_some _ _).symm.trans H; rw [hy187]; with_reducible exact H2_) | (have H2_ := (Option.bind_some _ _).symm.trans H; with_reducible exact H2_) | with_reducible exact H | (rw [hy187]; exact H) | exact H
  have Ny187 := Aside0.mk hy187
  clear hy187
  replace H := Option.bind_eq_some_iff.mp H
  obtain ⟨t190, A50, H⟩ := H
  replace H : (if 0 ≤ t190 then (if t190 < (y187.length : Int) then ((turnstilelaw1_pick.f a1 4).bind fun t192 => (turnstilelaw1_DigitsMeasured.l0 k a2 a3 (rd y187 t190) (wrap64 (1 + t192)) 1 0)) else (none)) else (none)) = some r := H
  have A5 := Aside0.mk A50
  clear A50
  by_cases c6 : 0 ≤ t190
  · rw [if_pos c6] at H
    have c6b0 : decide (0 ≤ t190) = true := decide_eq_true c6
    clear c6
    by_cases c7 : t190 < (y187.length : Int)
    · rw [if_pos c7] at H
      have c7b0 : decide (t190 < (y187.length : Int)) = true := decide_eq_true c7
      clear c7
      replace H := Option.bind_eq_some_iff.mp H
      obtain ⟨t192, A80, H⟩ := H
      replace H : (turnstilelaw1_DigitsMeasured.l0 k a2 a3 (rd y187 t190) (wrap64 (1 + t192)) 1 0) = some r := H
      have A8 := Aside0.mk A80
      clear A80
      have H' := Aside0.mk H
      clear H
      go_enter Try.func7, Try.ntmps7
      go_wp2_with (first | ((with_reducible refine gate_dst (N := 30) rfl ?_); (try (refine gate_guard (by rfl) ?_; dsimp only)); refine Kd.R_lit (Kd.int .i64) _ 3 ?hg (N := 30) ?hd (xs := ([1, 2, 4, 5] : List Int)) (inner := [.int .i64 1, .int .i64 2, .int .i64 4, .int .i64 5]) (ok := fun _ => True) (okp := fun _ => True) ?hr ?hp (fun _ hk => hk) trivial (Below.refl _ _) (Nat.le_refl _) (by simp) ?_; (case hd => rfl); (case hg => rfl); (case hr => first | (go_simp; done) | (go_simp; rfl)); (case hp => exact (Reps.one (show Kd.M (Kd.int .i64) _ _ _ 1 [.int .i64 1] from rfl) (Reps.one (show Kd.M (Kd.int .i64) _ _ _ 2 [.int .i64 2] from rfl) (Reps.one (show Kd.M (Kd.int .i64) _ _ _ 4 [.int .i64 4] from rfl) (Reps.one (show Kd.M (Kd.int .i64) _ _ _ 5 [.int .i64 5] from rfl) (Reps.none _ _)))))); intro v188 w9 ho10 hb hg_ hnew_; clear hg_ hnew_; (first | rw [← Ny187.out] at ho10 | (simp only [Int.reduceToNat] at ho10; rw [← Ny187.out] at ho10)); have n0_ := Aside0.mk (Kd.R_lower ho10 (below_size (by repeat (first | (with_reducible first | exact HB.out | apply below_alloc | apply pw_below_drewN | apply below_drew1) | exact HB.out)))); have n1_ := Aside0.mk (below_step (by repeat (first | (with_reducible first | exact HB.out | apply below_alloc | apply pw_below_drewN | apply below_drew1) | exact HB.out)) hb); clear HB; have HO189 := n0_; have HB := n1_; clear n0_ n1_; clear hb ho10) | ((with_reducible refine gate_callee (f := 19) rfl ?_); refine goesL_ (some 32) rfl rfl Try.func19 (by kernel_rfl) rfl #[.int .i64 a0, .int .i64 4] rfl (by (try simp only [List.map_toArray, List.map_cons, List.map_nil]); first | done | rfl | (simp only [List.length_drop, List.length_take]; rfl)) ?_; (with_reducible refine (turnstilelaw1_pick.calls a0 4 t190 _ A5.out).mono ?_); rintro e w' ⟨rfl, ⟨nd, rfl⟩⟩; refine ⟨_, rfl, ?_⟩; obtain ⟨Ao11, co11, eo11⟩ := Kd.R_slice HO189.out; subst eo11; have p191 : 0 ≤ (t190 : Int) := of_decide_eq_true (by first | (with_reducible assumption) | assumption); have q191 : t190 < (y187.length : Int) := of_decide_eq_true (by first | (with_reducible assumption) | assumption); obtain ⟨ad191, e191, hx191_0⟩ := Kd.at_int (Kd.R_reads' HO189.out).2.2 t190 p191 q191; cases e191; replace p191 := eq_true p191; replace q191 := eq_true q191) | ((with_reducible refine gate_callee (f := 19) rfl ?_); refine goesL_ (some 36) rfl rfl Try.func19 (by kernel_rfl) rfl #[.int .i64 a1, .int .i64 4] rfl (by (try simp only [List.map_toArray, List.map_cons, List.map_nil]); first | done | rfl | (simp only [List.length_drop, List.length_take]; rfl)) ?_; (with_reducible refine (turnstilelaw1_pick.calls a1 4 t192 _ A8.out).mono ?_); rintro e w' ⟨rfl, ⟨nd, rfl⟩⟩; refine ⟨_, rfl, ?_⟩))
      go_loopg [11, 12] k (fun kq v11 v12 w' => ∃ (x11_1 : Int) (x12_1 : Int), v11 = .int .i64 x11_1 ∧ v12 = .int .i64 x12_1 ∧ Aside0 (turnstilelaw1_DigitsMeasured.l0 kq a2 a3 (rd y187 t190) (wrap64 (1 + t192)) x11_1 x12_1 = some r) ∧ Aside0 (kq ≤ k) ∧ Aside0 (Below w.heap.size w w'))
      case atStart => exact ⟨(1), (0), (by first | rfl | (simp; done) | (simp [*]; done)), (by first | rfl | (simp; done) | (simp [*]; done)), H', ⟨Nat.le_refl _⟩, ⟨by repeat (first | (with_reducible first | exact HB.out | apply below_alloc | apply pw_below_drewN | apply below_drew1) | exact HB.out)⟩⟩
      case round =>
        clear H'
        try clear c1
        try clear p1
        try clear q1
        try clear hx1
        try clear p2
        try clear c6
        try clear c6b0
        try clear p6
        try clear c7
        try clear c7b0
        try clear hx191_0
        try clear p191
        try clear q191
        obtain ⟨x11_1, x12_1, rfl, rfl, HA, HK1, HB⟩ := hrel
        cases gk with
        | zero => exact absurd HA.out (by simp [turnstilelaw1_DigitsMeasured.l0])
        | succ k1 =>
          have H := HA.out
          clear HA
          simp only [turnstilelaw1_DigitsMeasured.l0] at H
          by_cases c12 : x12_1 < (wrap64 (1 + t192))
          · rw [if_pos c12] at H
            have c12b0 : decide (x12_1 < (wrap64 (1 + t192))) = true := decide_eq_true c12
            clear c12
            have H' := Aside0.mk H
            clear H
            go_wp2
            go_roundg k1
            case measure => have := HK1.out; omega
            case rel => exact ⟨(wrap64 (x11_1 * 10)), (wrap64 (x12_1 + 1)), (by first | rfl | (simp; done) | (simp [*]; done)), (by first | rfl | (simp; done) | (simp [*]; done)), H', ⟨by have := HK1.out; omega⟩, ⟨by repeat (first | (with_reducible first | exact HB.out | apply below_alloc | apply pw_below_drewN | apply below_drew1) | exact HB.out)⟩⟩
          · rw [if_neg c12] at H
            have c12b0 : decide (x12_1 < (wrap64 (1 + t192))) = false := decide_eq_false c12
            clear c12
            replace H := Option.bind_eq_some_iff.mp H
            obtain ⟨t193, A130, H⟩ := H
            replace H : ((digits_Prefix.f k1 (rd y187 t190) (wrap64 (1 + t192)) t193).bind fun bt194 => (if bt194.1.size + a3.size ≤ 9223372036854775807 then ((digits_Length.f k1 (rd y187 t190) (wrap64 (1 + t192)) (bt194.1 ++ a3)).bind fun bt196 => ((digits_Prefix.f k1 (rd y187 t190) (wrap64 (1 + t192)) (wrap64 (x11_1 + t193))).bind fun bt199 => (if bt194.2 = 0 then (if bt196.2.1 = 0 then (if bt196.1 = t193 then (if bt196.2.2 = (bt194.1.size : Int) then (turnstilelaw1_DigitsMeasured.j1 k1 a2 a3 (rd y187 t190) (wrap64 (1 + t192)) x11_1 t193 (bt199.2 != 13)) else (turnstilelaw1_DigitsMeasured.j1 k1 a2 a3 (rd y187 t190) (wrap64 (1 + t192)) x11_1 t193 true)) else (turnstilelaw1_DigitsMeasured.j1 k1 a2 a3 (rd y187 t190) (wrap64 (1 + t192)) x11_1 t193 true)) else (turnstilelaw1_DigitsMeasured.j1 k1 a2 a3 (rd y187 t190) (wrap64 (1 + t192)) x11_1 t193 true)) else (turnstilelaw1_DigitsMeasured.j1 k1 a2 a3 (rd y187 t190) (wrap64 (1 + t192)) x11_1 t193 true)))) else (none))) = some r := H
            have A13 := Aside0.mk A130
            clear A130
            replace H := Option.bind_eq_some_iff.mp H
            obtain ⟨⟨t194, t195⟩, A140, H⟩ := H
            replace H : (if t194.size + a3.size ≤ 9223372036854775807 then ((digits_Length.f k1 (rd y187 t190) (wrap64 (1 + t192)) (t194 ++ a3)).bind fun bt196 => ((digits_Prefix.f k1 (rd y187 t190) (wrap64 (1 + t192)) (wrap64 (x11_1 + t193))).bind fun bt199 => (if t195 = 0 then (if bt196.2.1 = 0 then (if bt196.1 = t193 then (if bt196.2.2 = (t194.size : Int) then (turnstilelaw1_DigitsMeasured.j1 k1 a2 a3 (rd y187 t190) (wrap64 (1 + t192)) x11_1 t193 (bt199.2 != 13)) else (turnstilelaw1_DigitsMeasured.j1 k1 a2 a3 (rd y187 t190) (wrap64 (1 + t192)) x11_1 t193 true)) else (turnstilelaw1_DigitsMeasured.j1 k1 a2 a3 (rd y187 t190) (wrap64 (1 + t192)) x11_1 t193 true)) else (turnstilelaw1_DigitsMeasured.j1 k1 a2 a3 (rd y187 t190) (wrap64 (1 + t192)) x11_1 t193 true)) else (turnstilelaw1_DigitsMeasured.j1 k1 a2 a3 (rd y187 t190) (wrap64 (1 + t192)) x11_1 t193 true)))) else (none)) = some r := H
            have A14 := Aside0.mk A140
            clear A140
            by_cases c15 : t194.size + a3.size ≤ 9223372036854775807
            · rw [if_pos c15] at H
              have c15b0 := eq_true c15
              have c15b1 : decide (t194.size + a3.size ≤ 9223372036854775807) = true := decide_eq_true c15
              try have c15b2 : (9223372036854775807 < t194.size + a3.size) = False := eq_false (Nat.not_lt.2 c15)
              replace H := Option.bind_eq_some_iff.mp H
              obtain ⟨⟨t196, t197, t198⟩, A160, H⟩ := H
              replace H : ((digits_Prefix.f k1 (rd y187 t190) (wrap64 (1 + t192)) (wrap64 (x11_1 + t193))).bind fun bt199 => (if t195 = 0 then (if t197 = 0 then (if t196 = t193 then (if t198 = (t194.size : Int) then (turnstilelaw1_DigitsMeasured.j1 k1 a2 a3 (rd y187 t190) (wrap64 (1 + t192)) x11_1 t193 (bt199.2 != 13)) else (turnstilelaw1_DigitsMeasured.j1 k1 a2 a3 (rd y187 t190) (wrap64 (1 + t192)) x11_1 t193 true)) else (turnstilelaw1_DigitsMeasured.j1 k1 a2 a3 (rd y187 t190) (wrap64 (1 + t192)) x11_1 t193 true)) else (turnstilelaw1_DigitsMeasured.j1 k1 a2 a3 (rd y187 t190) (wrap64 (1 + t192)) x11_1 t193 true)) else (turnstilelaw1_DigitsMeasured.j1 k1 a2 a3 (rd y187 t190) (wrap64 (1 + t192)) x11_1 t193 true))) = some r := H
              have A16 := Aside0.mk A160
              clear A160
              replace H := Option.bind_eq_some_iff.mp H
              obtain ⟨⟨t199, t200⟩, A170, H⟩ := H
              replace H : (if t195 = 0 then (if t197 = 0 then (if t196 = t193 then (if t198 = (t194.size : Int) then (turnstilelaw1_DigitsMeasured.j1 k1 a2 a3 (rd y187 t190) (wrap64 (1 + t192)) x11_1 t193 (t200 != 13)) else (turnstilelaw1_DigitsMeasured.j1 k1 a2 a3 (rd y187 t190) (wrap64 (1 + t192)) x11_1 t193 true)) else (turnstilelaw1_DigitsMeasured.j1 k1 a2 a3 (rd y187 t190) (wrap64 (1 + t192)) x11_1 t193 true)) else (turnstilelaw1_DigitsMeasured.j1 k1 a2 a3 (rd y187 t190) (wrap64 (1 + t192)) x11_1 t193 true)) else (turnstilelaw1_DigitsMeasured.j1 k1 a2 a3 (rd y187 t190) (wrap64 (1 + t192)) x11_1 t193 true)) = some r := H
              have A17 := Aside0.mk A170
              clear A170
              have HC18 := Aside0.mk H
              clear H
              go_upto_region 12 with (first | ((with_reducible refine gate_callee (f := 19) rfl ?_); refine goesL_ (some 47) rfl rfl Try.func19 (by kernel_rfl) rfl #[.int .i64 a2, .int .i64 x11_1] rfl (by (try simp only [List.map_toArray, List.map_cons, List.map_nil]); first | done | rfl | (simp only [List.length_drop, List.length_take]; rfl)) ?_; (with_reducible refine (turnstilelaw1_pick.calls a2 x11_1 t193 _ A13.out).mono ?_); rintro e w' ⟨rfl, ⟨nd, rfl⟩⟩; refine ⟨_, rfl, ?_⟩) | ((with_reducible refine gate_callee (f := 26) rfl ?_); refine goesL_ (some 52) rfl rfl Try.func26 (by kernel_rfl) rfl #[.int .i64 (rd y187 t190), .int .i64 (wrap64 (1 + t192)), .int .i64 t193] rfl (by (try simp only [List.map_toArray, List.map_cons, List.map_nil]); first | done | rfl | (simp only [List.length_drop, List.length_take]; rfl)) ?_; (with_reducible refine (digits_Prefix.calls k1 (rd y187 t190) (wrap64 (1 + t192)) t193 t194 t195 _ A14.out).mono ?_); rintro e w19 ⟨rfl, hb⟩; refine ⟨_, rfl, ?_⟩; have n0_ := Aside0.mk (below_step (by repeat (first | (with_reducible first | exact HB.out | apply below_alloc | apply pw_below_drewN | apply below_drew1) | exact HB.out)) hb); clear HB; have HB := n0_; clear n0_; (try clear hb); (try clear hb2); (try clear hk); (try clear hi)) | ((with_reducible refine gate_callee (f := 27) rfl ?_); refine goesL_ (some 61) rfl rfl Try.func27 (by kernel_rfl) rfl #[.int .i64 (rd y187 t190), .int .i64 (wrap64 (1 + t192)), .string (t194 ++ a3)] rfl (by (try simp only [List.map_toArray, List.map_cons, List.map_nil]); first | done | rfl | (simp only [List.length_drop, List.length_take]; rfl)) ?_; (with_reducible refine (digits_Length.calls k1 (rd y187 t190) (wrap64 (1 + t192)) (t194 ++ a3) t196 t197 t198 _ A16.out).mono ?_); rintro e w20 ⟨rfl, hb⟩; refine ⟨_, rfl, ?_⟩; have n0_ := Aside0.mk (below_step (by repeat (first | (with_reducible first | exact HB.out | apply below_alloc | apply pw_below_drewN | apply below_drew1) | exact HB.out)) hb); clear HB; have HB := n0_; clear n0_; (try clear hb); (try clear hb2); (try clear hk); (try clear hi)) | ((with_reducible refine gate_callee (f := 26) rfl ?_); refine goesL_ (some 71) rfl rfl Try.func26 (by kernel_rfl) rfl #[.int .i64 (rd y187 t190), .int .i64 (wrap64 (1 + t192)), .int .i64 (wrap64 (x11_1 + t193))] rfl (by (try simp only [List.map_toArray, List.map_cons, List.map_nil]); first | done | rfl | (simp only [List.length_drop, List.length_take]; rfl)) ?_; (with_reducible refine (digits_Prefix.calls k1 (rd y187 t190) (wrap64 (1 + t192)) (wrap64 (x11_1 + t193)) t199 t200 _ A17.out).mono ?_); rintro e w21 ⟨rfl, hb⟩; refine ⟨_, rfl, ?_⟩; have n0_ := Aside0.mk (below_step (by repeat (first | (with_reducible first | exact HB.out | apply below_alloc | apply pw_below_drewN | apply below_drew1) | exact HB.out)) hb); clear HB; have HB := n0_; clear n0_; (try clear hb); (try clear hb2); (try clear hk); (try clear hi)))
              (try simp only [Act.put, List.setIfInBounds_toArray, List.set_cons_zero, List.set_cons_succ])
              go_cut [94] (fun v94 wc => ∃ (kq : Nat) (x94_17 : Bool), v94 = .bool x94_17 ∧ Aside0 (turnstilelaw1_DigitsMeasured.j1 kq a2 a3 (rd y187 t190) (wrap64 (1 + t192)) x11_1 t193 x94_17 = some r) ∧ Aside0 (kq ≤ k1) ∧ Aside0 (Below w.heap.size w wc))
              case first =>
                have H := HC18.out
                clear HC18
                by_cases c22 : t195 = 0
                · rw [if_pos c22] at H
                  have c22b0 : (t195 == 0) = true := beq_iff_eq.mpr c22
                  have c22b1 : (t195 != 0) = false := bne_eq_false_iff_eq.mpr c22
                  clear c22
                  (first | rw [c22b0] | (simp only [i64_w, i32_w]; rw [c22b0]) | skip)
                  by_cases c23 : t197 = 0
                  · rw [if_pos c23] at H
                    have c23b0 : (t197 == 0) = true := beq_iff_eq.mpr c23
                    have c23b1 : (t197 != 0) = false := bne_eq_false_iff_eq.mpr c23
                    clear c23
                    by_cases c24 : t196 = t193
                    · rw [if_pos c24] at H
                      have c24b0 : (t196 == t193) = true := beq_iff_eq.mpr c24
                      have c24b1 : (t196 != t193) = false := bne_eq_false_iff_eq.mpr c24
                      clear c24
                      by_cases c25 : t198 = (t194.size : Int)
                      · rw [if_pos c25] at H
                        have c25b0 : (t198 == (t194.size : Int)) = true := beq_iff_eq.mpr c25
                        have c25b1 : (t198 != (t194.size : Int)) = false := bne_eq_false_iff_eq.mpr c25
                        clear c25
                        have H' := Aside0.mk H
                        clear H
                        go_wp2
                        go_meet
                        case rel => exact ⟨_, ((t200 != 13)), (by first | rfl | (simp; done) | (simp [*]; done)), H', ⟨by have := HK1.out; first | omega | exact Nat.le_refl _⟩, ⟨by repeat (first | (with_reducible first | exact HB.out | apply below_alloc | apply pw_below_drewN | apply below_drew1) | exact HB.out)⟩⟩
                      · rw [if_neg c25] at H
                        have c25b0 : (t198 == (t194.size : Int)) = false := beq_eq_false_iff_ne.mpr c25
                        have c25b1 : (t198 != (t194.size : Int)) = true := bne_iff_ne.mpr c25
                        have H' := Aside0.mk H
                        clear H
                        go_wp2
                        go_meet
                        case rel => exact ⟨_, (true), (by first | rfl | (simp; done) | (simp [*]; done)), H', ⟨by have := HK1.out; first | omega | exact Nat.le_refl _⟩, ⟨by repeat (first | (with_reducible first | exact HB.out | apply below_alloc | apply pw_below_drewN | apply below_drew1) | exact HB.out)⟩⟩
                    · rw [if_neg c24] at H
                      have c24b0 : (t196 == t193) = false := beq_eq_false_iff_ne.mpr c24
                      have c24b1 : (t196 != t193) = true := bne_iff_ne.mpr c24
                      have H' := Aside0.mk H
                      clear H
                      go_wp2
                      go_meet
                      case rel => exact ⟨_, (true), (by first | rfl | (simp; done) | (simp [*]; done)), H', ⟨by have := HK1.out; first | omega | exact Nat.le_refl _⟩, ⟨by repeat (first | (with_reducible first | exact HB.out | apply below_alloc | apply pw_below_drewN | apply below_drew1) | exact HB.out)⟩⟩
                  · rw [if_neg c23] at H
                    have c23b0 : (t197 == 0) = false := beq_eq_false_iff_ne.mpr c23
                    have c23b1 : (t197 != 0) = true := bne_iff_ne.mpr c23
                    have H' := Aside0.mk H
                    clear H
                    go_wp2
                    go_meet
                    case rel => exact ⟨_, (true), (by first | rfl | (simp; done) | (simp [*]; done)), H', ⟨by have := HK1.out; first | omega | exact Nat.le_refl _⟩, ⟨by repeat (first | (with_reducible first | exact HB.out | apply below_alloc | apply pw_below_drewN | apply below_drew1) | exact HB.out)⟩⟩
                · rw [if_neg c22] at H
                  have c22b0 : (t195 == 0) = false := beq_eq_false_iff_ne.mpr c22
                  have c22b1 : (t195 != 0) = true := bne_iff_ne.mpr c22
                  (first | rw [c22b0] | (simp only [i64_w, i32_w]; rw [c22b0]) | skip)
                  have H' := Aside0.mk H
                  clear H
                  go_wp2
                  go_meet
                  case rel => exact ⟨_, (true), (by first | rfl | (simp; done) | (simp [*]; done)), H', ⟨by have := HK1.out; first | omega | exact Nat.le_refl _⟩, ⟨by repeat (first | (with_reducible first | exact HB.out | apply below_alloc | apply pw_below_drewN | apply below_drew1) | exact HB.out)⟩⟩
              case rest =>
                clear HC18
                try clear c1
                try clear p1
                try clear q1
                try clear hx1
                try clear c2
                try clear p2
                try clear c6
                try clear c6b0
                try clear p6
                try clear c7
                try clear c7b0
                try clear c12
                try clear c12b0
                try clear c15
                try clear c15b0
                try clear c15b1
                try clear c15b2
                try clear c19
                try clear p19
                try clear q19
                try clear hx19
                try clear c22
                try clear c22b0
                try clear c22b1
                try clear c23
                try clear c23b0
                try clear c23b1
                try clear c24
                try clear c24b0
                try clear c24b1
                try clear c25
                try clear c25b0
                try clear c25b1
                try clear hx191_0
                try clear p1
                try clear p191
                try clear p2
                try clear p6
                try clear q1
                try clear q191
                obtain ⟨kq, x94_17, rfl, HA, HJ17, HB⟩ := hcut
                cases kq with
                | zero => exact absurd HA.out (by simp [turnstilelaw1_DigitsMeasured.j1])
                | succ kj17 =>
                  have H := HA.out
                  clear HA
                  simp only [turnstilelaw1_DigitsMeasured.j1] at H
                  by_cases c26 : x94_17 = true
                  · subst c26
                    have H1 : (some false) = some r := by rw [if_pos rfl] at H; exact H
                    clear H
                    have H := H1
                    clear H1
                    obtain rfl := Option.some.inj H
                    go_wp2
                    go_ret
                    exact ⟨by first | rfl | (simp [errW_none, errW_some] <;> rfl) | (simp [*, errW_none, errW_some] <;> rfl), by repeat (first | (with_reducible first | exact HB.out | apply below_alloc | apply pw_below_drewN | apply below_drew1) | exact HB.out)⟩
                  · replace c26 := Bool.eq_false_iff.mpr c26
                    subst c26
                    have H1 : ((turnstilelaw1_pick.f a2 14).bind fun t201 => ((digits_Write.f kj17 t193 (wrap64 ((wrap64 (1 + t201)) + 4))).bind fun bt202 => ((digits_Number.f kj17 bt202.1).bind fun bt204 => (if bt202.2 = 0 then (if bt204.2 = 0 then (turnstilelaw1_DigitsMeasured.j2 kj17 a3 (rd y187 t190) (wrap64 (1 + t192)) x11_1 (bt204.1 != t193)) else (turnstilelaw1_DigitsMeasured.j2 kj17 a3 (rd y187 t190) (wrap64 (1 + t192)) x11_1 true)) else (turnstilelaw1_DigitsMeasured.j2 kj17 a3 (rd y187 t190) (wrap64 (1 + t192)) x11_1 true))))) = some r := by rw [if_neg (show ¬ (false = true) by decide)] at H; exact H
                    clear H
                    have H := H1
                    clear H1
                    replace H := Option.bind_eq_some_iff.mp H
                    obtain ⟨t201, A270, H⟩ := H
                    replace H : ((digits_Write.f kj17 t193 (wrap64 ((wrap64 (1 + t201)) + 4))).bind fun bt202 => ((digits_Number.f kj17 bt202.1).bind fun bt204 => (if bt202.2 = 0 then (if bt204.2 = 0 then (turnstilelaw1_DigitsMeasured.j2 kj17 a3 (rd y187 t190) (wrap64 (1 + t192)) x11_1 (bt204.1 != t193)) else (turnstilelaw1_DigitsMeasured.j2 kj17 a3 (rd y187 t190) (wrap64 (1 + t192)) x11_1 true)) else (turnstilelaw1_DigitsMeasured.j2 kj17 a3 (rd y187 t190) (wrap64 (1 + t192)) x11_1 true)))) = some r := H
                    have A27 := Aside0.mk A270
                    clear A270
                    replace H := Option.bind_eq_some_iff.mp H
                    obtain ⟨⟨t202, t203⟩, A280, H⟩ := H
                    replace H : ((digits_Number.f kj17 t202).bind fun bt204 => (if t203 = 0 then (if bt204.2 = 0 then (turnstilelaw1_DigitsMeasured.j2 kj17 a3 (rd y187 t190) (wrap64 (1 + t192)) x11_1 (bt204.1 != t193)) else (turnstilelaw1_DigitsMeasured.j2 kj17 a3 (rd y187 t190) (wrap64 (1 + t192)) x11_1 true)) else (turnstilelaw1_DigitsMeasured.j2 kj17 a3 (rd y187 t190) (wrap64 (1 + t192)) x11_1 true))) = some r := H
                    have A28 := Aside0.mk A280
                    clear A280
                    replace H := Option.bind_eq_some_iff.mp H
                    obtain ⟨⟨t204, t205⟩, A290, H⟩ := H
                    replace H : (if t203 = 0 then (if t205 = 0 then (turnstilelaw1_DigitsMeasured.j2 kj17 a3 (rd y187 t190) (wrap64 (1 + t192)) x11_1 (t204 != t193)) else (turnstilelaw1_DigitsMeasured.j2 kj17 a3 (rd y187 t190) (wrap64 (1 + t192)) x11_1 true)) else (turnstilelaw1_DigitsMeasured.j2 kj17 a3 (rd y187 t190) (wrap64 (1 + t192)) x11_1 true)) = some r := H
                    have A29 := Aside0.mk A290
                    clear A290
                    have HC30 := Aside0.mk H
                    clear H
                    go_upto_region 16 with (first | ((with_reducible refine gate_callee (f := 19) rfl ?_); refine goesL_ (some 98) rfl rfl Try.func19 (by kernel_rfl) rfl #[.int .i64 a2, .int .i64 14] rfl (by (try simp only [List.map_toArray, List.map_cons, List.map_nil]); first | done | rfl | (simp only [List.length_drop, List.length_take]; rfl)) ?_; (with_reducible refine (turnstilelaw1_pick.calls a2 14 t201 _ A27.out).mono ?_); rintro e w' ⟨rfl, ⟨nd, rfl⟩⟩; refine ⟨_, rfl, ?_⟩) | ((with_reducible refine gate_callee (f := 24) rfl ?_); refine goesL_ (some 101) rfl rfl Try.func24 (by kernel_rfl) rfl #[.int .i64 t193, .int .i64 (wrap64 ((wrap64 (1 + t201)) + 4))] rfl (by (try simp only [List.map_toArray, List.map_cons, List.map_nil]); first | done | rfl | (simp only [List.length_drop, List.length_take]; rfl)) ?_; (with_reducible refine (digits_Write.calls kj17 t193 (wrap64 ((wrap64 (1 + t201)) + 4)) t202 t203 _ A28.out).mono ?_); rintro e w31 ⟨rfl, hb⟩; refine ⟨_, rfl, ?_⟩; have n0_ := Aside0.mk (below_step (by repeat (first | (with_reducible first | exact HB.out | apply below_alloc | apply pw_below_drewN | apply below_drew1) | exact HB.out)) hb); clear HB; have HB := n0_; clear n0_; (try clear hb); (try clear hb2); (try clear hk); (try clear hi)) | ((with_reducible refine gate_callee (f := 22) rfl ?_); refine goesL_ (some 106) rfl rfl Try.func22 (by kernel_rfl) rfl #[.string t202] rfl (by (try simp only [List.map_toArray, List.map_cons, List.map_nil]); first | done | rfl | (simp only [List.length_drop, List.length_take]; rfl)) ?_; (with_reducible refine (digits_Number.calls kj17 t202 t204 t205 _ A29.out).mono ?_); rintro e w' ⟨rfl, ⟨nd, rfl⟩⟩; refine ⟨_, rfl, ?_⟩))
                    (try simp only [Act.put, List.setIfInBounds_toArray, List.set_cons_zero, List.set_cons_succ])
                    go_cut [119] (fun v119 wc => ∃ (kq : Nat) (x119_29 : Bool), v119 = .bool x119_29 ∧ Aside0 (turnstilelaw1_DigitsMeasured.j2 kq a3 (rd y187 t190) (wrap64 (1 + t192)) x11_1 x119_29 = some r) ∧ Aside0 (kq ≤ kj17) ∧ Aside0 (Below w.heap.size w wc))
                    case first =>
                      have H := HC30.out
                      clear HC30
                      by_cases c32 : t203 = 0
                      · rw [if_pos c32] at H
                        have c32b0 : (t203 == 0) = true := beq_iff_eq.mpr c32
                        have c32b1 : (t203 != 0) = false := bne_eq_false_iff_eq.mpr c32
                        clear c32
                        (first | rw [c32b0] | (simp only [i64_w, i32_w]; rw [c32b0]) | skip)
                        by_cases c33 : t205 = 0
                        · rw [if_pos c33] at H
                          have c33b0 : (t205 == 0) = true := beq_iff_eq.mpr c33
                          have c33b1 : (t205 != 0) = false := bne_eq_false_iff_eq.mpr c33
                          clear c33
                          have H' := Aside0.mk H
                          clear H
                          go_wp2
                          go_meet
                          case rel => exact ⟨_, ((t204 != t193)), (by first | rfl | (simp; done) | (simp [*]; done)), H', ⟨by have := HK1.out; have := HJ17.out; first | omega | exact Nat.le_refl _⟩, ⟨by repeat (first | (with_reducible first | exact HB.out | apply below_alloc | apply pw_below_drewN | apply below_drew1) | exact HB.out)⟩⟩
                        · rw [if_neg c33] at H
                          have c33b0 : (t205 == 0) = false := beq_eq_false_iff_ne.mpr c33
                          have c33b1 : (t205 != 0) = true := bne_iff_ne.mpr c33
                          have H' := Aside0.mk H
                          clear H
                          go_wp2
                          go_meet
                          case rel => exact ⟨_, (true), (by first | rfl | (simp; done) | (simp [*]; done)), H', ⟨by have := HK1.out; have := HJ17.out; first | omega | exact Nat.le_refl _⟩, ⟨by repeat (first | (with_reducible first | exact HB.out | apply below_alloc | apply pw_below_drewN | apply below_drew1) | exact HB.out)⟩⟩
                      · rw [if_neg c32] at H
                        have c32b0 : (t203 == 0) = false := beq_eq_false_iff_ne.mpr c32
                        have c32b1 : (t203 != 0) = true := bne_iff_ne.mpr c32
                        (first | rw [c32b0] | (simp only [i64_w, i32_w]; rw [c32b0]) | skip)
                        have H' := Aside0.mk H
                        clear H
                        go_wp2
                        go_meet
                        case rel => exact ⟨_, (true), (by first | rfl | (simp; done) | (simp [*]; done)), H', ⟨by have := HK1.out; have := HJ17.out; first | omega | exact Nat.le_refl _⟩, ⟨by repeat (first | (with_reducible first | exact HB.out | apply below_alloc | apply pw_below_drewN | apply below_drew1) | exact HB.out)⟩⟩
                    case rest =>
                      clear HC30
                      try clear c1
                      try clear p1
                      try clear q1
                      try clear hx1
                      try clear c2
                      try clear p2
                      try clear c3
                      try clear c6
                      try clear c6b0
                      try clear p6
                      try clear c7
                      try clear c7b0
                      try clear c12
                      try clear c12b0
                      try clear c15
                      try clear c15b0
                      try clear c15b1
                      try clear c15b2
                      try clear c19
                      try clear p19
                      try clear q19
                      try clear hx19
                      try clear c22
                      try clear c22b0
                      try clear c22b1
                      try clear c23
                      try clear c23b0
                      try clear c23b1
                      try clear c24
                      try clear c24b0
                      try clear c24b1
                      try clear c25
                      try clear c25b0
                      try clear c25b1
                      try clear c26
                      try clear c27
                      try clear c32
                      try clear c32b0
                      try clear c32b1
                      try clear c33
                      try clear c33b0
                      try clear c33b1
                      try clear hx191_0
                      try clear p1
                      try clear p19
                      try clear p191
                      try clear p2
                      try clear p6
                      try clear q1
                      try clear q19
                      try clear q191
                      obtain ⟨kq, x119_29, rfl, HA, HJ29, HB⟩ := hcut
                      cases kq with
                      | zero => exact absurd HA.out (by simp [turnstilelaw1_DigitsMeasured.j2])
                      | succ kj29 =>
                        have H := HA.out
                        clear HA
                        simp only [turnstilelaw1_DigitsMeasured.j2] at H
                        by_cases c34 : x119_29 = true
                        · subst c34
                          have H1 : (some false) = some r := by rw [if_pos rfl] at H; exact H
                          clear H
                          have H := H1
                          clear H1
                          obtain rfl := Option.some.inj H
                          go_wp2
                          go_ret
                          exact ⟨by first | rfl | (simp [errW_none, errW_some] <;> rfl) | (simp [*, errW_none, errW_some] <;> rfl), by repeat (first | (with_reducible first | exact HB.out | apply below_alloc | apply pw_below_drewN | apply below_drew1) | exact HB.out)⟩
                        · replace c34 := Bool.eq_false_iff.mpr c34
                          subst c34
                          have H1 : ((digits_Length.f kj29 (rd y187 t190) (wrap64 (1 + t192)) a3).bind fun bt206 => (if bt206.2.1 = 0 then ((digits_Prefix.f kj29 (rd y187 t190) (wrap64 (1 + t192)) bt206.1).bind fun bt209 => (if bt206.1 ≥ 0 then (if bt206.1 < x11_1 then (if bt209.2 = 0 then (if bt206.2.2 = (bt209.1.size : Int) then (if bt206.2.2 ≤ (a3.size : Int) then (if 0 ≤ bt206.2.2 then (some (bt209.1.toList == (a3.extract 0 (bt206.2.2 : Int).toNat).toList)) else (none)) else (some false)) else (some false)) else (some false)) else (some false)) else (some false))) else (some (bt206.1 == 0)))) = some r := by rw [if_neg (show ¬ (false = true) by decide)] at H; exact H
                          clear H
                          have H := H1
                          clear H1
                          replace H := Option.bind_eq_some_iff.mp H
                          obtain ⟨⟨t206, t207, t208⟩, A350, H⟩ := H
                          replace H : (if t207 = 0 then ((digits_Prefix.f kj29 (rd y187 t190) (wrap64 (1 + t192)) t206).bind fun bt209 => (if t206 ≥ 0 then (if t206 < x11_1 then (if bt209.2 = 0 then (if t208 = (bt209.1.size : Int) then (if t208 ≤ (a3.size : Int) then (if 0 ≤ t208 then (some (bt209.1.toList == (a3.extract 0 (t208 : Int).toNat).toList)) else (none)) else (some false)) else (some false)) else (some false)) else (some false)) else (some false))) else (some (t206 == 0))) = some r := H
                          have A35 := Aside0.mk A350
                          clear A350
                          by_cases c36 : t207 = 0
                          · rw [if_pos c36] at H
                            have c36b0 : (t207 == 0) = true := beq_iff_eq.mpr c36
                            have c36b1 : (t207 != 0) = false := bne_eq_false_iff_eq.mpr c36
                            clear c36
                            replace H := Option.bind_eq_some_iff.mp H
                            obtain ⟨⟨t209, t210⟩, A370, H⟩ := H
                            replace H : (if t206 ≥ 0 then (if t206 < x11_1 then (if t210 = 0 then (if t208 = (t209.size : Int) then (if t208 ≤ (a3.size : Int) then (if 0 ≤ t208 then (some (t209.toList == (a3.extract 0 (t208 : Int).toNat).toList)) else (none)) else (some false)) else (some false)) else (some false)) else (some false)) else (some false)) = some r := H
                            have A37 := Aside0.mk A370
                            clear A370
                            by_cases c38 : t206 ≥ 0
                            · rw [if_pos c38] at H
                              have c38b0 : decide (0 ≤ t206) = true := decide_eq_true c38
                              clear c38
                              by_cases c39 : t206 < x11_1
                              · rw [if_pos c39] at H
                                have c39b0 : decide (t206 < x11_1) = true := decide_eq_true c39
                                clear c39
                                by_cases c40 : t210 = 0
                                · rw [if_pos c40] at H
                                  have c40b0 : (t210 == 0) = true := beq_iff_eq.mpr c40
                                  have c40b1 : (t210 != 0) = false := bne_eq_false_iff_eq.mpr c40
                                  clear c40
                                  by_cases c41 : t208 = (t209.size : Int)
                                  · rw [if_pos c41] at H
                                    have c41b0 : (t208 == (t209.size : Int)) = true := beq_iff_eq.mpr c41
                                    have c41b1 : (t208 != (t209.size : Int)) = false := bne_eq_false_iff_eq.mpr c41
                                    clear c41
                                    by_cases c42 : t208 ≤ (a3.size : Int)
                                    · rw [if_pos c42] at H
                                      have c42b0 : decide (t208 ≤ (a3.size : Int)) = true := decide_eq_true c42
                                      clear c42
                                      by_cases c43 : 0 ≤ t208
                                      · rw [if_pos c43] at H
                                        have c43b0 := eq_true c43
                                        have c43b1 : decide (0 ≤ t208) = true := decide_eq_true c43
                                        clear c43
                                        have c44b0 := eq_true (of_decide_eq_true (by first | (with_reducible assumption) | assumption) : t208 ≤ (a3.size : Int))
                                        obtain rfl := Option.some.inj H
                                        go_wp2_with (first | ((with_reducible refine gate_callee (f := 27) rfl ?_); refine goesL_ (some 124) rfl rfl Try.func27 (by kernel_rfl) rfl #[.int .i64 (rd y187 t190), .int .i64 (wrap64 (1 + t192)), .string a3] rfl (by (try simp only [List.map_toArray, List.map_cons, List.map_nil]); first | done | rfl | (simp only [List.length_drop, List.length_take]; rfl)) ?_; (with_reducible refine (digits_Length.calls kj29 (rd y187 t190) (wrap64 (1 + t192)) a3 t206 t207 t208 _ A35.out).mono ?_); rintro e w45 ⟨rfl, hb⟩; refine ⟨_, rfl, ?_⟩; have n0_ := Aside0.mk (below_step (by repeat (first | (with_reducible first | exact HB.out | apply below_alloc | apply pw_below_drewN | apply below_drew1) | exact HB.out)) hb); clear HB; have HB := n0_; clear n0_; (try clear hb); (try clear hb2); (try clear hk); (try clear hi)) | ((with_reducible refine gate_callee (f := 26) rfl ?_); refine goesL_ (some 136) rfl rfl Try.func26 (by kernel_rfl) rfl #[.int .i64 (rd y187 t190), .int .i64 (wrap64 (1 + t192)), .int .i64 t206] rfl (by (try simp only [List.map_toArray, List.map_cons, List.map_nil]); first | done | rfl | (simp only [List.length_drop, List.length_take]; rfl)) ?_; (with_reducible refine (digits_Prefix.calls kj29 (rd y187 t190) (wrap64 (1 + t192)) t206 t209 t210 _ A37.out).mono ?_); rintro e w46 ⟨rfl, hb⟩; refine ⟨_, rfl, ?_⟩; have n0_ := Aside0.mk (below_step (by repeat (first | (with_reducible first | exact HB.out | apply below_alloc | apply pw_below_drewN | apply below_drew1) | exact HB.out)) hb); clear HB; have HB := n0_; clear n0_; (try clear hb); (try clear hb2); (try clear hk); (try clear hi)))
                                        go_ret
                                        exact ⟨by first | rfl | (simp [errW_none, errW_some] <;> rfl) | (simp [*, errW_none, errW_some] <;> rfl), by repeat (first | (with_reducible first | exact HB.out | apply below_alloc | apply pw_below_drewN | apply below_drew1) | exact HB.out)⟩
                                      · rw [if_neg c43] at H
                                        exact absurd H (by simp)
                                    · rw [if_neg c42] at H
                                      have c42b0 : decide (t208 ≤ (a3.size : Int)) = false := decide_eq_false c42
                                      clear c42
                                      obtain rfl := Option.some.inj H
                                      go_wp2_with (first | ((with_reducible refine gate_callee (f := 27) rfl ?_); refine goesL_ (some 124) rfl rfl Try.func27 (by kernel_rfl) rfl #[.int .i64 (rd y187 t190), .int .i64 (wrap64 (1 + t192)), .string a3] rfl (by (try simp only [List.map_toArray, List.map_cons, List.map_nil]); first | done | rfl | (simp only [List.length_drop, List.length_take]; rfl)) ?_; (with_reducible refine (digits_Length.calls kj29 (rd y187 t190) (wrap64 (1 + t192)) a3 t206 t207 t208 _ A35.out).mono ?_); rintro e w47 ⟨rfl, hb⟩; refine ⟨_, rfl, ?_⟩; have n0_ := Aside0.mk (below_step (by repeat (first | (with_reducible first | exact HB.out | apply below_alloc | apply pw_below_drewN | apply below_drew1) | exact HB.out)) hb); clear HB; have HB := n0_; clear n0_; (try clear hb); (try clear hb2); (try clear hk); (try clear hi)) | ((with_reducible refine gate_callee (f := 26) rfl ?_); refine goesL_ (some 136) rfl rfl Try.func26 (by kernel_rfl) rfl #[.int .i64 (rd y187 t190), .int .i64 (wrap64 (1 + t192)), .int .i64 t206] rfl (by (try simp only [List.map_toArray, List.map_cons, List.map_nil]); first | done | rfl | (simp only [List.length_drop, List.length_take]; rfl)) ?_; (with_reducible refine (digits_Prefix.calls kj29 (rd y187 t190) (wrap64 (1 + t192)) t206 t209 t210 _ A37.out).mono ?_); rintro e w48 ⟨rfl, hb⟩; refine ⟨_, rfl, ?_⟩; have n0_ := Aside0.mk (below_step (by repeat (first | (with_reducible first | exact HB.out | apply below_alloc | apply pw_below_drewN | apply below_drew1) | exact HB.out)) hb); clear HB; have HB := n0_; clear n0_; (try clear hb); (try clear hb2); (try clear hk); (try clear hi)))
                                      go_ret
                                      exact ⟨by first | rfl | (simp [errW_none, errW_some] <;> rfl) | (simp [*, errW_none, errW_some] <;> rfl), by repeat (first | (with_reducible first | exact HB.out | apply below_alloc | apply pw_below_drewN | apply below_drew1) | exact HB.out)⟩
                                  · rw [if_neg c41] at H
                                    have c41b0 : (t208 == (t209.size : Int)) = false := beq_eq_false_iff_ne.mpr c41
                                    have c41b1 : (t208 != (t209.size : Int)) = true := bne_iff_ne.mpr c41
                                    obtain rfl := Option.some.inj H
                                    go_wp2_with (first | ((with_reducible refine gate_callee (f := 27) rfl ?_); refine goesL_ (some 124) rfl rfl Try.func27 (by kernel_rfl) rfl #[.int .i64 (rd y187 t190), .int .i64 (wrap64 (1 + t192)), .string a3] rfl (by (try simp only [List.map_toArray, List.map_cons, List.map_nil]); first | done | rfl | (simp only [List.length_drop, List.length_take]; rfl)) ?_; (with_reducible refine (digits_Length.calls kj29 (rd y187 t190) (wrap64 (1 + t192)) a3 t206 t207 t208 _ A35.out).mono ?_); rintro e w49 ⟨rfl, hb⟩; refine ⟨_, rfl, ?_⟩; have n0_ := Aside0.mk (below_step (by repeat (first | (with_reducible first | exact HB.out | apply below_alloc | apply pw_below_drewN | apply below_drew1) | exact HB.out)) hb); clear HB; have HB := n0_; clear n0_; (try clear hb); (try clear hb2); (try clear hk); (try clear hi)) | ((with_reducible refine gate_callee (f := 26) rfl ?_); refine goesL_ (some 136) rfl rfl Try.func26 (by kernel_rfl) rfl #[.int .i64 (rd y187 t190), .int .i64 (wrap64 (1 + t192)), .int .i64 t206] rfl (by (try simp only [List.map_toArray, List.map_cons, List.map_nil]); first | done | rfl | (simp only [List.length_drop, List.length_take]; rfl)) ?_; (with_reducible refine (digits_Prefix.calls kj29 (rd y187 t190) (wrap64 (1 + t192)) t206 t209 t210 _ A37.out).mono ?_); rintro e w50 ⟨rfl, hb⟩; refine ⟨_, rfl, ?_⟩; have n0_ := Aside0.mk (below_step (by repeat (first | (with_reducible first | exact HB.out | apply below_alloc | apply pw_below_drewN | apply below_drew1) | exact HB.out)) hb); clear HB; have HB := n0_; clear n0_; (try clear hb); (try clear hb2); (try clear hk); (try clear hi)))
                                    go_ret
                                    exact ⟨by first | rfl | (simp [errW_none, errW_some] <;> rfl) | (simp [*, errW_none, errW_some] <;> rfl), by repeat (first | (with_reducible first | exact HB.out | apply below_alloc | apply pw_below_drewN | apply below_drew1) | exact HB.out)⟩
                                · rw [if_neg c40] at H
                                  have c40b0 : (t210 == 0) = false := beq_eq_false_iff_ne.mpr c40
                                  have c40b1 : (t210 != 0) = true := bne_iff_ne.mpr c40
                                  obtain rfl := Option.some.inj H
                                  go_wp2_with (first | ((with_reducible refine gate_callee (f := 27) rfl ?_); refine goesL_ (some 124) rfl rfl Try.func27 (by kernel_rfl) rfl #[.int .i64 (rd y187 t190), .int .i64 (wrap64 (1 + t192)), .string a3] rfl (by (try simp only [List.map_toArray, List.map_cons, List.map_nil]); first | done | rfl | (simp only [List.length_drop, List.length_take]; rfl)) ?_; (with_reducible refine (digits_Length.calls kj29 (rd y187 t190) (wrap64 (1 + t192)) a3 t206 t207 t208 _ A35.out).mono ?_); rintro e w51 ⟨rfl, hb⟩; refine ⟨_, rfl, ?_⟩; have n0_ := Aside0.mk (below_step (by repeat (first | (with_reducible first | exact HB.out | apply below_alloc | apply pw_below_drewN | apply below_drew1) | exact HB.out)) hb); clear HB; have HB := n0_; clear n0_; (try clear hb); (try clear hb2); (try clear hk); (try clear hi)) | ((with_reducible refine gate_callee (f := 26) rfl ?_); refine goesL_ (some 136) rfl rfl Try.func26 (by kernel_rfl) rfl #[.int .i64 (rd y187 t190), .int .i64 (wrap64 (1 + t192)), .int .i64 t206] rfl (by (try simp only [List.map_toArray, List.map_cons, List.map_nil]); first | done | rfl | (simp only [List.length_drop, List.length_take]; rfl)) ?_; (with_reducible refine (digits_Prefix.calls kj29 (rd y187 t190) (wrap64 (1 + t192)) t206 t209 t210 _ A37.out).mono ?_); rintro e w52 ⟨rfl, hb⟩; refine ⟨_, rfl, ?_⟩; have n0_ := Aside0.mk (below_step (by repeat (first | (with_reducible first | exact HB.out | apply below_alloc | apply pw_below_drewN | apply below_drew1) | exact HB.out)) hb); clear HB; have HB := n0_; clear n0_; (try clear hb); (try clear hb2); (try clear hk); (try clear hi)))
                                  go_ret
                                  exact ⟨by first | rfl | (simp [errW_none, errW_some] <;> rfl) | (simp [*, errW_none, errW_some] <;> rfl), by repeat (first | (with_reducible first | exact HB.out | apply below_alloc | apply pw_below_drewN | apply below_drew1) | exact HB.out)⟩
                              · rw [if_neg c39] at H
                                have c39b0 : decide (t206 < x11_1) = false := decide_eq_false c39
                                clear c39
                                obtain rfl := Option.some.inj H
                                go_wp2_with (first | ((with_reducible refine gate_callee (f := 27) rfl ?_); refine goesL_ (some 124) rfl rfl Try.func27 (by kernel_rfl) rfl #[.int .i64 (rd y187 t190), .int .i64 (wrap64 (1 + t192)), .string a3] rfl (by (try simp only [List.map_toArray, List.map_cons, List.map_nil]); first | done | rfl | (simp only [List.length_drop, List.length_take]; rfl)) ?_; (with_reducible refine (digits_Length.calls kj29 (rd y187 t190) (wrap64 (1 + t192)) a3 t206 t207 t208 _ A35.out).mono ?_); rintro e w53 ⟨rfl, hb⟩; refine ⟨_, rfl, ?_⟩; have n0_ := Aside0.mk (below_step (by repeat (first | (with_reducible first | exact HB.out | apply below_alloc | apply pw_below_drewN | apply below_drew1) | exact HB.out)) hb); clear HB; have HB := n0_; clear n0_; (try clear hb); (try clear hb2); (try clear hk); (try clear hi)) | ((with_reducible refine gate_callee (f := 26) rfl ?_); refine goesL_ (some 136) rfl rfl Try.func26 (by kernel_rfl) rfl #[.int .i64 (rd y187 t190), .int .i64 (wrap64 (1 + t192)), .int .i64 t206] rfl (by (try simp only [List.map_toArray, List.map_cons, List.map_nil]); first | done | rfl | (simp only [List.length_drop, List.length_take]; rfl)) ?_; (with_reducible refine (digits_Prefix.calls kj29 (rd y187 t190) (wrap64 (1 + t192)) t206 t209 t210 _ A37.out).mono ?_); rintro e w54 ⟨rfl, hb⟩; refine ⟨_, rfl, ?_⟩; have n0_ := Aside0.mk (below_step (by repeat (first | (with_reducible first | exact HB.out | apply below_alloc | apply pw_below_drewN | apply below_drew1) | exact HB.out)) hb); clear HB; have HB := n0_; clear n0_; (try clear hb); (try clear hb2); (try clear hk); (try clear hi)))
                                go_ret
                                exact ⟨by first | rfl | (simp [errW_none, errW_some] <;> rfl) | (simp [*, errW_none, errW_some] <;> rfl), by repeat (first | (with_reducible first | exact HB.out | apply below_alloc | apply pw_below_drewN | apply below_drew1) | exact HB.out)⟩
                            · rw [if_neg c38] at H
                              have c38b0 : decide (0 ≤ t206) = false := decide_eq_false c38
                              clear c38
                              obtain rfl := Option.some.inj H
                              go_wp2_with (first | ((with_reducible refine gate_callee (f := 27) rfl ?_); refine goesL_ (some 124) rfl rfl Try.func27 (by kernel_rfl) rfl #[.int .i64 (rd y187 t190), .int .i64 (wrap64 (1 + t192)), .string a3] rfl (by (try simp only [List.map_toArray, List.map_cons, List.map_nil]); first | done | rfl | (simp only [List.length_drop, List.length_take]; rfl)) ?_; (with_reducible refine (digits_Length.calls kj29 (rd y187 t190) (wrap64 (1 + t192)) a3 t206 t207 t208 _ A35.out).mono ?_); rintro e w55 ⟨rfl, hb⟩; refine ⟨_, rfl, ?_⟩; have n0_ := Aside0.mk (below_step (by repeat (first | (with_reducible first | exact HB.out | apply below_alloc | apply pw_below_drewN | apply below_drew1) | exact HB.out)) hb); clear HB; have HB := n0_; clear n0_; (try clear hb); (try clear hb2); (try clear hk); (try clear hi)) | ((with_reducible refine gate_callee (f := 26) rfl ?_); refine goesL_ (some 136) rfl rfl Try.func26 (by kernel_rfl) rfl #[.int .i64 (rd y187 t190), .int .i64 (wrap64 (1 + t192)), .int .i64 t206] rfl (by (try simp only [List.map_toArray, List.map_cons, List.map_nil]); first | done | rfl | (simp only [List.length_drop, List.length_take]; rfl)) ?_; (with_reducible refine (digits_Prefix.calls kj29 (rd y187 t190) (wrap64 (1 + t192)) t206 t209 t210 _ A37.out).mono ?_); rintro e w56 ⟨rfl, hb⟩; refine ⟨_, rfl, ?_⟩; have n0_ := Aside0.mk (below_step (by repeat (first | (with_reducible first | exact HB.out | apply below_alloc | apply pw_below_drewN | apply below_drew1) | exact HB.out)) hb); clear HB; have HB := n0_; clear n0_; (try clear hb); (try clear hb2); (try clear hk); (try clear hi)))
                              go_ret
                              exact ⟨by first | rfl | (simp [errW_none, errW_some] <;> rfl) | (simp [*, errW_none, errW_some] <;> rfl), by repeat (first | (with_reducible first | exact HB.out | apply below_alloc | apply pw_below_drewN | apply below_drew1) | exact HB.out)⟩
                          · rw [if_neg c36] at H
                            have c36b0 : (t207 == 0) = false := beq_eq_false_iff_ne.mpr c36
                            have c36b1 : (t207 != 0) = true := bne_iff_ne.mpr c36
                            obtain rfl := Option.some.inj H
                            go_wp2_with (first | ((with_reducible refine gate_callee (f := 27) rfl ?_); refine goesL_ (some 124) rfl rfl Try.func27 (by kernel_rfl) rfl #[.int .i64 (rd y187 t190), .int .i64 (wrap64 (1 + t192)), .string a3] rfl (by (try simp only [List.map_toArray, List.map_cons, List.map_nil]); first | done | rfl | (simp only [List.length_drop, List.length_take]; rfl)) ?_; (with_reducible refine (digits_Length.calls kj29 (rd y187 t190) (wrap64 (1 + t192)) a3 t206 t207 t208 _ A35.out).mono ?_); rintro e w57 ⟨rfl, hb⟩; refine ⟨_, rfl, ?_⟩; have n0_ := Aside0.mk (below_step (by repeat (first | (with_reducible first | exact HB.out | apply below_alloc | apply pw_below_drewN | apply below_drew1) | exact HB.out)) hb); clear HB; have HB := n0_; clear n0_; (try clear hb); (try clear hb2); (try clear hk); (try clear hi)))
                            go_ret
                            exact ⟨by first | rfl | (simp [errW_none, errW_some] <;> rfl) | (simp [*, errW_none, errW_some] <;> rfl), by repeat (first | (with_reducible first | exact HB.out | apply below_alloc | apply pw_below_drewN | apply below_drew1) | exact HB.out)⟩
            · rw [if_neg c15] at H
              exact absurd H (by simp)
    · rw [if_neg c7] at H
      exact absurd H (by simp)
  · rw [if_neg c6] at H
    exact absurd H (by simp)

/-- THE ONE PURE STATEMENT of turnstilelaw1_DigitsMeasured: yours. -/
def turnstilelaw1_DigitsMeasured.Pure : Prop := ∀ (a0 : Int) (a1 : Int) (a2 : Int) (a3 : ByteArray), (Lit.int .i64 a0).wf = true → (Lit.int .i64 a1).wf = true → (Lit.int .i64 a2).wf = true → a3.size ≤ 140737488351232 → ∃ k, turnstilelaw1_DigitsMeasured.f k a0 a1 a2 a3 = some true
theorem turnstilelaw1_DigitsMeasured.walk (P : turnstilelaw1_DigitsMeasured.Pure) (a0 : Int) (a1 : Int) (a2 : Int) (a3 : ByteArray) (w : World) (w0 : (Lit.int .i64 a0).wf = true) (w1 : (Lit.int .i64 a1).wf = true) (w2 : (Lit.int .i64 a2).wf = true) (w3 : a3.size ≤ 140737488351232) :
    Calls Try.prog 7 #[.int .i64 a0, .int .i64 a1, .int .i64 a2, .string a3] w fun e w' => e = .returned (.bool true) ∧ Below w.heap.size w w' := by
  obtain ⟨k, h⟩ := P a0 a1 a2 a3 w0 w1 w2 w3
  refine (turnstilelaw1_DigitsMeasured.calls k a0 a1 a2 a3 true w h).mono ?_
  rintro e w' ⟨rfl, hd⟩
  exact ⟨rfl, hd⟩

end Go.Proofs.Ytlpamhffpgoebaa.All

-- WRITTEN BY this session's own drv.py over the kit's print. Not trusted: Lean checks it.
namespace Go.Proofs.Ytlpamhffpgoebaa.All
open Go.RowKit Go.Proofs.YtlpamhffpgoebaaW.PrintWords Go.Proofs.YtlpamhffpgoebaaW.PrintLast Go.Proofs.YtlpamhffpgoebaaW.PrintMore
attribute [local go_sem] max2_int min2_int max_two min_two max_three min_three max_four min_four   -- for this text's walks alone
set_option linter.unusedVariables false
set_option linter.unusedSimpArgs false

/-! ### turnstileref1_digit: function 42 -/
def turnstileref1_digit.f (a0 : Int) : Option (Bool) := if a0 ≥ 48 then (some (decide (a0 ≤ 57))) else (some false)
set_option maxHeartbeats 8000000 in
set_option maxRecDepth 100000 in
theorem turnstileref1_digit.calls (a0 : Int) (r : Bool) (w : World) (h : turnstileref1_digit.f a0 = some r) :
    Calls Try.prog 42 #[.int .u8 a0] w fun e w' => e = .returned (.bool r) ∧ Drawn0 w w' := by
  have H : (if a0 ≥ 48 then (some (decide (a0 ≤ 57))) else (some false)) = some r := h
  clear h
  by_cases c2 : a0 ≥ 48
  · rw [if_pos c2] at H
    have c2b0 : decide (48 ≤ a0) = true := decide_eq_true c2
    clear c2
    obtain rfl := Option.some.inj H
    go_enter Try.func42, Try.ntmps42
    go_wp2
    go_ret
    exact ⟨by first | rfl | (simp; done) | (simp [*]; done), by repeat (first | exact Drawn0.refl _ | apply Drawn0.step)⟩
  · rw [if_neg c2] at H
    have c2b0 : decide (48 ≤ a0) = false := decide_eq_false c2
    clear c2
    obtain rfl := Option.some.inj H
    go_enter Try.func42, Try.ntmps42
    go_wp2
    go_ret
    exact ⟨by first | rfl | (simp; done) | (simp [*]; done), by repeat (first | exact Drawn0.refl _ | apply Drawn0.step)⟩

end Go.Proofs.Ytlpamhffpgoebaa.All

-- WRITTEN BY this session's own drv.py over the kit's print. Not trusted: Lean checks it.
namespace Go.Proofs.Ytlpamhffpgoebaa.All
open Go.RowKit Go.Proofs.YtlpamhffpgoebaaW.PrintWords Go.Proofs.YtlpamhffpgoebaaW.PrintLast Go.Proofs.YtlpamhffpgoebaaW.PrintMore
attribute [local go_sem] max2_int min2_int max_two min_two max_three min_three max_four min_four   -- for this text's walks alone
set_option linter.unusedVariables false
set_option linter.unusedSimpArgs false

/-! ### turnstileref1_Number: function 23 -/
mutual
def turnstileref1_Number.j0 : Nat → ByteArray → Bool → Option (Int × Int)
  | 0, _, _ => none
  | k + 1, x0, x14 => if x14 = true then (some (0, 1)) else (turnstileref1_Number.l0 k x0 0 0)
def turnstileref1_Number.l0 : Nat → ByteArray → Int → Int → Option (Int × Int)
  | 0, _, _, _ => none
  | k + 1, x0, x4, x5 => if x5 < (x0.size : Int) then (if 0 ≤ x5 then ((turnstileref1_digit.f (bt x0 x5)).bind fun t115 => (if t115 = true then (turnstileref1_Number.l0 k x0 (wrap64 ((wrap64 (10 * x4)) + (((bt x0 x5) - 48) % 256))) (wrap64 (x5 + 1))) else (some (0, 11)))) else (none)) else (some (x4, 0))
end
def turnstileref1_Number.f (k : Nat) (a0 : ByteArray) : Option (Int × Int) := if (a0.size : Int) < 1 then (turnstileref1_Number.j0 k a0 true) else (turnstileref1_Number.j0 k a0 (decide ((a0.size : Int) > 18)))
theorem turnstileref1_Number.mono_l : ∀ k, (∀ y0 y1, LeO (turnstileref1_Number.j0 k y0 y1) (turnstileref1_Number.j0 (k + 1) y0 y1)) ∧ (∀ y0 y1 y2, LeO (turnstileref1_Number.l0 k y0 y1 y2) (turnstileref1_Number.l0 (k + 1) y0 y1 y2))
  | 0 => ⟨fun _ _ r h => by simp [turnstileref1_Number.j0] at h, fun _ _ _ r h => by simp [turnstileref1_Number.l0] at h⟩
  | k + 1 => by
    obtain ⟨ih0, ih1⟩ := turnstileref1_Number.mono_l k
    refine ⟨?_, ?_⟩
    · intro y0 y1
      unfold turnstileref1_Number.j0
      repeat' first
      | (with_reducible exact ih0 _ _)
      | (with_reducible exact ih1 _ _ _)
      | (with_reducible exact LeO.refl _)
      | (with_reducible exact LeO.none _)
      | (with_reducible refine LeO.ite ?_ ?_)
      | (with_reducible refine LeO.bind ?_ (fun _ => ?_))
      | exact ih0 _ _
      | exact ih1 _ _ _
      | exact LeO.none _
      | refine LeO.ite ?_ ?_
      | refine LeO.bind ?_ (fun _ => ?_)
    · intro y0 y1 y2
      unfold turnstileref1_Number.l0
      repeat' first
      | (with_reducible exact ih0 _ _)
      | (with_reducible exact ih1 _ _ _)
      | (with_reducible exact LeO.refl _)
      | (with_reducible exact LeO.none _)
      | (with_reducible refine LeO.ite ?_ ?_)
      | (with_reducible refine LeO.bind ?_ (fun _ => ?_))
      | exact ih0 _ _
      | exact ih1 _ _ _
      | exact LeO.none _
      | refine LeO.ite ?_ ?_
      | refine LeO.bind ?_ (fun _ => ?_)
theorem turnstileref1_Number.mono : ∀ a0 k, LeO (turnstileref1_Number.f k a0) (turnstileref1_Number.f (k + 1) a0) := by
  intro a0 k
  obtain ⟨ih0, ih1⟩ := turnstileref1_Number.mono_l k
  unfold turnstileref1_Number.f
  repeat' first
      | (with_reducible exact ih0 _ _)
      | (with_reducible exact ih1 _ _ _)
      | (with_reducible exact LeO.refl _)
      | (with_reducible exact LeO.none _)
      | (with_reducible refine LeO.ite ?_ ?_)
      | (with_reducible refine LeO.bind ?_ (fun _ => ?_))
      | exact ih0 _ _
      | exact ih1 _ _ _
      | exact LeO.none _
      | refine LeO.ite ?_ ?_
      | refine LeO.bind ?_ (fun _ => ?_)
set_option maxHeartbeats 8000000 in
set_option maxRecDepth 100000 in
theorem turnstileref1_Number.calls (k : Nat) (a0 : ByteArray) (r1 : Int) (r2 : Int) (w : World) (h : turnstileref1_Number.f k a0 = some (r1, r2)) :
    Calls Try.prog 23 #[.string a0] w fun e w' => e = .returned (.tuple #[.int .i64 r1, .int .i64 r2]) ∧ Drawn0 w w' := by
  have H : (if (a0.size : Int) < 1 then (turnstileref1_Number.j0 k a0 true) else (turnstileref1_Number.j0 k a0 (decide ((a0.size : Int) > 18)))) = some (r1, r2) := h
  clear h
  have HC2 := Aside0.mk H
  clear H
  go_enter Try.func23, Try.ntmps23
  go_upto_region 1 with (fail)
  go_cut [14] (fun v14 wc => ∃ (kq : Nat) (x14_1 : Bool), v14 = .bool x14_1 ∧ Aside0 (turnstileref1_Number.j0 kq a0 x14_1 = some (r1, r2)) ∧ Aside0 (kq ≤ k) ∧ Drawn0 w wc)
  case first =>
    have H := HC2.out
    clear HC2
    by_cases c3 : (a0.size : Int) < 1
    · rw [if_pos c3] at H
      have c3b0 : decide ((a0.size : Int) < 1) = true := decide_eq_true c3
      have c3b1 : decide (a0.size < 1) = true := decide_eq_true (by omega)
      clear c3
      (first | rw [c3b0] | (simp only [i64_w, i32_w]; rw [c3b0]) | skip)
      have H' := Aside0.mk H
      clear H
      go_wp2
      go_meet
      case rel => exact ⟨_, (true), (by first | rfl | (simp; done) | (simp [*]; done)), H', ⟨by first | omega | exact Nat.le_refl _⟩, by repeat (first | exact Drawn0.refl _ | apply Drawn0.step)⟩
    · rw [if_neg c3] at H
      have c3b0 : decide ((a0.size : Int) < 1) = false := decide_eq_false c3
      have c3b1 : decide (a0.size < 1) = false := decide_eq_false (by omega)
      clear c3
      (first | rw [c3b0] | (simp only [i64_w, i32_w]; rw [c3b0]) | skip)
      have H' := Aside0.mk H
      clear H
      go_wp2
      go_meet
      case rel => exact ⟨_, (decide ((a0.size : Int) > 18)), (by first | rfl | (simp; done) | (simp [*]; done)), H', ⟨by first | omega | exact Nat.le_refl _⟩, by repeat (first | exact Drawn0.refl _ | apply Drawn0.step)⟩
  case rest =>
    clear HC2
    try clear c2
    try clear p2
    try clear c3
    try clear c3b0
    try clear c3b1
    obtain ⟨kq, x14_1, rfl, HA, HJ1, ⟨mc1, rfl⟩⟩ := hcut
    cases kq with
    | zero => exact absurd HA.out (by simp [turnstileref1_Number.j0])
    | succ kj1 =>
      have H := HA.out
      clear HA
      simp only [turnstileref1_Number.j0] at H
      by_cases c4 : x14_1 = true
      · subst c4
        have H1 : (some (0, 1)) = some (r1, r2) := by rw [if_pos rfl] at H; exact H
        clear H
        have H := H1
        clear H1
        simp only [Option.some.injEq, Prod.mk.injEq] at H
        obtain ⟨rfl, rfl⟩ := H
        go_wp2
        go_ret2
        exact ⟨by first | rfl | (simp; done) | (simp [*]; done), by repeat (first | exact Drawn0.refl _ | apply Drawn0.step)⟩
      · replace c4 := Bool.eq_false_iff.mpr c4
        subst c4
        have H1 : (turnstileref1_Number.l0 kj1 a0 0 0) = some (r1, r2) := by rw [if_neg (show ¬ (false = true) by decide)] at H; exact H
        clear H
        have H := H1
        clear H1
        have H' := Aside0.mk H
        clear H
        go_wp2
        go_loopg [4, 5] kj1 (fun kq v4 v5 w' => ∃ (x4_2 : Int) (x5_2 : Int), v4 = .int .i64 x4_2 ∧ v5 = .int .i64 x5_2 ∧ Aside0 (turnstileref1_Number.l0 kq a0 x4_2 x5_2 = some (r1, r2)) ∧ Aside0 (kq ≤ kj1) ∧ Drawn0 w w')
        case atStart => exact ⟨(0), (0), (by first | rfl | (simp; done) | (simp [*]; done)), (by first | rfl | (simp; done) | (simp [*]; done)), H', ⟨Nat.le_refl _⟩, by repeat (first | exact Drawn0.refl _ | apply Drawn0.step)⟩
        case round =>
          clear H'
          try clear c1
          try clear c2
          try clear p2
          try clear c3
          try clear c3b0
          try clear c3b1
          try clear c4
          try clear p2
          obtain ⟨x4_2, x5_2, rfl, rfl, HA, HK2, ⟨m2, rfl⟩⟩ := hrel
          cases gk with
          | zero => exact absurd HA.out (by simp [turnstileref1_Number.l0])
          | succ k2 =>
            have H := HA.out
            clear HA
            simp only [turnstileref1_Number.l0] at H
            by_cases c5 : x5_2 < (a0.size : Int)
            · rw [if_pos c5] at H
              have c5b0 : decide (x5_2 < (a0.size : Int)) = true := decide_eq_true c5
              clear c5
              by_cases c6 : 0 ≤ x5_2
              · rw [if_pos c6] at H
                have c6b0 : decide (0 ≤ x5_2) = true := decide_eq_true c6
                clear c6
                replace H := Option.bind_eq_some_iff.mp H
                obtain ⟨t115, A80, H⟩ := H
                replace H : (if t115 = true then (turnstileref1_Number.l0 k2 a0 (wrap64 ((wrap64 (10 * x4_2)) + (((bt a0 x5_2) - 48) % 256))) (wrap64 (x5_2 + 1))) else (some (0, 11))) = some (r1, r2) := H
                have A8 := Aside0.mk A80
                clear A80
                by_cases c9 : t115 = true
                · subst c9
                  have H1 : (turnstileref1_Number.l0 k2 a0 (wrap64 ((wrap64 (10 * x4_2)) + (((bt a0 x5_2) - 48) % 256))) (wrap64 (x5_2 + 1))) = some (r1, r2) := by rw [if_pos rfl] at H; exact H
                  clear H
                  have H := H1
                  clear H1
                  have H' := Aside0.mk H
                  clear H
                  have p7 : 0 ≤ (x5_2 : Int) := of_decide_eq_true (by first | (with_reducible assumption) | assumption)
                  have q7 : x5_2 < (a0.size : Int) := of_decide_eq_true (by first | (with_reducible assumption) | assumption)
                  have hx7 := bt_at a0 x5_2
                  replace p7 := eq_true p7
                  replace q7 := eq_true q7
                  go_wp2_with (first | ((with_reducible refine gate_callee (f := 42) rfl ?_); refine goesL_ (some 24) rfl rfl Try.func42 (by kernel_rfl) rfl #[.int .u8 (bt a0 x5_2)] rfl (by (try simp only [List.map_toArray, List.map_cons, List.map_nil]); first | done | rfl | (simp only [List.length_drop, List.length_take]; rfl)) ?_; (with_reducible refine (turnstileref1_digit.calls (bt a0 x5_2) true _ A8.out).mono ?_); rintro e w' ⟨rfl, ⟨nd, rfl⟩⟩; refine ⟨_, rfl, ?_⟩; have p10 : 0 ≤ (x5_2 : Int) := of_decide_eq_true (by first | (with_reducible assumption) | assumption); have q10 : x5_2 < (a0.size : Int) := of_decide_eq_true (by first | (with_reducible assumption) | assumption); have hx10 := bt_at a0 x5_2; replace p10 := eq_true p10; replace q10 := eq_true q10))
                  go_roundg k2
                  case measure => have := HJ1.out; have := HK2.out; omega
                  case rel => exact ⟨(wrap64 ((wrap64 (10 * x4_2)) + (((bt a0 x5_2) - 48) % 256))), (wrap64 (x5_2 + 1)), (by first | rfl | (simp; done) | (simp [*]; done)), (by first | rfl | (simp; done) | (simp [*]; done)), H', ⟨by have := HJ1.out; have := HK2.out; omega⟩, by repeat (first | exact Drawn0.refl _ | apply Drawn0.step)⟩
                · replace c9 := Bool.eq_false_iff.mpr c9
                  subst c9
                  have H1 : (some (0, 11)) = some (r1, r2) := by rw [if_neg (show ¬ (false = true) by decide)] at H; exact H
                  clear H
                  have H := H1
                  clear H1
                  simp only [Option.some.injEq, Prod.mk.injEq] at H
                  obtain ⟨rfl, rfl⟩ := H
                  have p7 : 0 ≤ (x5_2 : Int) := of_decide_eq_true (by first | (with_reducible assumption) | assumption)
                  have q7 : x5_2 < (a0.size : Int) := of_decide_eq_true (by first | (with_reducible assumption) | assumption)
                  have hx7 := bt_at a0 x5_2
                  replace p7 := eq_true p7
                  replace q7 := eq_true q7
                  go_wp2_with (first | ((with_reducible refine gate_callee (f := 42) rfl ?_); refine goesL_ (some 24) rfl rfl Try.func42 (by kernel_rfl) rfl #[.int .u8 (bt a0 x5_2)] rfl (by (try simp only [List.map_toArray, List.map_cons, List.map_nil]); first | done | rfl | (simp only [List.length_drop, List.length_take]; rfl)) ?_; (with_reducible refine (turnstileref1_digit.calls (bt a0 x5_2) false _ A8.out).mono ?_); rintro e w' ⟨rfl, ⟨nd, rfl⟩⟩; refine ⟨_, rfl, ?_⟩))
                  go_ret2
                  exact ⟨by first | rfl | (simp; done) | (simp [*]; done), by repeat (first | exact Drawn0.refl _ | apply Drawn0.step)⟩
              · rw [if_neg c6] at H
                exact absurd H (by simp)
            · rw [if_neg c5] at H
              have c5b0 : decide (x5_2 < (a0.size : Int)) = false := decide_eq_false c5
              clear c5
              simp only [Option.some.injEq, Prod.mk.injEq] at H
              obtain ⟨rfl, rfl⟩ := H
              go_wp2
              go_ret2
              exact ⟨by first | rfl | (simp; done) | (simp [*]; done), by repeat (first | exact Drawn0.refl _ | apply Drawn0.step)⟩

end Go.Proofs.Ytlpamhffpgoebaa.All

-- WRITTEN BY this session's own drv.py over the kit's print. Not trusted: Lean checks it.
namespace Go.Proofs.Ytlpamhffpgoebaa.All
open Go.RowKit Go.Proofs.YtlpamhffpgoebaaW.PrintWords Go.Proofs.YtlpamhffpgoebaaW.PrintLast Go.Proofs.YtlpamhffpgoebaaW.PrintMore
attribute [local go_sem] max2_int min2_int max_two min_two max_three min_three max_four min_four   -- for this text's walks alone
set_option linter.unusedVariables false
set_option linter.unusedSimpArgs false

/-! ### turnstileref1_power: function 43 -/
def turnstileref1_power.l0 : Nat → Int → Int → Int → Option (Int)
  | 0, _, _, _ => none
  | k + 1, x0, x3, x4 => if x4 < x0 then (turnstileref1_power.l0 k x0 (wrap64 (10 * x3)) (wrap64 (x4 + 1))) else (some x3)
def turnstileref1_power.f (k : Nat) (a0 : Int) : Option (Int) := turnstileref1_power.l0 k a0 1 0
theorem turnstileref1_power.mono_l : ∀ k, (∀ y0 y1 y2, LeO (turnstileref1_power.l0 k y0 y1 y2) (turnstileref1_power.l0 (k + 1) y0 y1 y2))
  | 0 => fun _ _ _ r h => by simp [turnstileref1_power.l0] at h
  | k + 1 => by
    have ih0 := turnstileref1_power.mono_l k
    · intro y0 y1 y2
      unfold turnstileref1_power.l0
      repeat' first
      | (with_reducible exact ih0 _ _ _)
      | (with_reducible exact LeO.refl _)
      | (with_reducible exact LeO.none _)
      | (with_reducible refine LeO.ite ?_ ?_)
      | (with_reducible refine LeO.bind ?_ (fun _ => ?_))
      | exact ih0 _ _ _
      | exact LeO.none _
      | refine LeO.ite ?_ ?_
      | refine LeO.bind ?_ (fun _ => ?_)
theorem turnstileref1_power.mono : ∀ a0 k, LeO (turnstileref1_power.f k a0) (turnstileref1_power.f (k + 1) a0) := by
  intro a0 k
  have ih0 := turnstileref1_power.mono_l k
  unfold turnstileref1_power.f
  repeat' first
      | (with_reducible exact ih0 _ _ _)
      | (with_reducible exact LeO.refl _)
      | (with_reducible exact LeO.none _)
      | (with_reducible refine LeO.ite ?_ ?_)
      | (with_reducible refine LeO.bind ?_ (fun _ => ?_))
      | exact ih0 _ _ _
      | exact LeO.none _
      | refine LeO.ite ?_ ?_
      | refine LeO.bind ?_ (fun _ => ?_)
set_option maxHeartbeats 8000000 in
set_option maxRecDepth 100000 in
theorem turnstileref1_power.calls (k : Nat) (a0 : Int) (r : Int) (w : World) (h : turnstileref1_power.f k a0 = some r) :
    Calls Try.prog 43 #[.int .i64 a0] w fun e w' => e = .returned (.int .i64 r) ∧ Drawn0 w w' := by
  have H : (turnstileref1_power.l0 k a0 1 0) = some r := h
  clear h
  have H' := Aside0.mk H
  clear H
  go_enter Try.func43, Try.ntmps43
  go_wp2
  go_loopg [3, 4] k (fun kq v3 v4 w' => ∃ (x3_1 : Int) (x4_1 : Int), v3 = .int .i64 x3_1 ∧ v4 = .int .i64 x4_1 ∧ Aside0 (turnstileref1_power.l0 kq a0 x3_1 x4_1 = some r) ∧ Aside0 (kq ≤ k) ∧ Drawn0 w w')
  case atStart => exact ⟨(1), (0), (by first | rfl | (simp; done) | (simp [*]; done)), (by first | rfl | (simp; done) | (simp [*]; done)), H', ⟨Nat.le_refl _⟩, by repeat (first | exact Drawn0.refl _ | apply Drawn0.step)⟩
  case round =>
    clear H'
    obtain ⟨x3_1, x4_1, rfl, rfl, HA, HK1, ⟨m1, rfl⟩⟩ := hrel
    cases gk with
    | zero => exact absurd HA.out (by simp [turnstileref1_power.l0])
    | succ k1 =>
      have H := HA.out
      clear HA
      simp only [turnstileref1_power.l0] at H
      by_cases c2 : x4_1 < a0
      · rw [if_pos c2] at H
        have c2b0 : decide (x4_1 < a0) = true := decide_eq_true c2
        clear c2
        have H' := Aside0.mk H
        clear H
        go_wp2
        go_roundg k1
        case measure => have := HK1.out; omega
        case rel => exact ⟨(wrap64 (10 * x3_1)), (wrap64 (x4_1 + 1)), (by first | rfl | (simp; done) | (simp [*]; done)), (by first | rfl | (simp; done) | (simp [*]; done)), H', ⟨by have := HK1.out; omega⟩, by repeat (first | exact Drawn0.refl _ | apply Drawn0.step)⟩
      · rw [if_neg c2] at H
        have c2b0 : decide (x4_1 < a0) = false := decide_eq_false c2
        clear c2
        obtain rfl := Option.some.inj H
        go_wp2
        go_ret
        exact ⟨by first | rfl | (simp; done) | (simp [*]; done), by repeat (first | exact Drawn0.refl _ | apply Drawn0.step)⟩

end Go.Proofs.Ytlpamhffpgoebaa.All

-- WRITTEN BY this session's own drv.py over the kit's print. Not trusted: Lean checks it.
namespace Go.Proofs.Ytlpamhffpgoebaa.All
open Go.RowKit Go.Proofs.YtlpamhffpgoebaaW.PrintWords Go.Proofs.YtlpamhffpgoebaaW.PrintLast Go.Proofs.YtlpamhffpgoebaaW.PrintMore
attribute [local go_sem] max2_int min2_int max_two min_two max_three min_three max_four min_four   -- for this text's walks alone
set_option linter.unusedVariables false
set_option linter.unusedSimpArgs false

/-! ### turnstileref1_Write: function 25 -/
mutual
def turnstileref1_Write.j0 : Nat → Int → Int → Bool → Option (ByteArray × Int)
  | 0, _, _, _ => none
  | k + 1, x0, x1, x17 => if x17 = true then (some ((⟨#[]⟩ : ByteArray), 1)) else ((turnstileref1_power.f k x1).bind fun t120 => (if x0 ≥ t120 then (some ((⟨#[]⟩ : ByteArray), 13)) else (turnstileref1_Write.l0 k x0 x1 (⟨#[]⟩ : ByteArray) 0)))
def turnstileref1_Write.l0 : Nat → Int → Int → ByteArray → Int → Option (ByteArray × Int)
  | 0, _, _, _, _ => none
  | k + 1, x0, x1, x6, x7 => if x7 < x1 then (if 0 ≤ (Int.tmod x0 10) then (if (Int.tmod x0 10) ≤ (wrap64 ((Int.tmod x0 10) + 1)) then (if (wrap64 ((Int.tmod x0 10) + 1)) ≤ 16 then (if ((⟨#[48, 49, 50, 51, 52, 53, 54, 55, 56, 57, 65, 66, 67, 68, 69, 70]⟩ : ByteArray).extract ((Int.tmod x0 10) : Int).toNat ((wrap64 ((Int.tmod x0 10) + 1)) : Int).toNat).size + x6.size ≤ 9223372036854775807 then (turnstileref1_Write.l0 k (wrap64 (Int.tdiv x0 10)) x1 (((⟨#[48, 49, 50, 51, 52, 53, 54, 55, 56, 57, 65, 66, 67, 68, 69, 70]⟩ : ByteArray).extract ((Int.tmod x0 10) : Int).toNat ((wrap64 ((Int.tmod x0 10) + 1)) : Int).toNat) ++ x6) (wrap64 (x7 + 1))) else (none)) else (none)) else (none)) else (none)) else (some (x6, 0))
end
def turnstileref1_Write.f (k : Nat) (a0 : Int) (a1 : Int) : Option (ByteArray × Int) := if a0 < 0 then (turnstileref1_Write.j0 k a0 a1 true) else (if a1 < 1 then (turnstileref1_Write.j0 k a0 a1 true) else (turnstileref1_Write.j0 k a0 a1 (decide (a1 > 18))))
theorem turnstileref1_Write.mono_l : ∀ k, (∀ y0 y1 y2, LeO (turnstileref1_Write.j0 k y0 y1 y2) (turnstileref1_Write.j0 (k + 1) y0 y1 y2)) ∧ (∀ y0 y1 y2 y3, LeO (turnstileref1_Write.l0 k y0 y1 y2 y3) (turnstileref1_Write.l0 (k + 1) y0 y1 y2 y3))
  | 0 => ⟨fun _ _ _ r h => by simp [turnstileref1_Write.j0] at h, fun _ _ _ _ r h => by simp [turnstileref1_Write.l0] at h⟩
  | k + 1 => by
    obtain ⟨ih0, ih1⟩ := turnstileref1_Write.mono_l k
    refine ⟨?_, ?_⟩
    · intro y0 y1 y2
      unfold turnstileref1_Write.j0
      repeat' first
      | (with_reducible exact ih0 _ _ _)
      | (with_reducible exact ih1 _ _ _ _)
      | (with_reducible exact turnstileref1_power.mono _ _)
      | (with_reducible exact LeO.refl _)
      | (with_reducible exact LeO.none _)
      | (with_reducible refine LeO.ite ?_ ?_)
      | (with_reducible refine LeO.bind ?_ (fun _ => ?_))
      | exact ih0 _ _ _
      | exact ih1 _ _ _ _
      | exact turnstileref1_power.mono _ _
      | exact LeO.none _
      | refine LeO.ite ?_ ?_
      | refine LeO.bind ?_ (fun _ => ?_)
    · intro y0 y1 y2 y3
      unfold turnstileref1_Write.l0
      repeat' first
      | (with_reducible exact ih0 _ _ _)
      | (with_reducible exact ih1 _ _ _ _)
      | (with_reducible exact turnstileref1_power.mono _ _)
      | (with_reducible exact LeO.refl _)
      | (with_reducible exact LeO.none _)
      | (with_reducible refine LeO.ite ?_ ?_)
      | (with_reducible refine LeO.bind ?_ (fun _ => ?_))
      | exact ih0 _ _ _
      | exact ih1 _ _ _ _
      | exact turnstileref1_power.mono _ _
      | exact LeO.none _
      | refine LeO.ite ?_ ?_
      | refine LeO.bind ?_ (fun _ => ?_)
theorem turnstileref1_Write.mono : ∀ a0 a1 k, LeO (turnstileref1_Write.f k a0 a1) (turnstileref1_Write.f (k + 1) a0 a1) := by
  intro a0 a1 k
  obtain ⟨ih0, ih1⟩ := turnstileref1_Write.mono_l k
  unfold turnstileref1_Write.f
  repeat' first
      | (with_reducible exact ih0 _ _ _)
      | (with_reducible exact ih1 _ _ _ _)
      | (with_reducible exact turnstileref1_power.mono _ _)
      | (with_reducible exact LeO.refl _)
      | (with_reducible exact LeO.none _)
      | (with_reducible refine LeO.ite ?_ ?_)
      | (with_reducible refine LeO.bind ?_ (fun _ => ?_))
      | exact ih0 _ _ _
      | exact ih1 _ _ _ _
      | exact turnstileref1_power.mono _ _
      | exact LeO.none _
      | refine LeO.ite ?_ ?_
      | refine LeO.bind ?_ (fun _ => ?_)
set_option maxHeartbeats 8000000 in
set_option maxRecDepth 100000 in
theorem turnstileref1_Write.calls (k : Nat) (a0 : Int) (a1 : Int) (r1 : ByteArray) (r2 : Int) (w : World) (h : turnstileref1_Write.f k a0 a1 = some (r1, r2)) :
    Calls Try.prog 25 #[.int .i64 a0, .int .i64 a1] w fun e w' => e = .returned (.tuple #[.string r1, .int .i64 r2]) ∧ Drawn0 w w' := by
  have H : (if a0 < 0 then (turnstileref1_Write.j0 k a0 a1 true) else (if a1 < 1 then (turnstileref1_Write.j0 k a0 a1 true) else (turnstileref1_Write.j0 k a0 a1 (decide (a1 > 18))))) = some (r1, r2) := h
  clear h
  have HC3 := Aside0.mk H
  clear H
  go_enter Try.func25, Try.ntmps25
  go_upto_region 1 with (fail)
  go_cut [17] (fun v17 wc => ∃ (kq : Nat) (x17_2 : Bool), v17 = .bool x17_2 ∧ Aside0 (turnstileref1_Write.j0 kq a0 a1 x17_2 = some (r1, r2)) ∧ Aside0 (kq ≤ k) ∧ Drawn0 w wc)
  case first =>
    have H := HC3.out
    clear HC3
    by_cases c4 : a0 < 0
    · rw [if_pos c4] at H
      have c4b0 : decide (a0 < 0) = true := decide_eq_true c4
      clear c4
      (first | rw [c4b0] | (simp only [i64_w, i32_w]; rw [c4b0]) | skip)
      have H' := Aside0.mk H
      clear H
      go_wp2
      go_meet
      case rel => exact ⟨_, (true), (by first | rfl | (simp; done) | (simp [*]; done)), H', ⟨by first | omega | exact Nat.le_refl _⟩, by repeat (first | exact Drawn0.refl _ | apply Drawn0.step)⟩
    · rw [if_neg c4] at H
      have c4b0 : decide (a0 < 0) = false := decide_eq_false c4
      clear c4
      (first | rw [c4b0] | (simp only [i64_w, i32_w]; rw [c4b0]) | skip)
      by_cases c5 : a1 < 1
      · rw [if_pos c5] at H
        have c5b0 : decide (a1 < 1) = true := decide_eq_true c5
        clear c5
        have H' := Aside0.mk H
        clear H
        go_wp2
        go_meet
        case rel => exact ⟨_, (true), (by first | rfl | (simp; done) | (simp [*]; done)), H', ⟨by first | omega | exact Nat.le_refl _⟩, by repeat (first | exact Drawn0.refl _ | apply Drawn0.step)⟩
      · rw [if_neg c5] at H
        have c5b0 : decide (a1 < 1) = false := decide_eq_false c5
        clear c5
        have H' := Aside0.mk H
        clear H
        go_wp2
        go_meet
        case rel => exact ⟨_, (decide (a1 > 18)), (by first | rfl | (simp; done) | (simp [*]; done)), H', ⟨by first | omega | exact Nat.le_refl _⟩, by repeat (first | exact Drawn0.refl _ | apply Drawn0.step)⟩
  case rest =>
    clear HC3
    try clear c2
    try clear p2
    try clear c4
    try clear c4b0
    try clear c5
    try clear c5b0
    obtain ⟨kq, x17_2, rfl, HA, HJ2, ⟨mc2, rfl⟩⟩ := hcut
    cases kq with
    | zero => exact absurd HA.out (by simp [turnstileref1_Write.j0])
    | succ kj2 =>
      have H := HA.out
      clear HA
      simp only [turnstileref1_Write.j0] at H
      by_cases c6 : x17_2 = true
      · subst c6
        have H1 : (some ((⟨#[]⟩ : ByteArray), 1)) = some (r1, r2) := by rw [if_pos rfl] at H; exact H
        clear H
        have H := H1
        clear H1
        simp only [Option.some.injEq, Prod.mk.injEq] at H
        obtain ⟨rfl, rfl⟩ := H
        go_wp2
        go_ret2
        exact ⟨by first | rfl | (simp; done) | (simp [*]; done), by repeat (first | exact Drawn0.refl _ | apply Drawn0.step)⟩
      · replace c6 := Bool.eq_false_iff.mpr c6
        subst c6
        have H1 : ((turnstileref1_power.f kj2 a1).bind fun t120 => (if a0 ≥ t120 then (some ((⟨#[]⟩ : ByteArray), 13)) else (turnstileref1_Write.l0 kj2 a0 a1 (⟨#[]⟩ : ByteArray) 0))) = some (r1, r2) := by rw [if_neg (show ¬ (false = true) by decide)] at H; exact H
        clear H
        have H := H1
        clear H1
        replace H := Option.bind_eq_some_iff.mp H
        obtain ⟨t120, A70, H⟩ := H
        replace H : (if a0 ≥ t120 then (some ((⟨#[]⟩ : ByteArray), 13)) else (turnstileref1_Write.l0 kj2 a0 a1 (⟨#[]⟩ : ByteArray) 0)) = some (r1, r2) := H
        have A7 := Aside0.mk A70
        clear A70
        by_cases c8 : a0 ≥ t120
        · rw [if_pos c8] at H
          have c8b0 : decide (t120 ≤ a0) = true := decide_eq_true c8
          clear c8
          simp only [Option.some.injEq, Prod.mk.injEq] at H
          obtain ⟨rfl, rfl⟩ := H
          go_wp2_with (first | ((with_reducible refine gate_callee (f := 43) rfl ?_); refine goesL_ (some 20) rfl rfl Try.func43 (by kernel_rfl) rfl #[.int .i64 a1] rfl (by (try simp only [List.map_toArray, List.map_cons, List.map_nil]); first | done | rfl | (simp only [List.length_drop, List.length_take]; rfl)) ?_; (with_reducible refine (turnstileref1_power.calls kj2 a1 t120 _ A7.out).mono ?_); rintro e w' ⟨rfl, ⟨nd, rfl⟩⟩; refine ⟨_, rfl, ?_⟩))
          go_ret2
          exact ⟨by first | rfl | (simp; done) | (simp [*]; done), by repeat (first | exact Drawn0.refl _ | apply Drawn0.step)⟩
        · rw [if_neg c8] at H
          have c8b0 : decide (t120 ≤ a0) = false := decide_eq_false c8
          clear c8
          have H' := Aside0.mk H
          clear H
          go_wp2_with (first | ((with_reducible refine gate_callee (f := 43) rfl ?_); refine goesL_ (some 20) rfl rfl Try.func43 (by kernel_rfl) rfl #[.int .i64 a1] rfl (by (try simp only [List.map_toArray, List.map_cons, List.map_nil]); first | done | rfl | (simp only [List.length_drop, List.length_take]; rfl)) ?_; (with_reducible refine (turnstileref1_power.calls kj2 a1 t120 _ A7.out).mono ?_); rintro e w' ⟨rfl, ⟨nd, rfl⟩⟩; refine ⟨_, rfl, ?_⟩))
          go_loopg [0, 6, 7] kj2 (fun kq v0 v6 v7 w' => ∃ (x0_2 : Int) (x6_2 : ByteArray) (x7_2 : Int), v0 = .int .i64 x0_2 ∧ v6 = .string x6_2 ∧ v7 = .int .i64 x7_2 ∧ Aside0 (turnstileref1_Write.l0 kq x0_2 a1 x6_2 x7_2 = some (r1, r2)) ∧ Aside0 (kq ≤ kj2) ∧ Drawn0 w w')
          case atStart => exact ⟨(a0), ((⟨#[]⟩ : ByteArray)), (0), (by first | rfl | (simp; done) | (simp [*]; done)), (by first | rfl | (simp; done) | (simp [*]; done)), (by first | rfl | (simp; done) | (simp [*]; done)), H', ⟨Nat.le_refl _⟩, by repeat (first | exact Drawn0.refl _ | apply Drawn0.step)⟩
          case round =>
            clear H'
            try clear c2
            try clear p2
            try clear c4
            try clear c4b0
            try clear c5
            try clear c5b0
            try clear c6
            try clear c8
            try clear c8b0
            try clear p2
            obtain ⟨x0_2, x6_2, x7_2, rfl, rfl, rfl, HA, HK2, ⟨m2, rfl⟩⟩ := hrel
            cases gk with
            | zero => exact absurd HA.out (by simp [turnstileref1_Write.l0])
            | succ k2 =>
              have H := HA.out
              clear HA
              simp only [turnstileref1_Write.l0] at H
              by_cases c9 : x7_2 < a1
              · rw [if_pos c9] at H
                have c9b0 : decide (x7_2 < a1) = true := decide_eq_true c9
                clear c9
                obtain ⟨ji10, hji10⟩ : ∃ j_ : Int, (Int.tmod x0_2 10) = j_ := ⟨_, rfl⟩
                replace H : (if 0 ≤ (ji10) then (if (ji10) ≤ (wrap64 ((ji10) + 1)) then (if (wrap64 ((ji10) + 1)) ≤ 16 then (if ((⟨#[48, 49, 50, 51, 52, 53, 54, 55, 56, 57, 65, 66, 67, 68, 69, 70]⟩ : ByteArray).extract ((ji10) : Int).toNat ((wrap64 ((ji10) + 1)) : Int).toNat).size + x6_2.size ≤ 9223372036854775807 then (turnstileref1_Write.l0 k2 (wrap64 (Int.tdiv x0_2 10)) a1 (((⟨#[48, 49, 50, 51, 52, 53, 54, 55, 56, 57, 65, 66, 67, 68, 69, 70]⟩ : ByteArray).extract ((ji10) : Int).toNat ((wrap64 ((ji10) + 1)) : Int).toNat) ++ x6_2) (wrap64 (x7_2 + 1))) else (none)) else (none)) else (none)) else (none)) = some (r1, r2) := by first | (rw [hji10] at H; exact H) | (simp only [hji10] at H ⊢; exact H)
                by_cases c11 : 0 ≤ (ji10)
                · rw [if_pos c11] at H
                  have c11b0 := eq_true c11
                  have c11b1 : decide (0 ≤ (ji10)) = true := decide_eq_true c11
                  clear c11
                  by_cases c12 : (ji10) ≤ (wrap64 ((ji10) + 1))
                  · rw [if_pos c12] at H
                    have c12b0 := eq_true c12
                    have c12b1 : decide ((ji10) ≤ (wrap64 ((ji10) + 1))) = true := decide_eq_true c12
                    by_cases c13 : (wrap64 ((ji10) + 1)) ≤ 16
                    · rw [if_pos c13] at H
                      have c13b0 := eq_true c13
                      have c13b1 : decide ((wrap64 ((ji10) + 1)) ≤ 16) = true := decide_eq_true c13
                      by_cases c14 : ((⟨#[48, 49, 50, 51, 52, 53, 54, 55, 56, 57, 65, 66, 67, 68, 69, 70]⟩ : ByteArray).extract ((ji10) : Int).toNat ((wrap64 ((ji10) + 1)) : Int).toNat).size + x6_2.size ≤ 9223372036854775807
                      · rw [if_pos c14] at H
                        have c14b0 := eq_true c14
                        have c14b1 : decide (((⟨#[48, 49, 50, 51, 52, 53, 54, 55, 56, 57, 65, 66, 67, 68, 69, 70]⟩ : ByteArray).extract ((ji10) : Int).toNat ((wrap64 ((ji10) + 1)) : Int).toNat).size + x6_2.size ≤ 9223372036854775807) = true := decide_eq_true c14
                        try have c14b2 : (9223372036854775807 < ((⟨#[48, 49, 50, 51, 52, 53, 54, 55, 56, 57, 65, 66, 67, 68, 69, 70]⟩ : ByteArray).extract ((ji10) : Int).toNat ((wrap64 ((ji10) + 1)) : Int).toNat).size + x6_2.size) = False := eq_false (Nat.not_lt.2 c14)
                        have H' := Aside0.mk H
                        clear H
                        go_wp2
                        go_roundg k2
                        case measure => have := HJ2.out; have := HK2.out; omega
                        case rel => exact ⟨(wrap64 (Int.tdiv x0_2 10)), (((⟨#[48, 49, 50, 51, 52, 53, 54, 55, 56, 57, 65, 66, 67, 68, 69, 70]⟩ : ByteArray).extract ((ji10) : Int).toNat ((wrap64 ((ji10) + 1)) : Int).toNat) ++ x6_2), (wrap64 (x7_2 + 1)), (by first | rfl | (simp; done) | (simp [*]; done)), (by first | rfl | (simp; done) | (simp only [← hji10] <;> (first | rfl | simp)) | (simp [*]; done)), (by first | rfl | (simp; done) | (simp [*]; done)), H', ⟨by have := HJ2.out; have := HK2.out; omega⟩, by repeat (first | exact Drawn0.refl _ | apply Drawn0.step)⟩
                      · rw [if_neg c14] at H
                        exact absurd H (by simp)
                    · rw [if_neg c13] at H
                      exact absurd H (by simp)
                  · rw [if_neg c12] at H
                    exact absurd H (by simp)
                · rw [if_neg c11] at H
                  exact absurd H (by simp)
              · rw [if_neg c9] at H
                have c9b0 : decide (x7_2 < a1) = false := decide_eq_false c9
                clear c9
                simp only [Option.some.injEq, Prod.mk.injEq] at H
                obtain ⟨rfl, rfl⟩ := H
                go_wp2
                go_ret2
                exact ⟨by first | rfl | (simp; done) | (simp [*]; done), by repeat (first | exact Drawn0.refl _ | apply Drawn0.step)⟩

end Go.Proofs.Ytlpamhffpgoebaa.All

/- Plain lemmas on whole numbers, bytes and rounds that the pure statements of the digits seat share. No condition of their own. -/
namespace Go.Proofs.Ytlpamhffpgoebaa.Pure
open Go.RowKit Go.Proofs.YtlpamhffpgoebaaW.PrintWords Go.Proofs.YtlpamhffpgoebaaW.PrintLast Go.Proofs.YtlpamhffpgoebaaW.PrintMore

theorem wf64 {n : Int} (h : (Lit.int .i64 n).wf = true) : -9223372036854775808 ≤ n ∧ n ≤ 9223372036854775807 := by
  exact bounds_i64 h
theorem w64 {n : Int} (h : -9223372036854775808 ≤ n ∧ n ≤ 9223372036854775807) : wrap64 n = n := by
  unfold wrap64
  omega
/-- both tell the same, with enough rounds -/
def Same {α : Type} (g f : Nat → Option α) : Prop := ∃ r, Ev g r ∧ Ev f r
theorem Same.of {α : Type} {g f : Nat → Option α} {r : α} (h : Ev g r) (k : Ev f r) : Same g f := ⟨r, h, k⟩
theorem Same.step {α : Type} {g f g' f' : Nat → Option α} (hg : ∀ k, g (k + 1) = g' k) (hf : ∀ k, f (k + 1) = f' k) (h : Same g' f') : Same g f := by
  obtain ⟨r, h1, h2⟩ := h
  exact ⟨r, Ev.step hg h1, Ev.step hf h2⟩
theorem Ev.eq {α : Type} {g : Nat → Option α} {r s : α} (h : Ev g r) (k : Ev g s) : r = s := by
  obtain ⟨a, ha⟩ := h
  obtain ⟨b, hb⟩ := k
  have h1 := ha (max a b) (Nat.le_max_left _ _)
  rw [hb (max a b) (Nat.le_max_right _ _)] at h1
  exact (Option.some.inj h1).symm
theorem ev_some {α : Type} {g : Nat → Option α} {r : α} (h : ∀ k, g k = some r) : Ev g r := ⟨0, fun k _ => h k⟩
theorem evb {α β : Type} {g : Nat → Option α} {f : Nat → α → Option β} {a : α} {r : β} (h : Ev g a) (k : Ev (fun n => f n a) r) : Ev (fun n => (g n).bind (f n)) r := Ev.bind h k
theorem bt_lo (s : ByteArray) (i : Int) : 0 ≤ bt s i := (bt_range s i).1
theorem bt_hi (s : ByteArray) (i : Int) : bt s i ≤ 255 := (bt_range s i).2
end Go.Proofs.Ytlpamhffpgoebaa.Pure

/- Number and Write of digits and of the reference, told with enough rounds. Conditions: numbers of 64 bits; strings as long as an int tells. -/
namespace Go.Proofs.Ytlpamhffpgoebaa.Pure
open Go.RowKit Go.Proofs.Ytlpamhffpgoebaa.All Go.Proofs.YtlpamhffpgoebaaW.PrintWords Go.Proofs.YtlpamhffpgoebaaW.PrintLast Go.Proofs.YtlpamhffpgoebaaW.PrintMore

/-! ### Number -/
theorem number_l0_same (s : ByteArray) (hs : s.size ≤ 9223372036854775806) : ∀ (d : Nat) (n i : Int), 0 ≤ i → (s.size : Int) - i = d →
    Same (fun k => digits_Number.l0 k s n (s.size : Int) i) (fun k => turnstileref1_Number.l0 k s n i) := by
  intro d
  induction d with
  | zero =>
    intro n i h0 hd
    refine Same.step (g' := fun _ => some (n, 0)) (f' := fun _ => some (n, 0)) (fun k => ?_) (fun k => ?_) (Same.of (Ev.now _) (Ev.now _))
    · simp only [digits_Number.l0]; rw [if_neg (by omega)]
    · simp only [turnstileref1_Number.l0]; rw [if_neg (by omega)]
  | succ d ih =>
    intro n i h0 hd
    have hlt : i < (s.size : Int) := by omega
    by_cases c1 : bt s i < 48
    · refine Same.step (g' := fun _ => some (0, 11)) (f' := fun _ => some (0, 11)) (fun k => ?_) (fun k => ?_) (Same.of (Ev.now _) (Ev.now _))
      · simp only [digits_Number.l0]; rw [if_pos hlt, if_pos h0, if_pos hlt, if_pos c1]
      · simp only [turnstileref1_Number.l0, turnstileref1_digit.f]; rw [if_pos hlt, if_pos h0, if_neg (by omega)]; rfl
    · by_cases c2 : bt s i > 57
      · refine Same.step (g' := fun _ => some (0, 11)) (f' := fun _ => some (0, 11)) (fun k => ?_) (fun k => ?_) (Same.of (Ev.now _) (Ev.now _))
        · simp only [digits_Number.l0]; rw [if_pos hlt, if_pos h0, if_pos hlt, if_neg c1, if_pos c2]
        · simp only [turnstileref1_Number.l0, turnstileref1_digit.f]; rw [if_pos hlt, if_pos h0, if_pos (by omega), decide_eq_false (by omega)]; rfl
      · refine Same.step (fun k => ?_) (fun k => ?_) (ih (wrap64 ((wrap64 (10 * n)) + (((bt s i) - 48) % 256))) (i + 1) (by omega) (by omega))
        · simp only [digits_Number.l0]; rw [if_pos hlt, if_pos h0, if_pos hlt, if_neg c1, if_neg c2, w64 (by omega : -9223372036854775808 ≤ i + 1 ∧ i + 1 ≤ 9223372036854775807)]
        · simp only [turnstileref1_Number.l0, turnstileref1_digit.f]; rw [if_pos hlt, if_pos h0, if_pos (by omega), decide_eq_true (by omega), Option.bind_some, if_pos rfl, w64 (by omega : -9223372036854775808 ≤ i + 1 ∧ i + 1 ≤ 9223372036854775807)]

theorem toList_nil (s : ByteArray) : s.toList = ([] : List UInt8) ↔ s.size = 0 := by
  have e : s.toList.length = s.size := by
    rw [ByteArray.toList_eq]; exact data_length s
  constructor
  · intro h; rw [h] at e; simpa using e.symm
  · intro h; rw [h] at e; exact List.eq_nil_of_length_eq_zero e

theorem number_same (s : ByteArray) (hs : s.size ≤ 9223372036854775806) : Same (fun k => digits_Number.f k s) (fun k => turnstileref1_Number.f k s) := by
  by_cases h0 : s.size = 0
  · refine Same.of (r := (0, 1)) ?_ ?_
    · refine Ev.step (f := fun _ => some (0, 1)) (fun k => ?_) (Ev.now _)
      unfold digits_Number.f
      rw [if_pos ((toList_nil s).2 h0)]
      simp only [digits_Number.j0]; rfl
    · refine Ev.step (f := fun _ => some (0, 1)) (fun k => ?_) (Ev.now _)
      unfold turnstileref1_Number.f
      rw [if_pos (by omega)]
      simp only [turnstileref1_Number.j0]; rfl
  · by_cases h18 : (s.size : Int) > 18
    · refine Same.of (r := (0, 1)) ?_ ?_
      · refine Ev.step (f := fun _ => some (0, 1)) (fun k => ?_) (Ev.now _)
        unfold digits_Number.f
        rw [if_neg (fun h => h0 ((toList_nil s).1 h)), decide_eq_true h18]
        simp only [digits_Number.j0]; rfl
      · refine Ev.step (f := fun _ => some (0, 1)) (fun k => ?_) (Ev.now _)
        unfold turnstileref1_Number.f
        rw [if_neg (by omega), decide_eq_true h18]
        simp only [turnstileref1_Number.j0]; rfl
    · refine Same.step (fun k => ?_) (fun k => ?_) (number_l0_same s hs s.size 0 0 (by omega) (by omega))
      · unfold digits_Number.f
        rw [if_neg (fun h => h0 ((toList_nil s).1 h)), decide_eq_false h18]
        simp only [digits_Number.j0]; rfl
      · unfold turnstileref1_Number.f
        rw [if_neg (by omega), decide_eq_false h18]
        simp only [turnstileref1_Number.j0]; rfl

/-! ### Write -/
/-- the w last digits of n, as bytes -/
def decL : Nat → Int → List Int
  | 0, _ => []
  | w + 1, n => decL w (n / 10) ++ [48 + n % 10]
theorem decL_length : ∀ (w : Nat) (n : Int), (decL w n).length = w
  | 0, _ => rfl
  | w + 1, n => by simp [decL, decL_length w (n / 10)]
theorem strOfNums_append (a b : List Int) : strOfNums (a ++ b) = strOfNums a ++ strOfNums b := by
  apply ByteArray.ext
  simp [strOfNums]

theorem div_pow (n : Int) (m : Nat) : n / 10 / 10 ^ m = n / 10 ^ (m + 1) := by
  rw [Int.ediv_ediv_of_nonneg (by decide), Int.pow_succ, Int.mul_comm]

/-- what Write tells behind its loop -/
def writeR (m : Nat) (n : Int) (suf : List Int) : ByteArray × Int := if n / 10 ^ m > 0 then ((⟨#[]⟩ : ByteArray), 13) else (strOfNums (decL m n ++ suf), 0)
theorem writeR_succ (m : Nat) (n : Int) (suf : List Int) : writeR (m + 1) n suf = writeR m (n / 10) ((48 + n % 10) :: suf) := by
  unfold writeR
  rw [div_pow, decL]
  simp

theorem write_l0 : ∀ (m : Nat) (zs suf : List Int) (n : Int), 0 ≤ n → n ≤ 9223372036854775807 → zs.length = m → m ≤ 18 →
    Ev (fun k => digits_Write.l0 k n (zs ++ suf) ((m : Int) - 1)) (writeR m n suf) := by
  intro m
  induction m with
  | zero =>
    intro zs suf n h0 h1 hz hm
    obtain rfl := List.eq_nil_of_length_eq_zero hz
    refine Ev.step (f := fun _ => some (writeR 0 n suf)) (fun k => ?_) (Ev.now _)
    simp only [digits_Write.l0]
    rw [if_neg (by decide)]
    unfold writeR
    simp only [Int.pow_zero, Int.ediv_one, decL, List.nil_append]
    split <;> rfl
  | succ m ih =>
    intro zs suf n h0 h1 hz hm
    obtain ⟨ys, z, rfl⟩ : ∃ ys z, zs = ys ++ [z] := ⟨zs.dropLast, zs.getLast (by intro h; rw [h] at hz; simp at hz), (List.dropLast_concat_getLast _).symm⟩
    have hy : ys.length = m := by simpa using hz
    rw [writeR_succ]
    refine Ev.step (fun k => ?_) (ih ys ((48 + n % 10) :: suf) (n / 10) (by omega) (by omega) hy (by omega))
    simp only [digits_Write.l0]
    rw [if_pos (by omega), if_pos (by omega), if_pos (by simp; omega)]
    have e1 : wrap64 (Int.tdiv n 10) = n / 10 := by rw [Int.tdiv_eq_ediv_of_nonneg h0, w64 (by omega)]
    have e2 : (wrap64 (48 + Int.tmod n 10)) % 256 = 48 + n % 10 := by rw [Int.tmod_eq_emod_of_nonneg h0, w64 (by omega)]; omega
    have e3 : wrap64 (((m + 1 : Nat) : Int) - 1 - 1) = (m : Int) - 1 := by rw [w64 (by omega)]; omega
    have e4 : ((((m + 1 : Nat) : Int) - 1) : Int).toNat = m := by omega
    rw [e1, e2, e3, e4]
    congr 1
    rw [List.append_assoc, List.set_append_right _ _ (by omega), hy, Nat.sub_self]
    rfl

theorem write_is (n : Int) (w : Nat) (h0 : 0 ≤ n) (h1 : n ≤ 9223372036854775807) (hw0 : 1 ≤ w) (hw : w ≤ 18) : Ev (fun k => digits_Write.f k n (w : Int)) (writeR w n []) := by
  refine Ev.step (fun k => ?_) (write_l0 w (List.replicate w 0) [] n h0 h1 (by simp) hw)
  unfold digits_Write.f
  rw [if_neg (by omega), if_neg (by omega), decide_eq_false (by omega)]
  simp only [digits_Write.j0]
  rw [if_neg (by decide), if_pos (by omega), if_pos (by omega), w64 (by omega)]
  simp
theorem write_arg (n w : Int) (h : n < 0 ∨ w < 1 ∨ w > 18) : Ev (fun k => digits_Write.f k n w) ((⟨#[]⟩ : ByteArray), 1) := by
  refine Ev.step (f := fun _ => some ((⟨#[]⟩ : ByteArray), 1)) (fun k => ?_) (Ev.now _)
  unfold digits_Write.f
  by_cases c1 : n < 0
  · rw [if_pos c1]; simp only [digits_Write.j0]; rfl
  · rw [if_neg c1]
    by_cases c2 : w < 1
    · rw [if_pos c2]; simp only [digits_Write.j0]; rfl
    · rw [if_neg c2, decide_eq_true (by omega)]; simp only [digits_Write.j0]; rfl

/-! ### the reference's -/
theorem pow_le18 (i : Nat) (h : i ≤ 18) : (10 : Int) ^ i ≤ 1000000000000000000 := by
  have := Nat.pow_le_pow_right (show 0 < 10 by decide) h
  have e : ((10 ^ i : Nat) : Int) = (10 : Int) ^ i := by simp
  rw [← e]
  omega
theorem pow_pos10 (i : Nat) : (0 : Int) < 10 ^ i := by
  have : 0 < 10 ^ i := Nat.pow_pos (by decide)
  have e : ((10 ^ i : Nat) : Int) = (10 : Int) ^ i := by simp
  rw [← e]
  omega
theorem power_l0 (w : Nat) (hw : w ≤ 18) : ∀ (d i : Nat), i + d = w → Ev (fun k => turnstileref1_power.l0 k (w : Int) (10 ^ i) (i : Int)) (10 ^ w) := by
  intro d
  induction d with
  | zero =>
    intro i hi
    obtain rfl : i = w := by omega
    refine Ev.step (f := fun _ => some (10 ^ i)) (fun k => ?_) (Ev.now _)
    simp only [turnstileref1_power.l0]
    rw [if_neg (by omega)]
  | succ d ih =>
    intro i hi
    refine Ev.step (fun k => ?_) (ih (i + 1) (by omega))
    simp only [turnstileref1_power.l0]
    rw [if_pos (by omega), w64 (by omega : -9223372036854775808 ≤ (i : Int) + 1 ∧ (i : Int) + 1 ≤ 9223372036854775807)]
    have hp := pow_le18 (i + 1) (by omega)
    have hq := pow_pos10 (i + 1)
    have e : (10 : Int) * 10 ^ i = 10 ^ (i + 1) := by rw [Int.pow_succ, Int.mul_comm]
    rw [e, w64 (by omega)]
    rfl
theorem power_is (w : Nat) (hw : w ≤ 18) : Ev (fun k => turnstileref1_power.f k (w : Int)) (10 ^ w) := by
  have := power_l0 w hw w 0 (by omega)
  simpa [turnstileref1_power.f] using this

def hexs : ByteArray := ⟨#[48, 49, 50, 51, 52, 53, 54, 55, 56, 57, 65, 66, 67, 68, 69, 70]⟩
theorem hexs_digit (d : Nat) (h : d < 10) : hexs.extract d (d + 1) = strOfNums [48 + (d : Int)] := by
  have : ∀ e : Fin 10, hexs.extract e.val (e.val + 1) = strOfNums [48 + (e.val : Int)] := by decide +kernel
  exact this ⟨d, h⟩

theorem rwrite_l0 (w : Nat) (hw : w ≤ 18) : ∀ (d i : Nat) (n : Int) (s : List Int), i + d = w → 0 ≤ n → n ≤ 9223372036854775807 → s.length = i →
    Ev (fun k => turnstileref1_Write.l0 k n (w : Int) (strOfNums s) (i : Int)) (strOfNums (decL d n ++ s), 0) := by
  intro d
  induction d with
  | zero =>
    intro i n s hi h0 h1 hs
    refine Ev.step (f := fun _ => some (strOfNums (decL 0 n ++ s), 0)) (fun k => ?_) (Ev.now _)
    simp only [turnstileref1_Write.l0]
    rw [if_neg (by omega)]
    rfl
  | succ d ih =>
    intro i n s hi h0 h1 hs
    have e0 : Int.tmod n 10 = n % 10 := Int.tmod_eq_emod_of_nonneg h0
    have ih' := ih (i + 1) (n / 10) ((48 + n % 10) :: s) (by omega) (by omega) (by omega) (by simp [hs])
    have er : decL (d + 1) n ++ s = decL d (n / 10) ++ ((48 + n % 10) :: s) := by simp [decL]
    rw [er]
    refine Ev.step (fun k => ?_) ih'
    simp only [turnstileref1_Write.l0]
    have e1 : wrap64 (n % 10 + 1) = n % 10 + 1 := w64 (by omega)
    have e2 : (n % 10 + 1 : Int).toNat = (n % 10).toNat + 1 := by omega
    have e3 : (⟨#[48, 49, 50, 51, 52, 53, 54, 55, 56, 57, 65, 66, 67, 68, 69, 70]⟩ : ByteArray).extract (n % 10 : Int).toNat ((n % 10).toNat + 1) = strOfNums [48 + n % 10] := by
      have := hexs_digit (n % 10).toNat (by omega)
      rw [show (((n % 10).toNat : Nat) : Int) = n % 10 by omega] at this
      exact this
    rw [if_pos (by omega), e0, if_pos (by omega), e1, if_pos (by omega), if_pos (by omega), e2, e3, if_pos (by rw [strOfNums_size, strOfNums_size]; simp; omega), ← strOfNums_append, Int.tdiv_eq_ediv_of_nonneg h0, w64 (by omega), w64 (by omega)]
    rfl
theorem rwrite_is (n : Int) (w : Nat) (h0 : 0 ≤ n) (h1 : n ≤ 9223372036854775807) (hw0 : 1 ≤ w) (hw : w ≤ 18) : Ev (fun k => turnstileref1_Write.f k n (w : Int)) (writeR w n []) := by
  have hp := pow_pos10 w
  have hc : n ≥ 10 ^ w ↔ n / 10 ^ w > 0 := by
    constructor
    · intro h
      have := Int.ediv_le_ediv hp h
      rw [Int.ediv_self (by omega)] at this
      omega
    · intro h
      have := Int.ediv_mul_le n (show (10 : Int) ^ w ≠ 0 by omega)
      have h3 : (1 : Int) * 10 ^ w ≤ n / 10 ^ w * 10 ^ w := Int.mul_le_mul_of_nonneg_right (by omega) (by omega)
      omega
  by_cases hb : n ≥ 10 ^ w
  · have e : writeR w n [] = ((⟨#[]⟩ : ByteArray), 13) := by unfold writeR; rw [if_pos (hc.1 hb)]
    rw [e]
    refine Ev.step (f := fun k => (turnstileref1_power.f k (w : Int)).bind fun t => if n ≥ t then some ((⟨#[]⟩ : ByteArray), 13) else turnstileref1_Write.l0 k n (w : Int) (⟨#[]⟩ : ByteArray) 0) (fun k => ?_) (Ev.bind (f := fun k t => if n ≥ t then some ((⟨#[]⟩ : ByteArray), 13) else turnstileref1_Write.l0 k n (w : Int) (⟨#[]⟩ : ByteArray) 0) (power_is w hw) ?_)
    · unfold turnstileref1_Write.f
      rw [if_neg (by omega), if_neg (by omega), decide_eq_false (by omega)]
      simp only [turnstileref1_Write.j0]
      rfl
    · exact ev_some fun k => if_pos hb
  · have e : writeR w n [] = (strOfNums (decL w n ++ []), 0) := by unfold writeR; rw [if_neg (fun h => hb (hc.2 h))]
    rw [e]
    refine Ev.step (f := fun k => (turnstileref1_power.f k (w : Int)).bind fun t => if n ≥ t then some ((⟨#[]⟩ : ByteArray), 13) else turnstileref1_Write.l0 k n (w : Int) (⟨#[]⟩ : ByteArray) 0) (fun k => ?_) (Ev.bind (f := fun k t => if n ≥ t then some ((⟨#[]⟩ : ByteArray), 13) else turnstileref1_Write.l0 k n (w : Int) (⟨#[]⟩ : ByteArray) 0) (power_is w hw) ?_)
    · unfold turnstileref1_Write.f
      rw [if_neg (by omega), if_neg (by omega), decide_eq_false (by omega)]
      simp only [turnstileref1_Write.j0]
      rfl
    · refine Ev.congr (fun k => if_neg hb) ?_
      have := rwrite_l0 w hw w 0 n [] (by omega) h0 h1 rfl
      exact this
theorem rwrite_arg (n w : Int) (h : n < 0 ∨ w < 1 ∨ w > 18) : Ev (fun k => turnstileref1_Write.f k n w) ((⟨#[]⟩ : ByteArray), 1) := by
  refine Ev.step (f := fun _ => some ((⟨#[]⟩ : ByteArray), 1)) (fun k => ?_) (Ev.now _)
  unfold turnstileref1_Write.f
  by_cases c1 : n < 0
  · rw [if_pos c1]; simp only [turnstileref1_Write.j0]; rfl
  · rw [if_neg c1]
    by_cases c2 : w < 1
    · rw [if_pos c2]; simp only [turnstileref1_Write.j0]; rfl
    · rw [if_neg c2, decide_eq_true (by omega)]; simp only [turnstileref1_Write.j0]; rfl
theorem write_same (n w : Int) (hn : -9223372036854775808 ≤ n ∧ n ≤ 9223372036854775807) : Same (fun k => digits_Write.f k n w) (fun k => turnstileref1_Write.f k n w) := by
  by_cases h : n < 0 ∨ w < 1 ∨ w > 18
  · exact Same.of (write_arg n w h) (rwrite_arg n w h)
  · obtain ⟨m, rfl⟩ := Int.eq_ofNat_of_zero_le (show 0 ≤ w by omega)
    exact Same.of (write_is n m (by omega) hn.2 (by omega) (by omega)) (rwrite_is n m (by omega) hn.2 (by omega) (by omega))
end Go.Proofs.Ytlpamhffpgoebaa.Pure

/- Pack of digits, told with enough rounds as a plain function on lists of numbers. Condition: a text that an append in the model can bear. -/
namespace Go.Proofs.Ytlpamhffpgoebaa.Pure
open Go.RowKit Go.Proofs.Ytlpamhffpgoebaa.All Go.Proofs.YtlpamhffpgoebaaW.PrintWords Go.Proofs.YtlpamhffpgoebaaW.PrintLast Go.Proofs.YtlpamhffpgoebaaW.PrintMore

theorem dropBt (s : ByteArray) (i : Nat) (h : i < s.size) : (bytesOf s).drop i = bt s i :: (bytesOf s).drop (i + 1) := by
  have hl : i < (bytesOf s).length := by rw [bytesOf_length]; exact h
  rw [List.drop_eq_getElem_cons hl]
  congr 1
  rw [← rd_bytesOf s i]
  simp [rd, List.getD, List.getElem?_eq_getElem hl]
theorem dropAll (s : ByteArray) (i : Nat) (h : s.size ≤ i) : (bytesOf s).drop i = [] := by
  rw [List.drop_eq_nil_iff, bytesOf_length]; exact h
theorem bytesRange (s : ByteArray) : ∀ x ∈ bytesOf s, 0 ≤ x ∧ x ≤ 255 := by
  intro x hx
  unfold bytesOf at hx
  obtain ⟨b, _, rfl⟩ := List.mem_map.1 hx
  have := b.toNat_lt
  omega
theorem bitsOr16 (a b : Int) (ha : 0 ≤ a ∧ a < 16) (hb : 0 ≤ b ∧ b < 16) : Go.bits .or .u8 ((a * 16) % 256) b = 16 * a + b := by
  have : ∀ e f : Fin 16, Go.bits .or .u8 (((e.val : Int) * 16) % 256) (f.val : Int) = 16 * (e.val : Int) + (f.val : Int) := by decide +kernel
  have h := this ⟨a.toNat, by omega⟩ ⟨b.toNat, by omega⟩
  simp only [show ((a.toNat : Nat) : Int) = a by omega, show ((b.toNat : Nat) : Int) = b by omega] at h
  exact h

/-- f of each, if each has one -/
def mapO (f : Int → Option Int) : List Int → Option (List Int)
  | [] => some []
  | c :: r => (f c).bind fun v => (mapO f r).map (v :: ·)
def packEnd (xs : List Int) : Option (List Int) → ByteArray × Int
  | none => ((⟨#[]⟩ : ByteArray), 11)
  | some vs => (strOfNums (xs ++ vs), 0)
theorem packEnd_cons (f : Int → Option Int) (c v : Int) (r xs : List Int) (h : f c = some v) : packEnd xs (mapO f (c :: r)) = packEnd (xs ++ [v]) (mapO f r) := by
  simp only [mapO, h, Option.bind_some]
  cases mapO f r <;> simp [packEnd]
theorem packEnd_none (f : Int → Option Int) (c : Int) (r xs : List Int) (h : f c = none) : packEnd xs (mapO f (c :: r)) = ((⟨#[]⟩ : ByteArray), 11) := by
  simp [mapO, h, packEnd]

/-- the byte of a character, of ASCII, EBCDIC, BINARY -/
def wr (enc c : Int) : Option Int := if enc = 5 then some c else if c < 32 then none else if c > 126 then none else if enc = 4 then some (rd ebL (c - 32)) else some c
theorem written_is (enc c : Int) : digits_written.f enc c = some (match wr enc c with | some v => (v, true) | none => (0, false)) := by
  unfold digits_written.f wr
  by_cases c1 : enc = 5
  · rw [if_pos c1, if_pos c1]
  · rw [if_neg c1, if_neg c1]
    by_cases c2 : c < 32
    · rw [if_pos c2, if_pos c2]
    · rw [if_neg c2, if_neg c2]
      by_cases c3 : c > 126
      · rw [if_pos c3, if_pos c3]
      · rw [if_neg c3, if_neg c3]
        by_cases c4 : enc = 4
        · rw [if_pos c4, if_pos c4]
        · rw [if_neg c4, if_neg c4]

theorem pack_l0 (enc : Int) (s : ByteArray) (hs : s.size ≤ 140737488355300) : ∀ (d i : Nat) (xs : List Int), i + d = s.size → xs.length = i →
    Ev (fun k => digits_Pack.l0 k enc s xs (s.size : Int) (i : Int)) (packEnd xs (mapO (wr enc) ((bytesOf s).drop i))) := by
  intro d
  induction d with
  | zero =>
    intro i xs hi hx
    rw [dropAll s i (by omega)]
    refine Ev.step (f := fun _ => some (packEnd xs (mapO (wr enc) []))) (fun k => ?_) (Ev.now _)
    simp only [digits_Pack.l0]; rw [if_neg (by omega)]; simp [packEnd, mapO]
  | succ d ih =>
    intro i xs hi hx
    rw [dropBt s i (by omega)]
    have q1 : (i : Int) < (s.size : Int) := by omega
    have q2 : (0 : Int) ≤ (i : Int) := by omega
    cases hw : wr enc (bt s (i : Int)) with
    | none =>
      rw [packEnd_none _ _ _ _ hw]
      refine Ev.step (f := fun _ => some ((⟨#[]⟩ : ByteArray), 11)) (fun k => ?_) (Ev.now _)
      simp only [digits_Pack.l0, written_is, hw]; rw [if_pos q1, if_pos q2, if_pos q1]; rfl
    | some v =>
      rw [packEnd_cons _ _ v _ _ hw]
      refine Ev.step (fun k => ?_) (ih (i + 1) (xs ++ [v]) (by omega) (by simp [hx]))
      simp only [digits_Pack.l0, written_is, hw]; rw [if_pos q1, if_pos q2, if_pos q1, w64 (by omega)]
      simp only [Option.bind_some, if_true]
      rw [if_pos (by omega)]
      rfl

/-! ### two characters a byte -/
/-- the half of a character -/
def halfS (c : Int) : Option Int := if c = 61 then some 13 else if c < 48 then none else if c > 57 then none else some (c - 48)
theorem halfS_range {c v : Int} (h : halfS c = some v) : 0 ≤ v ∧ v < 16 := by
  unfold halfS at h
  by_cases c1 : c = 61
  · rw [if_pos c1] at h; injection h; omega
  · rw [if_neg c1] at h
    by_cases c2 : c < 48
    · rw [if_pos c2] at h; cases h
    · rw [if_neg c2] at h
      by_cases c3 : c > 57
      · rw [if_pos c3] at h; cases h
      · rw [if_neg c3] at h; injection h; omega
theorem mapO_range : ∀ (cs vs : List Int), mapO halfS cs = some vs → ∀ v ∈ vs, 0 ≤ v ∧ v < 16
  | [], vs, h, v, hv => by simp [mapO] at h; subst h; cases hv
  | c :: r, vs, h, v, hv => by
    simp only [mapO] at h
    cases hc : halfS c with
    | none => rw [hc] at h; simp at h
    | some u =>
      rw [hc] at h
      simp only [Option.bind_some] at h
      cases hr : mapO halfS r with
      | none => rw [hr] at h; simp at h
      | some us =>
        rw [hr] at h
        simp only [Option.map_some, Option.some.injEq] at h
        subst h
        rcases List.mem_cons.1 hv with e | e
        · subst e; exact halfS_range hc
        · exact mapO_range r us hr v e
def pairs : List Int → List Int
  | a :: b :: r => (16 * a + b) :: pairs r
  | _ => []
def padL (l : List Int) : List Int := if l.length % 2 = 1 then l ++ [15] else l
def halfEnd (xs : List Int) : Option (List Int) → ByteArray × Int
  | none => ((⟨#[]⟩ : ByteArray), 11)
  | some vs => (strOfNums (pairs (padL (xs ++ vs))), 0)
theorem halfEnd_cons (c v : Int) (r xs : List Int) (h : halfS c = some v) : halfEnd xs (mapO halfS (c :: r)) = halfEnd (xs ++ [v]) (mapO halfS r) := by
  simp only [mapO, h, Option.bind_some]
  cases mapO halfS r <;> simp [halfEnd]
theorem halfEnd_none (c : Int) (r xs : List Int) (h : halfS c = none) : halfEnd xs (mapO halfS (c :: r)) = ((⟨#[]⟩ : ByteArray), 11) := by
  simp [mapO, h, halfEnd]
theorem dropTwo (l : List Int) (i : Nat) (h : i + 1 < l.length) : l.drop i = rd l (i : Int) :: rd l ((i + 1 : Nat) : Int) :: l.drop (i + 2) := by
  have h0 : i < l.length := by omega
  rw [List.drop_eq_getElem_cons h0, List.drop_eq_getElem_cons h]
  simp [rd, List.getD, List.getElem?_eq_getElem h0, List.getElem?_eq_getElem h]
theorem rdRange (l : List Int) (hr : ∀ v ∈ l, 0 ≤ v ∧ v < 16) (i : Nat) (h : i < l.length) : 0 ≤ rd l (i : Int) ∧ rd l (i : Int) < 16 := by
  have : rd l (i : Int) = l[i] := by simp [rd, List.getD, List.getElem?_eq_getElem h]
  rw [this]
  exact hr _ (List.getElem_mem h)

theorem halves_l1 (l : List Int) (hl : l.length ≤ 140737488355320) (hev : l.length % 2 = 0) (hr : ∀ v ∈ l, 0 ≤ v ∧ v < 16) : ∀ (d j : Nat) (xs : List Int), 2 * j + 2 * d = l.length → xs.length = j →
    Ev (fun k => digits_packHalves.l1 k l xs ((2 * j : Nat) : Int)) (strOfNums (xs ++ pairs (l.drop (2 * j))), 0) := by
  intro d
  induction d with
  | zero =>
    intro j xs hj hx
    rw [List.drop_eq_nil_iff.2 (by omega)]
    refine Ev.step (f := fun _ => some (strOfNums (xs ++ pairs []), 0)) (fun k => ?_) (Ev.now _)
    simp only [digits_packHalves.l1]
    rw [if_neg (by omega)]
    simp [pairs]
  | succ d ih =>
    intro j xs hj hx
    rw [dropTwo l (2 * j) (by omega)]
    have ra := rdRange l hr (2 * j) (by omega)
    have rb := rdRange l hr (2 * j + 1) (by omega)
    have e : xs ++ pairs (rd l ((2 * j : Nat) : Int) :: rd l ((2 * j + 1 : Nat) : Int) :: l.drop (2 * j + 2)) = (xs ++ [16 * rd l ((2 * j : Nat) : Int) + rd l ((2 * j + 1 : Nat) : Int)]) ++ pairs (l.drop (2 * (j + 1))) := by
      simp [pairs]; rfl
    rw [e]
    refine Ev.step (fun k => ?_) (ih (j + 1) (xs ++ [16 * rd l ((2 * j : Nat) : Int) + rd l ((2 * j + 1 : Nat) : Int)]) (by omega) (by simp [hx]))
    have e1 : wrap64 (((2 * j : Nat) : Int) + 1) = ((2 * j + 1 : Nat) : Int) := by rw [w64 (by omega)]; omega
    have e2 : wrap64 (((2 * j : Nat) : Int) + 2) = ((2 * (j + 1) : Nat) : Int) := by rw [w64 (by omega)]; omega
    simp only [digits_packHalves.l1]
    rw [e1, e2, bitsOr16 _ _ ra rb, if_pos (by omega), if_pos (by omega), if_pos (by omega), if_pos (by omega), if_pos (by omega)]

theorem padL_len (l : List Int) : (padL l).length ≤ l.length + 1 := by
  unfold padL
  split
  · simp
  · omega
theorem padL_even (l : List Int) : (padL l).length % 2 = 0 := by
  unfold padL
  split
  · simp; omega
  · omega
theorem padL_range (l : List Int) (hr : ∀ v ∈ l, 0 ≤ v ∧ v < 16) : ∀ v ∈ padL l, 0 ≤ v ∧ v < 16 := by
  unfold padL
  split
  · intro v hv
    rcases List.mem_append.1 hv with h | h
    · exact hr v h
    · simp at h; omega
  · exact hr

theorem halves_j3 (l : List Int) (hl : l.length ≤ 140737488355310) (hr : ∀ v ∈ l, 0 ≤ v ∧ v < 16) :
    Ev (fun k => if ((l.length : Int) % 2) = 1 then (if l.length < 140737488355328 then (digits_packHalves.j3 k (l ++ [15])) else (none)) else (digits_packHalves.j3 k l)) (strOfNums (pairs (padL l)), 0) := by
  have hp := halves_l1 (padL l) (by have := padL_len l; omega) (padL_even l) (padL_range l hr) ((padL l).length / 2) 0 [] (by have := padL_even l; omega) rfl
  refine Ev.step (fun k => ?_) hp
  unfold padL
  by_cases h : l.length % 2 = 1
  · rw [if_pos (by omega), if_pos (by omega), if_pos h]
    simp only [digits_packHalves.j3]; rfl
  · rw [if_neg (by omega), if_neg h]
    simp only [digits_packHalves.j3]; rfl

theorem half_is (c : Int) : ∃ u, digits_half.f c = some (match halfS c with | some v => (v, true) | none => (u, false)) := by
  unfold digits_half.f halfS
  by_cases c1 : c = 61
  · rw [if_pos c1, if_pos c1]; exact ⟨0, rfl⟩
  · rw [if_neg c1, if_neg c1]
    by_cases c2 : c < 48
    · rw [if_neg (by omega), if_pos c2]; exact ⟨_, rfl⟩
    · rw [if_pos (by omega), if_neg c2]
      by_cases c3 : c > 57
      · rw [if_pos c3, decide_eq_false (by omega)]; exact ⟨_, rfl⟩
      · rw [if_neg c3, decide_eq_true (by omega)]; exact ⟨0, by simp; omega⟩

theorem halves_l0 (s : ByteArray) (hs : s.size ≤ 140737488355300) (z : Nat) (hz : z ≤ 1) : ∀ (d i : Nat) (xs : List Int), i + d = s.size → xs.length = i + z → (∀ v ∈ xs, 0 ≤ v ∧ v < 16) →
    Ev (fun k => digits_packHalves.l0 k s xs (s.size : Int) (i : Int)) (halfEnd xs (mapO halfS ((bytesOf s).drop i))) := by
  intro d
  induction d with
  | zero =>
    intro i xs hi hx hr
    rw [dropAll s i (by omega)]
    have h := halves_j3 xs (by omega) hr
    have e : halfEnd xs (mapO halfS []) = (strOfNums (pairs (padL xs)), 0) := by simp [halfEnd, mapO]
    rw [e]
    refine Ev.step (fun k => ?_) h
    simp only [digits_packHalves.l0]; rw [if_neg (by omega)]
  | succ d ih =>
    intro i xs hi hx hr
    rw [dropBt s i (by omega)]
    have q1 : (i : Int) < (s.size : Int) := by omega
    have q2 : (0 : Int) ≤ (i : Int) := by omega
    obtain ⟨u, hu⟩ := half_is (bt s (i : Int))
    cases hw : halfS (bt s (i : Int)) with
    | none =>
      rw [halfEnd_none _ _ _ hw]
      rw [hw] at hu
      refine Ev.step (f := fun _ => some ((⟨#[]⟩ : ByteArray), 11)) (fun k => ?_) (Ev.now _)
      simp only [digits_packHalves.l0, hu]; rw [if_pos q1, if_pos q2, if_pos q1]; rfl
    | some v =>
      rw [halfEnd_cons _ v _ _ hw]
      rw [hw] at hu
      refine Ev.step (fun k => ?_) (ih (i + 1) (xs ++ [v]) (by omega) (by simp [hx]; omega) (fun x hx => by
        rcases List.mem_append.1 hx with h | h
        · exact hr x h
        · simp at h; subst h; exact halfS_range hw))
      simp only [digits_packHalves.l0, hu]; rw [if_pos q1, if_pos q2, if_pos q1, w64 (by omega)]
      simp only [Option.bind_some, if_true]
      rw [if_pos (by omega)]
      rfl

/-- what Pack tells of BCD and BCDR -/
def halfPackS (enc : Int) (cs : List Int) : ByteArray × Int := halfEnd (if enc = 2 ∧ cs.length % 2 = 1 then [0] else []) (mapO halfS cs)
theorem halves_is (enc : Int) (s : ByteArray) (hs : s.size ≤ 140737488355300) : Ev (fun k => digits_packHalves.f k enc s) (halfPackS enc (bytesOf s)) := by
  unfold halfPackS
  rw [bytesOf_length]
  by_cases h2 : enc = 2 ∧ s.size % 2 = 1
  · rw [if_pos h2]
    have h := halves_l0 s hs 1 (by omega) s.size 0 [0] (by omega) rfl (fun v hv => by simp at hv; omega)
    refine Ev.step (f := fun k => digits_packHalves.j1 k s [0]) (fun k => ?_) (Ev.step (fun k => ?_) h)
    · unfold digits_packHalves.f
      rw [if_pos h2.1]
      have e : (((s.size : Int) % 2) == 1) = true := by rw [beq_iff_eq]; omega
      rw [e]
      simp only [digits_packHalves.j0]; rfl
    · simp only [digits_packHalves.j1]; rfl
  · rw [if_neg h2]
    have h := halves_l0 s hs 0 (by omega) s.size 0 [] (by omega) rfl (fun v hv => by cases hv)
    refine Ev.step (f := fun k => digits_packHalves.j1 k s []) (fun k => ?_) (Ev.step (fun k => ?_) h)
    · unfold digits_packHalves.f
      by_cases c2 : enc = 2
      · rw [if_pos c2]
        have e : (((s.size : Int) % 2) == 1) = false := by rw [beq_eq_false_iff_ne]; intro h; exact h2 ⟨c2, by omega⟩
        rw [e]
        simp only [digits_packHalves.j0]; rfl
      · rw [if_neg c2]
        simp only [digits_packHalves.j0]; rfl
    · simp only [digits_packHalves.j1]; rfl

/-! ### Pack -/
def packS (enc : Int) (cs : List Int) : ByteArray × Int :=
  if enc = 2 ∨ enc = 3 then halfPackS enc cs else if enc = 1 ∨ enc = 4 ∨ enc = 5 then packEnd [] (mapO (wr enc) cs) else ((⟨#[]⟩ : ByteArray), 1)
theorem pack_is (enc : Int) (s : ByteArray) (hs : s.size ≤ 140737488355300) : Ev (fun k => digits_Pack.f k enc s) (packS enc (bytesOf s)) := by
  unfold packS
  by_cases h23 : enc = 2 ∨ enc = 3
  · rw [if_pos h23]
    refine Ev.step (f := fun k => (digits_packHalves.f k enc s).bind fun b => some (b.1, b.2)) (fun k => ?_) (Ev.bind (halves_is enc s hs) (Ev.now _))
    unfold digits_Pack.f
    rcases h23 with h | h
    · subst h; rw [if_pos rfl]; simp only [digits_Pack.j0]; rfl
    · subst h; rw [if_neg (by decide)]; simp only [digits_Pack.j0]; rfl
  · rw [if_neg h23]
    have n2 : ¬ enc = 2 := fun h => h23 (.inl h)
    have n3 : (enc == 3) = false := beq_eq_false_iff_ne.mpr fun h => h23 (.inr h)
    by_cases h145 : enc = 1 ∨ enc = 4 ∨ enc = 5
    · rw [if_pos h145]
      have h := pack_l0 enc s hs s.size 0 [] (by omega) rfl
      refine Ev.step (f := fun k => digits_Pack.j1 k enc s true) (fun k => ?_) (Ev.step (fun k => ?_) h)
      · unfold digits_Pack.f
        rw [if_neg n2, n3]
        simp only [digits_Pack.j0]
        rcases h145 with h | h | h <;> subst h <;> rfl
      · simp only [digits_Pack.j1]
        rw [if_pos trivial, if_pos (by omega), if_pos (by omega)]
        rfl
    · rw [if_neg h145]
      refine Ev.step (f := fun k => digits_Pack.j1 k enc s false) (fun k => ?_) (Ev.step (f := fun _ => some ((⟨#[]⟩ : ByteArray), 1)) (fun k => ?_) (Ev.now _))
      · unfold digits_Pack.f
        rw [if_neg n2, n3]
        simp only [digits_Pack.j0]
        have m1 : ¬ enc = 1 := fun h => h145 (.inl h)
        have m4 : ¬ enc = 4 := fun h => h145 (.inr (.inl h))
        have m5 : (enc == 5) = false := beq_eq_false_iff_ne.mpr fun h => h145 (.inr (.inr h))
        rw [if_neg (by decide), if_neg m1, if_neg m4, m5]
      · simp only [digits_Pack.j1]; rfl
end Go.Proofs.Ytlpamhffpgoebaa.Pure

/- Prefix of digits and of the reference, told with enough rounds as one plain function. Condition: numbers of 64 bits. -/
namespace Go.Proofs.Ytlpamhffpgoebaa.Pure
open Go.RowKit Go.Proofs.Ytlpamhffpgoebaa.All Go.Proofs.YtlpamhffpgoebaaW.PrintWords Go.Proofs.YtlpamhffpgoebaaW.PrintLast Go.Proofs.YtlpamhffpgoebaaW.PrintMore

/-- may a length be so? -/
def okLen (enc d : Int) : Prop := (enc = 1 ∨ enc = 2 ∨ enc = 4 ∨ enc = 5) ∧ 1 ≤ d ∧ d ≤ 4
instance (enc d : Int) : Decidable (okLen enc d) := by unfold okLen; infer_instance
/-- how many bytes a length has -/
def wideS (enc d : Int) : Int := if okLen enc d then (if enc = 5 ∨ enc = 2 then (d + 1) / 2 else d) else 0
theorem wide_half (enc d : Int) (h : okLen enc d) (h2 : enc = 5 ∨ enc = 2) : wideS enc d = (d + 1) / 2 := by unfold wideS; rw [if_pos h, if_pos h2]
theorem wide_full (enc d : Int) (h : okLen enc d) (h2 : ¬ (enc = 5 ∨ enc = 2)) : wideS enc d = d := by unfold wideS; rw [if_pos h, if_neg h2]
theorem wide_none (enc d : Int) (h : ¬ okLen enc d) : wideS enc d = 0 := by unfold wideS; rw [if_neg h]
theorem wide_is (enc d : Int) : Ev (fun k => digits_wide.f k enc d) (wideS enc d) := by
  by_cases hd : 1 ≤ d ∧ d ≤ 4
  · refine Ev.step (f := fun k => if enc = 5 then (digits_wide.j1 k d enc (enc == 5)) else (digits_wide.j1 k d enc (enc == 2))) (fun k => ?_) (Ev.step (f := fun _ => some (wideS enc d)) (fun k => ?_) (Ev.now _))
    · unfold digits_wide.f
      rw [if_neg (by omega), decide_eq_false (by omega)]
      simp only [digits_wide.j0]; rfl
    · by_cases c5 : enc = 5
      · rw [if_pos c5, wide_half enc d ⟨by simp [c5], hd⟩ (.inl c5), beq_iff_eq.mpr c5]; simp only [digits_wide.j1]
        rw [if_pos trivial, w64 (by omega : -9223372036854775808 ≤ d + 1 ∧ d + 1 ≤ 9223372036854775807), Int.tdiv_eq_ediv_of_nonneg (by omega), w64 (by omega)]
      · rw [if_neg c5]
        by_cases c2 : enc = 2
        · rw [wide_half enc d ⟨by simp [c2], hd⟩ (.inr c2), beq_iff_eq.mpr c2]; simp only [digits_wide.j1]
          rw [if_pos trivial, w64 (by omega : -9223372036854775808 ≤ d + 1 ∧ d + 1 ≤ 9223372036854775807), Int.tdiv_eq_ediv_of_nonneg (by omega), w64 (by omega)]
        · have e : (enc == 2) = false := beq_eq_false_iff_ne.mpr c2
          rw [e]; simp only [digits_wide.j1]
          rw [if_neg (by decide)]
          by_cases c1 : enc = 1
          · rw [if_pos c1, wide_full enc d ⟨by simp [c1], hd⟩ (by simp [c2, c5])]
          · rw [if_neg c1]
            by_cases c4 : enc = 4
            · rw [if_pos c4, wide_full enc d ⟨by simp [c4], hd⟩ (by simp [c2, c5])]
            · rw [if_neg c4, wide_none enc d (by simp [okLen, c1, c2, c4, c5])]
  · have e : wideS enc d = 0 := wide_none enc d (fun h => hd h.2)
    rw [e]
    refine Ev.step (f := fun _ => some 0) (fun k => ?_) (Ev.now _)
    unfold digits_wide.f
    by_cases c1 : d < 1
    · rw [if_pos c1]; simp only [digits_wide.j0]; rfl
    · rw [if_neg c1, decide_eq_true (by omega)]; simp only [digits_wide.j0]; rfl

theorem ten_l0 (w : Nat) (hw : w ≤ 4) : ∀ (d i : Nat), i + d = w → Ev (fun k => digits_ten.l0 k (10 ^ i) (w : Int) (i : Int)) (10 ^ w) := by
  intro d
  induction d with
  | zero =>
    intro i hi
    obtain rfl : i = w := by omega
    refine Ev.step (f := fun _ => some (10 ^ i)) (fun k => ?_) (Ev.now _)
    simp only [digits_ten.l0]
    rw [if_neg (by omega)]
  | succ d ih =>
    intro i hi
    refine Ev.step (fun k => ?_) (ih (i + 1) (by omega))
    simp only [digits_ten.l0]
    rw [if_pos (by omega), w64 (by omega : -9223372036854775808 ≤ (i : Int) + 1 ∧ (i : Int) + 1 ≤ 9223372036854775807)]
    have hp := pow_le18 (i + 1) (by omega)
    have hq := pow_pos10 (i + 1)
    have e : (10 : Int) ^ i * 10 = 10 ^ (i + 1) := by rw [Int.pow_succ]
    rw [e, w64 (by omega)]
    rfl
theorem ten_is (w : Nat) (hw : w ≤ 4) : Ev (fun k => digits_ten.f k (w : Int)) (10 ^ w) := by
  have := ten_l0 w hw w 0 (by omega)
  simpa [digits_ten.f] using this

/-- a length in front of what has it -/
def prefS (enc d n : Int) : ByteArray × Int :=
  if ¬ okLen enc d ∨ n < 0 then ((⟨#[]⟩ : ByteArray), 1) else if n ≥ 10 ^ d.toNat then ((⟨#[]⟩ : ByteArray), 13)
  else if enc = 5 then (if d ≤ 2 then (strOfNums [n % 256], 0) else (strOfNums [(n / 256) % 256, n % 256], 0))
  else packS enc (bytesOf (strOfNums (decL d.toNat n)))

theorem prefS_ok (enc d n : Int) (ho : okLen enc d) (h0 : ¬ n < 0) : prefS enc d n = if n ≥ 10 ^ d.toNat then ((⟨#[]⟩ : ByteArray), 13)
    else if enc = 5 then (if d ≤ 2 then (strOfNums [n % 256], 0) else (strOfNums [(n / 256) % 256, n % 256], 0)) else packS enc (bytesOf (strOfNums (decL d.toNat n))) := by
  unfold prefS
  rw [if_neg (by intro h; rcases h with h | h; exact h ho; exact h0 h)]

theorem prefix_is (enc d n : Int) (hn : -9223372036854775808 ≤ n ∧ n ≤ 9223372036854775807) : Ev (fun k => digits_Prefix.f k enc d n) (prefS enc d n) := by
  by_cases ho : okLen enc d
  · have hw : 1 ≤ wideS enc d ∧ wideS enc d ≤ 4 := by
      obtain ⟨_, h1, h4⟩ := ho
      unfold wideS; rw [if_pos ⟨by assumption, h1, h4⟩]; split <;> omega
    by_cases h0 : n < 0
    · have e : prefS enc d n = ((⟨#[]⟩ : ByteArray), 1) := by unfold prefS; rw [if_pos (.inr h0)]
      rw [e]
      refine Ev.bind (f := fun k t => if t = 0 then digits_Prefix.j0 k enc d n t true else digits_Prefix.j0 k enc d n t (decide (n < 0))) (wide_is enc d) (Ev.step (f := fun _ => some ((⟨#[]⟩ : ByteArray), 1)) (fun k => ?_) (Ev.now _))
      rw [if_neg (by omega), decide_eq_true h0]; simp only [digits_Prefix.j0]; rfl
    · obtain ⟨he, h1, h4⟩ := ho
      obtain ⟨m, rfl⟩ := Int.eq_ofNat_of_zero_le (show 0 ≤ d by omega)
      have hm : m ≤ 4 := by omega
      have hp := pow_pos10 m
      refine Ev.bind (f := fun k t => if t = 0 then digits_Prefix.j0 k enc m n t true else digits_Prefix.j0 k enc m n t (decide (n < 0))) (wide_is enc m) ?_
      refine Ev.step (f := fun k => (digits_ten.f k (m : Int)).bind fun t => (if n ≥ t then (some ((⟨#[]⟩ : ByteArray), 13)) else (if enc = 5 then ((some (([(n / 256) % 256, n % 256] : List Int) : List Int)).bind fun y => (if 0 ≤ (wrap64 (2 - wideS enc m)) then (if (wrap64 (2 - wideS enc m)) ≤ (y.length : Int) then (some (strOfNums (y.drop ((wrap64 (2 - wideS enc m)) : Int).toNat), 0)) else (none)) else (none))) else ((digits_Write.f k n m).bind fun b => (if b.2 = 0 then ((digits_Pack.f k enc b.1).bind fun c => (some (c.1, c.2))) else (some ((⟨#[]⟩ : ByteArray), b.2))))))) (fun k => ?_) ?_
      · rw [if_neg (by omega), decide_eq_false h0]; simp only [digits_Prefix.j0]; rfl
      · refine evb (ten_is m hm) ?_
        unfold prefS
        rw [if_neg (by intro h; rcases h with h | h; exact h ⟨he, h1, h4⟩; exact h0 h), Int.toNat_natCast]
        by_cases hb : n ≥ 10 ^ m
        · rw [if_pos hb]; exact ev_some fun k => if_pos hb
        · rw [if_neg hb]
          refine Ev.congr (fun k => if_neg hb) ?_
          by_cases c5 : enc = 5
          · rw [if_pos c5]
            refine ev_some fun k => (if_pos c5).trans ?_
            have ew : wideS enc m = ((m : Int) + 1) / 2 := by unfold wideS; rw [if_pos ⟨he, h1, h4⟩, if_pos (.inl c5)]
            rw [ew, Option.bind_some]
            by_cases h2 : (m : Int) ≤ 2
            · rw [if_pos h2, w64 (by omega), if_pos (by omega), if_pos (by simp; omega)]
              have : (2 - ((m : Int) + 1) / 2 : Int).toNat = 1 := by omega
              rw [this]; rfl
            · rw [if_neg h2, w64 (by omega), if_pos (by omega), if_pos (by simp; omega)]
              have : (2 - ((m : Int) + 1) / 2 : Int).toNat = 0 := by omega
              rw [this]; rfl
          · rw [if_neg c5]
            refine Ev.congr (fun k => if_neg c5) ?_
            have hw := write_is n m (by omega) hn.2 (by omega) (by omega)
            have ew : writeR m n [] = (strOfNums (decL m n), 0) := by
              unfold writeR
              have : n / 10 ^ m = 0 := Int.ediv_eq_zero_of_lt (by omega) (by omega)
              rw [this, if_neg (by decide), List.append_nil]
            rw [ew] at hw
            refine evb hw ?_
            refine Ev.congr (f := fun k => (digits_Pack.f k enc (strOfNums (decL m n))).bind fun c => some (c.1, c.2)) (fun k => if_pos rfl) ?_
            refine evb (pack_is enc _ (by rw [strOfNums_size, decL_length]; omega)) (Ev.now _)
  · have e : prefS enc d n = ((⟨#[]⟩ : ByteArray), 1) := by unfold prefS; rw [if_pos (.inl ho)]
    rw [e]
    have ew : wideS enc d = 0 := by unfold wideS; rw [if_neg ho]
    refine Ev.bind (f := fun k t => if t = 0 then digits_Prefix.j0 k enc d n t true else digits_Prefix.j0 k enc d n t (decide (n < 0))) (wide_is enc d) (Ev.step (f := fun _ => some ((⟨#[]⟩ : ByteArray), 1)) (fun k => ?_) (Ev.now _))
    rw [if_pos ew]; simp only [digits_Prefix.j0]; rfl
end Go.Proofs.Ytlpamhffpgoebaa.Pure

-- WRITTEN BY this session's own drv.py over the kit's print. Not trusted: Lean checks it.
namespace Go.Proofs.Ytlpamhffpgoebaa.All
open Go.RowKit Go.Proofs.YtlpamhffpgoebaaW.PrintWords Go.Proofs.YtlpamhffpgoebaaW.PrintLast Go.Proofs.YtlpamhffpgoebaaW.PrintMore
attribute [local go_sem] max2_int min2_int max_two min_two max_three min_three max_four min_four   -- for this text's walks alone
set_option linter.unusedVariables false
set_option linter.unusedSimpArgs false

/-! ### digits_Width: function 20 -/
def digits_Width.f (a0 : Int) (a1 : Int) : Option (Int) := if a1 < 0 then (some 0) else (if a0 = 2 then (some (wrap64 ((wrap64 (Int.tdiv a1 2)) + (Int.tmod a1 2)))) else (if a0 = 3 then (some (wrap64 ((wrap64 (Int.tdiv a1 2)) + (Int.tmod a1 2)))) else (if a0 = 1 then (some a1) else (if a0 = 4 then (some a1) else (if a0 = 5 then (some a1) else (some 0))))))
set_option maxHeartbeats 8000000 in
set_option maxRecDepth 100000 in
theorem digits_Width.calls (a0 : Int) (a1 : Int) (r : Int) (w : World) (h : digits_Width.f a0 a1 = some r) :
    Calls Try.prog 20 #[.int .i64 a0, .int .i64 a1] w fun e w' => e = .returned (.int .i64 r) ∧ Drawn0 w w' := by
  have H : (if a1 < 0 then (some 0) else (if a0 = 2 then (some (wrap64 ((wrap64 (Int.tdiv a1 2)) + (Int.tmod a1 2)))) else (if a0 = 3 then (some (wrap64 ((wrap64 (Int.tdiv a1 2)) + (Int.tmod a1 2)))) else (if a0 = 1 then (some a1) else (if a0 = 4 then (some a1) else (if a0 = 5 then (some a1) else (some 0))))))) = some r := h
  clear h
  by_cases c3 : a1 < 0
  · rw [if_pos c3] at H
    have c3b0 : decide (a1 < 0) = true := decide_eq_true c3
    clear c3
    obtain rfl := Option.some.inj H
    go_enter Try.func20, Try.ntmps20
    go_wp2
    go_ret
    exact ⟨by first | rfl | (simp; done) | (simp [*]; done), by repeat (first | exact Drawn0.refl _ | apply Drawn0.step)⟩
  · rw [if_neg c3] at H
    have c3b0 : decide (a1 < 0) = false := decide_eq_false c3
    clear c3
    by_cases c4 : a0 = 2
    · rw [if_pos c4] at H
      have c4b0 : (a0 == 2) = true := beq_iff_eq.mpr c4
      have c4b1 : (a0 != 2) = false := bne_eq_false_iff_eq.mpr c4
      clear c4
      obtain rfl := Option.some.inj H
      go_enter Try.func20, Try.ntmps20
      go_wp2
      go_ret
      exact ⟨by first | rfl | (simp; done) | (simp [*]; done), by repeat (first | exact Drawn0.refl _ | apply Drawn0.step)⟩
    · rw [if_neg c4] at H
      have c4b0 : (a0 == 2) = false := beq_eq_false_iff_ne.mpr c4
      have c4b1 : (a0 != 2) = true := bne_iff_ne.mpr c4
      by_cases c5 : a0 = 3
      · rw [if_pos c5] at H
        have c5b0 : (a0 == 3) = true := beq_iff_eq.mpr c5
        have c5b1 : (a0 != 3) = false := bne_eq_false_iff_eq.mpr c5
        clear c5
        obtain rfl := Option.some.inj H
        go_enter Try.func20, Try.ntmps20
        go_wp2
        go_ret
        exact ⟨by first | rfl | (simp; done) | (simp [*]; done), by repeat (first | exact Drawn0.refl _ | apply Drawn0.step)⟩
      · rw [if_neg c5] at H
        have c5b0 : (a0 == 3) = false := beq_eq_false_iff_ne.mpr c5
        have c5b1 : (a0 != 3) = true := bne_iff_ne.mpr c5
        by_cases c6 : a0 = 1
        · rw [if_pos c6] at H
          have c6b0 : (a0 == 1) = true := beq_iff_eq.mpr c6
          have c6b1 : (a0 != 1) = false := bne_eq_false_iff_eq.mpr c6
          clear c6
          obtain rfl := Option.some.inj H
          go_enter Try.func20, Try.ntmps20
          go_wp2
          go_ret
          exact ⟨by first | rfl | (simp; done) | (simp [*]; done), by repeat (first | exact Drawn0.refl _ | apply Drawn0.step)⟩
        · rw [if_neg c6] at H
          have c6b0 : (a0 == 1) = false := beq_eq_false_iff_ne.mpr c6
          have c6b1 : (a0 != 1) = true := bne_iff_ne.mpr c6
          by_cases c7 : a0 = 4
          · rw [if_pos c7] at H
            have c7b0 : (a0 == 4) = true := beq_iff_eq.mpr c7
            have c7b1 : (a0 != 4) = false := bne_eq_false_iff_eq.mpr c7
            clear c7
            obtain rfl := Option.some.inj H
            go_enter Try.func20, Try.ntmps20
            go_wp2
            go_ret
            exact ⟨by first | rfl | (simp; done) | (simp [*]; done), by repeat (first | exact Drawn0.refl _ | apply Drawn0.step)⟩
          · rw [if_neg c7] at H
            have c7b0 : (a0 == 4) = false := beq_eq_false_iff_ne.mpr c7
            have c7b1 : (a0 != 4) = true := bne_iff_ne.mpr c7
            by_cases c8 : a0 = 5
            · rw [if_pos c8] at H
              have c8b0 : (a0 == 5) = true := beq_iff_eq.mpr c8
              have c8b1 : (a0 != 5) = false := bne_eq_false_iff_eq.mpr c8
              clear c8
              obtain rfl := Option.some.inj H
              go_enter Try.func20, Try.ntmps20
              go_wp2
              go_ret
              exact ⟨by first | rfl | (simp; done) | (simp [*]; done), by repeat (first | exact Drawn0.refl _ | apply Drawn0.step)⟩
            · rw [if_neg c8] at H
              have c8b0 : (a0 == 5) = false := beq_eq_false_iff_ne.mpr c8
              have c8b1 : (a0 != 5) = true := bne_iff_ne.mpr c8
              obtain rfl := Option.some.inj H
              go_enter Try.func20, Try.ntmps20
              go_wp2
              go_ret
              exact ⟨by first | rfl | (simp; done) | (simp [*]; done), by repeat (first | exact Drawn0.refl _ | apply Drawn0.step)⟩

end Go.Proofs.Ytlpamhffpgoebaa.All

-- WRITTEN BY this session's own drv.py over the kit's print. Not trusted: Lean checks it.
namespace Go.Proofs.Ytlpamhffpgoebaa.All
open Go.RowKit Go.Proofs.YtlpamhffpgoebaaW.PrintWords Go.Proofs.YtlpamhffpgoebaaW.PrintLast Go.Proofs.YtlpamhffpgoebaaW.PrintMore
attribute [local go_sem] max2_int min2_int max_two min_two max_three min_three max_four min_four   -- for this text's walks alone
set_option linter.unusedVariables false
set_option linter.unusedSimpArgs false

/-! ### digits_character: function 62 -/
def digits_character.f (a0 : Int) : Option (Int × Bool) := if a0 = 13 then (some (61, true)) else (some ((48 + a0) % 256, decide (a0 ≤ 9)))
set_option maxHeartbeats 8000000 in
set_option maxRecDepth 100000 in
theorem digits_character.calls (a0 : Int) (r1 : Int) (r2 : Bool) (w : World) (h : digits_character.f a0 = some (r1, r2)) :
    Calls Try.prog 62 #[.int .u8 a0] w fun e w' => e = .returned (.tuple #[.int .u8 r1, .bool r2]) ∧ Drawn0 w w' := by
  have H : (if a0 = 13 then (some (61, true)) else (some ((48 + a0) % 256, decide (a0 ≤ 9)))) = some (r1, r2) := h
  clear h
  by_cases c2 : a0 = 13
  · rw [if_pos c2] at H
    have c2b0 : (a0 == 13) = true := beq_iff_eq.mpr c2
    have c2b1 : (a0 != 13) = false := bne_eq_false_iff_eq.mpr c2
    clear c2
    simp only [Option.some.injEq, Prod.mk.injEq] at H
    obtain ⟨rfl, rfl⟩ := H
    go_enter Try.func62, Try.ntmps62
    go_wp2
    go_ret2
    exact ⟨by first | rfl | (simp; done) | (simp [*]; done), by repeat (first | exact Drawn0.refl _ | apply Drawn0.step)⟩
  · rw [if_neg c2] at H
    have c2b0 : (a0 == 13) = false := beq_eq_false_iff_ne.mpr c2
    have c2b1 : (a0 != 13) = true := bne_iff_ne.mpr c2
    simp only [Option.some.injEq, Prod.mk.injEq] at H
    obtain ⟨rfl, rfl⟩ := H
    go_enter Try.func62, Try.ntmps62
    go_wp2
    go_ret2
    exact ⟨by first | rfl | (simp; done) | (simp [*]; done), by repeat (first | exact Drawn0.refl _ | apply Drawn0.step)⟩

end Go.Proofs.Ytlpamhffpgoebaa.All

-- WRITTEN BY this session's own drv.py over the kit's print. Not trusted: Lean checks it.
namespace Go.Proofs.Ytlpamhffpgoebaa.All
open Go.RowKit Go.Proofs.YtlpamhffpgoebaaW.PrintWords Go.Proofs.YtlpamhffpgoebaaW.PrintLast Go.Proofs.YtlpamhffpgoebaaW.PrintMore
attribute [local go_sem] max2_int min2_int max_two min_two max_three min_three max_four min_four   -- for this text's walks alone
set_option linter.unusedVariables false
set_option linter.unusedSimpArgs false

/-! ### digits_unpackHalves: function 53 -/
mutual
def digits_unpackHalves.l0 : Nat → Int → ByteArray → Int → List Int → Int → Int → Option (ByteArray × Int × Int)
  | 0, _, _, _, _, _, _ => none
  | k + 1, x0, x1, x2, x9, x18, x19 => if x19 < x18 then (if 0 ≤ x19 then (if x19 < (x1.size : Int) then ((some (([(bt x1 x19) / 16, Go.bits .and .u8 (bt x1 x19) 15] : List Int) : List Int)).bind fun y297 => (if (Int.tmod x2 2) = 1 then (if x0 = 2 then (digits_unpackHalves.j1 k x0 x1 x2 x9 x19 y297 false x18 x19 (x19 == 0)) else (digits_unpackHalves.j1 k x0 x1 x2 x9 x19 y297 false x18 x19 false)) else (digits_unpackHalves.j1 k x0 x1 x2 x9 x19 y297 false x18 x19 false))) else (none)) else (none)) else (some (strOfNums x9, 0, 0))
def digits_unpackHalves.j1 : Nat → Int → ByteArray → Int → List Int → Int → List Int → Bool → Int → Int → Bool → Option (ByteArray × Int × Int)
  | 0, _, _, _, _, _, _, _, _, _, _ => none
  | k + 1, x0, x1, x2, x9, x10, x11, x12, x18, x19, x41 => if x41 = true then (if 0 < (x11.length : Int) then (if 1 ≤ (x11.length : Int) then (digits_unpackHalves.j2 k x0 x1 x2 x9 x10 (x11.drop (1 : Int).toNat) ((rd x11 0) != 0) x18 x19) else (none)) else (none)) else (digits_unpackHalves.j2 k x0 x1 x2 x9 x10 x11 x12 x18 x19)
def digits_unpackHalves.j2 : Nat → Int → ByteArray → Int → List Int → Int → List Int → Bool → Int → Int → Option (ByteArray × Int × Int)
  | 0, _, _, _, _, _, _, _, _, _ => none
  | k + 1, x0, x1, x2, x9, x10, x11, x12, x18, x19 => if (Int.tmod x2 2) = 1 then (if x0 = 3 then (digits_unpackHalves.j3 k x0 x1 x2 x9 x10 x11 x12 x18 x19 (x10 == (wrap64 ((x1.size : Int) - 1)))) else (digits_unpackHalves.j3 k x0 x1 x2 x9 x10 x11 x12 x18 x19 false)) else (digits_unpackHalves.j3 k x0 x1 x2 x9 x10 x11 x12 x18 x19 false)
def digits_unpackHalves.j3 : Nat → Int → ByteArray → Int → List Int → Int → List Int → Bool → Int → Int → Bool → Option (ByteArray × Int × Int)
  | 0, _, _, _, _, _, _, _, _, _, _ => none
  | k + 1, x0, x1, x2, x9, x10, x11, x12, x18, x19, x61 => if x61 = true then (if 1 < (x11.length : Int) then (if 1 ≤ (x11.length : Int) then (digits_unpackHalves.j4 k x0 x1 x2 x9 x10 (x11.take (1 : Int).toNat) ((rd x11 1) != 15) x18 x19) else (none)) else (none)) else (digits_unpackHalves.j4 k x0 x1 x2 x9 x10 x11 x12 x18 x19)
def digits_unpackHalves.j4 : Nat → Int → ByteArray → Int → List Int → Int → List Int → Bool → Int → Int → Option (ByteArray × Int × Int)
  | 0, _, _, _, _, _, _, _, _, _ => none
  | k + 1, x0, x1, x2, x9, x10, x11, x12, x18, x19 => digits_unpackHalves.l1 k x0 x1 x2 x9 x10 x12 x18 x19 x11 (x11.length : Int) 0
def digits_unpackHalves.l1 : Nat → Int → ByteArray → Int → List Int → Int → Bool → Int → Int → List Int → Int → Int → Option (ByteArray × Int × Int)
  | 0, _, _, _, _, _, _, _, _, _, _, _ => none
  | k + 1, x0, x1, x2, x9, x10, x12, x18, x19, x68, x69, x70 => if x70 < x69 then (if 0 ≤ x70 then (if x70 < (x68.length : Int) then ((digits_character.f (rd x68 x70)).bind fun bt309 => (if bt309.2 = true then (if x9.length < 140737488355328 then (digits_unpackHalves.l1 k x0 x1 x2 (x9 ++ [bt309.1]) x10 x12 x18 x19 x68 x69 (wrap64 (x70 + 1))) else (none)) else (some ((⟨#[]⟩ : ByteArray), 11, x10)))) else (none)) else (none)) else (if x12 = true then (some ((⟨#[]⟩ : ByteArray), 12, x10)) else (digits_unpackHalves.l0 k x0 x1 x2 x9 x18 (wrap64 (x19 + 1))))
end
def digits_unpackHalves.f (k : Nat) (a0 : Int) (a1 : ByteArray) (a2 : Int) : Option (ByteArray × Int × Int) := digits_unpackHalves.l0 k a0 a1 a2 ([] : List Int) (a1.size : Int) 0
theorem digits_unpackHalves.mono_l : ∀ k, (∀ y0 y1 y2 y3 y4 y5, LeO (digits_unpackHalves.l0 k y0 y1 y2 y3 y4 y5) (digits_unpackHalves.l0 (k + 1) y0 y1 y2 y3 y4 y5)) ∧ (∀ y0 y1 y2 y3 y4 y5 y6 y7 y8 y9, LeO (digits_unpackHalves.j1 k y0 y1 y2 y3 y4 y5 y6 y7 y8 y9) (digits_unpackHalves.j1 (k + 1) y0 y1 y2 y3 y4 y5 y6 y7 y8 y9)) ∧ (∀ y0 y1 y2 y3 y4 y5 y6 y7 y8, LeO (digits_unpackHalves.j2 k y0 y1 y2 y3 y4 y5 y6 y7 y8) (digits_unpackHalves.j2 (k + 1) y0 y1 y2 y3 y4 y5 y6 y7 y8)) ∧ (∀ y0 y1 y2 y3 y4 y5 y6 y7 y8 y9, LeO (digits_unpackHalves.j3 k y0 y1 y2 y3 y4 y5 y6 y7 y8 y9) (digits_unpackHalves.j3 (k + 1) y0 y1 y2 y3 y4 y5 y6 y7 y8 y9)) ∧ (∀ y0 y1 y2 y3 y4 y5 y6 y7 y8, LeO (digits_unpackHalves.j4 k y0 y1 y2 y3 y4 y5 y6 y7 y8) (digits_unpackHalves.j4 (k + 1) y0 y1 y2 y3 y4 y5 y6 y7 y8)) ∧ (∀ y0 y1 y2 y3 y4 y5 y6 y7 y8 y9 y10, LeO (digits_unpackHalves.l1 k y0 y1 y2 y3 y4 y5 y6 y7 y8 y9 y10) (digits_unpackHalves.l1 (k + 1) y0 y1 y2 y3 y4 y5 y6 y7 y8 y9 y10))
  | 0 => ⟨fun _ _ _ _ _ _ r h => by simp [digits_unpackHalves.l0] at h, fun _ _ _ _ _ _ _ _ _ _ r h => by simp [digits_unpackHalves.j1] at h, fun _ _ _ _ _ _ _ _ _ r h => by simp [digits_unpackHalves.j2] at h, fun _ _ _ _ _ _ _ _ _ _ r h => by simp [digits_unpackHalves.j3] at h, fun _ _ _ _ _ _ _ _ _ r h => by simp [digits_unpackHalves.j4] at h, fun _ _ _ _ _ _ _ _ _ _ _ r h => by simp [digits_unpackHalves.l1] at h⟩
  | k + 1 => by
    obtain ⟨ih0, ih1, ih2, ih3, ih4, ih5⟩ := digits_unpackHalves.mono_l k
    refine ⟨?_, ?_, ?_, ?_, ?_, ?_⟩
    · intro y0 y1 y2 y3 y4 y5
      unfold digits_unpackHalves.l0
      repeat' first
      | (with_reducible exact ih0 _ _ _ _ _ _)
      | (with_reducible exact ih1 _ _ _ _ _ _ _ _ _ _)
      | (with_reducible exact ih2 _ _ _ _ _ _ _ _ _)
      | (with_reducible exact ih3 _ _ _ _ _ _ _ _ _ _)
      | (with_reducible exact ih4 _ _ _ _ _ _ _ _ _)
      | (with_reducible exact ih5 _ _ _ _ _ _ _ _ _ _ _)
      | (with_reducible exact LeO.refl _)
      | (with_reducible exact LeO.none _)
      | (with_reducible refine LeO.ite ?_ ?_)
      | (with_reducible refine LeO.bind ?_ (fun _ => ?_))
      | exact ih0 _ _ _ _ _ _
      | exact ih1 _ _ _ _ _ _ _ _ _ _
      | exact ih2 _ _ _ _ _ _ _ _ _
      | exact ih3 _ _ _ _ _ _ _ _ _ _
      | exact ih4 _ _ _ _ _ _ _ _ _
      | exact ih5 _ _ _ _ _ _ _ _ _ _ _
      | exact LeO.none _
      | refine LeO.ite ?_ ?_
      | refine LeO.bind ?_ (fun _ => ?_)
    · intro y0 y1 y2 y3 y4 y5 y6 y7 y8 y9
      unfold digits_unpackHalves.j1
      repeat' first
      | (with_reducible exact ih0 _ _ _ _ _ _)
      | (with_reducible exact ih1 _ _ _ _ _ _ _ _ _ _)
      | (with_reducible exact ih2 _ _ _ _ _ _ _ _ _)
      | (with_reducible exact ih3 _ _ _ _ _ _ _ _ _ _)
      | (with_reducible exact ih4 _ _ _ _ _ _ _ _ _)
      | (with_reducible exact ih5 _ _ _ _ _ _ _ _ _ _ _)
      | (with_reducible exact LeO.refl _)
      | (with_reducible exact LeO.none _)
      | (with_reducible refine LeO.ite ?_ ?_)
      | (with_reducible refine LeO.bind ?_ (fun _ => ?_))
      | exact ih0 _ _ _ _ _ _
      | exact ih1 _ _ _ _ _ _ _ _ _ _
      | exact ih2 _ _ _ _ _ _ _ _ _
      | exact ih3 _ _ _ _ _ _ _ _ _ _
      | exact ih4 _ _ _ _ _ _ _ _ _
      | exact ih5 _ _ _ _ _ _ _ _ _ _ _
      | exact LeO.none _
      | refine LeO.ite ?_ ?_
      | refine LeO.bind ?_ (fun _ => ?_)
    · intro y0 y1 y2 y3 y4 y5 y6 y7 y8
      unfold digits_unpackHalves.j2
      repeat' first
      | (with_reducible exact ih0 _ _ _ _ _ _)
      | (with_reducible exact ih1 _ _ _ _ _ _ _ _ _ _)
      | (with_reducible exact ih2 _ _ _ _ _ _ _ _ _)
      | (with_reducible exact ih3 _ _ _ _ _ _ _ _ _ _)
      | (with_reducible exact ih4 _ _ _ _ _ _ _ _ _)
      | (with_reducible exact ih5 _ _ _ _ _ _ _ _ _ _ _)
      | (with_reducible exact LeO.refl _)
      | (with_reducible exact LeO.none _)
      | (with_reducible refine LeO.ite ?_ ?_)
      | (with_reducible refine LeO.bind ?_ (fun _ => ?_))
      | exact ih0 _ _ _ _ _ _
      | exact ih1 _ _ _ _ _ _ _ _ _ _
      | exact ih2 _ _ _ _ _ _ _ _ _
      | exact ih3 _ _ _ _ _ _ _ _ _ _
      | exact ih4 _ _ _ _ _ _ _ _ _
      | exact ih5 _ _ _ _ _ _ _ _ _ _ _
      | exact LeO.none _
      | refine LeO.ite ?_ ?_
      | refine LeO.bind ?_ (fun _ => ?_)
    · intro y0 y1 y2 y3 y4 y5 y6 y7 y8 y9
      unfold digits_unpackHalves.j3
      repeat' first
      | (with_reducible exact ih0 _ _ _ _ _ _)
      | (with_reducible exact ih1 _ _ _ _ _ _ _ _ _ _)
      | (with_reducible exact ih2 _ _ _ _ _ _ _ _ _)
      | (with_reducible exact ih3 _ _ _ _ _ _ _ _ _ _)
      | (with_reducible exact ih4 _ _ _ _ _ _ _ _ _)
      | (with_reducible exact ih5 _ _ _ _ _ _ _ _ _ _ _)
      | (with_reducible exact LeO.refl _)
      | (with_reducible exact LeO.none _)
      | (with_reducible refine LeO.ite ?_ ?_)
      | (with_reducible refine LeO.bind ?_ (fun _ => ?_))
      | exact ih0 _ _ _ _ _ _
      | exact ih1 _ _ _ _ _ _ _ _ _ _
      | exact ih2 _ _ _ _ _ _ _ _ _
      | exact ih3 _ _ _ _ _ _ _ _ _ _
      | exact ih4 _ _ _ _ _ _ _ _ _
      | exact ih5 _ _ _ _ _ _ _ _ _ _ _
      | exact LeO.none _
      | refine LeO.ite ?_ ?_
      | refine LeO.bind ?_ (fun _ => ?_)
    · intro y0 y1 y2 y3 y4 y5 y6 y7 y8
      unfold digits_unpackHalves.j4
      repeat' first
      | (with_reducible exact ih0 _ _ _ _ _ _)
      | (with_reducible exact ih1 _ _ _ _ _ _ _ _ _ _)
      | (with_reducible exact ih2 _ _ _ _ _ _ _ _ _)
      | (with_reducible exact ih3 _ _ _ _ _ _ _ _ _ _)
      | (with_reducible exact ih4 _ _ _ _ _ _ _ _ _)
      | (with_reducible exact ih5 _ _ _ _ _ _ _ _ _ _ _)
      | (with_reducible exact LeO.refl _)
      | (with_reducible exact LeO.none _)
      | (with_reducible refine LeO.ite ?_ ?_)
      | (with_reducible refine LeO.bind ?_ (fun _ => ?_))
      | exact ih0 _ _ _ _ _ _
      | exact ih1 _ _ _ _ _ _ _ _ _ _
      | exact ih2 _ _ _ _ _ _ _ _ _
      | exact ih3 _ _ _ _ _ _ _ _ _ _
      | exact ih4 _ _ _ _ _ _ _ _ _
      | exact ih5 _ _ _ _ _ _ _ _ _ _ _
      | exact LeO.none _
      | refine LeO.ite ?_ ?_
      | refine LeO.bind ?_ (fun _ => ?_)
    · intro y0 y1 y2 y3 y4 y5 y6 y7 y8 y9 y10
      unfold digits_unpackHalves.l1
      repeat' first
      | (with_reducible exact ih0 _ _ _ _ _ _)
      | (with_reducible exact ih1 _ _ _ _ _ _ _ _ _ _)
      | (with_reducible exact ih2 _ _ _ _ _ _ _ _ _)
      | (with_reducible exact ih3 _ _ _ _ _ _ _ _ _ _)
      | (with_reducible exact ih4 _ _ _ _ _ _ _ _ _)
      | (with_reducible exact ih5 _ _ _ _ _ _ _ _ _ _ _)
      | (with_reducible exact LeO.refl _)
      | (with_reducible exact LeO.none _)
      | (with_reducible refine LeO.ite ?_ ?_)
      | (with_reducible refine LeO.bind ?_ (fun _ => ?_))
      | exact ih0 _ _ _ _ _ _
      | exact ih1 _ _ _ _ _ _ _ _ _ _
      | exact ih2 _ _ _ _ _ _ _ _ _
      | exact ih3 _ _ _ _ _ _ _ _ _ _
      | exact ih4 _ _ _ _ _ _ _ _ _
      | exact ih5 _ _ _ _ _ _ _ _ _ _ _
      | exact LeO.none _
      | refine LeO.ite ?_ ?_
      | refine LeO.bind ?_ (fun _ => ?_)
theorem digits_unpackHalves.mono : ∀ a0 a1 a2 k, LeO (digits_unpackHalves.f k a0 a1 a2) (digits_unpackHalves.f (k + 1) a0 a1 a2) := by
  intro a0 a1 a2 k
  obtain ⟨ih0, ih1, ih2, ih3, ih4, ih5⟩ := digits_unpackHalves.mono_l k
  unfold digits_unpackHalves.f
  repeat' first
      | (with_reducible exact ih0 _ _ _ _ _ _)
      | (with_reducible exact ih1 _ _ _ _ _ _ _ _ _ _)
      | (with_reducible exact ih2 _ _ _ _ _ _ _ _ _)
      | (with_reducible exact ih3 _ _ _ _ _ _ _ _ _ _)
      | (with_reducible exact ih4 _ _ _ _ _ _ _ _ _)
      | (with_reducible exact ih5 _ _ _ _ _ _ _ _ _ _ _)
      | (with_reducible exact LeO.refl _)
      | (with_reducible exact LeO.none _)
      | (with_reducible refine LeO.ite ?_ ?_)
      | (with_reducible refine LeO.bind ?_ (fun _ => ?_))
      | exact ih0 _ _ _ _ _ _
      | exact ih1 _ _ _ _ _ _ _ _ _ _
      | exact ih2 _ _ _ _ _ _ _ _ _
      | exact ih3 _ _ _ _ _ _ _ _ _ _
      | exact ih4 _ _ _ _ _ _ _ _ _
      | exact ih5 _ _ _ _ _ _ _ _ _ _ _
      | exact LeO.none _
      | refine LeO.ite ?_ ?_
      | refine LeO.bind ?_ (fun _ => ?_)
def digits_unpackHalves.T5 : Bool × List (List Nat × List Nat) := (true, [([], []), ([], []), ([0, 1], [0, 1]), ([2], [2]), ([], []), ([], []), ([4, 5], [4, 5]), ([6], [6]), ([3, 7], [3, 7]), ([8, 0, 1, 2, 3, 4, 5, 6, 7, 8], [8])])
def digits_unpackHalves.B5 : List Nat := [0, 0, 3, 7, 0, 0, 48, 112, 255, 511]
theorem digits_unpackHalves.tab5 : rtab .any (opsOf Try.f53 5) = digits_unpackHalves.T5 := by kernel_rfl
theorem digits_unpackHalves.bits5 : waitsOk digits_unpackHalves.T5.2 digits_unpackHalves.B5 = true := by kernel_rfl
set_option maxHeartbeats 8000000 in
set_option maxRecDepth 100000 in
theorem digits_unpackHalves.calls (k : Nat) (a0 : Int) (a1 : ByteArray) (a2 : Int) (r1 : ByteArray) (r2 : Int) (r3 : Int) (w : World) (h : digits_unpackHalves.f k a0 a1 a2 = some (r1, r2, r3)) :
    Calls Try.prog 53 #[.int .i64 a0, .string a1, .int .i64 a2] w fun e w' => e = .returned (.tuple #[.string r1, .int .i64 r2, .int .i64 r3]) ∧ Below w.heap.size w w' := by
  have HB := Aside0.mk (Below.refl w.heap.size w)
  have H : (digits_unpackHalves.l0 k a0 a1 a2 ([] : List Int) (a1.size : Int) 0) = some (r1, r2, r3) := h
  clear h
  have H' := Aside0.mk H
  clear H
  go_enter Try.func53, Try.ntmps53
  go_wp2
  go_loopg [9, 19] k (fun kq v9 v19 w' => ∃ (x9_1 : List Int) (x19_1 : Int), v19 = .int .i64 x19_1 ∧ Aside0 (digits_unpackHalves.l0 kq a0 a1 a2 x9_1 (a1.size : Int) x19_1 = some (r1, r2, r3)) ∧ Aside0 (kq ≤ k) ∧ Aside0 (Kd.R (Kd.int .u8) 5 w' w.heap.size (fun _ => True) v9 x9_1) ∧ Aside0 (Below w.heap.size w w'))
  case atStart => exact ⟨(([] : List Int)), (0), (by first | rfl | (simp; done) | (simp [*]; done)), H', ⟨Nat.le_refl _⟩, ⟨by first | exact Kd.R_nil _ _ _ _ _ | exact Kd.N_nil _ _ _ _ _ | exact Kd.V_nil _ _ _ _ _ | exact Kd.Q_nil _ _ _ _ _ | exact Kd.S_nil _ _ _ _ _⟩, ⟨by repeat (first | (with_reducible first | exact HB.out | apply below_alloc | apply pw_below_drewN | apply below_drew1) | exact HB.out)⟩⟩
  case round =>
    clear H'
    try clear p2
    obtain ⟨x9_1, x19_1, rfl, HA, HK1, HO_9, HB⟩ := hrel
    cases gk with
    | zero => exact absurd HA.out (by simp [digits_unpackHalves.l0])
    | succ k1 =>
      have H := HA.out
      clear HA
      simp only [digits_unpackHalves.l0] at H
      by_cases c4 : x19_1 < (a1.size : Int)
      · rw [if_pos c4] at H
        have c4b0 : decide (x19_1 < (a1.size : Int)) = true := decide_eq_true c4
        clear c4
        by_cases c5 : 0 ≤ x19_1
        · rw [if_pos c5] at H
          have c5b0 : decide (0 ≤ x19_1) = true := decide_eq_true c5
          clear c5
          by_cases c6 : x19_1 < (a1.size : Int)
          · rw [if_pos c6] at H
            have c6b0 : decide (x19_1 < (a1.size : Int)) = true := decide_eq_true c6
            clear c6
            obtain ⟨y297, hy297⟩ : ∃ y_ : List Int, y_ = (([(bt a1 x19_1) / 16, Go.bits .and .u8 (bt a1 x19_1) 15] : List Int)) := ⟨_, rfl⟩
            replace H : (if (Int.tmod a2 2) = 1 then (if a0 = 2 then (digits_unpackHalves.j1 k1 a0 a1 a2 x9_1 x19_1 y297 false (a1.size : Int) x19_1 (x19_1 == 0)) else (digits_unpackHalves.j1 k1 a0 a1 a2 x9_1 x19_1 y297 false (a1.size : Int) x19_1 false)) else (digits_unpackHalves.j1 k1 a0 a1 a2 x9_1 x19_1 y297 false (a1.size : Int) x19_1 false)) = some (r1, r2, r3) := by first | (rw [hy297]; with_reducible exact H) | (have H2_ := (Option.bind_some _ _).symm.trans H; rw [hy297]; with_reducible exact H2_) | (have H2_ := (Option.bind_some _ _).symm.trans H; with_reducible exact H2_) | with_reducible exact H | (rw [hy297]; exact H) | exact H
            have Ny297 := Aside0.mk hy297
            clear hy297
            have HC9 := Aside0.mk H
            clear H
            try go_wp2
            have n0_ := Aside0.mk (Kd.R_drew HO_9.out)
            have n1_ := Aside0.mk (below_drew1 HB.out)
            clear HO_9
            clear HB
            have HO_9 := n0_
            have HB := n1_
            clear n0_ n1_
            have p7 : 0 ≤ (x19_1 : Int) := of_decide_eq_true (by first | (with_reducible assumption) | assumption)
            have q7 : x19_1 < (a1.size : Int) := of_decide_eq_true (by first | (with_reducible assumption) | assumption)
            have hx7 := bt_at a1 x19_1
            replace p7 := eq_true p7
            replace q7 := eq_true q7
            have p8 : 0 ≤ (x19_1 : Int) := of_decide_eq_true (by first | (with_reducible assumption) | assumption)
            have q8 : x19_1 < (a1.size : Int) := of_decide_eq_true (by first | (with_reducible assumption) | assumption)
            have hx8 := bt_at a1 x19_1
            replace p8 := eq_true p8
            replace q8 := eq_true q8
            refine start_ (n := 10) (S := fun w' => True) (ds := []) #[false, false, false, false, false, false, false, false, false, false] (by kernel_rfl) rfl rfl trivial (fun hHeld => ?_); refine with_tabW digits_unpackHalves.tab5 digits_unpackHalves.bits5 (fun HT_ HW_ => ?_)
            generalize wr.drew = w10 at HO_9 HB hHeld ⊢
            refine pure_ (i := 0) (N := some 22) (v := ?_) (a' := ?_) #[true, false, false, false, false, false, false, false, false, false] rfl rfl (any_of HT_.out (by kernel_rfl)) (fun _ _ _ h => h) (Or.inl ⟨by rfl, ?_⟩) ?_ ?_
            rotate_left
            · intro w'
              go_simp
              with_reducible rfl
            rotate_left
            · simp only [Act.put, List.setIfInBounds_toArray, List.set_cons_zero, List.set_cons_succ, i64_w, i32_w]
              rfl
            refine pure_ (i := 1) (N := some 23) (v := ?_) (a' := ?_) #[true, true, false, false, false, false, false, false, false, false] rfl rfl (any_of HT_.out (by kernel_rfl)) (fun _ _ _ h => h) (Or.inl ⟨by rfl, ?_⟩) ?_ ?_
            rotate_left
            · intro w'
              go_simp
              with_reducible rfl
            rotate_left
            · simp only [Act.put, List.setIfInBounds_toArray, List.set_cons_zero, List.set_cons_succ, i64_w, i32_w]
              rfl
            refine pure_ (i := 4) (N := some 26) (v := ?_) (a' := ?_) #[true, true, false, false, true, false, false, false, false, false] rfl rfl (any_of HT_.out (by kernel_rfl)) (fun _ _ _ h => h) (Or.inl ⟨by rfl, ?_⟩) ?_ ?_
            rotate_left
            · intro w'
              go_simp
              with_reducible rfl
            rotate_left
            · simp only [Act.put, List.setIfInBounds_toArray, List.set_cons_zero, List.set_cons_succ, i64_w, i32_w]
              rfl
            refine pure_ (i := 5) (N := some 27) (v := ?_) (a' := ?_) #[true, true, false, false, true, true, false, false, false, false] rfl rfl (any_of HT_.out (by kernel_rfl)) (fun _ _ _ h => h) (Or.inl ⟨by rfl, ?_⟩) ?_ ?_
            rotate_left
            · intro w'
              go_simp
              with_reducible rfl
            rotate_left
            · simp only [Act.put, List.setIfInBounds_toArray, List.set_cons_zero, List.set_cons_succ, i64_w, i32_w]
              rfl
            refine take_ (i := 2) (N := some 24) (v := ?_) (a' := ?_) #[true, true, true, false, true, true, false, false, false, false] rfl rfl (take_ofW HT_.out HW_.out (by kernel_rfl)) (fun _ _ _ h => h) (Or.inl ⟨by rfl, ?_⟩) hHeld ?_ ?_
            rotate_left
            · intro w' _
              go_simp
              with_reducible rfl
            rotate_left
            · simp only [Act.put, List.setIfInBounds_toArray, List.set_cons_zero, List.set_cons_succ, i64_w, i32_w]
              rfl
            refine pure_ (i := 3) (N := some 25) (v := ?_) (a' := ?_) #[true, true, true, true, true, true, false, false, false, false] rfl rfl (any_of HT_.out (by kernel_rfl)) (fun _ _ _ h => h) (Or.inl ⟨by rfl, ?_⟩) ?_ ?_
            rotate_left
            · intro w'
              go_simp
              with_reducible rfl
            rotate_left
            · simp only [Act.put, List.setIfInBounds_toArray, List.set_cons_zero, List.set_cons_succ, i64_w, i32_w]
              rfl
            refine take_ (i := 6) (N := some 28) (v := ?_) (a' := ?_) #[true, true, true, true, true, true, true, false, false, false] rfl rfl (take_ofW HT_.out HW_.out (by kernel_rfl)) (fun _ _ _ h => h) (Or.inl ⟨by rfl, ?_⟩) hHeld ?_ ?_
            rotate_left
            · intro w' _
              go_simp
              with_reducible rfl
            rotate_left
            · simp only [Act.put, List.setIfInBounds_toArray, List.set_cons_zero, List.set_cons_succ, i64_w, i32_w]
              rfl
            refine pure_ (i := 7) (N := some 29) (v := ?_) (a' := ?_) #[true, true, true, true, true, true, true, true, false, false] rfl rfl (any_of HT_.out (by kernel_rfl)) (fun _ _ _ h => h) (Or.inl ⟨by rfl, ?_⟩) ?_ ?_
            rotate_left
            · intro w'
              go_simp
              with_reducible rfl
            rotate_left
            · simp only [Act.put, List.setIfInBounds_toArray, List.set_cons_zero, List.set_cons_succ, i64_w, i32_w]
              rfl
            refine one_ (i := 8) (N := some 30) #[true, true, true, true, true, true, true, true, true, false] rfl rfl (one_of HT_.out (by kernel_rfl)) (by decide) (fun K hK => ?_)
            refine Kd.R_lit_step (Kd.int .u8) _ 5 ?hg (N := 30) ?hd (xs := ([(bt a1 x19_1) / 16, Go.bits .and .u8 (bt a1 x19_1) 15] : List Int)) (inner := [.int .u8 ((bt a1 x19_1) / 16), .int .u8 (Go.bits .and .u8 (bt a1 x19_1) 15)]) (ok := fun _ => True) (okp := fun _ => True) ?hr ?hp (fun _ hk => hk) trivial (Below.refl _ _) (Nat.le_refl _) (by simp) ?_; (case hd => rfl); (case hg => rfl); (case hr => first | (go_simp; done) | (go_simp; rfl)); (case hp => exact (Reps.one (show Kd.M (Kd.int .u8) _ _ _ ((bt a1 x19_1) / 16) [.int .u8 ((bt a1 x19_1) / 16)] from rfl) (Reps.one (show Kd.M (Kd.int .u8) _ _ _ (Go.bits .and .u8 (bt a1 x19_1) 15) [.int .u8 (Go.bits .and .u8 (bt a1 x19_1) 15)] from rfl) (Reps.none _ _))))
            intro v298 w11 ho12 hb hg_ hnew_
            clear hg_ hnew_
            (first | rw [← Ny297.out] at ho12 | (simp only [Int.reduceToNat] at ho12; rw [← Ny297.out] at ho12))
            have n0_ := Aside0.mk (Kd.R_elder' (by (with_reducible repeat (first | apply Kd.R_alloc | apply Kd.R_drewN | apply Kd.R_drew)); exact HO_9.out) (Kd.R_base ho12) hb)
            have n1_ := Aside0.mk (Kd.R_lower (Kd.R_new' ho12 (Kd.R_lt (by (with_reducible repeat (first | apply Kd.R_alloc | apply Kd.R_drewN | apply Kd.R_drew)); exact HO_9.out))) (below_size (by repeat (first | (with_reducible first | exact HB.out | apply below_alloc | apply pw_below_drewN | apply below_drew1) | exact HB.out))))
            have n2_ := Aside0.mk (below_step (by repeat (first | (with_reducible first | exact HB.out | apply below_alloc | apply pw_below_drewN | apply below_drew1) | exact HB.out)) hb)
            clear HO_9
            clear HB
            have HO_9 := n0_
            have HO299 := n1_
            have HB := n2_
            clear n0_ n1_ n2_
            clear hb ho12
            refine hK.out _ _ trivial (fun hHeld => ?_)
            clear hK K
            refine norm_ (a' := ?_) ?_ ?_
            rotate_left
            · show Act.put _ (some 30) _ = _
              simp only [Act.put, List.setIfInBounds_toArray, List.set_cons_zero, List.set_cons_succ, i64_w, i32_w]
              rfl
            refine pure_ (i := 9) (N := some 11) (v := ?_) (a' := ?_) #[true, true, true, true, true, true, true, true, true, true] rfl rfl (any_of HT_.out (by kernel_rfl)) (fun _ _ _ h => h) (Or.inl ⟨by rfl, ?_⟩) ?_ ?_
            rotate_left
            · intro w'
              go_simp
              with_reducible rfl
            rotate_left
            · simp only [Act.put, List.setIfInBounds_toArray, List.set_cons_zero, List.set_cons_succ, i64_w, i32_w]
              rfl
            refine done_ (done_of HT_.out (by kernel_rfl)) ?_
            go_upto_region 7 with (fail)
            go_cut [41] (fun v41 wc => ∃ (kq : Nat) (x41_8 : Bool), v41 = .bool x41_8 ∧ Aside0 (digits_unpackHalves.j1 kq a0 a1 a2 x9_1 x19_1 y297 false (a1.size : Int) x19_1 x41_8 = some (r1, r2, r3)) ∧ Aside0 (kq ≤ k1) ∧ Aside0 (Kd.R (Kd.int .u8) 5 wc w.heap.size (fun k_ => some k_ ≠ (v298 : Value).ownBlock) u9 x9_1) ∧ Aside0 (Kd.Q (Kd.int .u8) 5 wc w.heap.size (fun k_ => some k_ ≠ (u9 : Value).ownBlock) v298 y297) ∧ Aside0 (Below w.heap.size w wc))
            case first =>
              have H := HC9.out
              clear HC9
              by_cases c13 : (Int.tmod a2 2) = 1
              · rw [if_pos c13] at H
                have c13b0 : ((Int.tmod a2 2) == 1) = true := beq_iff_eq.mpr c13
                have c13b1 : ((Int.tmod a2 2) != 1) = false := bne_eq_false_iff_eq.mpr c13
                clear c13
                (first | rw [c13b0] | (simp only [i64_w, i32_w]; rw [c13b0]) | skip)
                by_cases c14 : a0 = 2
                · rw [if_pos c14] at H
                  have c14b0 : (a0 == 2) = true := beq_iff_eq.mpr c14
                  have c14b1 : (a0 != 2) = false := bne_eq_false_iff_eq.mpr c14
                  clear c14
                  have H' := Aside0.mk H
                  clear H
                  go_wp2
                  go_meet
                  case rel => exact ⟨_, ((x19_1 == 0)), (by first | rfl | (simp; done) | (simp [*]; done)), H', ⟨by have := HK1.out; first | omega | exact Nat.le_refl _⟩, ⟨by (with_reducible repeat (first | apply Kd.R_alloc | apply Kd.R_drewN | apply Kd.R_drew)); exact Kd.R_mono HO_9.out (fun _ hk => hk.2)⟩, ⟨Kd.Q_of_R (by (with_reducible repeat (first | apply Kd.R_alloc | apply Kd.R_drewN | apply Kd.R_drew)); exact Kd.R_mono HO299.out (fun _ hk => hk.2))⟩, ⟨by repeat (first | (with_reducible first | exact HB.out | apply below_alloc | apply pw_below_drewN | apply below_drew1) | exact HB.out)⟩⟩
                · rw [if_neg c14] at H
                  have c14b0 : (a0 == 2) = false := beq_eq_false_iff_ne.mpr c14
                  have c14b1 : (a0 != 2) = true := bne_iff_ne.mpr c14
                  have H' := Aside0.mk H
                  clear H
                  go_wp2
                  go_meet
                  case rel => exact ⟨_, (false), (by first | rfl | (simp; done) | (simp [*]; done)), H', ⟨by have := HK1.out; first | omega | exact Nat.le_refl _⟩, ⟨by (with_reducible repeat (first | apply Kd.R_alloc | apply Kd.R_drewN | apply Kd.R_drew)); exact Kd.R_mono HO_9.out (fun _ hk => hk.2)⟩, ⟨Kd.Q_of_R (by (with_reducible repeat (first | apply Kd.R_alloc | apply Kd.R_drewN | apply Kd.R_drew)); exact Kd.R_mono HO299.out (fun _ hk => hk.2))⟩, ⟨by repeat (first | (with_reducible first | exact HB.out | apply below_alloc | apply pw_below_drewN | apply below_drew1) | exact HB.out)⟩⟩
              · rw [if_neg c13] at H
                have c13b0 : ((Int.tmod a2 2) == 1) = false := beq_eq_false_iff_ne.mpr c13
                have c13b1 : ((Int.tmod a2 2) != 1) = true := bne_iff_ne.mpr c13
                (first | rw [c13b0] | (simp only [i64_w, i32_w]; rw [c13b0]) | skip)
                have H' := Aside0.mk H
                clear H
                go_wp2
                go_meet
                case rel => exact ⟨_, (false), (by first | rfl | (simp; done) | (simp [*]; done)), H', ⟨by have := HK1.out; first | omega | exact Nat.le_refl _⟩, ⟨by (with_reducible repeat (first | apply Kd.R_alloc | apply Kd.R_drewN | apply Kd.R_drew)); exact Kd.R_mono HO_9.out (fun _ hk => hk.2)⟩, ⟨Kd.Q_of_R (by (with_reducible repeat (first | apply Kd.R_alloc | apply Kd.R_drewN | apply Kd.R_drew)); exact Kd.R_mono HO299.out (fun _ hk => hk.2))⟩, ⟨by repeat (first | (with_reducible first | exact HB.out | apply below_alloc | apply pw_below_drewN | apply below_drew1) | exact HB.out)⟩⟩
            case rest =>
              clear HC9
              try clear c1
              try clear p2
              try clear c4
              try clear c4b0
              try clear c5
              try clear c5b0
              try clear c6
              try clear c6b0
              try clear p7
              try clear q7
              try clear hx7
              try clear p8
              try clear q8
              try clear hx8
              try clear c13
              try clear c13b0
              try clear c13b1
              try clear c14
              try clear c14b0
              try clear c14b1
              try clear p2
              try clear p7
              try clear p8
              try clear q7
              try clear q8
              obtain ⟨kq, x41_8, rfl, HA, HJ8, HO_9, HO_11, HB⟩ := hcut
              cases kq with
              | zero => exact absurd HA.out (by simp [digits_unpackHalves.j1])
              | succ kj8 =>
                have H := HA.out
                clear HA
                simp only [digits_unpackHalves.j1] at H
                have HC15 := Aside0.mk H
                clear H
                go_upto_if 41 with (fail)
                go_cut [11, 12] (fun v11 v12 wc => ∃ (kq : Nat) (x11_14 : List Int) (x12_14 : Bool), v12 = .bool x12_14 ∧ Aside0 (digits_unpackHalves.j2 kq a0 a1 a2 x9_1 x19_1 x11_14 x12_14 (a1.size : Int) x19_1 = some (r1, r2, r3)) ∧ Aside0 (kq ≤ kj8) ∧ Aside0 (Kd.R (Kd.int .u8) 5 wc w.heap.size (fun k_ => some k_ ≠ (v11 : Value).ownBlock) u9 x9_1) ∧ Aside0 (Kd.Q (Kd.int .u8) 5 wc w.heap.size (fun k_ => some k_ ≠ (u9 : Value).ownBlock) v11 x11_14) ∧ Aside0 (Below w.heap.size w wc))
                case first =>
                  have H := HC15.out
                  clear HC15
                  by_cases c16 : x41_8 = true
                  · subst c16
                    have H1 : (if 0 < (y297.length : Int) then (if 1 ≤ (y297.length : Int) then (digits_unpackHalves.j2 kj8 a0 a1 a2 x9_1 x19_1 (y297.drop (1 : Int).toNat) ((rd y297 0) != 0) (a1.size : Int) x19_1) else (none)) else (none)) = some (r1, r2, r3) := by rw [if_pos rfl] at H; exact H
                    clear H
                    have H := H1
                    clear H1
                    by_cases c17 : 0 < (y297.length : Int)
                    · rw [if_pos c17] at H
                      have c17b0 : decide (0 < (y297.length : Int)) = true := decide_eq_true c17
                      have c17b1 : decide (0 < y297.length) = true := decide_eq_true (by omega)
                      clear c17
                      (first | rw [c17b0] | (simp only [i64_w, i32_w]; rw [c17b0]) | skip)
                      by_cases c18 : 1 ≤ (y297.length : Int)
                      · rw [if_pos c18] at H
                        have c18b0 := eq_true c18
                        have c18b1 : decide (1 ≤ (y297.length : Int)) = true := decide_eq_true c18
                        clear c18
                        obtain ⟨y301, hy301⟩ : ∃ y_ : List Int, y_ = (y297.drop (1 : Int).toNat) := ⟨_, rfl⟩
                        replace H : (digits_unpackHalves.j2 kj8 a0 a1 a2 x9_1 x19_1 y301 ((rd y297 0) != 0) (a1.size : Int) x19_1) = some (r1, r2, r3) := by first | (rw [hy301]; with_reducible exact H) | (have H2_ := (Option.bind_some _ _).symm.trans H; rw [hy301]; with_reducible exact H2_) | (have H2_ := (Option.bind_some _ _).symm.trans H; with_reducible exact H2_) | with_reducible exact H | (rw [hy301]; exact H) | exact H
                        have Ny301 := Aside0.mk hy301
                        clear hy301
                        have H' := Aside0.mk H
                        clear H
                        obtain ⟨Ao19, co19, eo19, _⟩ := Kd.Q_slice HO_11.out
                        subst eo19
                        have p300 : 0 ≤ (0 : Int) := (by omega)
                        have q300 : 0 < (y297.length : Int) := of_decide_eq_true (by first | (with_reducible assumption) | assumption)
                        obtain ⟨ad300, e300, hx300_0⟩ := Kd.at_int (Kd.Q_reads' HO_11.out).2.2 0 p300 q300
                        cases e300
                        have qi300 : (0 < y297.length) = True := eq_true (by omega)
                        (try rw [show ((0 : Int)).toNat = 0 from rfl] at hx300_0)
                        (try rw [Addr.add_zero'] at hx300_0)
                        replace p300 := eq_true p300
                        replace q300 := eq_true q300
                        have q20 : (1 : Int) ≤ ((y297.length : Int) : Int) := of_decide_eq_true (by first | (with_reducible assumption) | assumption)
                        obtain ⟨i020, hi020, _, hsz20, _⟩ := info_parts info5
                        have hcut20 := cut_from (P := Try.prog) 51 5 .i64 Try.underlying51 hi020 1 hsz20 (some ad300) y297.length co19 1 (by omega) q20
                        have hr20 := Kd.Q_drop (k := (1 : Int).toNat) HO_11.out (by omega)
                        obtain ⟨A20, hA20⟩ : ∃ A1, A1 = (if co19 = (1 : Int).toNat then (some ad300) else ((some ad300) : Option Addr).map (·.add ((1 : Int).toNat * 1))) := ⟨_, rfl⟩
                        obtain ⟨c20, hc20⟩ : ∃ c1, c1 = co19 - (1 : Int).toNat := ⟨_, rfl⟩
                        have hy20 : y301.length = y297.length - (1 : Int).toNat := (by rw [Ny301.out, List.length_drop])
                        rw [← Ny301.out] at hr20
                        rw [← hy20, ← hA20, ← hc20] at hcut20
                        replace hr20 : Kd.Q (Kd.int .u8) 5 wc w.heap.size (fun k_ => some k_ ≠ (u9 : Value).ownBlock) (.slice A20 y301.length c20) y301 := (by rw [hA20, hc20, hy20]; exact hr20)
                        have HE20 : Aside0 ((Value.slice A20 y301.length c20).ownBlock = (.slice (some ad300) y297.length co19 : Value).ownBlock) := ⟨by rw [hA20]; split <;> (cases ((some ad300) : Option Addr) <;> rfl)⟩
                        clear hy20 hi020 hsz20 HO_11 hA20 hc20
                        have HO303 := Aside0.mk hr20
                        clear hr20
                        replace q20 := eq_true q20
                        have n_ := Aside0.mk (Kd.R_mono (ok' := fun k_ => some k_ ≠ (.slice A20 y301.length c20 : Value).ownBlock) HO_9.out (fun k_ hk => (by rw [HE20.out]; exact hk)))
                        clear HO_9
                        have HO_9 := n_
                        clear n_
                        go_wp2
                        go_meet
                        case rel => exact ⟨_, (y301), (((rd y297 0) != 0)), (by first | rfl | (simp; done) | (simp [*]; done)), H', ⟨by have := HK1.out; have := HJ8.out; first | omega | exact Nat.le_refl _⟩, ⟨by (with_reducible repeat (first | apply Kd.R_alloc | apply Kd.R_drewN | apply Kd.R_drew)); exact HO_9.out⟩, ⟨by (with_reducible repeat (first | apply Kd.Q_alloc | apply Kd.Q_drewN | apply Kd.Q_drew)); exact HO303.out⟩, ⟨by repeat (first | (with_reducible first | exact HB.out | apply below_alloc | apply pw_below_drewN | apply below_drew1) | exact HB.out)⟩⟩
                      · rw [if_neg c18] at H
                        exact absurd H (by simp)
                    · rw [if_neg c17] at H
                      exact absurd H (by simp)
                  · replace c16 := Bool.eq_false_iff.mpr c16
                    subst c16
                    have H1 : (digits_unpackHalves.j2 kj8 a0 a1 a2 x9_1 x19_1 y297 false (a1.size : Int) x19_1) = some (r1, r2, r3) := by rw [if_neg (show ¬ (false = true) by decide)] at H; exact H
                    clear H
                    have H := H1
                    clear H1
                    have H' := Aside0.mk H
                    clear H
                    go_wp2
                    go_meet
                    case rel => exact ⟨_, (y297), (false), (by first | rfl | (simp; done) | (simp [*]; done)), H', ⟨by have := HK1.out; have := HJ8.out; first | omega | exact Nat.le_refl _⟩, ⟨by (with_reducible repeat (first | apply Kd.R_alloc | apply Kd.R_drewN | apply Kd.R_drew)); exact HO_9.out⟩, ⟨by (with_reducible repeat (first | apply Kd.Q_alloc | apply Kd.Q_drewN | apply Kd.Q_drew)); exact HO_11.out⟩, ⟨by repeat (first | (with_reducible first | exact HB.out | apply below_alloc | apply pw_below_drewN | apply below_drew1) | exact HB.out)⟩⟩
                case rest =>
                  clear HC15
                  try clear c1
                  try clear c2
                  try clear p2
                  try clear q2
                  try clear p3
                  try clear q3
                  try clear hx3
                  try clear qi3
                  try clear c4
                  try clear c4b0
                  try clear c5
                  try clear c5b0
                  try clear c6
                  try clear c6b0
                  try clear p7
                  try clear q7
                  try clear hx7
                  try clear p8
                  try clear q8
                  try clear hx8
                  try clear c13
                  try clear c13b0
                  try clear c13b1
                  try clear c14
                  try clear c14b0
                  try clear c14b1
                  try clear c16
                  try clear c17
                  try clear c17b0
                  try clear c17b1
                  try clear c18
                  try clear c18b0
                  try clear c18b1
                  try clear c20
                  try clear q20
                  try clear hx300_0
                  try clear p2
                  try clear p300
                  try clear p7
                  try clear p8
                  try clear q20
                  try clear q300
                  try clear q7
                  try clear q8
                  obtain ⟨kq, x11_14, x12_14, rfl, HA, HJ14, HO_9, HO_11, HB⟩ := hcut
                  cases kq with
                  | zero => exact absurd HA.out (by simp [digits_unpackHalves.j2])
                  | succ kj14 =>
                    have H := HA.out
                    clear HA
                    simp only [digits_unpackHalves.j2] at H
                    have HC21 := Aside0.mk H
                    clear H
                    go_upto_region 10 with (fail)
                    go_cut [61] (fun v61 wc => ∃ (kq : Nat) (x61_20 : Bool), v61 = .bool x61_20 ∧ Aside0 (digits_unpackHalves.j3 kq a0 a1 a2 x9_1 x19_1 x11_14 x12_14 (a1.size : Int) x19_1 x61_20 = some (r1, r2, r3)) ∧ Aside0 (kq ≤ kj14) ∧ Aside0 (Kd.R (Kd.int .u8) 5 wc w.heap.size (fun k_ => some k_ ≠ (u11 : Value).ownBlock) u9 x9_1) ∧ Aside0 (Kd.Q (Kd.int .u8) 5 wc w.heap.size (fun k_ => some k_ ≠ (u9 : Value).ownBlock) u11 x11_14) ∧ Aside0 (Below w.heap.size w wc))
                    case first =>
                      have H := HC21.out
                      clear HC21
                      by_cases c22 : (Int.tmod a2 2) = 1
                      · rw [if_pos c22] at H
                        have c22b0 : ((Int.tmod a2 2) == 1) = true := beq_iff_eq.mpr c22
                        have c22b1 : ((Int.tmod a2 2) != 1) = false := bne_eq_false_iff_eq.mpr c22
                        clear c22
                        (first | rw [c22b0] | (simp only [i64_w, i32_w]; rw [c22b0]) | skip)
                        by_cases c23 : a0 = 3
                        · rw [if_pos c23] at H
                          have c23b0 : (a0 == 3) = true := beq_iff_eq.mpr c23
                          have c23b1 : (a0 != 3) = false := bne_eq_false_iff_eq.mpr c23
                          clear c23
                          have H' := Aside0.mk H
                          clear H
                          go_wp2
                          go_meet
                          case rel => exact ⟨_, ((x19_1 == (wrap64 ((a1.size : Int) - 1)))), (by first | rfl | (simp; done) | (simp [*]; done)), H', ⟨by have := HK1.out; have := HJ8.out; have := HJ14.out; first | omega | exact Nat.le_refl _⟩, ⟨by (with_reducible repeat (first | apply Kd.R_alloc | apply Kd.R_drewN | apply Kd.R_drew)); exact HO_9.out⟩, ⟨by (with_reducible repeat (first | apply Kd.Q_alloc | apply Kd.Q_drewN | apply Kd.Q_drew)); exact HO_11.out⟩, ⟨by repeat (first | (with_reducible first | exact HB.out | apply below_alloc | apply pw_below_drewN | apply below_drew1) | exact HB.out)⟩⟩
                        · rw [if_neg c23] at H
                          have c23b0 : (a0 == 3) = false := beq_eq_false_iff_ne.mpr c23
                          have c23b1 : (a0 != 3) = true := bne_iff_ne.mpr c23
                          have H' := Aside0.mk H
                          clear H
                          go_wp2
                          go_meet
                          case rel => exact ⟨_, (false), (by first | rfl | (simp; done) | (simp [*]; done)), H', ⟨by have := HK1.out; have := HJ8.out; have := HJ14.out; first | omega | exact Nat.le_refl _⟩, ⟨by (with_reducible repeat (first | apply Kd.R_alloc | apply Kd.R_drewN | apply Kd.R_drew)); exact HO_9.out⟩, ⟨by (with_reducible repeat (first | apply Kd.Q_alloc | apply Kd.Q_drewN | apply Kd.Q_drew)); exact HO_11.out⟩, ⟨by repeat (first | (with_reducible first | exact HB.out | apply below_alloc | apply pw_below_drewN | apply below_drew1) | exact HB.out)⟩⟩
                      · rw [if_neg c22] at H
                        have c22b0 : ((Int.tmod a2 2) == 1) = false := beq_eq_false_iff_ne.mpr c22
                        have c22b1 : ((Int.tmod a2 2) != 1) = true := bne_iff_ne.mpr c22
                        (first | rw [c22b0] | (simp only [i64_w, i32_w]; rw [c22b0]) | skip)
                        have H' := Aside0.mk H
                        clear H
                        go_wp2
                        go_meet
                        case rel => exact ⟨_, (false), (by first | rfl | (simp; done) | (simp [*]; done)), H', ⟨by have := HK1.out; have := HJ8.out; have := HJ14.out; first | omega | exact Nat.le_refl _⟩, ⟨by (with_reducible repeat (first | apply Kd.R_alloc | apply Kd.R_drewN | apply Kd.R_drew)); exact HO_9.out⟩, ⟨by (with_reducible repeat (first | apply Kd.Q_alloc | apply Kd.Q_drewN | apply Kd.Q_drew)); exact HO_11.out⟩, ⟨by repeat (first | (with_reducible first | exact HB.out | apply below_alloc | apply pw_below_drewN | apply below_drew1) | exact HB.out)⟩⟩
                    case rest =>
                      clear HC21
                      try clear c1
                      try clear c2
                      try clear p2
                      try clear q2
                      try clear p3
                      try clear q3
                      try clear hx3
                      try clear qi3
                      try clear c4
                      try clear c4b0
                      try clear c5
                      try clear c5b0
                      try clear c6
                      try clear c6b0
                      try clear p6
                      try clear p7
                      try clear q7
                      try clear hx7
                      try clear p8
                      try clear q8
                      try clear hx8
                      try clear c13
                      try clear c13b0
                      try clear c13b1
                      try clear c14
                      try clear c14b0
                      try clear c14b1
                      try clear c16
                      try clear c17
                      try clear c17b0
                      try clear c17b1
                      try clear c18
                      try clear c18b0
                      try clear c18b1
                      try clear c20
                      try clear q20
                      try clear c22
                      try clear c22b0
                      try clear c22b1
                      try clear c23
                      try clear c23b0
                      try clear c23b1
                      try clear hx300_0
                      try clear p2
                      try clear p3
                      try clear p300
                      try clear p7
                      try clear p8
                      try clear q2
                      try clear q20
                      try clear q3
                      try clear q300
                      try clear q7
                      try clear q8
                      obtain ⟨kq, x61_20, rfl, HA, HJ20, HO_9, HO_11, HB⟩ := hcut
                      cases kq with
                      | zero => exact absurd HA.out (by simp [digits_unpackHalves.j3])
                      | succ kj20 =>
                        have H := HA.out
                        clear HA
                        simp only [digits_unpackHalves.j3] at H
                        have HC24 := Aside0.mk H
                        clear H
                        go_upto_if 61 with (fail)
                        go_cut [11, 12] (fun v11 v12 wc => ∃ (kq : Nat) (x11_23 : List Int) (x12_23 : Bool), v12 = .bool x12_23 ∧ Aside0 (digits_unpackHalves.j4 kq a0 a1 a2 x9_1 x19_1 x11_23 x12_23 (a1.size : Int) x19_1 = some (r1, r2, r3)) ∧ Aside0 (kq ≤ kj20) ∧ Aside0 (Kd.R (Kd.int .u8) 5 wc w.heap.size (fun k_ => some k_ ≠ (v11 : Value).ownBlock) u9 x9_1) ∧ Aside0 (Kd.Q (Kd.int .u8) 5 wc w.heap.size (fun k_ => some k_ ≠ (u9 : Value).ownBlock) v11 x11_23) ∧ Aside0 (Below w.heap.size w wc))
                        case first =>
                          have H := HC24.out
                          clear HC24
                          by_cases c25 : x61_20 = true
                          · subst c25
                            have H1 : (if 1 < (x11_14.length : Int) then (if 1 ≤ (x11_14.length : Int) then (digits_unpackHalves.j4 kj20 a0 a1 a2 x9_1 x19_1 (x11_14.take (1 : Int).toNat) ((rd x11_14 1) != 15) (a1.size : Int) x19_1) else (none)) else (none)) = some (r1, r2, r3) := by rw [if_pos rfl] at H; exact H
                            clear H
                            have H := H1
                            clear H1
                            by_cases c26 : 1 < (x11_14.length : Int)
                            · rw [if_pos c26] at H
                              have c26b0 : decide (1 < (x11_14.length : Int)) = true := decide_eq_true c26
                              have c26b1 : decide (1 < x11_14.length) = true := decide_eq_true (by omega)
                              clear c26
                              (first | rw [c26b0] | (simp only [i64_w, i32_w]; rw [c26b0]) | skip)
                              by_cases c27 : 1 ≤ (x11_14.length : Int)
                              · rw [if_pos c27] at H
                                have c27b0 := eq_true c27
                                have c27b1 : decide (1 ≤ (x11_14.length : Int)) = true := decide_eq_true c27
                                clear c27
                                obtain ⟨y305, hy305⟩ : ∃ y_ : List Int, y_ = (x11_14.take (1 : Int).toNat) := ⟨_, rfl⟩
                                replace H : (digits_unpackHalves.j4 kj20 a0 a1 a2 x9_1 x19_1 y305 ((rd x11_14 1) != 15) (a1.size : Int) x19_1) = some (r1, r2, r3) := by first | (rw [hy305]; with_reducible exact H) | (have H2_ := (Option.bind_some _ _).symm.trans H; rw [hy305]; with_reducible exact H2_) | (have H2_ := (Option.bind_some _ _).symm.trans H; with_reducible exact H2_) | with_reducible exact H | (rw [hy305]; exact H) | exact H
                                have Ny305 := Aside0.mk hy305
                                clear hy305
                                have H' := Aside0.mk H
                                clear H
                                obtain ⟨Ao28, co28, eo28, _⟩ := Kd.Q_slice HO_11.out
                                subst eo28
                                have p304 : 0 ≤ (1 : Int) := (by omega)
                                have q304 : 1 < (x11_14.length : Int) := of_decide_eq_true (by first | (with_reducible assumption) | assumption)
                                obtain ⟨ad304, e304, hx304_0⟩ := Kd.at_int (Kd.Q_reads' HO_11.out).2.2 1 p304 q304
                                cases e304
                                (try simp only [show (1 : Int).toNat = 1 from rfl, Nat.reduceMul, Nat.reduceEqDiff, Go.Addr.add, ↓reduceIte] at hx304_0)
                                have qi304 : (1 < x11_14.length) = True := eq_true (by omega)
                                (try rw [show ((1 : Int)).toNat = 1 from rfl] at hx304_0)
                                replace p304 := eq_true p304
                                replace q304 := eq_true q304
                                have q29 : (1 : Int) ≤ ((x11_14.length : Int) : Int) := of_decide_eq_true (by first | (with_reducible assumption) | assumption)
                                obtain ⟨i029, hi029, _, hsz29, _⟩ := info_parts info5
                                have hcut29 := cut_to (P := Try.prog) 51 5 .i64 Try.underlying51 hi029 (some ad304) x11_14.length co28 1 (by omega) q29 (Kd.Q_reads' HO_11.out).2.1
                                have hr29 := Kd.Q_take (m := (1 : Int).toNat) HO_11.out (by omega)
                                have hy29 : y305.length = (1 : Int).toNat := (by rw [Ny305.out, List.length_take]; omega)
                                rw [← Ny305.out] at hr29
                                rw [← hy29] at hr29 hcut29
                                clear hy29 hi029 hsz29 HO_11
                                have HO307 := Aside0.mk hr29
                                clear hr29
                                replace q29 := eq_true q29
                                go_wp2
                                go_meet
                                case rel => exact ⟨_, (y305), (((rd x11_14 1) != 15)), (by first | rfl | (simp; done) | (simp [*]; done)), H', ⟨by have := HK1.out; have := HJ8.out; have := HJ14.out; have := HJ20.out; first | omega | exact Nat.le_refl _⟩, ⟨by (with_reducible repeat (first | apply Kd.R_alloc | apply Kd.R_drewN | apply Kd.R_drew)); exact HO_9.out⟩, ⟨by (with_reducible repeat (first | apply Kd.Q_alloc | apply Kd.Q_drewN | apply Kd.Q_drew)); exact HO307.out⟩, ⟨by repeat (first | (with_reducible first | exact HB.out | apply below_alloc | apply pw_below_drewN | apply below_drew1) | exact HB.out)⟩⟩
                              · rw [if_neg c27] at H
                                exact absurd H (by simp)
                            · rw [if_neg c26] at H
                              exact absurd H (by simp)
                          · replace c25 := Bool.eq_false_iff.mpr c25
                            subst c25
                            have H1 : (digits_unpackHalves.j4 kj20 a0 a1 a2 x9_1 x19_1 x11_14 x12_14 (a1.size : Int) x19_1) = some (r1, r2, r3) := by rw [if_neg (show ¬ (false = true) by decide)] at H; exact H
                            clear H
                            have H := H1
                            clear H1
                            have H' := Aside0.mk H
                            clear H
                            go_wp2
                            go_meet
                            case rel => exact ⟨_, (x11_14), (x12_14), (by first | rfl | (simp; done) | (simp [*]; done)), H', ⟨by have := HK1.out; have := HJ8.out; have := HJ14.out; have := HJ20.out; first | omega | exact Nat.le_refl _⟩, ⟨by (with_reducible repeat (first | apply Kd.R_alloc | apply Kd.R_drewN | apply Kd.R_drew)); exact HO_9.out⟩, ⟨by (with_reducible repeat (first | apply Kd.Q_alloc | apply Kd.Q_drewN | apply Kd.Q_drew)); exact HO_11.out⟩, ⟨by repeat (first | (with_reducible first | exact HB.out | apply below_alloc | apply pw_below_drewN | apply below_drew1) | exact HB.out)⟩⟩
                        case rest =>
                          clear HC24
                          try clear c1
                          try clear c2
                          try clear p2
                          try clear q2
                          try clear p3
                          try clear q3
                          try clear hx3
                          try clear qi3
                          try clear c4
                          try clear c4b0
                          try clear c5
                          try clear c5b0
                          try clear c6
                          try clear c6b0
                          try clear p6
                          try clear p7
                          try clear q7
                          try clear hx7
                          try clear p8
                          try clear q8
                          try clear hx8
                          try clear c13
                          try clear c13b0
                          try clear c13b1
                          try clear c14
                          try clear c14b0
                          try clear c14b1
                          try clear c16
                          try clear c17
                          try clear c17b0
                          try clear c17b1
                          try clear c18
                          try clear c18b0
                          try clear c18b1
                          try clear c20
                          try clear q20
                          try clear c22
                          try clear c22b0
                          try clear c22b1
                          try clear c23
                          try clear c23b0
                          try clear c23b1
                          try clear c25
                          try clear c26
                          try clear c26b0
                          try clear c26b1
                          try clear c27
                          try clear c27b0
                          try clear c27b1
                          try clear q29
                          try clear hx300_0
                          try clear hx304_0
                          try clear p2
                          try clear p3
                          try clear p300
                          try clear p304
                          try clear p6
                          try clear p7
                          try clear p8
                          try clear q2
                          try clear q20
                          try clear q29
                          try clear q3
                          try clear q300
                          try clear q304
                          try clear q7
                          try clear q8
                          obtain ⟨kq, x11_23, x12_23, rfl, HA, HJ23, HO_9, HO_11, HB⟩ := hcut
                          cases kq with
                          | zero => exact absurd HA.out (by simp [digits_unpackHalves.j4])
                          | succ kj23 =>
                            have H := HA.out
                            clear HA
                            simp only [digits_unpackHalves.j4] at H
                            have H' := Aside0.mk H
                            clear H
                            obtain ⟨Ao30, co30, eo30, _⟩ := Kd.Q_slice HO_11.out
                            subst eo30
                            go_wp2
                            go_loopg [9, 70] kj23 (fun kq v9 v70 w' => ∃ (x9_6 : List Int) (x70_6 : Int), v70 = .int .i64 x70_6 ∧ Aside0 (digits_unpackHalves.l1 kq a0 a1 a2 x9_6 x19_1 x12_23 (a1.size : Int) x19_1 x11_23 (x11_23.length : Int) x70_6 = some (r1, r2, r3)) ∧ Aside0 (kq ≤ kj23) ∧ Aside0 (Kd.R (Kd.int .u8) 5 w' w.heap.size (fun k_ => some k_ ≠ ((.slice Ao30 x11_23.length co30) : Value).ownBlock) v9 x9_6) ∧ Aside0 (Kd.Q (Kd.int .u8) 5 w' w.heap.size (fun k_ => some k_ ≠ (v9 : Value).ownBlock) (.slice Ao30 x11_23.length co30) x11_23) ∧ Aside0 (Below w.heap.size w w'))
                            case atStart => exact ⟨(x9_1), (0), (by first | rfl | (simp; done) | (simp [*]; done)), H', ⟨Nat.le_refl _⟩, ⟨by (with_reducible repeat (first | apply Kd.R_alloc | apply Kd.R_drewN | apply Kd.R_drew)); exact HO_9.out⟩, ⟨by (with_reducible repeat (first | apply Kd.Q_alloc | apply Kd.Q_drewN | apply Kd.Q_drew)); exact HO_11.out⟩, ⟨by repeat (first | (with_reducible first | exact HB.out | apply below_alloc | apply pw_below_drewN | apply below_drew1) | exact HB.out)⟩⟩
                            case round =>
                              clear H'
                              try clear c1
                              try clear c2
                              try clear p2
                              try clear q2
                              try clear p3
                              try clear q3
                              try clear hx3
                              try clear qi3
                              try clear c4
                              try clear c4b0
                              try clear c5
                              try clear c5b0
                              try clear c6
                              try clear c6b0
                              try clear p6
                              try clear p7
                              try clear q7
                              try clear hx7
                              try clear p8
                              try clear q8
                              try clear hx8
                              try clear c13
                              try clear c13b0
                              try clear c13b1
                              try clear c14
                              try clear c14b0
                              try clear c14b1
                              try clear c16
                              try clear c17
                              try clear c17b0
                              try clear c17b1
                              try clear c18
                              try clear c18b0
                              try clear c18b1
                              try clear c20
                              try clear q20
                              try clear c22
                              try clear c22b0
                              try clear c22b1
                              try clear c23
                              try clear c23b0
                              try clear c23b1
                              try clear c25
                              try clear c26
                              try clear c26b0
                              try clear c26b1
                              try clear c27
                              try clear c27b0
                              try clear c27b1
                              try clear q29
                              try clear p30
                              try clear q30
                              try clear hx30
                              try clear qi30
                              try clear hx300_0
                              try clear hx304_0
                              try clear p2
                              try clear p3
                              try clear p300
                              try clear p304
                              try clear p6
                              try clear p7
                              try clear p8
                              try clear q2
                              try clear q20
                              try clear q29
                              try clear q3
                              try clear q300
                              try clear q304
                              try clear q7
                              try clear q8
                              obtain ⟨x9_6, x70_6, rfl, HA, HK6, HO_9, HO_68, HB⟩ := hrel
                              cases gk with
                              | zero => exact absurd HA.out (by simp [digits_unpackHalves.l1])
                              | succ k6 =>
                                have H := HA.out
                                clear HA
                                simp only [digits_unpackHalves.l1] at H
                                by_cases c31 : x70_6 < (x11_23.length : Int)
                                · rw [if_pos c31] at H
                                  have c31b0 : decide (x70_6 < (x11_23.length : Int)) = true := decide_eq_true c31
                                  clear c31
                                  by_cases c32 : 0 ≤ x70_6
                                  · rw [if_pos c32] at H
                                    have c32b0 : decide (0 ≤ x70_6) = true := decide_eq_true c32
                                    clear c32
                                    by_cases c33 : x70_6 < (x11_23.length : Int)
                                    · rw [if_pos c33] at H
                                      have c33b0 : decide (x70_6 < (x11_23.length : Int)) = true := decide_eq_true c33
                                      clear c33
                                      replace H := Option.bind_eq_some_iff.mp H
                                      obtain ⟨⟨t309, t310⟩, A340, H⟩ := H
                                      replace H : (if t310 = true then (if x9_6.length < 140737488355328 then (digits_unpackHalves.l1 k6 a0 a1 a2 (x9_6 ++ [t309]) x19_1 x12_23 (a1.size : Int) x19_1 x11_23 (x11_23.length : Int) (wrap64 (x70_6 + 1))) else (none)) else (some ((⟨#[]⟩ : ByteArray), 11, x19_1))) = some (r1, r2, r3) := H
                                      have A34 := Aside0.mk A340
                                      clear A340
                                      by_cases c35 : t310 = true
                                      · subst c35
                                        have H1 : (if x9_6.length < 140737488355328 then (digits_unpackHalves.l1 k6 a0 a1 a2 (x9_6 ++ [t309]) x19_1 x12_23 (a1.size : Int) x19_1 x11_23 (x11_23.length : Int) (wrap64 (x70_6 + 1))) else (none)) = some (r1, r2, r3) := by rw [if_pos rfl] at H; exact H
                                        clear H
                                        have H := H1
                                        clear H1
                                        by_cases c36 : x9_6.length < 140737488355328
                                        · rw [if_pos c36] at H
                                          have LMc36 := Aside0.mk c36
                                          clear c36
                                          obtain ⟨y311, hy311⟩ : ∃ y_ : List Int, y_ = (x9_6 ++ [t309]) := ⟨_, rfl⟩
                                          replace H : (digits_unpackHalves.l1 k6 a0 a1 a2 y311 x19_1 x12_23 (a1.size : Int) x19_1 x11_23 (x11_23.length : Int) (wrap64 (x70_6 + 1))) = some (r1, r2, r3) := by first | (rw [hy311]; with_reducible exact H) | (have H2_ := (Option.bind_some _ _).symm.trans H; rw [hy311]; with_reducible exact H2_) | (have H2_ := (Option.bind_some _ _).symm.trans H; with_reducible exact H2_) | with_reducible exact H | (rw [hy311]; exact H) | exact H
                                          have Ny311 := Aside0.mk hy311
                                          clear hy311
                                          have H' := Aside0.mk H
                                          clear H
                                          have p308 : 0 ≤ (x70_6 : Int) := of_decide_eq_true (by first | (with_reducible assumption) | assumption)
                                          have q308 : x70_6 < (x11_23.length : Int) := of_decide_eq_true (by first | (with_reducible assumption) | assumption)
                                          obtain ⟨ad308, e308, hx308_0⟩ := Kd.at_int (Kd.Q_reads' HO_68.out).2.2 x70_6 p308 q308
                                          cases e308
                                          replace p308 := eq_true p308
                                          replace q308 := eq_true q308
                                          go_wp2_with (first | ((with_reducible refine gate_callee (f := 62) rfl ?_); refine goesL_ (some 76) rfl rfl Try.func62 (by kernel_rfl) rfl #[.int .u8 (rd x11_23 x70_6)] rfl (by (try simp only [List.map_toArray, List.map_cons, List.map_nil]); first | done | rfl | (simp only [List.length_drop, List.length_take]; rfl)) ?_; (with_reducible refine (digits_character.calls (rd x11_23 x70_6) t309 true _ A34.out).mono ?_); rintro e w' ⟨rfl, ⟨nd, rfl⟩⟩; refine ⟨_, rfl, ?_⟩) | ((with_reducible refine gate_builtin (b := .append) (xs := #[.tmp 82, .tmp 84]) rfl ?_); (try (refine gate_guard (by rfl) ?_; dsimp only)); at_builtin; refine Kd.R_append (Kd.int .u8) (w0 := w) w.heap.size rfl (.tmp 82) (.tmp 84) 51 5 (.int .u8 0) 1 rfl Try.underlying51 info5 rfl (by decide) (by omega) u9 x9_6 t309 [.int .u8 t309] (fun k_ => some k_ ≠ (.slice (some ad308) x11_23.length co30 : Value).ownBlock) (fun _ => False) rfl rfl ?aP (fun _ hk => hk.elim) ?aF ?aO ?aB ?aS ?aL ?_; (case aP => exact rfl); (case aB => exact (by repeat (first | (with_reducible first | exact HB.out | apply below_alloc | apply pw_below_drewN | apply below_drew1) | exact HB.out))); (case aF => exact (fun k_ hk => Kd.fresh' (Kd.Q_lt (by (with_reducible repeat (first | apply Kd.Q_alloc | apply Kd.Q_drewN | apply Kd.Q_drew)); exact HO_68.out)) k_ hk)); (case aO => exact (by (with_reducible repeat (first | apply Kd.R_alloc | apply Kd.R_drewN | apply Kd.R_drew)); exact HO_9.out)); (case aS => exact (below_size (by repeat (first | (with_reducible first | exact HB.out | apply below_alloc | apply pw_below_drewN | apply below_drew1) | exact HB.out)))); (case aL => have := LMc36.out; omega); intro v312 w37 ho hb hg hat; rw [← Ny311.out] at ho; have n0_ := Aside0.mk (Kd.Q_after (ok := (fun _ => True)) (by (with_reducible repeat (first | apply Kd.Q_alloc | apply Kd.Q_drewN | apply Kd.Q_drew)); exact Kd.Q_mono HO_68.out (fun _ hk => ⟨trivial, hk⟩)) hg hat); have n1_ := Aside0.mk (hb); have n2_ := Aside0.mk (ho); clear HO_68; clear HB; clear HO_9; have HO_68 := n0_; have HB := n1_; have HO313 := n2_; clear n0_ n1_ n2_; clear ho hb hg hat))
                                          go_roundg k6
                                          case measure => have := HK1.out; have := HJ8.out; have := HJ14.out; have := HJ20.out; have := HJ23.out; have := HK6.out; omega
                                          case rel => exact ⟨(y311), (wrap64 (x70_6 + 1)), (by first | rfl | (simp; done) | (simp [*]; done)), H', ⟨by have := HK1.out; have := HJ8.out; have := HJ14.out; have := HJ20.out; have := HJ23.out; have := HK6.out; omega⟩, ⟨by (with_reducible repeat (first | apply Kd.R_alloc | apply Kd.R_drewN | apply Kd.R_drew)); exact HO313.out⟩, ⟨by (with_reducible repeat (first | apply Kd.Q_alloc | apply Kd.Q_drewN | apply Kd.Q_drew)); exact Kd.Q_mono HO_68.out (fun _ hk => hk.2)⟩, ⟨by repeat (first | (with_reducible first | exact HB.out | apply below_alloc | apply pw_below_drewN | apply below_drew1) | exact HB.out)⟩⟩
                                        · rw [if_neg c36] at H
                                          exact absurd H (by simp)
                                      · replace c35 := Bool.eq_false_iff.mpr c35
                                        subst c35
                                        have H1 : (some ((⟨#[]⟩ : ByteArray), 11, x19_1)) = some (r1, r2, r3) := by rw [if_neg (show ¬ (false = true) by decide)] at H; exact H
                                        clear H
                                        have H := H1
                                        clear H1
                                        simp only [Option.some.injEq, Prod.mk.injEq] at H
                                        obtain ⟨rfl, rfl, rfl⟩ := H
                                        have p308 : 0 ≤ (x70_6 : Int) := of_decide_eq_true (by first | (with_reducible assumption) | assumption)
                                        have q308 : x70_6 < (x11_23.length : Int) := of_decide_eq_true (by first | (with_reducible assumption) | assumption)
                                        obtain ⟨ad308, e308, hx308_0⟩ := Kd.at_int (Kd.Q_reads' HO_68.out).2.2 x70_6 p308 q308
                                        cases e308
                                        replace p308 := eq_true p308
                                        replace q308 := eq_true q308
                                        go_wp2_with (first | ((with_reducible refine gate_callee (f := 62) rfl ?_); refine goesL_ (some 76) rfl rfl Try.func62 (by kernel_rfl) rfl #[.int .u8 (rd x11_23 x70_6)] rfl (by (try simp only [List.map_toArray, List.map_cons, List.map_nil]); first | done | rfl | (simp only [List.length_drop, List.length_take]; rfl)) ?_; (with_reducible refine (digits_character.calls (rd x11_23 x70_6) t309 false _ A34.out).mono ?_); rintro e w' ⟨rfl, ⟨nd, rfl⟩⟩; refine ⟨_, rfl, ?_⟩))
                                        go_ret3
                                        exact ⟨by first | rfl | (simp [errW_none, errW_some] <;> rfl) | (simp [*, errW_none, errW_some] <;> rfl), by repeat (first | (with_reducible first | exact HB.out | apply below_alloc | apply pw_below_drewN | apply below_drew1) | exact HB.out)⟩
                                    · rw [if_neg c33] at H
                                      exact absurd H (by simp)
                                  · rw [if_neg c32] at H
                                    exact absurd H (by simp)
                                · rw [if_neg c31] at H
                                  have c31b0 : decide (x70_6 < (x11_23.length : Int)) = false := decide_eq_false c31
                                  clear c31
                                  by_cases c38 : x12_23 = true
                                  · subst c38
                                    have H1 : (some ((⟨#[]⟩ : ByteArray), 12, x19_1)) = some (r1, r2, r3) := by rw [if_pos rfl] at H; exact H
                                    clear H
                                    have H := H1
                                    clear H1
                                    simp only [Option.some.injEq, Prod.mk.injEq] at H
                                    obtain ⟨rfl, rfl, rfl⟩ := H
                                    go_wp2
                                    go_ret3
                                    exact ⟨by first | rfl | (simp [errW_none, errW_some] <;> rfl) | (simp [*, errW_none, errW_some] <;> rfl), by repeat (first | (with_reducible first | exact HB.out | apply below_alloc | apply pw_below_drewN | apply below_drew1) | exact HB.out)⟩
                                  · replace c38 := Bool.eq_false_iff.mpr c38
                                    subst c38
                                    have H1 : (digits_unpackHalves.l0 k6 a0 a1 a2 x9_6 (a1.size : Int) (wrap64 (x19_1 + 1))) = some (r1, r2, r3) := by rw [if_neg (show ¬ (false = true) by decide)] at H; exact H
                                    clear H
                                    have H := H1
                                    clear H1
                                    have H' := Aside0.mk H
                                    clear H
                                    go_wp2
                                    go_roundg k6
                                    case measure => have := HK1.out; have := HJ8.out; have := HJ14.out; have := HJ20.out; have := HJ23.out; have := HK6.out; omega
                                    case rel => exact ⟨(x9_6), (wrap64 (x19_1 + 1)), (by first | rfl | (simp; done) | (simp [*]; done)), H', ⟨by have := HK1.out; have := HJ8.out; have := HJ14.out; have := HJ20.out; have := HJ23.out; have := HK6.out; omega⟩, ⟨by (with_reducible repeat (first | apply Kd.R_alloc | apply Kd.R_drewN | apply Kd.R_drew)); exact Kd.R_mono HO_9.out (fun _ hk => trivial)⟩, ⟨by repeat (first | (with_reducible first | exact HB.out | apply below_alloc | apply pw_below_drewN | apply below_drew1) | exact HB.out)⟩⟩
          · rw [if_neg c6] at H
            exact absurd H (by simp)
        · rw [if_neg c5] at H
          exact absurd H (by simp)
      · rw [if_neg c4] at H
        have c4b0 : decide (x19_1 < (a1.size : Int)) = false := decide_eq_false c4
        clear c4
        simp only [Option.some.injEq, Prod.mk.injEq] at H
        obtain ⟨rfl, rfl, rfl⟩ := H
        have hcv39 := own_string (P := Try.prog) Try.underlying51 Try.underlying5 Try.underlying9 (Kd.own_of_R HO_9.out)
        go_wp2
        go_ret3
        exact ⟨by first | rfl | (simp [errW_none, errW_some] <;> rfl) | (simp [*, errW_none, errW_some] <;> rfl), by repeat (first | (with_reducible first | exact HB.out | apply below_alloc | apply pw_below_drewN | apply below_drew1) | exact HB.out)⟩

end Go.Proofs.Ytlpamhffpgoebaa.All

-- WRITTEN BY this session's own drv.py over the kit's print. Not trusted: Lean checks it.
namespace Go.Proofs.Ytlpamhffpgoebaa.All
open Go.RowKit Go.Proofs.YtlpamhffpgoebaaW.PrintWords Go.Proofs.YtlpamhffpgoebaaW.PrintLast Go.Proofs.YtlpamhffpgoebaaW.PrintMore
attribute [local go_sem] max2_int min2_int max_two min_two max_three min_three max_four min_four   -- for this text's walks alone
set_option linter.unusedVariables false
set_option linter.unusedSimpArgs false

/-! ### digits_Unpack: function 34 -/
mutual
def digits_Unpack.j0 : Nat → Int → ByteArray → Int → Bool → Option (ByteArray × Int × Int)
  | 0, _, _, _, _ => none
  | k + 1, x0, x1, x2, x23 => if x23 = true then (some ((⟨#[]⟩ : ByteArray), 1, 0)) else ((digits_Width.f x0 x2).bind fun t314 => (if (x1.size : Int) < t314 then (some ((⟨#[]⟩ : ByteArray), 10, (x1.size : Int))) else (if x0 = 2 then (digits_Unpack.j1 k x0 x1 x2 t314 true) else (digits_Unpack.j1 k x0 x1 x2 t314 (x0 == 3)))))
def digits_Unpack.j1 : Nat → Int → ByteArray → Int → Int → Bool → Option (ByteArray × Int × Int)
  | 0, _, _, _, _, _ => none
  | k + 1, x0, x1, x2, x9, x38 => if x38 = true then (if 0 ≤ x9 then (if x9 ≤ (x1.size : Int) then ((digits_unpackHalves.f k x0 (x1.extract 0 (x9 : Int).toNat) x2).bind fun bt315 => (some (bt315.1, bt315.2.1, bt315.2.2))) else (none)) else (none)) else (if 0 ≤ x9 then (if (x9 : Int).toNat ≤ 281474976710656 then (digits_Unpack.l0 k x0 x1 (([] : List Int)) x9 0) else (none)) else (none))
def digits_Unpack.l0 : Nat → Int → ByteArray → List Int → Int → Int → Option (ByteArray × Int × Int)
  | 0, _, _, _, _, _ => none
  | k + 1, x0, x1, x10, x50, x51 => if x51 < x50 then (if 0 ≤ x51 then (if x51 < (x1.size : Int) then ((digits_read.f x0 (bt x1 x51)).bind fun bt321 => (if bt321.2 = true then (if x10.length < 140737488355328 then (digits_Unpack.l0 k x0 x1 (x10 ++ [bt321.1]) x50 (wrap64 (x51 + 1))) else (none)) else (some ((⟨#[]⟩ : ByteArray), 11, x51)))) else (none)) else (none)) else (some (strOfNums x10, 0, 0))
end
def digits_Unpack.f (k : Nat) (a0 : Int) (a1 : ByteArray) (a2 : Int) : Option (ByteArray × Int × Int) := if a0 < 1 then (digits_Unpack.j0 k a0 a1 a2 true) else (if a0 > 5 then (digits_Unpack.j0 k a0 a1 a2 true) else (digits_Unpack.j0 k a0 a1 a2 (decide (a2 < 0))))
theorem digits_Unpack.mono_l : ∀ k, (∀ y0 y1 y2 y3, LeO (digits_Unpack.j0 k y0 y1 y2 y3) (digits_Unpack.j0 (k + 1) y0 y1 y2 y3)) ∧ (∀ y0 y1 y2 y3 y4, LeO (digits_Unpack.j1 k y0 y1 y2 y3 y4) (digits_Unpack.j1 (k + 1) y0 y1 y2 y3 y4)) ∧ (∀ y0 y1 y2 y3 y4, LeO (digits_Unpack.l0 k y0 y1 y2 y3 y4) (digits_Unpack.l0 (k + 1) y0 y1 y2 y3 y4))
  | 0 => ⟨fun _ _ _ _ r h => by simp [digits_Unpack.j0] at h, fun _ _ _ _ _ r h => by simp [digits_Unpack.j1] at h, fun _ _ _ _ _ r h => by simp [digits_Unpack.l0] at h⟩
  | k + 1 => by
    obtain ⟨ih0, ih1, ih2⟩ := digits_Unpack.mono_l k
    refine ⟨?_, ?_, ?_⟩
    · intro y0 y1 y2 y3
      unfold digits_Unpack.j0
      repeat' first
      | (with_reducible exact ih0 _ _ _ _)
      | (with_reducible exact ih1 _ _ _ _ _)
      | (with_reducible exact ih2 _ _ _ _ _)
      | (with_reducible exact digits_unpackHalves.mono _ _ _ _)
      | (with_reducible exact LeO.refl _)
      | (with_reducible exact LeO.none _)
      | (with_reducible refine LeO.ite ?_ ?_)
      | (with_reducible refine LeO.bind ?_ (fun _ => ?_))
      | exact ih0 _ _ _ _
      | exact ih1 _ _ _ _ _
      | exact ih2 _ _ _ _ _
      | exact digits_unpackHalves.mono _ _ _ _
      | exact LeO.none _
      | refine LeO.ite ?_ ?_
      | refine LeO.bind ?_ (fun _ => ?_)
    · intro y0 y1 y2 y3 y4
      unfold digits_Unpack.j1
      repeat' first
      | (with_reducible exact ih0 _ _ _ _)
      | (with_reducible exact ih1 _ _ _ _ _)
      | (with_reducible exact ih2 _ _ _ _ _)
      | (with_reducible exact digits_unpackHalves.mono _ _ _ _)
      | (with_reducible exact LeO.refl _)
      | (with_reducible exact LeO.none _)
      | (with_reducible refine LeO.ite ?_ ?_)
      | (with_reducible refine LeO.bind ?_ (fun _ => ?_))
      | exact ih0 _ _ _ _
      | exact ih1 _ _ _ _ _
      | exact ih2 _ _ _ _ _
      | exact digits_unpackHalves.mono _ _ _ _
      | exact LeO.none _
      | refine LeO.ite ?_ ?_
      | refine LeO.bind ?_ (fun _ => ?_)
    · intro y0 y1 y2 y3 y4
      unfold digits_Unpack.l0
      repeat' first
      | (with_reducible exact ih0 _ _ _ _)
      | (with_reducible exact ih1 _ _ _ _ _)
      | (with_reducible exact ih2 _ _ _ _ _)
      | (with_reducible exact digits_unpackHalves.mono _ _ _ _)
      | (with_reducible exact LeO.refl _)
      | (with_reducible exact LeO.none _)
      | (with_reducible refine LeO.ite ?_ ?_)
      | (with_reducible refine LeO.bind ?_ (fun _ => ?_))
      | exact ih0 _ _ _ _
      | exact ih1 _ _ _ _ _
      | exact ih2 _ _ _ _ _
      | exact digits_unpackHalves.mono _ _ _ _
      | exact LeO.none _
      | refine LeO.ite ?_ ?_
      | refine LeO.bind ?_ (fun _ => ?_)
theorem digits_Unpack.mono : ∀ a0 a1 a2 k, LeO (digits_Unpack.f k a0 a1 a2) (digits_Unpack.f (k + 1) a0 a1 a2) := by
  intro a0 a1 a2 k
  obtain ⟨ih0, ih1, ih2⟩ := digits_Unpack.mono_l k
  unfold digits_Unpack.f
  repeat' first
      | (with_reducible exact ih0 _ _ _ _)
      | (with_reducible exact ih1 _ _ _ _ _)
      | (with_reducible exact ih2 _ _ _ _ _)
      | (with_reducible exact digits_unpackHalves.mono _ _ _ _)
      | (with_reducible exact LeO.refl _)
      | (with_reducible exact LeO.none _)
      | (with_reducible refine LeO.ite ?_ ?_)
      | (with_reducible refine LeO.bind ?_ (fun _ => ?_))
      | exact ih0 _ _ _ _
      | exact ih1 _ _ _ _ _
      | exact ih2 _ _ _ _ _
      | exact digits_unpackHalves.mono _ _ _ _
      | exact LeO.none _
      | refine LeO.ite ?_ ?_
      | refine LeO.bind ?_ (fun _ => ?_)
set_option maxHeartbeats 8000000 in
set_option maxRecDepth 100000 in
theorem digits_Unpack.calls (k : Nat) (a0 : Int) (a1 : ByteArray) (a2 : Int) (r1 : ByteArray) (r2 : Int) (r3 : Int) (w : World) (h : digits_Unpack.f k a0 a1 a2 = some (r1, r2, r3)) :
    Calls Try.prog 34 #[.int .i64 a0, .string a1, .int .i64 a2] w fun e w' => e = .returned (.tuple #[.string r1, .int .i64 r2, .int .i64 r3]) ∧ Below w.heap.size w w' := by
  have HB := Aside0.mk (Below.refl w.heap.size w)
  have H : (if a0 < 1 then (digits_Unpack.j0 k a0 a1 a2 true) else (if a0 > 5 then (digits_Unpack.j0 k a0 a1 a2 true) else (digits_Unpack.j0 k a0 a1 a2 (decide (a2 < 0))))) = some (r1, r2, r3) := h
  clear h
  have HC4 := Aside0.mk H
  clear H
  go_enter Try.func34, Try.ntmps34
  go_upto_region 1 with (fail)
  go_cut [23] (fun v23 wc => ∃ (kq : Nat) (x23_3 : Bool), v23 = .bool x23_3 ∧ Aside0 (digits_Unpack.j0 kq a0 a1 a2 x23_3 = some (r1, r2, r3)) ∧ Aside0 (kq ≤ k) ∧ Aside0 (Below w.heap.size w wc))
  case first =>
    have H := HC4.out
    clear HC4
    by_cases c5 : a0 < 1
    · rw [if_pos c5] at H
      have c5b0 : decide (a0 < 1) = true := decide_eq_true c5
      clear c5
      (first | rw [c5b0] | (simp only [i64_w, i32_w]; rw [c5b0]) | skip)
      have H' := Aside0.mk H
      clear H
      go_wp2
      go_meet
      case rel => exact ⟨_, (true), (by first | rfl | (simp; done) | (simp [*]; done)), H', ⟨by first | omega | exact Nat.le_refl _⟩, ⟨by repeat (first | (with_reducible first | exact HB.out | apply below_alloc | apply pw_below_drewN | apply below_drew1) | exact HB.out)⟩⟩
    · rw [if_neg c5] at H
      have c5b0 : decide (a0 < 1) = false := decide_eq_false c5
      clear c5
      (first | rw [c5b0] | (simp only [i64_w, i32_w]; rw [c5b0]) | skip)
      by_cases c6 : a0 > 5
      · rw [if_pos c6] at H
        have c6b0 : decide (5 < a0) = true := decide_eq_true c6
        clear c6
        have H' := Aside0.mk H
        clear H
        go_wp2
        go_meet
        case rel => exact ⟨_, (true), (by first | rfl | (simp; done) | (simp [*]; done)), H', ⟨by first | omega | exact Nat.le_refl _⟩, ⟨by repeat (first | (with_reducible first | exact HB.out | apply below_alloc | apply pw_below_drewN | apply below_drew1) | exact HB.out)⟩⟩
      · rw [if_neg c6] at H
        have c6b0 : decide (5 < a0) = false := decide_eq_false c6
        clear c6
        have H' := Aside0.mk H
        clear H
        go_wp2
        go_meet
        case rel => exact ⟨_, (decide (a2 < 0)), (by first | rfl | (simp; done) | (simp [*]; done)), H', ⟨by first | omega | exact Nat.le_refl _⟩, ⟨by repeat (first | (with_reducible first | exact HB.out | apply below_alloc | apply pw_below_drewN | apply below_drew1) | exact HB.out)⟩⟩
  case rest =>
    clear HC4
    try clear p2
    try clear c3
    try clear c5
    try clear c5b0
    try clear c6
    try clear c6b0
    obtain ⟨kq, x23_3, rfl, HA, HJ3, HB⟩ := hcut
    cases kq with
    | zero => exact absurd HA.out (by simp [digits_Unpack.j0])
    | succ kj3 =>
      have H := HA.out
      clear HA
      simp only [digits_Unpack.j0] at H
      by_cases c7 : x23_3 = true
      · subst c7
        have H1 : (some ((⟨#[]⟩ : ByteArray), 1, 0)) = some (r1, r2, r3) := by rw [if_pos rfl] at H; exact H
        clear H
        have H := H1
        clear H1
        simp only [Option.some.injEq, Prod.mk.injEq] at H
        obtain ⟨rfl, rfl, rfl⟩ := H
        go_wp2
        go_ret3
        exact ⟨by first | rfl | (simp [errW_none, errW_some] <;> rfl) | (simp [*, errW_none, errW_some] <;> rfl), by repeat (first | (with_reducible first | exact HB.out | apply below_alloc | apply pw_below_drewN | apply below_drew1) | exact HB.out)⟩
      · replace c7 := Bool.eq_false_iff.mpr c7
        subst c7
        have H1 : ((digits_Width.f a0 a2).bind fun t314 => (if (a1.size : Int) < t314 then (some ((⟨#[]⟩ : ByteArray), 10, (a1.size : Int))) else (if a0 = 2 then (digits_Unpack.j1 kj3 a0 a1 a2 t314 true) else (digits_Unpack.j1 kj3 a0 a1 a2 t314 (a0 == 3))))) = some (r1, r2, r3) := by rw [if_neg (show ¬ (false = true) by decide)] at H; exact H
        clear H
        have H := H1
        clear H1
        replace H := Option.bind_eq_some_iff.mp H
        obtain ⟨t314, A80, H⟩ := H
        replace H : (if (a1.size : Int) < t314 then (some ((⟨#[]⟩ : ByteArray), 10, (a1.size : Int))) else (if a0 = 2 then (digits_Unpack.j1 kj3 a0 a1 a2 t314 true) else (digits_Unpack.j1 kj3 a0 a1 a2 t314 (a0 == 3)))) = some (r1, r2, r3) := H
        have A8 := Aside0.mk A80
        clear A80
        by_cases c9 : (a1.size : Int) < t314
        · rw [if_pos c9] at H
          have c9b0 : decide ((a1.size : Int) < t314) = true := decide_eq_true c9
          clear c9
          simp only [Option.some.injEq, Prod.mk.injEq] at H
          obtain ⟨rfl, rfl, rfl⟩ := H
          go_wp2_with (first | ((with_reducible refine gate_callee (f := 20) rfl ?_); refine goesL_ (some 26) rfl rfl Try.func20 (by kernel_rfl) rfl #[.int .i64 a0, .int .i64 a2] rfl (by (try simp only [List.map_toArray, List.map_cons, List.map_nil]); first | done | rfl | (simp only [List.length_drop, List.length_take]; rfl)) ?_; (with_reducible refine (digits_Width.calls a0 a2 t314 _ A8.out).mono ?_); rintro e w' ⟨rfl, ⟨nd, rfl⟩⟩; refine ⟨_, rfl, ?_⟩))
          go_ret3
          exact ⟨by first | rfl | (simp [errW_none, errW_some] <;> rfl) | (simp [*, errW_none, errW_some] <;> rfl), by repeat (first | (with_reducible first | exact HB.out | apply below_alloc | apply pw_below_drewN | apply below_drew1) | exact HB.out)⟩
        · rw [if_neg c9] at H
          have c9b0 : decide ((a1.size : Int) < t314) = false := decide_eq_false c9
          clear c9
          have HC10 := Aside0.mk H
          clear H
          go_upto_region 6 with (first | ((with_reducible refine gate_callee (f := 20) rfl ?_); refine goesL_ (some 26) rfl rfl Try.func20 (by kernel_rfl) rfl #[.int .i64 a0, .int .i64 a2] rfl (by (try simp only [List.map_toArray, List.map_cons, List.map_nil]); first | done | rfl | (simp only [List.length_drop, List.length_take]; rfl)) ?_; (with_reducible refine (digits_Width.calls a0 a2 t314 _ A8.out).mono ?_); rintro e w' ⟨rfl, ⟨nd, rfl⟩⟩; refine ⟨_, rfl, ?_⟩))
          (try simp only [Act.put, List.setIfInBounds_toArray, List.set_cons_zero, List.set_cons_succ])
          go_cut [38] (fun v38 wc => ∃ (kq : Nat) (x38_9 : Bool), v38 = .bool x38_9 ∧ Aside0 (digits_Unpack.j1 kq a0 a1 a2 t314 x38_9 = some (r1, r2, r3)) ∧ Aside0 (kq ≤ kj3) ∧ Aside0 (Below w.heap.size w wc))
          case first =>
            have H := HC10.out
            clear HC10
            by_cases c11 : a0 = 2
            · rw [if_pos c11] at H
              have c11b0 : (a0 == 2) = true := beq_iff_eq.mpr c11
              have c11b1 : (a0 != 2) = false := bne_eq_false_iff_eq.mpr c11
              clear c11
              (first | rw [c11b0] | (simp only [i64_w, i32_w]; rw [c11b0]) | skip)
              have H' := Aside0.mk H
              clear H
              go_wp2
              go_meet
              case rel => exact ⟨_, (true), (by first | rfl | (simp; done) | (simp [*]; done)), H', ⟨by have := HJ3.out; first | omega | exact Nat.le_refl _⟩, ⟨by repeat (first | (with_reducible first | exact HB.out | apply below_alloc | apply pw_below_drewN | apply below_drew1) | exact HB.out)⟩⟩
            · rw [if_neg c11] at H
              have c11b0 : (a0 == 2) = false := beq_eq_false_iff_ne.mpr c11
              have c11b1 : (a0 != 2) = true := bne_iff_ne.mpr c11
              (first | rw [c11b0] | (simp only [i64_w, i32_w]; rw [c11b0]) | skip)
              have H' := Aside0.mk H
              clear H
              go_wp2
              go_meet
              case rel => exact ⟨_, ((a0 == 3)), (by first | rfl | (simp; done) | (simp [*]; done)), H', ⟨by have := HJ3.out; first | omega | exact Nat.le_refl _⟩, ⟨by repeat (first | (with_reducible first | exact HB.out | apply below_alloc | apply pw_below_drewN | apply below_drew1) | exact HB.out)⟩⟩
          case rest =>
            clear HC10
            try clear c1
            try clear c2
            try clear p2
            try clear c3
            try clear c5
            try clear c5b0
            try clear c6
            try clear c6b0
            try clear c7
            try clear c9
            try clear c9b0
            try clear c11
            try clear c11b0
            try clear c11b1
            try clear p2
            obtain ⟨kq, x38_9, rfl, HA, HJ9, HB⟩ := hcut
            cases kq with
            | zero => exact absurd HA.out (by simp [digits_Unpack.j1])
            | succ kj9 =>
              have H := HA.out
              clear HA
              simp only [digits_Unpack.j1] at H
              by_cases c12 : x38_9 = true
              · subst c12
                have H1 : (if 0 ≤ t314 then (if t314 ≤ (a1.size : Int) then ((digits_unpackHalves.f kj9 a0 (a1.extract 0 (t314 : Int).toNat) a2).bind fun bt315 => (some (bt315.1, bt315.2.1, bt315.2.2))) else (none)) else (none)) = some (r1, r2, r3) := by rw [if_pos rfl] at H; exact H
                clear H
                have H := H1
                clear H1
                by_cases c13 : 0 ≤ t314
                · rw [if_pos c13] at H
                  have c13b0 := eq_true c13
                  have c13b1 : decide (0 ≤ t314) = true := decide_eq_true c13
                  clear c13
                  by_cases c14 : t314 ≤ (a1.size : Int)
                  · rw [if_pos c14] at H
                    have c14b0 := eq_true c14
                    have c14b1 : decide (t314 ≤ (a1.size : Int)) = true := decide_eq_true c14
                    clear c14
                    replace H := Option.bind_eq_some_iff.mp H
                    obtain ⟨⟨t315, t316, t317⟩, A150, H⟩ := H
                    replace H : (some (t315, t316, t317)) = some (r1, r2, r3) := H
                    have A15 := Aside0.mk A150
                    clear A150
                    simp only [Option.some.injEq, Prod.mk.injEq] at H
                    obtain ⟨rfl, rfl, rfl⟩ := H
                    go_wp2_with (first | ((with_reducible refine gate_callee (f := 53) rfl ?_); refine goesL_ (some 44) rfl rfl Try.func53 (by kernel_rfl) rfl #[.int .i64 a0, .string (a1.extract 0 (t314 : Int).toNat), .int .i64 a2] rfl (by (try simp only [List.map_toArray, List.map_cons, List.map_nil]); first | done | rfl | (simp only [List.length_drop, List.length_take]; rfl)) ?_; (with_reducible refine (digits_unpackHalves.calls kj9 a0 (a1.extract 0 (t314 : Int).toNat) a2 t315 t316 t317 _ A15.out).mono ?_); rintro e w16 ⟨rfl, hb⟩; refine ⟨_, rfl, ?_⟩; have n0_ := Aside0.mk (below_step (by repeat (first | (with_reducible first | exact HB.out | apply below_alloc | apply pw_below_drewN | apply below_drew1) | exact HB.out)) hb); clear HB; have HB := n0_; clear n0_; (try clear hb); (try clear hb2); (try clear hk); (try clear hi)))
                    go_ret3
                    exact ⟨by first | rfl | (simp [errW_none, errW_some] <;> rfl) | (simp [*, errW_none, errW_some] <;> rfl), by repeat (first | (with_reducible first | exact HB.out | apply below_alloc | apply pw_below_drewN | apply below_drew1) | exact HB.out)⟩
                  · rw [if_neg c14] at H
                    exact absurd H (by simp)
                · rw [if_neg c13] at H
                  exact absurd H (by simp)
              · replace c12 := Bool.eq_false_iff.mpr c12
                subst c12
                have H1 : (if 0 ≤ t314 then (if (t314 : Int).toNat ≤ 281474976710656 then (digits_Unpack.l0 kj9 a0 a1 (([] : List Int)) t314 0) else (none)) else (none)) = some (r1, r2, r3) := by rw [if_neg (show ¬ (false = true) by decide)] at H; exact H
                clear H
                have H := H1
                clear H1
                by_cases c17 : 0 ≤ t314
                · rw [if_pos c17] at H
                  have c17b0 := eq_true c17
                  have c17b1 : decide (0 ≤ t314) = true := decide_eq_true c17
                  clear c17
                  by_cases c18 : (t314 : Int).toNat ≤ 281474976710656
                  · rw [if_pos c18] at H
                    have c18b0 := eq_true c18
                    have c18b1 : decide ((t314 : Int).toNat ≤ 281474976710656) = true := decide_eq_true c18
                    clear c18
                    obtain ⟨y318, hy318⟩ : ∃ y_ : List Int, y_ = (([] : List Int)) := ⟨_, rfl⟩
                    replace H : (digits_Unpack.l0 kj9 a0 a1 y318 t314 0) = some (r1, r2, r3) := by first | (rw [hy318]; with_reducible exact H) | (have H2_ := (Option.bind_some _ _).symm.trans H; rw [hy318]; with_reducible exact H2_) | (have H2_ := (Option.bind_some _ _).symm.trans H; with_reducible exact H2_) | with_reducible exact H | (rw [hy318]; exact H) | exact H
                    have Ny318 := Aside0.mk hy318
                    clear hy318
                    have H' := Aside0.mk H
                    clear H
                    go_wp2_with (first | ((with_reducible refine gate_dst (N := 49) rfl ?_); refine Kd.R_makecap (Kd.int .u8) _ 5 rfl (N := 49) rfl 51 _ _ rfl t314 rfl rfl Try.underlying51 (.int .u8 0) 1 info5 rfl (by decide) (by omega) (ok := fun _ => True) trivial (of_decide_eq_true (by first | (with_reducible assumption) | assumption)) (Nat.le_trans (Nat.mul_le_mul_right _ (of_decide_eq_true (by first | (with_reducible assumption) | assumption) : t314.toNat ≤ 281474976710656)) (by omega)) (Below.refl _ _) (Nat.le_refl _) ?_; intro v319 w19 ho20 hb hg_ hnew_; clear hg_ hnew_; (first | rw [← Ny318.out] at ho20 | (simp only [Int.reduceToNat] at ho20; rw [← Ny318.out] at ho20)); have n0_ := Aside0.mk (Kd.R_lower ho20 (below_size (by repeat (first | (with_reducible first | exact HB.out | apply below_alloc | apply pw_below_drewN | apply below_drew1) | exact HB.out)))); have n1_ := Aside0.mk (below_step (by repeat (first | (with_reducible first | exact HB.out | apply below_alloc | apply pw_below_drewN | apply below_drew1) | exact HB.out)) hb); clear HB; have HO320 := n0_; have HB := n1_; clear n0_ n1_; clear hb ho20))
                    go_loopg [10, 51] kj9 (fun kq v10 v51 w' => ∃ (x10_3 : List Int) (x51_3 : Int), v51 = .int .i64 x51_3 ∧ Aside0 (digits_Unpack.l0 kq a0 a1 x10_3 t314 x51_3 = some (r1, r2, r3)) ∧ Aside0 (kq ≤ kj9) ∧ Aside0 (Kd.R (Kd.int .u8) 5 w' w.heap.size (fun _ => True) v10 x10_3) ∧ Aside0 (Below w.heap.size w w'))
                    case atStart => exact ⟨(y318), (0), (by first | rfl | (simp; done) | (simp [*]; done)), H', ⟨Nat.le_refl _⟩, ⟨by (with_reducible repeat (first | apply Kd.R_alloc | apply Kd.R_drewN | apply Kd.R_drew)); exact HO320.out⟩, ⟨by repeat (first | (with_reducible first | exact HB.out | apply below_alloc | apply pw_below_drewN | apply below_drew1) | exact HB.out)⟩⟩
                    case round =>
                      clear H'
                      try clear c1
                      try clear c2
                      try clear p2
                      try clear c3
                      try clear c5
                      try clear c5b0
                      try clear c6
                      try clear c6b0
                      try clear c7
                      try clear c9
                      try clear c9b0
                      try clear c11
                      try clear c11b0
                      try clear c11b1
                      try clear c12
                      try clear c13
                      try clear c13b0
                      try clear c13b1
                      try clear c14
                      try clear c14b0
                      try clear c14b1
                      try clear c17
                      try clear c17b0
                      try clear c17b1
                      try clear c18
                      try clear c18b0
                      try clear c18b1
                      try clear c20
                      try clear p2
                      obtain ⟨x10_3, x51_3, rfl, HA, HK3, HO_10, HB⟩ := hrel
                      cases gk with
                      | zero => exact absurd HA.out (by simp [digits_Unpack.l0])
                      | succ k3 =>
                        have H := HA.out
                        clear HA
                        simp only [digits_Unpack.l0] at H
                        by_cases c21 : x51_3 < t314
                        · rw [if_pos c21] at H
                          have c21b0 : decide (x51_3 < t314) = true := decide_eq_true c21
                          clear c21
                          by_cases c22 : 0 ≤ x51_3
                          · rw [if_pos c22] at H
                            have c22b0 : decide (0 ≤ x51_3) = true := decide_eq_true c22
                            clear c22
                            by_cases c23 : x51_3 < (a1.size : Int)
                            · rw [if_pos c23] at H
                              have c23b0 : decide (x51_3 < (a1.size : Int)) = true := decide_eq_true c23
                              clear c23
                              replace H := Option.bind_eq_some_iff.mp H
                              obtain ⟨⟨t321, t322⟩, A250, H⟩ := H
                              replace H : (if t322 = true then (if x10_3.length < 140737488355328 then (digits_Unpack.l0 k3 a0 a1 (x10_3 ++ [t321]) t314 (wrap64 (x51_3 + 1))) else (none)) else (some ((⟨#[]⟩ : ByteArray), 11, x51_3))) = some (r1, r2, r3) := H
                              have A25 := Aside0.mk A250
                              clear A250
                              by_cases c26 : t322 = true
                              · subst c26
                                have H1 : (if x10_3.length < 140737488355328 then (digits_Unpack.l0 k3 a0 a1 (x10_3 ++ [t321]) t314 (wrap64 (x51_3 + 1))) else (none)) = some (r1, r2, r3) := by rw [if_pos rfl] at H; exact H
                                clear H
                                have H := H1
                                clear H1
                                by_cases c27 : x10_3.length < 140737488355328
                                · rw [if_pos c27] at H
                                  have LMc27 := Aside0.mk c27
                                  clear c27
                                  obtain ⟨y323, hy323⟩ : ∃ y_ : List Int, y_ = (x10_3 ++ [t321]) := ⟨_, rfl⟩
                                  replace H : (digits_Unpack.l0 k3 a0 a1 y323 t314 (wrap64 (x51_3 + 1))) = some (r1, r2, r3) := by first | (rw [hy323]; with_reducible exact H) | (have H2_ := (Option.bind_some _ _).symm.trans H; rw [hy323]; with_reducible exact H2_) | (have H2_ := (Option.bind_some _ _).symm.trans H; with_reducible exact H2_) | with_reducible exact H | (rw [hy323]; exact H) | exact H
                                  have Ny323 := Aside0.mk hy323
                                  clear hy323
                                  have H' := Aside0.mk H
                                  clear H
                                  have p24 : 0 ≤ (x51_3 : Int) := of_decide_eq_true (by first | (with_reducible assumption) | assumption)
                                  have q24 : x51_3 < (a1.size : Int) := of_decide_eq_true (by first | (with_reducible assumption) | assumption)
                                  have hx24 := bt_at a1 x51_3
                                  replace p24 := eq_true p24
                                  replace q24 := eq_true q24
                                  go_wp2_with (first | ((with_reducible refine gate_callee (f := 54) rfl ?_); refine goesL_ (some 59) rfl rfl Try.func54 (by kernel_rfl) rfl #[.int .i64 a0, .int .u8 (bt a1 x51_3)] rfl (by (try simp only [List.map_toArray, List.map_cons, List.map_nil]); first | done | rfl | (simp only [List.length_drop, List.length_take]; rfl)) ?_; (with_reducible refine (digits_read.calls a0 (bt a1 x51_3) t321 true _ A25.out).mono ?_); rintro e w28 ⟨rfl, hb⟩; refine ⟨_, rfl, ?_⟩; have n0_ := Aside0.mk (Kd.R_below (by (with_reducible repeat (first | apply Kd.R_alloc | apply Kd.R_drewN | apply Kd.R_drew)); exact HO_10.out) hb); have n1_ := Aside0.mk (below_step (by repeat (first | (with_reducible first | exact HB.out | apply below_alloc | apply pw_below_drewN | apply below_drew1) | exact HB.out)) hb); clear HO_10; clear HB; have HO_10 := n0_; have HB := n1_; clear n0_ n1_; (try clear hb); (try clear hb2); (try clear hk); (try clear hi)) | ((with_reducible refine gate_builtin (b := .append) (xs := #[.tmp 65, .tmp 67]) rfl ?_); at_builtin; refine Kd.R_append (Kd.int .u8) (w0 := w) w.heap.size rfl (.tmp 65) (.tmp 67) 51 5 (.int .u8 0) 1 rfl Try.underlying51 info5 rfl (by decide) (by omega) u10 x10_3 t321 [.int .u8 t321] (fun _ => True) (fun _ => False) rfl rfl ?aP (fun _ hk => hk.elim) ?aF ?aO ?aB ?aS ?aL ?_; (case aP => exact rfl); (case aB => exact (by repeat (first | (with_reducible first | exact HB.out | apply below_alloc | apply pw_below_drewN | apply below_drew1) | exact HB.out))); (case aF => exact (fun _ _ => trivial)); (case aO => exact (by (with_reducible repeat (first | apply Kd.R_alloc | apply Kd.R_drewN | apply Kd.R_drew)); exact HO_10.out)); (case aS => exact (below_size (by repeat (first | (with_reducible first | exact HB.out | apply below_alloc | apply pw_below_drewN | apply below_drew1) | exact HB.out)))); (case aL => have := LMc27.out; omega); intro v324 w29 ho hb hg hat; rw [← Ny323.out] at ho; have n0_ := Aside0.mk (hb); have n1_ := Aside0.mk (ho); clear HB; clear HO_10; have HB := n0_; have HO325 := n1_; clear n0_ n1_; clear ho hb hg hat))
                                  go_roundg k3
                                  case measure => have := HJ3.out; have := HJ9.out; have := HK3.out; omega
                                  case rel => exact ⟨(y323), (wrap64 (x51_3 + 1)), (by first | rfl | (simp; done) | (simp [*]; done)), H', ⟨by have := HJ3.out; have := HJ9.out; have := HK3.out; omega⟩, ⟨by (with_reducible repeat (first | apply Kd.R_alloc | apply Kd.R_drewN | apply Kd.R_drew)); exact HO325.out⟩, ⟨by repeat (first | (with_reducible first | exact HB.out | apply below_alloc | apply pw_below_drewN | apply below_drew1) | exact HB.out)⟩⟩
                                · rw [if_neg c27] at H
                                  exact absurd H (by simp)
                              · replace c26 := Bool.eq_false_iff.mpr c26
                                subst c26
                                have H1 : (some ((⟨#[]⟩ : ByteArray), 11, x51_3)) = some (r1, r2, r3) := by rw [if_neg (show ¬ (false = true) by decide)] at H; exact H
                                clear H
                                have H := H1
                                clear H1
                                simp only [Option.some.injEq, Prod.mk.injEq] at H
                                obtain ⟨rfl, rfl, rfl⟩ := H
                                have p24 : 0 ≤ (x51_3 : Int) := of_decide_eq_true (by first | (with_reducible assumption) | assumption)
                                have q24 : x51_3 < (a1.size : Int) := of_decide_eq_true (by first | (with_reducible assumption) | assumption)
                                have hx24 := bt_at a1 x51_3
                                replace p24 := eq_true p24
                                replace q24 := eq_true q24
                                go_wp2_with (first | ((with_reducible refine gate_callee (f := 54) rfl ?_); refine goesL_ (some 59) rfl rfl Try.func54 (by kernel_rfl) rfl #[.int .i64 a0, .int .u8 (bt a1 x51_3)] rfl (by (try simp only [List.map_toArray, List.map_cons, List.map_nil]); first | done | rfl | (simp only [List.length_drop, List.length_take]; rfl)) ?_; (with_reducible refine (digits_read.calls a0 (bt a1 x51_3) t321 false _ A25.out).mono ?_); rintro e w30 ⟨rfl, hb⟩; refine ⟨_, rfl, ?_⟩; have n0_ := Aside0.mk (Kd.R_below (by (with_reducible repeat (first | apply Kd.R_alloc | apply Kd.R_drewN | apply Kd.R_drew)); exact HO_10.out) hb); have n1_ := Aside0.mk (below_step (by repeat (first | (with_reducible first | exact HB.out | apply below_alloc | apply pw_below_drewN | apply below_drew1) | exact HB.out)) hb); clear HO_10; clear HB; have HO_10 := n0_; have HB := n1_; clear n0_ n1_; (try clear hb); (try clear hb2); (try clear hk); (try clear hi)))
                                go_ret3
                                exact ⟨by first | rfl | (simp [errW_none, errW_some] <;> rfl) | (simp [*, errW_none, errW_some] <;> rfl), by repeat (first | (with_reducible first | exact HB.out | apply below_alloc | apply pw_below_drewN | apply below_drew1) | exact HB.out)⟩
                            · rw [if_neg c23] at H
                              exact absurd H (by simp)
                          · rw [if_neg c22] at H
                            exact absurd H (by simp)
                        · rw [if_neg c21] at H
                          have c21b0 : decide (x51_3 < t314) = false := decide_eq_false c21
                          clear c21
                          simp only [Option.some.injEq, Prod.mk.injEq] at H
                          obtain ⟨rfl, rfl, rfl⟩ := H
                          have hcv31 := own_string (P := Try.prog) Try.underlying51 Try.underlying5 Try.underlying9 (Kd.own_of_R HO_10.out)
                          go_wp2
                          go_ret3
                          exact ⟨by first | rfl | (simp [errW_none, errW_some] <;> rfl) | (simp [*, errW_none, errW_some] <;> rfl), by repeat (first | (with_reducible first | exact HB.out | apply below_alloc | apply pw_below_drewN | apply below_drew1) | exact HB.out)⟩
                  · rw [if_neg c18] at H
                    exact absurd H (by simp)
                · rw [if_neg c17] at H
                  exact absurd H (by simp)

end Go.Proofs.Ytlpamhffpgoebaa.All
