-- WRITTEN BY this session's own drv.py over the kit's print. Not trusted: Lean checks it.
import Derived.Test.YtlpamhffpgoebaaAx0
import Derived.Test.YtlpamhffpgoebaaAx4
import Derived.Test.YtlpamhffpgoebaaAx22
import Derived.Test.YtlpamhffpgoebaaAx47
namespace Go.Proofs.Ytlpamhffpgoebaa.All
open Go.RowKit Go.Proofs.YtlpamhffpgoebaaW.PrintWords Go.Proofs.YtlpamhffpgoebaaW.PrintLast Go.Proofs.YtlpamhffpgoebaaW.PrintMore
attribute [local go_sem] max2_int min2_int max_two min_two max_three min_three max_four min_four   -- for this text's walks alone
set_option linter.unusedVariables false
set_option linter.unusedSimpArgs false

set_option maxRecDepth 100000 in
theorem zero50 : Try.zeroCells50 = ((madeCells (Value.bool false).cells (256 * 1)).toList).toArray := by kernel_rfl
set_option maxRecDepth 100000 in
/-- a new array of 256 bools, as a row of its own -/
theorem R_arr50 (w : World) : Kd.R Kd.bool 50 (w.alloc (.cells Try.zeroCells50 50)) w.heap.size (fun _ => True) (.slice (some ⟨w.heap.size, 0, none⟩) 256 256) (List.replicate 256 false) := by
  rw [zero50]
  have hrep : Reps (Kd.bool.M w w.heap.size (fun _ => True)) Kd.bool.sz (List.replicate 256 false) ((madeCells (Value.bool false).cells (256 * 1)).toList) := Kd.reps_made (R := Kd.bool.M w w.heap.size (fun _ => True)) (z := .bool false) (size := 1) (z0 := false) rfl (by decide) rfl 256
  refine ⟨fun _ _ => trivial, (madeCells (Value.bool false).cells (256 * 1)).toList, ?_, ?_⟩
  · have h2 := World.ownsRow_lit (base := w.heap.size) (e := 50) (size := Kd.bool.sz) w ((madeCells (Value.bool false).cells (256 * 1)).toList).toArray 256 (Nat.le_refl _) (by simp [maxLen]) (by simp [size_madeCells, show Kd.bool.sz = 1 from rfl])
    simpa using h2
  · refine hrep.imp_ (fun p c hp => Kd.bool.M_mono (fun k hk => ⟨trivial, fun he => ?_⟩) (Kd.M_below (Kd.bool.M_bound hp) (below_alloc (Below.refl _ _) _)))
    have h3 : k = w.heap.size := by simpa [Value.ownBlock] using he
    have := hk.2.2.1
    omega
/-! ### turnstilelaw1_DigitsLetters: function 16 -/
mutual
def turnstilelaw1_DigitsLetters.l0 : Nat → Int → List Bool → Int → Int → Option (Bool)
  | 0, _, _, _, _ => none
  | k + 1, x0, x3, x4, x5 => if x5 ≤ 126 then ((digits_Pack.f k 4 (strOfNums (([(x5) % 256] : List Int)))).bind fun bt438 => (if bt438.2 = 0 then (if (bt438.1.size : Int) = 1 then (if 0 < (bt438.1.size : Int) then (if 0 ≤ (bt bt438.1 0) then (if (bt bt438.1 0) < (x3.length : Int) then (turnstilelaw1_DigitsLetters.j1 k x0 x3 x4 x5 bt438.1 (rdOf false x3 (bt bt438.1 0))) else (none)) else (none)) else (none)) else (turnstilelaw1_DigitsLetters.j1 k x0 x3 x4 x5 bt438.1 true)) else (turnstilelaw1_DigitsLetters.j1 k x0 x3 x4 x5 bt438.1 true))) else ((turnstilelaw1_pick.f x0 256).bind fun t442 => ((digits_Unpack.f k 4 (strOfNums (([(t442) % 256] : List Int))) 1).bind fun bt446 => (if 0 ≤ t442 then (if t442 < (x3.length : Int) then (if rdOf false x3 t442 = true then ((digits_Pack.f k 4 bt446.1).bind fun bt450 => (if bt446.2.1 = 0 then (if (bt446.1.size : Int) = 1 then (if bt450.2 = 0 then (some (bt450.1.toList == (strOfNums (([(t442) % 256] : List Int))).toList)) else (some false)) else (some false)) else (some false))) else (if bt446.1.toList = ([] : List UInt8) then (if bt446.2.1 = 11 then (some (bt446.2.2 == 0)) else (some false)) else (some false))) else (none)) else (none))))
def turnstilelaw1_DigitsLetters.j1 : Nat → Int → List Bool → Int → Int → ByteArray → Bool → Option (Bool)
  | 0, _, _, _, _, _, _ => none
  | k + 1, x0, x3, x4, x5, x6, x39 => if x39 = true then (some false) else (if 0 < (x6.size : Int) then (if 0 ≤ (bt x6 0) then (if (bt x6 0) < (x3.length : Int) then ((some (x3.set ((bt x6 0) : Int).toNat true : List Bool)).bind fun y441 => (if x5 > 48 then (if x5 ≤ 57 then (if (bt x6 0) ≤ x4 then (some false) else (turnstilelaw1_DigitsLetters.l0 k x0 y441 (bt x6 0) (wrap64 (x5 + 1)))) else (if x5 > 65 then (if x5 ≤ 90 then (if (bt x6 0) ≤ x4 then (some false) else (turnstilelaw1_DigitsLetters.l0 k x0 y441 (bt x6 0) (wrap64 (x5 + 1)))) else (if x5 > 97 then (if x5 ≤ 122 then (if (bt x6 0) ≤ x4 then (some false) else (turnstilelaw1_DigitsLetters.l0 k x0 y441 (bt x6 0) (wrap64 (x5 + 1)))) else (turnstilelaw1_DigitsLetters.l0 k x0 y441 (bt x6 0) (wrap64 (x5 + 1)))) else (turnstilelaw1_DigitsLetters.l0 k x0 y441 (bt x6 0) (wrap64 (x5 + 1))))) else (if x5 > 97 then (if x5 ≤ 122 then (if (bt x6 0) ≤ x4 then (some false) else (turnstilelaw1_DigitsLetters.l0 k x0 y441 (bt x6 0) (wrap64 (x5 + 1)))) else (turnstilelaw1_DigitsLetters.l0 k x0 y441 (bt x6 0) (wrap64 (x5 + 1)))) else (turnstilelaw1_DigitsLetters.l0 k x0 y441 (bt x6 0) (wrap64 (x5 + 1)))))) else (if x5 > 65 then (if x5 ≤ 90 then (if (bt x6 0) ≤ x4 then (some false) else (turnstilelaw1_DigitsLetters.l0 k x0 y441 (bt x6 0) (wrap64 (x5 + 1)))) else (if x5 > 97 then (if x5 ≤ 122 then (if (bt x6 0) ≤ x4 then (some false) else (turnstilelaw1_DigitsLetters.l0 k x0 y441 (bt x6 0) (wrap64 (x5 + 1)))) else (turnstilelaw1_DigitsLetters.l0 k x0 y441 (bt x6 0) (wrap64 (x5 + 1)))) else (turnstilelaw1_DigitsLetters.l0 k x0 y441 (bt x6 0) (wrap64 (x5 + 1))))) else (if x5 > 97 then (if x5 ≤ 122 then (if (bt x6 0) ≤ x4 then (some false) else (turnstilelaw1_DigitsLetters.l0 k x0 y441 (bt x6 0) (wrap64 (x5 + 1)))) else (turnstilelaw1_DigitsLetters.l0 k x0 y441 (bt x6 0) (wrap64 (x5 + 1)))) else (turnstilelaw1_DigitsLetters.l0 k x0 y441 (bt x6 0) (wrap64 (x5 + 1))))))) else (none)) else (none)) else (none))
end
def turnstilelaw1_DigitsLetters.f (k : Nat) (a0 : Int) : Option (Bool) := if 256 ≤ 281474976710656 then (turnstilelaw1_DigitsLetters.l0 k a0 (List.replicate 256 false) 0 32) else (none)
theorem turnstilelaw1_DigitsLetters.mono_l : ∀ k, (∀ y0 y1 y2 y3, LeO (turnstilelaw1_DigitsLetters.l0 k y0 y1 y2 y3) (turnstilelaw1_DigitsLetters.l0 (k + 1) y0 y1 y2 y3)) ∧ (∀ y0 y1 y2 y3 y4 y5, LeO (turnstilelaw1_DigitsLetters.j1 k y0 y1 y2 y3 y4 y5) (turnstilelaw1_DigitsLetters.j1 (k + 1) y0 y1 y2 y3 y4 y5))
  | 0 => ⟨fun _ _ _ _ r h => by simp [turnstilelaw1_DigitsLetters.l0] at h, fun _ _ _ _ _ _ r h => by simp [turnstilelaw1_DigitsLetters.j1] at h⟩
  | k + 1 => by
    obtain ⟨ih0, ih1⟩ := turnstilelaw1_DigitsLetters.mono_l k
    refine ⟨?_, ?_⟩
    · intro y0 y1 y2 y3
      unfold turnstilelaw1_DigitsLetters.l0
      repeat' first
      | (with_reducible exact ih0 _ _ _ _)
      | (with_reducible exact ih1 _ _ _ _ _ _)
      | (with_reducible exact digits_Pack.mono _ _ _)
      | (with_reducible exact digits_Unpack.mono _ _ _ _)
      | (with_reducible exact LeO.refl _)
      | (with_reducible exact LeO.none _)
      | (with_reducible refine LeO.ite ?_ ?_)
      | (with_reducible refine LeO.bind ?_ (fun _ => ?_))
      | exact ih0 _ _ _ _
      | exact ih1 _ _ _ _ _ _
      | exact digits_Pack.mono _ _ _
      | exact digits_Unpack.mono _ _ _ _
      | exact LeO.none _
      | refine LeO.ite ?_ ?_
      | refine LeO.bind ?_ (fun _ => ?_)
    · intro y0 y1 y2 y3 y4 y5
      unfold turnstilelaw1_DigitsLetters.j1
      repeat' first
      | (with_reducible exact ih0 _ _ _ _)
      | (with_reducible exact ih1 _ _ _ _ _ _)
      | (with_reducible exact digits_Pack.mono _ _ _)
      | (with_reducible exact digits_Unpack.mono _ _ _ _)
      | (with_reducible exact LeO.refl _)
      | (with_reducible exact LeO.none _)
      | (with_reducible refine LeO.ite ?_ ?_)
      | (with_reducible refine LeO.bind ?_ (fun _ => ?_))
      | exact ih0 _ _ _ _
      | exact ih1 _ _ _ _ _ _
      | exact digits_Pack.mono _ _ _
      | exact digits_Unpack.mono _ _ _ _
      | exact LeO.none _
      | refine LeO.ite ?_ ?_
      | refine LeO.bind ?_ (fun _ => ?_)
theorem turnstilelaw1_DigitsLetters.mono : ∀ a0 k, LeO (turnstilelaw1_DigitsLetters.f k a0) (turnstilelaw1_DigitsLetters.f (k + 1) a0) := by
  intro a0 k
  obtain ⟨ih0, ih1⟩ := turnstilelaw1_DigitsLetters.mono_l k
  unfold turnstilelaw1_DigitsLetters.f
  repeat' first
      | (with_reducible exact ih0 _ _ _ _)
      | (with_reducible exact ih1 _ _ _ _ _ _)
      | (with_reducible exact digits_Pack.mono _ _ _)
      | (with_reducible exact digits_Unpack.mono _ _ _ _)
      | (with_reducible exact LeO.refl _)
      | (with_reducible exact LeO.none _)
      | (with_reducible refine LeO.ite ?_ ?_)
      | (with_reducible refine LeO.bind ?_ (fun _ => ?_))
      | exact ih0 _ _ _ _
      | exact ih1 _ _ _ _ _ _
      | exact digits_Pack.mono _ _ _
      | exact digits_Unpack.mono _ _ _ _
      | exact LeO.none _
      | refine LeO.ite ?_ ?_
      | refine LeO.bind ?_ (fun _ => ?_)
set_option maxHeartbeats 8000000 in
set_option maxRecDepth 100000 in
theorem turnstilelaw1_DigitsLetters.calls (k : Nat) (a0 : Int) (r : Bool) (w : World) (h : turnstilelaw1_DigitsLetters.f k a0 = some r) :
    Calls Try.prog 16 #[.int .i64 a0] w fun e w' => e = .returned (.bool r) ∧ Below w.heap.size w w' := by
  have HB := Aside0.mk (Below.refl w.heap.size w)
  have H : (if 256 ≤ 281474976710656 then (turnstilelaw1_DigitsLetters.l0 k a0 (List.replicate 256 false) 0 32) else (none)) = some r := h
  clear h
  by_cases c2 : 256 ≤ 281474976710656
  · rw [if_pos c2] at H
    have c2b0 := eq_true c2
    have c2b1 : decide (256 ≤ 281474976710656) = true := decide_eq_true c2
    clear c2
    obtain ⟨y432, hy432⟩ : ∃ y_ : List Bool, y_ = (List.replicate 256 false) := ⟨_, rfl⟩
    replace H : (turnstilelaw1_DigitsLetters.l0 k a0 y432 0 32) = some r := by first | (rw [hy432]; with_reducible exact H) | (have H2_ := (Option.bind_some _ _).symm.trans H; rw [hy432]; with_reducible exact H2_) | (have H2_ := (Option.bind_some _ _).symm.trans H; with_reducible exact H2_) | with_reducible exact H | (rw [hy432]; exact H) | exact H
    have Ny432 := Aside0.mk hy432
    clear hy432
    have H' := Aside0.mk H
    clear H
    go_enter Try.func16, Try.ntmps16
    go_wp2
    have n0_ := R_arr50 w
    have n1_ := below_alloc HB.out (.cells Try.zeroCells50 50)
    rw [← Ny432.out] at n0_
    clear HB
    obtain ⟨w3, hw3⟩ : ∃ W_, W_ = w.alloc (.cells Try.zeroCells50 50) := ⟨_, rfl⟩
    rw [← hw3] at n0_ n1_ ⊢
    clear hw3
    have HO434 := Aside0.mk n0_
    have HB := Aside0.mk n1_
    clear n0_ n1_
    go_loopg [4, 5] k (fun kq v4 v5 w' => ∃ (x3_1 : List Bool) (x4_1 : Int) (x5_1 : Int), v4 = .int .u8 x4_1 ∧ v5 = .int .i64 x5_1 ∧ Aside0 (turnstilelaw1_DigitsLetters.l0 kq a0 x3_1 x4_1 x5_1 = some r) ∧ Aside0 (kq ≤ k) ∧ Aside0 (Kd.R Kd.bool 50 w' w.heap.size (fun _ => True) (.slice (some ⟨w.heap.size, 0, none⟩) 256 256) x3_1) ∧ Aside0 (Below w.heap.size w w'))
    case atStart => exact ⟨(y432), (0), (32), (by first | rfl | (simp; done) | (simp [*]; done)), (by first | rfl | (simp; done) | (simp [*]; done)), H', ⟨Nat.le_refl _⟩, ⟨by (with_reducible repeat (first | apply Kd.R_alloc | apply Kd.R_drewN | apply Kd.R_drew)); exact HO434.out⟩, ⟨by repeat (first | (with_reducible first | exact HB.out | apply below_alloc | apply pw_below_drewN | apply below_drew1) | exact HB.out)⟩⟩
    case round =>
      clear H'
      try clear c1
      try clear c2
      try clear c2b0
      try clear c2b1
      try clear p2
      obtain ⟨x3_1, x4_1, x5_1, rfl, rfl, HA, HK1, HO_3, HB⟩ := hrel
      cases gk with
      | zero => exact absurd HA.out (by simp [turnstilelaw1_DigitsLetters.l0])
      | succ k1 =>
        have H := HA.out
        clear HA
        simp only [turnstilelaw1_DigitsLetters.l0] at H
        by_cases c5 : x5_1 ≤ 126
        · rw [if_pos c5] at H
          have c5b0 : decide (x5_1 ≤ 126) = true := decide_eq_true c5
          clear c5
          obtain ⟨y435, hy435⟩ : ∃ y_ : List Int, y_ = (([(x5_1) % 256] : List Int)) := ⟨_, rfl⟩
          replace H : ((digits_Pack.f k1 4 (strOfNums y435)).bind fun bt438 => (if bt438.2 = 0 then (if (bt438.1.size : Int) = 1 then (if 0 < (bt438.1.size : Int) then (if 0 ≤ (bt bt438.1 0) then (if (bt bt438.1 0) < (x3_1.length : Int) then (turnstilelaw1_DigitsLetters.j1 k1 a0 x3_1 x4_1 x5_1 bt438.1 (rdOf false x3_1 (bt bt438.1 0))) else (none)) else (none)) else (none)) else (turnstilelaw1_DigitsLetters.j1 k1 a0 x3_1 x4_1 x5_1 bt438.1 true)) else (turnstilelaw1_DigitsLetters.j1 k1 a0 x3_1 x4_1 x5_1 bt438.1 true))) = some r := by first | (rw [hy435]; with_reducible exact H) | (have H2_ := (Option.bind_some _ _).symm.trans H; rw [hy435]; with_reducible exact H2_) | (have H2_ := (Option.bind_some _ _).symm.trans H; with_reducible exact H2_) | with_reducible exact H | (rw [hy435]; exact H) | exact H
          have Ny435 := Aside0.mk hy435
          clear hy435
          replace H := Option.bind_eq_some_iff.mp H
          obtain ⟨⟨t438, t439⟩, A60, H⟩ := H
          replace H : (if t439 = 0 then (if (t438.size : Int) = 1 then (if 0 < (t438.size : Int) then (if 0 ≤ (bt t438 0) then (if (bt t438 0) < (x3_1.length : Int) then (turnstilelaw1_DigitsLetters.j1 k1 a0 x3_1 x4_1 x5_1 t438 (rdOf false x3_1 (bt t438 0))) else (none)) else (none)) else (none)) else (turnstilelaw1_DigitsLetters.j1 k1 a0 x3_1 x4_1 x5_1 t438 true)) else (turnstilelaw1_DigitsLetters.j1 k1 a0 x3_1 x4_1 x5_1 t438 true)) = some r := H
          have A6 := Aside0.mk A60
          clear A60
          have HC7 := Aside0.mk H
          clear H
          go_upto_region 7 with (first | ((with_reducible refine gate_dst (N := 22) rfl ?_); (try (refine gate_guard (by rfl) ?_; dsimp only)); refine Kd.R_lit (Kd.int .u8) _ 5 ?hg (N := 22) ?hd (xs := ([(x5_1) % 256] : List Int)) (inner := [.int .u8 ((x5_1) % 256)]) (ok := fun _ => True) (okp := fun _ => True) ?hr ?hp (fun _ hk => hk) trivial (Below.refl _ _) (Nat.le_refl _) (by simp) ?_; (case hd => rfl); (case hg => rfl); (case hr => first | (go_simp; done) | (go_simp; rfl)); (case hp => exact (Reps.one (show Kd.M (Kd.int .u8) _ _ _ ((x5_1) % 256) [.int .u8 ((x5_1) % 256)] from rfl) (Reps.none _ _))); intro v436 w8 ho9 hb hg_ hnew_; clear hg_ hnew_; (first | rw [← Ny435.out] at ho9 | (simp only [Int.reduceToNat] at ho9; rw [← Ny435.out] at ho9)); have n0_ := Aside0.mk (Kd.R_below (by (with_reducible repeat (first | apply Kd.R_alloc | apply Kd.R_drewN | apply Kd.R_drew)); exact HO_3.out) hb); have n1_ := Aside0.mk (Kd.R_lower ho9 (below_size (by repeat (first | (with_reducible first | exact HB.out | apply below_alloc | apply pw_below_drewN | apply below_drew1) | exact HB.out)))); have n2_ := Aside0.mk (below_step (by repeat (first | (with_reducible first | exact HB.out | apply below_alloc | apply pw_below_drewN | apply below_drew1) | exact HB.out)) hb); clear HO_3; clear HB; have HO_3 := n0_; have HO437 := n1_; have HB := n2_; clear n0_ n1_ n2_; clear hb ho9; have hcv10 := own_string (P := Try.prog) Try.underlying51 Try.underlying5 Try.underlying9 (Kd.own_of_R HO437.out)) | ((with_reducible refine gate_callee (f := 32) rfl ?_); refine goesL_ (some 24) rfl rfl Try.func32 (by kernel_rfl) rfl #[.int .i64 4, .string (strOfNums y435)] rfl (by (try simp only [List.map_toArray, List.map_cons, List.map_nil]); first | done | rfl | (simp only [List.length_drop, List.length_take]; rfl)) ?_; (with_reducible refine (digits_Pack.calls k1 4 (strOfNums y435) t438 t439 _ A6.out).mono ?_); rintro e w11 ⟨rfl, hb⟩; refine ⟨_, rfl, ?_⟩; have n0_ := Aside0.mk (Kd.R_below (by (with_reducible repeat (first | apply Kd.R_alloc | apply Kd.R_drewN | apply Kd.R_drew)); exact HO_3.out) hb); have n1_ := Aside0.mk (Kd.R_below (by (with_reducible repeat (first | apply Kd.R_alloc | apply Kd.R_drewN | apply Kd.R_drew)); exact HO437.out) hb); have n2_ := Aside0.mk (below_step (by repeat (first | (with_reducible first | exact HB.out | apply below_alloc | apply pw_below_drewN | apply below_drew1) | exact HB.out)) hb); clear HO_3; clear HO437; clear HB; have HO_3 := n0_; have HO437 := n1_; have HB := n2_; clear n0_ n1_ n2_; (try clear hb); (try clear hb2); (try clear hk); (try clear hi)))
          (try simp only [Act.put, List.setIfInBounds_toArray, List.set_cons_zero, List.set_cons_succ])
          go_cut [39] (fun v39 wc => ∃ (kq : Nat) (x39_6 : Bool), v39 = .bool x39_6 ∧ Aside0 (turnstilelaw1_DigitsLetters.j1 kq a0 x3_1 x4_1 x5_1 t438 x39_6 = some r) ∧ Aside0 (kq ≤ k1) ∧ Aside0 (Kd.R Kd.bool 50 wc w.heap.size (fun _ => True) (.slice (some ⟨w.heap.size, 0, none⟩) 256 256) x3_1) ∧ Aside0 (Below w.heap.size w wc))
          case first =>
            have H := HC7.out
            clear HC7
            by_cases c12 : t439 = 0
            · rw [if_pos c12] at H
              have c12b0 : (t439 == 0) = true := beq_iff_eq.mpr c12
              have c12b1 : (t439 != 0) = false := bne_eq_false_iff_eq.mpr c12
              clear c12
              (first | rw [c12b0] | (simp only [i64_w, i32_w]; rw [c12b0]) | skip)
              by_cases c13 : (t438.size : Int) = 1
              · rw [if_pos c13] at H
                have c13b0 : ((t438.size : Int) == 1) = true := beq_iff_eq.mpr c13
                have c13b1 : ((t438.size : Int) != 1) = false := bne_eq_false_iff_eq.mpr c13
                clear c13
                by_cases c14 : 0 < (t438.size : Int)
                · rw [if_pos c14] at H
                  have c14b0 : decide (0 < (t438.size : Int)) = true := decide_eq_true c14
                  have c14b1 : decide (0 < t438.size) = true := decide_eq_true (by omega)
                  clear c14
                  by_cases c16 : 0 ≤ (bt t438 0)
                  · rw [if_pos c16] at H
                    have c16b0 : decide (0 ≤ (bt t438 0)) = true := decide_eq_true c16
                    clear c16
                    by_cases c17 : (bt t438 0) < (x3_1.length : Int)
                    · rw [if_pos c17] at H
                      have c17b0 : decide ((bt t438 0) < (x3_1.length : Int)) = true := decide_eq_true c17
                      clear c17
                      have H' := Aside0.mk H
                      clear H
                      have p15 : 0 ≤ (0 : Int) := (by omega)
                      have q15 : 0 < t438.size := (by have : (0 : Int) < (t438.size : Int) := of_decide_eq_true (by first | (with_reducible assumption) | assumption); omega)
                      have hx15 : ∀ h : 0 < t438.size, ((t438[0]'h).toNat : Int) = bt t438 0 := bt_at t438 0
                      clear p15
                      have qi15 : (0 < (t438.size : Int)) = True := eq_true (of_decide_eq_true (by first | (with_reducible assumption) | assumption))
                      replace q15 := eq_true q15
                      have p440 : 0 ≤ ((bt t438 0) : Int) := of_decide_eq_true (by first | (with_reducible assumption) | assumption)
                      have q440 : (bt t438 0) < (x3_1.length : Int) := of_decide_eq_true (by first | (with_reducible assumption) | assumption)
                      have ql440 : (bt t438 0) < (256 : Int) := by have h_ := (Kd.R_reads' HO_3.out).1; omega
                      obtain ⟨hx440_0, hf440_0⟩ := Kd.R_celln false HO_3.out (bt t438 0) p440 ql440
                      replace ql440 := eq_true ql440
                      replace p440 := eq_true p440
                      replace q440 := eq_true q440
                      go_wp2
                      go_meet
                      case rel => exact ⟨_, (rdOf false x3_1 (bt t438 0)), (by first | rfl | (simp; done) | (simp [*]; done)), H', ⟨by have := HK1.out; first | omega | exact Nat.le_refl _⟩, ⟨by (with_reducible repeat (first | apply Kd.R_alloc | apply Kd.R_drewN | apply Kd.R_drew)); exact HO_3.out⟩, ⟨by repeat (first | (with_reducible first | exact HB.out | apply below_alloc | apply pw_below_drewN | apply below_drew1) | exact HB.out)⟩⟩
                    · rw [if_neg c17] at H
                      exact absurd H (by simp)
                  · rw [if_neg c16] at H
                    exact absurd H (by simp)
                · rw [if_neg c14] at H
                  exact absurd H (by simp)
              · rw [if_neg c13] at H
                have c13b0 : ((t438.size : Int) == 1) = false := beq_eq_false_iff_ne.mpr c13
                have c13b1 : ((t438.size : Int) != 1) = true := bne_iff_ne.mpr c13
                have H' := Aside0.mk H
                clear H
                go_wp2
                go_meet
                case rel => exact ⟨_, (true), (by first | rfl | (simp; done) | (simp [*]; done)), H', ⟨by have := HK1.out; first | omega | exact Nat.le_refl _⟩, ⟨by (with_reducible repeat (first | apply Kd.R_alloc | apply Kd.R_drewN | apply Kd.R_drew)); exact HO_3.out⟩, ⟨by repeat (first | (with_reducible first | exact HB.out | apply below_alloc | apply pw_below_drewN | apply below_drew1) | exact HB.out)⟩⟩
            · rw [if_neg c12] at H
              have c12b0 : (t439 == 0) = false := beq_eq_false_iff_ne.mpr c12
              have c12b1 : (t439 != 0) = true := bne_iff_ne.mpr c12
              (first | rw [c12b0] | (simp only [i64_w, i32_w]; rw [c12b0]) | skip)
              have H' := Aside0.mk H
              clear H
              go_wp2
              go_meet
              case rel => exact ⟨_, (true), (by first | rfl | (simp; done) | (simp [*]; done)), H', ⟨by have := HK1.out; first | omega | exact Nat.le_refl _⟩, ⟨by (with_reducible repeat (first | apply Kd.R_alloc | apply Kd.R_drewN | apply Kd.R_drew)); exact HO_3.out⟩, ⟨by repeat (first | (with_reducible first | exact HB.out | apply below_alloc | apply pw_below_drewN | apply below_drew1) | exact HB.out)⟩⟩
          case rest =>
            clear HC7
            try clear c1
            try clear p1
            try clear q1
            try clear hx1
            try clear hcv1
            try clear qi1
            try clear c2
            try clear c2b0
            try clear c2b1
            try clear p2
            try clear c3
            try clear p4
            try clear q4
            try clear hx4
            try clear c5
            try clear c5b0
            try clear hcv10
            try clear c12
            try clear c12b0
            try clear c12b1
            try clear c13
            try clear c13b0
            try clear c13b1
            try clear c14
            try clear c14b0
            try clear c14b1
            try clear p15
            try clear q15
            try clear hx15
            try clear qi15
            try clear c16
            try clear c16b0
            try clear c17
            try clear c17b0
            try clear hx440_0
            try clear p15
            try clear p2
            try clear p440
            try clear q15
            try clear q440
            obtain ⟨kq, x39_6, rfl, HA, HJ6, HO_3, HB⟩ := hcut
            cases kq with
            | zero => exact absurd HA.out (by simp [turnstilelaw1_DigitsLetters.j1])
            | succ kj6 =>
              have H := HA.out
              clear HA
              simp only [turnstilelaw1_DigitsLetters.j1] at H
              by_cases c19 : x39_6 = true
              · subst c19
                have H1 : (some false) = some r := by rw [if_pos rfl] at H; exact H
                clear H
                have H := H1
                clear H1
                obtain rfl := Option.some.inj H
                go_wp2
                go_ret
                exact ⟨by first | rfl | (simp [errW_none, errW_some] <;> rfl) | (simp [*, errW_none, errW_some] <;> rfl), by repeat (first | (with_reducible first | exact HB.out | apply below_alloc | apply pw_below_drewN | apply below_drew1) | exact HB.out)⟩
              · replace c19 := Bool.eq_false_iff.mpr c19
                subst c19
                have H1 : (if 0 < (t438.size : Int) then (if 0 ≤ (bt t438 0) then (if (bt t438 0) < (x3_1.length : Int) then ((some (x3_1.set ((bt t438 0) : Int).toNat true : List Bool)).bind fun y441 => (if x5_1 > 48 then (if x5_1 ≤ 57 then (if (bt t438 0) ≤ x4_1 then (some false) else (turnstilelaw1_DigitsLetters.l0 kj6 a0 y441 (bt t438 0) (wrap64 (x5_1 + 1)))) else (if x5_1 > 65 then (if x5_1 ≤ 90 then (if (bt t438 0) ≤ x4_1 then (some false) else (turnstilelaw1_DigitsLetters.l0 kj6 a0 y441 (bt t438 0) (wrap64 (x5_1 + 1)))) else (if x5_1 > 97 then (if x5_1 ≤ 122 then (if (bt t438 0) ≤ x4_1 then (some false) else (turnstilelaw1_DigitsLetters.l0 kj6 a0 y441 (bt t438 0) (wrap64 (x5_1 + 1)))) else (turnstilelaw1_DigitsLetters.l0 kj6 a0 y441 (bt t438 0) (wrap64 (x5_1 + 1)))) else (turnstilelaw1_DigitsLetters.l0 kj6 a0 y441 (bt t438 0) (wrap64 (x5_1 + 1))))) else (if x5_1 > 97 then (if x5_1 ≤ 122 then (if (bt t438 0) ≤ x4_1 then (some false) else (turnstilelaw1_DigitsLetters.l0 kj6 a0 y441 (bt t438 0) (wrap64 (x5_1 + 1)))) else (turnstilelaw1_DigitsLetters.l0 kj6 a0 y441 (bt t438 0) (wrap64 (x5_1 + 1)))) else (turnstilelaw1_DigitsLetters.l0 kj6 a0 y441 (bt t438 0) (wrap64 (x5_1 + 1)))))) else (if x5_1 > 65 then (if x5_1 ≤ 90 then (if (bt t438 0) ≤ x4_1 then (some false) else (turnstilelaw1_DigitsLetters.l0 kj6 a0 y441 (bt t438 0) (wrap64 (x5_1 + 1)))) else (if x5_1 > 97 then (if x5_1 ≤ 122 then (if (bt t438 0) ≤ x4_1 then (some false) else (turnstilelaw1_DigitsLetters.l0 kj6 a0 y441 (bt t438 0) (wrap64 (x5_1 + 1)))) else (turnstilelaw1_DigitsLetters.l0 kj6 a0 y441 (bt t438 0) (wrap64 (x5_1 + 1)))) else (turnstilelaw1_DigitsLetters.l0 kj6 a0 y441 (bt t438 0) (wrap64 (x5_1 + 1))))) else (if x5_1 > 97 then (if x5_1 ≤ 122 then (if (bt t438 0) ≤ x4_1 then (some false) else (turnstilelaw1_DigitsLetters.l0 kj6 a0 y441 (bt t438 0) (wrap64 (x5_1 + 1)))) else (turnstilelaw1_DigitsLetters.l0 kj6 a0 y441 (bt t438 0) (wrap64 (x5_1 + 1)))) else (turnstilelaw1_DigitsLetters.l0 kj6 a0 y441 (bt t438 0) (wrap64 (x5_1 + 1))))))) else (none)) else (none)) else (none)) = some r := by rw [if_neg (show ¬ (false = true) by decide)] at H; exact H
                clear H
                have H := H1
                clear H1
                by_cases c20 : 0 < (t438.size : Int)
                · rw [if_pos c20] at H
                  have c20b0 : decide (0 < (t438.size : Int)) = true := decide_eq_true c20
                  have c20b1 : decide (0 < t438.size) = true := decide_eq_true (by omega)
                  clear c20
                  by_cases c22 : 0 ≤ (bt t438 0)
                  · rw [if_pos c22] at H
                    have c22b0 : decide (0 ≤ (bt t438 0)) = true := decide_eq_true c22
                    clear c22
                    by_cases c23 : (bt t438 0) < (x3_1.length : Int)
                    · rw [if_pos c23] at H
                      have c23b0 : decide ((bt t438 0) < (x3_1.length : Int)) = true := decide_eq_true c23
                      clear c23
                      obtain ⟨y441, hy441⟩ : ∃ y_ : List Bool, y_ = (x3_1.set ((bt t438 0) : Int).toNat true) := ⟨_, rfl⟩
                      replace H : (if x5_1 > 48 then (if x5_1 ≤ 57 then (if (bt t438 0) ≤ x4_1 then (some false) else (turnstilelaw1_DigitsLetters.l0 kj6 a0 y441 (bt t438 0) (wrap64 (x5_1 + 1)))) else (if x5_1 > 65 then (if x5_1 ≤ 90 then (if (bt t438 0) ≤ x4_1 then (some false) else (turnstilelaw1_DigitsLetters.l0 kj6 a0 y441 (bt t438 0) (wrap64 (x5_1 + 1)))) else (if x5_1 > 97 then (if x5_1 ≤ 122 then (if (bt t438 0) ≤ x4_1 then (some false) else (turnstilelaw1_DigitsLetters.l0 kj6 a0 y441 (bt t438 0) (wrap64 (x5_1 + 1)))) else (turnstilelaw1_DigitsLetters.l0 kj6 a0 y441 (bt t438 0) (wrap64 (x5_1 + 1)))) else (turnstilelaw1_DigitsLetters.l0 kj6 a0 y441 (bt t438 0) (wrap64 (x5_1 + 1))))) else (if x5_1 > 97 then (if x5_1 ≤ 122 then (if (bt t438 0) ≤ x4_1 then (some false) else (turnstilelaw1_DigitsLetters.l0 kj6 a0 y441 (bt t438 0) (wrap64 (x5_1 + 1)))) else (turnstilelaw1_DigitsLetters.l0 kj6 a0 y441 (bt t438 0) (wrap64 (x5_1 + 1)))) else (turnstilelaw1_DigitsLetters.l0 kj6 a0 y441 (bt t438 0) (wrap64 (x5_1 + 1)))))) else (if x5_1 > 65 then (if x5_1 ≤ 90 then (if (bt t438 0) ≤ x4_1 then (some false) else (turnstilelaw1_DigitsLetters.l0 kj6 a0 y441 (bt t438 0) (wrap64 (x5_1 + 1)))) else (if x5_1 > 97 then (if x5_1 ≤ 122 then (if (bt t438 0) ≤ x4_1 then (some false) else (turnstilelaw1_DigitsLetters.l0 kj6 a0 y441 (bt t438 0) (wrap64 (x5_1 + 1)))) else (turnstilelaw1_DigitsLetters.l0 kj6 a0 y441 (bt t438 0) (wrap64 (x5_1 + 1)))) else (turnstilelaw1_DigitsLetters.l0 kj6 a0 y441 (bt t438 0) (wrap64 (x5_1 + 1))))) else (if x5_1 > 97 then (if x5_1 ≤ 122 then (if (bt t438 0) ≤ x4_1 then (some false) else (turnstilelaw1_DigitsLetters.l0 kj6 a0 y441 (bt t438 0) (wrap64 (x5_1 + 1)))) else (turnstilelaw1_DigitsLetters.l0 kj6 a0 y441 (bt t438 0) (wrap64 (x5_1 + 1)))) else (turnstilelaw1_DigitsLetters.l0 kj6 a0 y441 (bt t438 0) (wrap64 (x5_1 + 1)))))) = some r := by first | (rw [hy441]; with_reducible exact H) | (have H2_ := (Option.bind_some _ _).symm.trans H; rw [hy441]; with_reducible exact H2_) | (have H2_ := (Option.bind_some _ _).symm.trans H; with_reducible exact H2_) | with_reducible exact H | (rw [hy441]; exact H) | exact H
                      have Ny441 := Aside0.mk hy441
                      clear hy441
                      by_cases c25 : x5_1 > 48
                      · rw [if_pos c25] at H
                        have c25b0 : decide (48 < x5_1) = true := decide_eq_true c25
                        clear c25
                        by_cases c26 : x5_1 ≤ 57
                        · rw [if_pos c26] at H
                          have c26b0 : decide (x5_1 ≤ 57) = true := decide_eq_true c26
                          clear c26
                          by_cases c28 : (bt t438 0) ≤ x4_1
                          · rw [if_pos c28] at H
                            have c28b0 : decide ((bt t438 0) ≤ x4_1) = true := decide_eq_true c28
                            clear c28
                            obtain rfl := Option.some.inj H
                            have p21 : 0 ≤ (0 : Int) := (by omega)
                            have q21 : 0 < t438.size := (by have : (0 : Int) < (t438.size : Int) := of_decide_eq_true (by first | (with_reducible assumption) | assumption); omega)
                            have hx21 : ∀ h : 0 < t438.size, ((t438[0]'h).toNat : Int) = bt t438 0 := bt_at t438 0
                            clear p21
                            have qi21 : (0 < (t438.size : Int)) = True := eq_true (of_decide_eq_true (by first | (with_reducible assumption) | assumption))
                            replace q21 := eq_true q21
                            have p24 : 0 ≤ ((bt t438 0) : Int) := of_decide_eq_true (by first | (with_reducible assumption) | assumption)
                            have q24 : ((bt t438 0) : Int) < ((x3_1.length : Int) : Int) := of_decide_eq_true (by first | (with_reducible assumption) | assumption)
                            have ql24 : ((bt t438 0) : Int) < (256 : Int) := by have h_ := (Kd.R_reads' HO_3.out).1; omega
                            have GB24 := Aside0.mk (Nat.le_refl w.heap.size)
                            obtain ⟨hx24_0, hf24_0⟩ := Kd.R_celln false HO_3.out ((bt t438 0) : Int) p24 ql24
                            replace ql24 := eq_true ql24
                            replace p24 := eq_true p24
                            replace q24 := eq_true q24
                            have HP29 := Kd.R_putg HO_3.out ((bt t438 0) : Int) true
                            go_wp2_with (first | ((with_reducible refine gate_store (t := 4) (p := 42) rfl ?_); refine store_event (t := 4) (p := 42) (v := ?vo_w30) (w1 := (wc.setCell ⟨w.heap.size, ((bt t438 0) : Int).toNat, none⟩ (.bool true))) ?hg ?ho ?hn ?hr ?_; (case ho => rfl); (case hg => rfl); (case hn => rfl); (case hr => first | (go_simp; done) | (go_simp; rfl)); intro w30 hw; have hg : wc.grownBy w30 (some w.heap.size) := (by rw [hw]; exact HP29.2); have hp_ : Kd.R Kd.bool 50 w30 w.heap.size (fun _ => True) (.slice (some ⟨w.heap.size, 0, none⟩) 256 256) y441 := (by rw [hw, Ny441.out]; exact HP29.1); clear HP29; have n0_ := Aside0.mk (hp_); have n1_ := Aside0.mk ((by rw [hw]; exact below_set (HB.out) GB24.out : Below w.heap.size w w30)); clear HO_3; clear HB; have HO_3 := n0_; have HB := n1_; clear n0_ n1_; clear hg hw hp_; have p27 : 0 ≤ (0 : Int) := (by omega); have q27 : 0 < t438.size := (by have : (0 : Int) < (t438.size : Int) := of_decide_eq_true (by first | (with_reducible assumption) | assumption); omega); have hx27 : ∀ h : 0 < t438.size, ((t438[0]'h).toNat : Int) = bt t438 0 := bt_at t438 0; clear p27; have qi27 : (0 < (t438.size : Int)) = True := eq_true (of_decide_eq_true (by first | (with_reducible assumption) | assumption)); replace q27 := eq_true q27))
                            go_ret
                            exact ⟨by first | rfl | (simp [errW_none, errW_some] <;> rfl) | (simp [*, errW_none, errW_some] <;> rfl), by repeat (first | (with_reducible first | exact HB.out | apply below_alloc | apply pw_below_drewN | apply below_drew1) | exact HB.out)⟩
                          · rw [if_neg c28] at H
                            have c28b0 : decide ((bt t438 0) ≤ x4_1) = false := decide_eq_false c28
                            clear c28
                            have H' := Aside0.mk H
                            clear H
                            have p21 : 0 ≤ (0 : Int) := (by omega)
                            have q21 : 0 < t438.size := (by have : (0 : Int) < (t438.size : Int) := of_decide_eq_true (by first | (with_reducible assumption) | assumption); omega)
                            have hx21 : ∀ h : 0 < t438.size, ((t438[0]'h).toNat : Int) = bt t438 0 := bt_at t438 0
                            clear p21
                            have qi21 : (0 < (t438.size : Int)) = True := eq_true (of_decide_eq_true (by first | (with_reducible assumption) | assumption))
                            replace q21 := eq_true q21
                            have p24 : 0 ≤ ((bt t438 0) : Int) := of_decide_eq_true (by first | (with_reducible assumption) | assumption)
                            have q24 : ((bt t438 0) : Int) < ((x3_1.length : Int) : Int) := of_decide_eq_true (by first | (with_reducible assumption) | assumption)
                            have ql24 : ((bt t438 0) : Int) < (256 : Int) := by have h_ := (Kd.R_reads' HO_3.out).1; omega
                            have GB24 := Aside0.mk (Nat.le_refl w.heap.size)
                            obtain ⟨hx24_0, hf24_0⟩ := Kd.R_celln false HO_3.out ((bt t438 0) : Int) p24 ql24
                            replace ql24 := eq_true ql24
                            replace p24 := eq_true p24
                            replace q24 := eq_true q24
                            have HP32 := Kd.R_putg HO_3.out ((bt t438 0) : Int) true
                            go_wp2_with (first | ((with_reducible refine gate_store (t := 4) (p := 42) rfl ?_); refine store_event (t := 4) (p := 42) (v := ?vo_w33) (w1 := (wc.setCell ⟨w.heap.size, ((bt t438 0) : Int).toNat, none⟩ (.bool true))) ?hg ?ho ?hn ?hr ?_; (case ho => rfl); (case hg => rfl); (case hn => rfl); (case hr => first | (go_simp; done) | (go_simp; rfl)); intro w33 hw; have hg : wc.grownBy w33 (some w.heap.size) := (by rw [hw]; exact HP32.2); have hp_ : Kd.R Kd.bool 50 w33 w.heap.size (fun _ => True) (.slice (some ⟨w.heap.size, 0, none⟩) 256 256) y441 := (by rw [hw, Ny441.out]; exact HP32.1); clear HP32; have n0_ := Aside0.mk (hp_); have n1_ := Aside0.mk ((by rw [hw]; exact below_set (HB.out) GB24.out : Below w.heap.size w w33)); clear HO_3; clear HB; have HO_3 := n0_; have HB := n1_; clear n0_ n1_; clear hg hw hp_; have p27 : 0 ≤ (0 : Int) := (by omega); have q27 : 0 < t438.size := (by have : (0 : Int) < (t438.size : Int) := of_decide_eq_true (by first | (with_reducible assumption) | assumption); omega); have hx27 : ∀ h : 0 < t438.size, ((t438[0]'h).toNat : Int) = bt t438 0 := bt_at t438 0; clear p27; have qi27 : (0 < (t438.size : Int)) = True := eq_true (of_decide_eq_true (by first | (with_reducible assumption) | assumption)); replace q27 := eq_true q27; have p31 : 0 ≤ (0 : Int) := (by omega); have q31 : 0 < t438.size := (by have : (0 : Int) < (t438.size : Int) := of_decide_eq_true (by first | (with_reducible assumption) | assumption); omega); have hx31 : ∀ h : 0 < t438.size, ((t438[0]'h).toNat : Int) = bt t438 0 := bt_at t438 0; clear p31; have qi31 : (0 < (t438.size : Int)) = True := eq_true (of_decide_eq_true (by first | (with_reducible assumption) | assumption)); replace q31 := eq_true q31))
                            go_roundg kj6
                            case measure => have := HK1.out; have := HJ6.out; omega
                            case rel => exact ⟨(y441), (bt t438 0), (wrap64 (x5_1 + 1)), (by first | rfl | (simp; done) | (simp [*]; done)), (by first | rfl | (simp; done) | (simp [*]; done)), H', ⟨by have := HK1.out; have := HJ6.out; omega⟩, ⟨by (with_reducible repeat (first | apply Kd.R_alloc | apply Kd.R_drewN | apply Kd.R_drew)); exact HO_3.out⟩, ⟨by repeat (first | (with_reducible first | exact HB.out | apply below_alloc | apply pw_below_drewN | apply below_drew1) | exact HB.out)⟩⟩
                        · rw [if_neg c26] at H
                          have c26b0 : decide (x5_1 ≤ 57) = false := decide_eq_false c26
                          clear c26
                          by_cases c34 : x5_1 > 65
                          · rw [if_pos c34] at H
                            have c34b0 : decide (65 < x5_1) = true := decide_eq_true c34
                            clear c34
                            by_cases c35 : x5_1 ≤ 90
                            · rw [if_pos c35] at H
                              have c35b0 : decide (x5_1 ≤ 90) = true := decide_eq_true c35
                              clear c35
                              by_cases c37 : (bt t438 0) ≤ x4_1
                              · rw [if_pos c37] at H
                                have c37b0 : decide ((bt t438 0) ≤ x4_1) = true := decide_eq_true c37
                                clear c37
                                obtain rfl := Option.some.inj H
                                have p21 : 0 ≤ (0 : Int) := (by omega)
                                have q21 : 0 < t438.size := (by have : (0 : Int) < (t438.size : Int) := of_decide_eq_true (by first | (with_reducible assumption) | assumption); omega)
                                have hx21 : ∀ h : 0 < t438.size, ((t438[0]'h).toNat : Int) = bt t438 0 := bt_at t438 0
                                clear p21
                                have qi21 : (0 < (t438.size : Int)) = True := eq_true (of_decide_eq_true (by first | (with_reducible assumption) | assumption))
                                replace q21 := eq_true q21
                                have p24 : 0 ≤ ((bt t438 0) : Int) := of_decide_eq_true (by first | (with_reducible assumption) | assumption)
                                have q24 : ((bt t438 0) : Int) < ((x3_1.length : Int) : Int) := of_decide_eq_true (by first | (with_reducible assumption) | assumption)
                                have ql24 : ((bt t438 0) : Int) < (256 : Int) := by have h_ := (Kd.R_reads' HO_3.out).1; omega
                                have GB24 := Aside0.mk (Nat.le_refl w.heap.size)
                                obtain ⟨hx24_0, hf24_0⟩ := Kd.R_celln false HO_3.out ((bt t438 0) : Int) p24 ql24
                                replace ql24 := eq_true ql24
                                replace p24 := eq_true p24
                                replace q24 := eq_true q24
                                have HP38 := Kd.R_putg HO_3.out ((bt t438 0) : Int) true
                                go_wp2_with (first | ((with_reducible refine gate_store (t := 4) (p := 42) rfl ?_); refine store_event (t := 4) (p := 42) (v := ?vo_w39) (w1 := (wc.setCell ⟨w.heap.size, ((bt t438 0) : Int).toNat, none⟩ (.bool true))) ?hg ?ho ?hn ?hr ?_; (case ho => rfl); (case hg => rfl); (case hn => rfl); (case hr => first | (go_simp; done) | (go_simp; rfl)); intro w39 hw; have hg : wc.grownBy w39 (some w.heap.size) := (by rw [hw]; exact HP38.2); have hp_ : Kd.R Kd.bool 50 w39 w.heap.size (fun _ => True) (.slice (some ⟨w.heap.size, 0, none⟩) 256 256) y441 := (by rw [hw, Ny441.out]; exact HP38.1); clear HP38; have n0_ := Aside0.mk (hp_); have n1_ := Aside0.mk ((by rw [hw]; exact below_set (HB.out) GB24.out : Below w.heap.size w w39)); clear HO_3; clear HB; have HO_3 := n0_; have HB := n1_; clear n0_ n1_; clear hg hw hp_; have p36 : 0 ≤ (0 : Int) := (by omega); have q36 : 0 < t438.size := (by have : (0 : Int) < (t438.size : Int) := of_decide_eq_true (by first | (with_reducible assumption) | assumption); omega); have hx36 : ∀ h : 0 < t438.size, ((t438[0]'h).toNat : Int) = bt t438 0 := bt_at t438 0; clear p36; have qi36 : (0 < (t438.size : Int)) = True := eq_true (of_decide_eq_true (by first | (with_reducible assumption) | assumption)); replace q36 := eq_true q36))
                                go_ret
                                exact ⟨by first | rfl | (simp [errW_none, errW_some] <;> rfl) | (simp [*, errW_none, errW_some] <;> rfl), by repeat (first | (with_reducible first | exact HB.out | apply below_alloc | apply pw_below_drewN | apply below_drew1) | exact HB.out)⟩
                              · rw [if_neg c37] at H
                                have c37b0 : decide ((bt t438 0) ≤ x4_1) = false := decide_eq_false c37
                                clear c37
                                have H' := Aside0.mk H
                                clear H
                                have p21 : 0 ≤ (0 : Int) := (by omega)
                                have q21 : 0 < t438.size := (by have : (0 : Int) < (t438.size : Int) := of_decide_eq_true (by first | (with_reducible assumption) | assumption); omega)
                                have hx21 : ∀ h : 0 < t438.size, ((t438[0]'h).toNat : Int) = bt t438 0 := bt_at t438 0
                                clear p21
                                have qi21 : (0 < (t438.size : Int)) = True := eq_true (of_decide_eq_true (by first | (with_reducible assumption) | assumption))
                                replace q21 := eq_true q21
                                have p24 : 0 ≤ ((bt t438 0) : Int) := of_decide_eq_true (by first | (with_reducible assumption) | assumption)
                                have q24 : ((bt t438 0) : Int) < ((x3_1.length : Int) : Int) := of_decide_eq_true (by first | (with_reducible assumption) | assumption)
                                have ql24 : ((bt t438 0) : Int) < (256 : Int) := by have h_ := (Kd.R_reads' HO_3.out).1; omega
                                have GB24 := Aside0.mk (Nat.le_refl w.heap.size)
                                obtain ⟨hx24_0, hf24_0⟩ := Kd.R_celln false HO_3.out ((bt t438 0) : Int) p24 ql24
                                replace ql24 := eq_true ql24
                                replace p24 := eq_true p24
                                replace q24 := eq_true q24
                                have HP41 := Kd.R_putg HO_3.out ((bt t438 0) : Int) true
                                go_wp2_with (first | ((with_reducible refine gate_store (t := 4) (p := 42) rfl ?_); refine store_event (t := 4) (p := 42) (v := ?vo_w42) (w1 := (wc.setCell ⟨w.heap.size, ((bt t438 0) : Int).toNat, none⟩ (.bool true))) ?hg ?ho ?hn ?hr ?_; (case ho => rfl); (case hg => rfl); (case hn => rfl); (case hr => first | (go_simp; done) | (go_simp; rfl)); intro w42 hw; have hg : wc.grownBy w42 (some w.heap.size) := (by rw [hw]; exact HP41.2); have hp_ : Kd.R Kd.bool 50 w42 w.heap.size (fun _ => True) (.slice (some ⟨w.heap.size, 0, none⟩) 256 256) y441 := (by rw [hw, Ny441.out]; exact HP41.1); clear HP41; have n0_ := Aside0.mk (hp_); have n1_ := Aside0.mk ((by rw [hw]; exact below_set (HB.out) GB24.out : Below w.heap.size w w42)); clear HO_3; clear HB; have HO_3 := n0_; have HB := n1_; clear n0_ n1_; clear hg hw hp_; have p36 : 0 ≤ (0 : Int) := (by omega); have q36 : 0 < t438.size := (by have : (0 : Int) < (t438.size : Int) := of_decide_eq_true (by first | (with_reducible assumption) | assumption); omega); have hx36 : ∀ h : 0 < t438.size, ((t438[0]'h).toNat : Int) = bt t438 0 := bt_at t438 0; clear p36; have qi36 : (0 < (t438.size : Int)) = True := eq_true (of_decide_eq_true (by first | (with_reducible assumption) | assumption)); replace q36 := eq_true q36; have p40 : 0 ≤ (0 : Int) := (by omega); have q40 : 0 < t438.size := (by have : (0 : Int) < (t438.size : Int) := of_decide_eq_true (by first | (with_reducible assumption) | assumption); omega); have hx40 : ∀ h : 0 < t438.size, ((t438[0]'h).toNat : Int) = bt t438 0 := bt_at t438 0; clear p40; have qi40 : (0 < (t438.size : Int)) = True := eq_true (of_decide_eq_true (by first | (with_reducible assumption) | assumption)); replace q40 := eq_true q40))
                                go_roundg kj6
                                case measure => have := HK1.out; have := HJ6.out; omega
                                case rel => exact ⟨(y441), (bt t438 0), (wrap64 (x5_1 + 1)), (by first | rfl | (simp; done) | (simp [*]; done)), (by first | rfl | (simp; done) | (simp [*]; done)), H', ⟨by have := HK1.out; have := HJ6.out; omega⟩, ⟨by (with_reducible repeat (first | apply Kd.R_alloc | apply Kd.R_drewN | apply Kd.R_drew)); exact HO_3.out⟩, ⟨by repeat (first | (with_reducible first | exact HB.out | apply below_alloc | apply pw_below_drewN | apply below_drew1) | exact HB.out)⟩⟩
                            · rw [if_neg c35] at H
                              have c35b0 : decide (x5_1 ≤ 90) = false := decide_eq_false c35
                              clear c35
                              by_cases c43 : x5_1 > 97
                              · rw [if_pos c43] at H
                                have c43b0 : decide (97 < x5_1) = true := decide_eq_true c43
                                clear c43
                                by_cases c44 : x5_1 ≤ 122
                                · rw [if_pos c44] at H
                                  have c44b0 : decide (x5_1 ≤ 122) = true := decide_eq_true c44
                                  clear c44
                                  by_cases c46 : (bt t438 0) ≤ x4_1
                                  · rw [if_pos c46] at H
                                    have c46b0 : decide ((bt t438 0) ≤ x4_1) = true := decide_eq_true c46
                                    clear c46
                                    obtain rfl := Option.some.inj H
                                    have p21 : 0 ≤ (0 : Int) := (by omega)
                                    have q21 : 0 < t438.size := (by have : (0 : Int) < (t438.size : Int) := of_decide_eq_true (by first | (with_reducible assumption) | assumption); omega)
                                    have hx21 : ∀ h : 0 < t438.size, ((t438[0]'h).toNat : Int) = bt t438 0 := bt_at t438 0
                                    clear p21
                                    have qi21 : (0 < (t438.size : Int)) = True := eq_true (of_decide_eq_true (by first | (with_reducible assumption) | assumption))
                                    replace q21 := eq_true q21
                                    have p24 : 0 ≤ ((bt t438 0) : Int) := of_decide_eq_true (by first | (with_reducible assumption) | assumption)
                                    have q24 : ((bt t438 0) : Int) < ((x3_1.length : Int) : Int) := of_decide_eq_true (by first | (with_reducible assumption) | assumption)
                                    have ql24 : ((bt t438 0) : Int) < (256 : Int) := by have h_ := (Kd.R_reads' HO_3.out).1; omega
                                    have GB24 := Aside0.mk (Nat.le_refl w.heap.size)
                                    obtain ⟨hx24_0, hf24_0⟩ := Kd.R_celln false HO_3.out ((bt t438 0) : Int) p24 ql24
                                    replace ql24 := eq_true ql24
                                    replace p24 := eq_true p24
                                    replace q24 := eq_true q24
                                    have HP47 := Kd.R_putg HO_3.out ((bt t438 0) : Int) true
                                    go_wp2_with (first | ((with_reducible refine gate_store (t := 4) (p := 42) rfl ?_); refine store_event (t := 4) (p := 42) (v := ?vo_w48) (w1 := (wc.setCell ⟨w.heap.size, ((bt t438 0) : Int).toNat, none⟩ (.bool true))) ?hg ?ho ?hn ?hr ?_; (case ho => rfl); (case hg => rfl); (case hn => rfl); (case hr => first | (go_simp; done) | (go_simp; rfl)); intro w48 hw; have hg : wc.grownBy w48 (some w.heap.size) := (by rw [hw]; exact HP47.2); have hp_ : Kd.R Kd.bool 50 w48 w.heap.size (fun _ => True) (.slice (some ⟨w.heap.size, 0, none⟩) 256 256) y441 := (by rw [hw, Ny441.out]; exact HP47.1); clear HP47; have n0_ := Aside0.mk (hp_); have n1_ := Aside0.mk ((by rw [hw]; exact below_set (HB.out) GB24.out : Below w.heap.size w w48)); clear HO_3; clear HB; have HO_3 := n0_; have HB := n1_; clear n0_ n1_; clear hg hw hp_; have p45 : 0 ≤ (0 : Int) := (by omega); have q45 : 0 < t438.size := (by have : (0 : Int) < (t438.size : Int) := of_decide_eq_true (by first | (with_reducible assumption) | assumption); omega); have hx45 : ∀ h : 0 < t438.size, ((t438[0]'h).toNat : Int) = bt t438 0 := bt_at t438 0; clear p45; have qi45 : (0 < (t438.size : Int)) = True := eq_true (of_decide_eq_true (by first | (with_reducible assumption) | assumption)); replace q45 := eq_true q45))
                                    go_ret
                                    exact ⟨by first | rfl | (simp [errW_none, errW_some] <;> rfl) | (simp [*, errW_none, errW_some] <;> rfl), by repeat (first | (with_reducible first | exact HB.out | apply below_alloc | apply pw_below_drewN | apply below_drew1) | exact HB.out)⟩
                                  · rw [if_neg c46] at H
                                    have c46b0 : decide ((bt t438 0) ≤ x4_1) = false := decide_eq_false c46
                                    clear c46
                                    have H' := Aside0.mk H
                                    clear H
                                    have p21 : 0 ≤ (0 : Int) := (by omega)
                                    have q21 : 0 < t438.size := (by have : (0 : Int) < (t438.size : Int) := of_decide_eq_true (by first | (with_reducible assumption) | assumption); omega)
                                    have hx21 : ∀ h : 0 < t438.size, ((t438[0]'h).toNat : Int) = bt t438 0 := bt_at t438 0
                                    clear p21
                                    have qi21 : (0 < (t438.size : Int)) = True := eq_true (of_decide_eq_true (by first | (with_reducible assumption) | assumption))
                                    replace q21 := eq_true q21
                                    have p24 : 0 ≤ ((bt t438 0) : Int) := of_decide_eq_true (by first | (with_reducible assumption) | assumption)
                                    have q24 : ((bt t438 0) : Int) < ((x3_1.length : Int) : Int) := of_decide_eq_true (by first | (with_reducible assumption) | assumption)
                                    have ql24 : ((bt t438 0) : Int) < (256 : Int) := by have h_ := (Kd.R_reads' HO_3.out).1; omega
                                    have GB24 := Aside0.mk (Nat.le_refl w.heap.size)
                                    obtain ⟨hx24_0, hf24_0⟩ := Kd.R_celln false HO_3.out ((bt t438 0) : Int) p24 ql24
                                    replace ql24 := eq_true ql24
                                    replace p24 := eq_true p24
                                    replace q24 := eq_true q24
                                    have HP50 := Kd.R_putg HO_3.out ((bt t438 0) : Int) true
                                    go_wp2_with (first | ((with_reducible refine gate_store (t := 4) (p := 42) rfl ?_); refine store_event (t := 4) (p := 42) (v := ?vo_w51) (w1 := (wc.setCell ⟨w.heap.size, ((bt t438 0) : Int).toNat, none⟩ (.bool true))) ?hg ?ho ?hn ?hr ?_; (case ho => rfl); (case hg => rfl); (case hn => rfl); (case hr => first | (go_simp; done) | (go_simp; rfl)); intro w51 hw; have hg : wc.grownBy w51 (some w.heap.size) := (by rw [hw]; exact HP50.2); have hp_ : Kd.R Kd.bool 50 w51 w.heap.size (fun _ => True) (.slice (some ⟨w.heap.size, 0, none⟩) 256 256) y441 := (by rw [hw, Ny441.out]; exact HP50.1); clear HP50; have n0_ := Aside0.mk (hp_); have n1_ := Aside0.mk ((by rw [hw]; exact below_set (HB.out) GB24.out : Below w.heap.size w w51)); clear HO_3; clear HB; have HO_3 := n0_; have HB := n1_; clear n0_ n1_; clear hg hw hp_; have p45 : 0 ≤ (0 : Int) := (by omega); have q45 : 0 < t438.size := (by have : (0 : Int) < (t438.size : Int) := of_decide_eq_true (by first | (with_reducible assumption) | assumption); omega); have hx45 : ∀ h : 0 < t438.size, ((t438[0]'h).toNat : Int) = bt t438 0 := bt_at t438 0; clear p45; have qi45 : (0 < (t438.size : Int)) = True := eq_true (of_decide_eq_true (by first | (with_reducible assumption) | assumption)); replace q45 := eq_true q45; have p49 : 0 ≤ (0 : Int) := (by omega); have q49 : 0 < t438.size := (by have : (0 : Int) < (t438.size : Int) := of_decide_eq_true (by first | (with_reducible assumption) | assumption); omega); have hx49 : ∀ h : 0 < t438.size, ((t438[0]'h).toNat : Int) = bt t438 0 := bt_at t438 0; clear p49; have qi49 : (0 < (t438.size : Int)) = True := eq_true (of_decide_eq_true (by first | (with_reducible assumption) | assumption)); replace q49 := eq_true q49))
                                    go_roundg kj6
                                    case measure => have := HK1.out; have := HJ6.out; omega
                                    case rel => exact ⟨(y441), (bt t438 0), (wrap64 (x5_1 + 1)), (by first | rfl | (simp; done) | (simp [*]; done)), (by first | rfl | (simp; done) | (simp [*]; done)), H', ⟨by have := HK1.out; have := HJ6.out; omega⟩, ⟨by (with_reducible repeat (first | apply Kd.R_alloc | apply Kd.R_drewN | apply Kd.R_drew)); exact HO_3.out⟩, ⟨by repeat (first | (with_reducible first | exact HB.out | apply below_alloc | apply pw_below_drewN | apply below_drew1) | exact HB.out)⟩⟩
                                · rw [if_neg c44] at H
                                  have c44b0 : decide (x5_1 ≤ 122) = false := decide_eq_false c44
                                  clear c44
                                  have H' := Aside0.mk H
                                  clear H
                                  have p21 : 0 ≤ (0 : Int) := (by omega)
                                  have q21 : 0 < t438.size := (by have : (0 : Int) < (t438.size : Int) := of_decide_eq_true (by first | (with_reducible assumption) | assumption); omega)
                                  have hx21 : ∀ h : 0 < t438.size, ((t438[0]'h).toNat : Int) = bt t438 0 := bt_at t438 0
                                  clear p21
                                  have qi21 : (0 < (t438.size : Int)) = True := eq_true (of_decide_eq_true (by first | (with_reducible assumption) | assumption))
                                  replace q21 := eq_true q21
                                  have p24 : 0 ≤ ((bt t438 0) : Int) := of_decide_eq_true (by first | (with_reducible assumption) | assumption)
                                  have q24 : ((bt t438 0) : Int) < ((x3_1.length : Int) : Int) := of_decide_eq_true (by first | (with_reducible assumption) | assumption)
                                  have ql24 : ((bt t438 0) : Int) < (256 : Int) := by have h_ := (Kd.R_reads' HO_3.out).1; omega
                                  have GB24 := Aside0.mk (Nat.le_refl w.heap.size)
                                  obtain ⟨hx24_0, hf24_0⟩ := Kd.R_celln false HO_3.out ((bt t438 0) : Int) p24 ql24
                                  replace ql24 := eq_true ql24
                                  replace p24 := eq_true p24
                                  replace q24 := eq_true q24
                                  have HP53 := Kd.R_putg HO_3.out ((bt t438 0) : Int) true
                                  go_wp2_with (first | ((with_reducible refine gate_store (t := 4) (p := 42) rfl ?_); refine store_event (t := 4) (p := 42) (v := ?vo_w54) (w1 := (wc.setCell ⟨w.heap.size, ((bt t438 0) : Int).toNat, none⟩ (.bool true))) ?hg ?ho ?hn ?hr ?_; (case ho => rfl); (case hg => rfl); (case hn => rfl); (case hr => first | (go_simp; done) | (go_simp; rfl)); intro w54 hw; have hg : wc.grownBy w54 (some w.heap.size) := (by rw [hw]; exact HP53.2); have hp_ : Kd.R Kd.bool 50 w54 w.heap.size (fun _ => True) (.slice (some ⟨w.heap.size, 0, none⟩) 256 256) y441 := (by rw [hw, Ny441.out]; exact HP53.1); clear HP53; have n0_ := Aside0.mk (hp_); have n1_ := Aside0.mk ((by rw [hw]; exact below_set (HB.out) GB24.out : Below w.heap.size w w54)); clear HO_3; clear HB; have HO_3 := n0_; have HB := n1_; clear n0_ n1_; clear hg hw hp_; have p52 : 0 ≤ (0 : Int) := (by omega); have q52 : 0 < t438.size := (by have : (0 : Int) < (t438.size : Int) := of_decide_eq_true (by first | (with_reducible assumption) | assumption); omega); have hx52 : ∀ h : 0 < t438.size, ((t438[0]'h).toNat : Int) = bt t438 0 := bt_at t438 0; clear p52; have qi52 : (0 < (t438.size : Int)) = True := eq_true (of_decide_eq_true (by first | (with_reducible assumption) | assumption)); replace q52 := eq_true q52))
                                  go_roundg kj6
                                  case measure => have := HK1.out; have := HJ6.out; omega
                                  case rel => exact ⟨(y441), (bt t438 0), (wrap64 (x5_1 + 1)), (by first | rfl | (simp; done) | (simp [*]; done)), (by first | rfl | (simp; done) | (simp [*]; done)), H', ⟨by have := HK1.out; have := HJ6.out; omega⟩, ⟨by (with_reducible repeat (first | apply Kd.R_alloc | apply Kd.R_drewN | apply Kd.R_drew)); exact HO_3.out⟩, ⟨by repeat (first | (with_reducible first | exact HB.out | apply below_alloc | apply pw_below_drewN | apply below_drew1) | exact HB.out)⟩⟩
                              · rw [if_neg c43] at H
                                have c43b0 : decide (97 < x5_1) = false := decide_eq_false c43
                                clear c43
                                have H' := Aside0.mk H
                                clear H
                                have p21 : 0 ≤ (0 : Int) := (by omega)
                                have q21 : 0 < t438.size := (by have : (0 : Int) < (t438.size : Int) := of_decide_eq_true (by first | (with_reducible assumption) | assumption); omega)
                                have hx21 : ∀ h : 0 < t438.size, ((t438[0]'h).toNat : Int) = bt t438 0 := bt_at t438 0
                                clear p21
                                have qi21 : (0 < (t438.size : Int)) = True := eq_true (of_decide_eq_true (by first | (with_reducible assumption) | assumption))
                                replace q21 := eq_true q21
                                have p24 : 0 ≤ ((bt t438 0) : Int) := of_decide_eq_true (by first | (with_reducible assumption) | assumption)
                                have q24 : ((bt t438 0) : Int) < ((x3_1.length : Int) : Int) := of_decide_eq_true (by first | (with_reducible assumption) | assumption)
                                have ql24 : ((bt t438 0) : Int) < (256 : Int) := by have h_ := (Kd.R_reads' HO_3.out).1; omega
                                have GB24 := Aside0.mk (Nat.le_refl w.heap.size)
                                obtain ⟨hx24_0, hf24_0⟩ := Kd.R_celln false HO_3.out ((bt t438 0) : Int) p24 ql24
                                replace ql24 := eq_true ql24
                                replace p24 := eq_true p24
                                replace q24 := eq_true q24
                                have HP56 := Kd.R_putg HO_3.out ((bt t438 0) : Int) true
                                go_wp2_with (first | ((with_reducible refine gate_store (t := 4) (p := 42) rfl ?_); refine store_event (t := 4) (p := 42) (v := ?vo_w57) (w1 := (wc.setCell ⟨w.heap.size, ((bt t438 0) : Int).toNat, none⟩ (.bool true))) ?hg ?ho ?hn ?hr ?_; (case ho => rfl); (case hg => rfl); (case hn => rfl); (case hr => first | (go_simp; done) | (go_simp; rfl)); intro w57 hw; have hg : wc.grownBy w57 (some w.heap.size) := (by rw [hw]; exact HP56.2); have hp_ : Kd.R Kd.bool 50 w57 w.heap.size (fun _ => True) (.slice (some ⟨w.heap.size, 0, none⟩) 256 256) y441 := (by rw [hw, Ny441.out]; exact HP56.1); clear HP56; have n0_ := Aside0.mk (hp_); have n1_ := Aside0.mk ((by rw [hw]; exact below_set (HB.out) GB24.out : Below w.heap.size w w57)); clear HO_3; clear HB; have HO_3 := n0_; have HB := n1_; clear n0_ n1_; clear hg hw hp_; have p55 : 0 ≤ (0 : Int) := (by omega); have q55 : 0 < t438.size := (by have : (0 : Int) < (t438.size : Int) := of_decide_eq_true (by first | (with_reducible assumption) | assumption); omega); have hx55 : ∀ h : 0 < t438.size, ((t438[0]'h).toNat : Int) = bt t438 0 := bt_at t438 0; clear p55; have qi55 : (0 < (t438.size : Int)) = True := eq_true (of_decide_eq_true (by first | (with_reducible assumption) | assumption)); replace q55 := eq_true q55))
                                go_roundg kj6
                                case measure => have := HK1.out; have := HJ6.out; omega
                                case rel => exact ⟨(y441), (bt t438 0), (wrap64 (x5_1 + 1)), (by first | rfl | (simp; done) | (simp [*]; done)), (by first | rfl | (simp; done) | (simp [*]; done)), H', ⟨by have := HK1.out; have := HJ6.out; omega⟩, ⟨by (with_reducible repeat (first | apply Kd.R_alloc | apply Kd.R_drewN | apply Kd.R_drew)); exact HO_3.out⟩, ⟨by repeat (first | (with_reducible first | exact HB.out | apply below_alloc | apply pw_below_drewN | apply below_drew1) | exact HB.out)⟩⟩
                          · rw [if_neg c34] at H
                            have c34b0 : decide (65 < x5_1) = false := decide_eq_false c34
                            clear c34
                            by_cases c58 : x5_1 > 97
                            · rw [if_pos c58] at H
                              have c58b0 : decide (97 < x5_1) = true := decide_eq_true c58
                              clear c58
                              by_cases c59 : x5_1 ≤ 122
                              · rw [if_pos c59] at H
                                have c59b0 : decide (x5_1 ≤ 122) = true := decide_eq_true c59
                                clear c59
                                by_cases c61 : (bt t438 0) ≤ x4_1
                                · rw [if_pos c61] at H
                                  have c61b0 : decide ((bt t438 0) ≤ x4_1) = true := decide_eq_true c61
                                  clear c61
                                  obtain rfl := Option.some.inj H
                                  have p21 : 0 ≤ (0 : Int) := (by omega)
                                  have q21 : 0 < t438.size := (by have : (0 : Int) < (t438.size : Int) := of_decide_eq_true (by first | (with_reducible assumption) | assumption); omega)
                                  have hx21 : ∀ h : 0 < t438.size, ((t438[0]'h).toNat : Int) = bt t438 0 := bt_at t438 0
                                  clear p21
                                  have qi21 : (0 < (t438.size : Int)) = True := eq_true (of_decide_eq_true (by first | (with_reducible assumption) | assumption))
                                  replace q21 := eq_true q21
                                  have p24 : 0 ≤ ((bt t438 0) : Int) := of_decide_eq_true (by first | (with_reducible assumption) | assumption)
                                  have q24 : ((bt t438 0) : Int) < ((x3_1.length : Int) : Int) := of_decide_eq_true (by first | (with_reducible assumption) | assumption)
                                  have ql24 : ((bt t438 0) : Int) < (256 : Int) := by have h_ := (Kd.R_reads' HO_3.out).1; omega
                                  have GB24 := Aside0.mk (Nat.le_refl w.heap.size)
                                  obtain ⟨hx24_0, hf24_0⟩ := Kd.R_celln false HO_3.out ((bt t438 0) : Int) p24 ql24
                                  replace ql24 := eq_true ql24
                                  replace p24 := eq_true p24
                                  replace q24 := eq_true q24
                                  have HP62 := Kd.R_putg HO_3.out ((bt t438 0) : Int) true
                                  go_wp2_with (first | ((with_reducible refine gate_store (t := 4) (p := 42) rfl ?_); refine store_event (t := 4) (p := 42) (v := ?vo_w63) (w1 := (wc.setCell ⟨w.heap.size, ((bt t438 0) : Int).toNat, none⟩ (.bool true))) ?hg ?ho ?hn ?hr ?_; (case ho => rfl); (case hg => rfl); (case hn => rfl); (case hr => first | (go_simp; done) | (go_simp; rfl)); intro w63 hw; have hg : wc.grownBy w63 (some w.heap.size) := (by rw [hw]; exact HP62.2); have hp_ : Kd.R Kd.bool 50 w63 w.heap.size (fun _ => True) (.slice (some ⟨w.heap.size, 0, none⟩) 256 256) y441 := (by rw [hw, Ny441.out]; exact HP62.1); clear HP62; have n0_ := Aside0.mk (hp_); have n1_ := Aside0.mk ((by rw [hw]; exact below_set (HB.out) GB24.out : Below w.heap.size w w63)); clear HO_3; clear HB; have HO_3 := n0_; have HB := n1_; clear n0_ n1_; clear hg hw hp_; have p60 : 0 ≤ (0 : Int) := (by omega); have q60 : 0 < t438.size := (by have : (0 : Int) < (t438.size : Int) := of_decide_eq_true (by first | (with_reducible assumption) | assumption); omega); have hx60 : ∀ h : 0 < t438.size, ((t438[0]'h).toNat : Int) = bt t438 0 := bt_at t438 0; clear p60; have qi60 : (0 < (t438.size : Int)) = True := eq_true (of_decide_eq_true (by first | (with_reducible assumption) | assumption)); replace q60 := eq_true q60))
                                  go_ret
                                  exact ⟨by first | rfl | (simp [errW_none, errW_some] <;> rfl) | (simp [*, errW_none, errW_some] <;> rfl), by repeat (first | (with_reducible first | exact HB.out | apply below_alloc | apply pw_below_drewN | apply below_drew1) | exact HB.out)⟩
                                · rw [if_neg c61] at H
                                  have c61b0 : decide ((bt t438 0) ≤ x4_1) = false := decide_eq_false c61
                                  clear c61
                                  have H' := Aside0.mk H
                                  clear H
                                  have p21 : 0 ≤ (0 : Int) := (by omega)
                                  have q21 : 0 < t438.size := (by have : (0 : Int) < (t438.size : Int) := of_decide_eq_true (by first | (with_reducible assumption) | assumption); omega)
                                  have hx21 : ∀ h : 0 < t438.size, ((t438[0]'h).toNat : Int) = bt t438 0 := bt_at t438 0
                                  clear p21
                                  have qi21 : (0 < (t438.size : Int)) = True := eq_true (of_decide_eq_true (by first | (with_reducible assumption) | assumption))
                                  replace q21 := eq_true q21
                                  have p24 : 0 ≤ ((bt t438 0) : Int) := of_decide_eq_true (by first | (with_reducible assumption) | assumption)
                                  have q24 : ((bt t438 0) : Int) < ((x3_1.length : Int) : Int) := of_decide_eq_true (by first | (with_reducible assumption) | assumption)
                                  have ql24 : ((bt t438 0) : Int) < (256 : Int) := by have h_ := (Kd.R_reads' HO_3.out).1; omega
                                  have GB24 := Aside0.mk (Nat.le_refl w.heap.size)
                                  obtain ⟨hx24_0, hf24_0⟩ := Kd.R_celln false HO_3.out ((bt t438 0) : Int) p24 ql24
                                  replace ql24 := eq_true ql24
                                  replace p24 := eq_true p24
                                  replace q24 := eq_true q24
                                  have HP65 := Kd.R_putg HO_3.out ((bt t438 0) : Int) true
                                  go_wp2_with (first | ((with_reducible refine gate_store (t := 4) (p := 42) rfl ?_); refine store_event (t := 4) (p := 42) (v := ?vo_w66) (w1 := (wc.setCell ⟨w.heap.size, ((bt t438 0) : Int).toNat, none⟩ (.bool true))) ?hg ?ho ?hn ?hr ?_; (case ho => rfl); (case hg => rfl); (case hn => rfl); (case hr => first | (go_simp; done) | (go_simp; rfl)); intro w66 hw; have hg : wc.grownBy w66 (some w.heap.size) := (by rw [hw]; exact HP65.2); have hp_ : Kd.R Kd.bool 50 w66 w.heap.size (fun _ => True) (.slice (some ⟨w.heap.size, 0, none⟩) 256 256) y441 := (by rw [hw, Ny441.out]; exact HP65.1); clear HP65; have n0_ := Aside0.mk (hp_); have n1_ := Aside0.mk ((by rw [hw]; exact below_set (HB.out) GB24.out : Below w.heap.size w w66)); clear HO_3; clear HB; have HO_3 := n0_; have HB := n1_; clear n0_ n1_; clear hg hw hp_; have p60 : 0 ≤ (0 : Int) := (by omega); have q60 : 0 < t438.size := (by have : (0 : Int) < (t438.size : Int) := of_decide_eq_true (by first | (with_reducible assumption) | assumption); omega); have hx60 : ∀ h : 0 < t438.size, ((t438[0]'h).toNat : Int) = bt t438 0 := bt_at t438 0; clear p60; have qi60 : (0 < (t438.size : Int)) = True := eq_true (of_decide_eq_true (by first | (with_reducible assumption) | assumption)); replace q60 := eq_true q60; have p64 : 0 ≤ (0 : Int) := (by omega); have q64 : 0 < t438.size := (by have : (0 : Int) < (t438.size : Int) := of_decide_eq_true (by first | (with_reducible assumption) | assumption); omega); have hx64 : ∀ h : 0 < t438.size, ((t438[0]'h).toNat : Int) = bt t438 0 := bt_at t438 0; clear p64; have qi64 : (0 < (t438.size : Int)) = True := eq_true (of_decide_eq_true (by first | (with_reducible assumption) | assumption)); replace q64 := eq_true q64))
                                  go_roundg kj6
                                  case measure => have := HK1.out; have := HJ6.out; omega
                                  case rel => exact ⟨(y441), (bt t438 0), (wrap64 (x5_1 + 1)), (by first | rfl | (simp; done) | (simp [*]; done)), (by first | rfl | (simp; done) | (simp [*]; done)), H', ⟨by have := HK1.out; have := HJ6.out; omega⟩, ⟨by (with_reducible repeat (first | apply Kd.R_alloc | apply Kd.R_drewN | apply Kd.R_drew)); exact HO_3.out⟩, ⟨by repeat (first | (with_reducible first | exact HB.out | apply below_alloc | apply pw_below_drewN | apply below_drew1) | exact HB.out)⟩⟩
                              · rw [if_neg c59] at H
                                have c59b0 : decide (x5_1 ≤ 122) = false := decide_eq_false c59
                                clear c59
                                have H' := Aside0.mk H
                                clear H
                                have p21 : 0 ≤ (0 : Int) := (by omega)
                                have q21 : 0 < t438.size := (by have : (0 : Int) < (t438.size : Int) := of_decide_eq_true (by first | (with_reducible assumption) | assumption); omega)
                                have hx21 : ∀ h : 0 < t438.size, ((t438[0]'h).toNat : Int) = bt t438 0 := bt_at t438 0
                                clear p21
                                have qi21 : (0 < (t438.size : Int)) = True := eq_true (of_decide_eq_true (by first | (with_reducible assumption) | assumption))
                                replace q21 := eq_true q21
                                have p24 : 0 ≤ ((bt t438 0) : Int) := of_decide_eq_true (by first | (with_reducible assumption) | assumption)
                                have q24 : ((bt t438 0) : Int) < ((x3_1.length : Int) : Int) := of_decide_eq_true (by first | (with_reducible assumption) | assumption)
                                have ql24 : ((bt t438 0) : Int) < (256 : Int) := by have h_ := (Kd.R_reads' HO_3.out).1; omega
                                have GB24 := Aside0.mk (Nat.le_refl w.heap.size)
                                obtain ⟨hx24_0, hf24_0⟩ := Kd.R_celln false HO_3.out ((bt t438 0) : Int) p24 ql24
                                replace ql24 := eq_true ql24
                                replace p24 := eq_true p24
                                replace q24 := eq_true q24
                                have HP68 := Kd.R_putg HO_3.out ((bt t438 0) : Int) true
                                go_wp2_with (first | ((with_reducible refine gate_store (t := 4) (p := 42) rfl ?_); refine store_event (t := 4) (p := 42) (v := ?vo_w69) (w1 := (wc.setCell ⟨w.heap.size, ((bt t438 0) : Int).toNat, none⟩ (.bool true))) ?hg ?ho ?hn ?hr ?_; (case ho => rfl); (case hg => rfl); (case hn => rfl); (case hr => first | (go_simp; done) | (go_simp; rfl)); intro w69 hw; have hg : wc.grownBy w69 (some w.heap.size) := (by rw [hw]; exact HP68.2); have hp_ : Kd.R Kd.bool 50 w69 w.heap.size (fun _ => True) (.slice (some ⟨w.heap.size, 0, none⟩) 256 256) y441 := (by rw [hw, Ny441.out]; exact HP68.1); clear HP68; have n0_ := Aside0.mk (hp_); have n1_ := Aside0.mk ((by rw [hw]; exact below_set (HB.out) GB24.out : Below w.heap.size w w69)); clear HO_3; clear HB; have HO_3 := n0_; have HB := n1_; clear n0_ n1_; clear hg hw hp_; have p67 : 0 ≤ (0 : Int) := (by omega); have q67 : 0 < t438.size := (by have : (0 : Int) < (t438.size : Int) := of_decide_eq_true (by first | (with_reducible assumption) | assumption); omega); have hx67 : ∀ h : 0 < t438.size, ((t438[0]'h).toNat : Int) = bt t438 0 := bt_at t438 0; clear p67; have qi67 : (0 < (t438.size : Int)) = True := eq_true (of_decide_eq_true (by first | (with_reducible assumption) | assumption)); replace q67 := eq_true q67))
                                go_roundg kj6
                                case measure => have := HK1.out; have := HJ6.out; omega
                                case rel => exact ⟨(y441), (bt t438 0), (wrap64 (x5_1 + 1)), (by first | rfl | (simp; done) | (simp [*]; done)), (by first | rfl | (simp; done) | (simp [*]; done)), H', ⟨by have := HK1.out; have := HJ6.out; omega⟩, ⟨by (with_reducible repeat (first | apply Kd.R_alloc | apply Kd.R_drewN | apply Kd.R_drew)); exact HO_3.out⟩, ⟨by repeat (first | (with_reducible first | exact HB.out | apply below_alloc | apply pw_below_drewN | apply below_drew1) | exact HB.out)⟩⟩
                            · rw [if_neg c58] at H
                              have c58b0 : decide (97 < x5_1) = false := decide_eq_false c58
                              clear c58
                              have H' := Aside0.mk H
                              clear H
                              have p21 : 0 ≤ (0 : Int) := (by omega)
                              have q21 : 0 < t438.size := (by have : (0 : Int) < (t438.size : Int) := of_decide_eq_true (by first | (with_reducible assumption) | assumption); omega)
                              have hx21 : ∀ h : 0 < t438.size, ((t438[0]'h).toNat : Int) = bt t438 0 := bt_at t438 0
                              clear p21
                              have qi21 : (0 < (t438.size : Int)) = True := eq_true (of_decide_eq_true (by first | (with_reducible assumption) | assumption))
                              replace q21 := eq_true q21
                              have p24 : 0 ≤ ((bt t438 0) : Int) := of_decide_eq_true (by first | (with_reducible assumption) | assumption)
                              have q24 : ((bt t438 0) : Int) < ((x3_1.length : Int) : Int) := of_decide_eq_true (by first | (with_reducible assumption) | assumption)
                              have ql24 : ((bt t438 0) : Int) < (256 : Int) := by have h_ := (Kd.R_reads' HO_3.out).1; omega
                              have GB24 := Aside0.mk (Nat.le_refl w.heap.size)
                              obtain ⟨hx24_0, hf24_0⟩ := Kd.R_celln false HO_3.out ((bt t438 0) : Int) p24 ql24
                              replace ql24 := eq_true ql24
                              replace p24 := eq_true p24
                              replace q24 := eq_true q24
                              have HP71 := Kd.R_putg HO_3.out ((bt t438 0) : Int) true
                              go_wp2_with (first | ((with_reducible refine gate_store (t := 4) (p := 42) rfl ?_); refine store_event (t := 4) (p := 42) (v := ?vo_w72) (w1 := (wc.setCell ⟨w.heap.size, ((bt t438 0) : Int).toNat, none⟩ (.bool true))) ?hg ?ho ?hn ?hr ?_; (case ho => rfl); (case hg => rfl); (case hn => rfl); (case hr => first | (go_simp; done) | (go_simp; rfl)); intro w72 hw; have hg : wc.grownBy w72 (some w.heap.size) := (by rw [hw]; exact HP71.2); have hp_ : Kd.R Kd.bool 50 w72 w.heap.size (fun _ => True) (.slice (some ⟨w.heap.size, 0, none⟩) 256 256) y441 := (by rw [hw, Ny441.out]; exact HP71.1); clear HP71; have n0_ := Aside0.mk (hp_); have n1_ := Aside0.mk ((by rw [hw]; exact below_set (HB.out) GB24.out : Below w.heap.size w w72)); clear HO_3; clear HB; have HO_3 := n0_; have HB := n1_; clear n0_ n1_; clear hg hw hp_; have p70 : 0 ≤ (0 : Int) := (by omega); have q70 : 0 < t438.size := (by have : (0 : Int) < (t438.size : Int) := of_decide_eq_true (by first | (with_reducible assumption) | assumption); omega); have hx70 : ∀ h : 0 < t438.size, ((t438[0]'h).toNat : Int) = bt t438 0 := bt_at t438 0; clear p70; have qi70 : (0 < (t438.size : Int)) = True := eq_true (of_decide_eq_true (by first | (with_reducible assumption) | assumption)); replace q70 := eq_true q70))
                              go_roundg kj6
                              case measure => have := HK1.out; have := HJ6.out; omega
                              case rel => exact ⟨(y441), (bt t438 0), (wrap64 (x5_1 + 1)), (by first | rfl | (simp; done) | (simp [*]; done)), (by first | rfl | (simp; done) | (simp [*]; done)), H', ⟨by have := HK1.out; have := HJ6.out; omega⟩, ⟨by (with_reducible repeat (first | apply Kd.R_alloc | apply Kd.R_drewN | apply Kd.R_drew)); exact HO_3.out⟩, ⟨by repeat (first | (with_reducible first | exact HB.out | apply below_alloc | apply pw_below_drewN | apply below_drew1) | exact HB.out)⟩⟩
                      · rw [if_neg c25] at H
                        have c25b0 : decide (48 < x5_1) = false := decide_eq_false c25
                        clear c25
                        by_cases c73 : x5_1 > 65
                        · rw [if_pos c73] at H
                          have c73b0 : decide (65 < x5_1) = true := decide_eq_true c73
                          clear c73
                          by_cases c74 : x5_1 ≤ 90
                          · rw [if_pos c74] at H
                            have c74b0 : decide (x5_1 ≤ 90) = true := decide_eq_true c74
                            clear c74
                            by_cases c76 : (bt t438 0) ≤ x4_1
                            · rw [if_pos c76] at H
                              have c76b0 : decide ((bt t438 0) ≤ x4_1) = true := decide_eq_true c76
                              clear c76
                              obtain rfl := Option.some.inj H
                              have p21 : 0 ≤ (0 : Int) := (by omega)
                              have q21 : 0 < t438.size := (by have : (0 : Int) < (t438.size : Int) := of_decide_eq_true (by first | (with_reducible assumption) | assumption); omega)
                              have hx21 : ∀ h : 0 < t438.size, ((t438[0]'h).toNat : Int) = bt t438 0 := bt_at t438 0
                              clear p21
                              have qi21 : (0 < (t438.size : Int)) = True := eq_true (of_decide_eq_true (by first | (with_reducible assumption) | assumption))
                              replace q21 := eq_true q21
                              have p24 : 0 ≤ ((bt t438 0) : Int) := of_decide_eq_true (by first | (with_reducible assumption) | assumption)
                              have q24 : ((bt t438 0) : Int) < ((x3_1.length : Int) : Int) := of_decide_eq_true (by first | (with_reducible assumption) | assumption)
                              have ql24 : ((bt t438 0) : Int) < (256 : Int) := by have h_ := (Kd.R_reads' HO_3.out).1; omega
                              have GB24 := Aside0.mk (Nat.le_refl w.heap.size)
                              obtain ⟨hx24_0, hf24_0⟩ := Kd.R_celln false HO_3.out ((bt t438 0) : Int) p24 ql24
                              replace ql24 := eq_true ql24
                              replace p24 := eq_true p24
                              replace q24 := eq_true q24
                              have HP77 := Kd.R_putg HO_3.out ((bt t438 0) : Int) true
                              go_wp2_with (first | ((with_reducible refine gate_store (t := 4) (p := 42) rfl ?_); refine store_event (t := 4) (p := 42) (v := ?vo_w78) (w1 := (wc.setCell ⟨w.heap.size, ((bt t438 0) : Int).toNat, none⟩ (.bool true))) ?hg ?ho ?hn ?hr ?_; (case ho => rfl); (case hg => rfl); (case hn => rfl); (case hr => first | (go_simp; done) | (go_simp; rfl)); intro w78 hw; have hg : wc.grownBy w78 (some w.heap.size) := (by rw [hw]; exact HP77.2); have hp_ : Kd.R Kd.bool 50 w78 w.heap.size (fun _ => True) (.slice (some ⟨w.heap.size, 0, none⟩) 256 256) y441 := (by rw [hw, Ny441.out]; exact HP77.1); clear HP77; have n0_ := Aside0.mk (hp_); have n1_ := Aside0.mk ((by rw [hw]; exact below_set (HB.out) GB24.out : Below w.heap.size w w78)); clear HO_3; clear HB; have HO_3 := n0_; have HB := n1_; clear n0_ n1_; clear hg hw hp_; have p75 : 0 ≤ (0 : Int) := (by omega); have q75 : 0 < t438.size := (by have : (0 : Int) < (t438.size : Int) := of_decide_eq_true (by first | (with_reducible assumption) | assumption); omega); have hx75 : ∀ h : 0 < t438.size, ((t438[0]'h).toNat : Int) = bt t438 0 := bt_at t438 0; clear p75; have qi75 : (0 < (t438.size : Int)) = True := eq_true (of_decide_eq_true (by first | (with_reducible assumption) | assumption)); replace q75 := eq_true q75))
                              go_ret
                              exact ⟨by first | rfl | (simp [errW_none, errW_some] <;> rfl) | (simp [*, errW_none, errW_some] <;> rfl), by repeat (first | (with_reducible first | exact HB.out | apply below_alloc | apply pw_below_drewN | apply below_drew1) | exact HB.out)⟩
                            · rw [if_neg c76] at H
                              have c76b0 : decide ((bt t438 0) ≤ x4_1) = false := decide_eq_false c76
                              clear c76
                              have H' := Aside0.mk H
                              clear H
                              have p21 : 0 ≤ (0 : Int) := (by omega)
                              have q21 : 0 < t438.size := (by have : (0 : Int) < (t438.size : Int) := of_decide_eq_true (by first | (with_reducible assumption) | assumption); omega)
                              have hx21 : ∀ h : 0 < t438.size, ((t438[0]'h).toNat : Int) = bt t438 0 := bt_at t438 0
                              clear p21
                              have qi21 : (0 < (t438.size : Int)) = True := eq_true (of_decide_eq_true (by first | (with_reducible assumption) | assumption))
                              replace q21 := eq_true q21
                              have p24 : 0 ≤ ((bt t438 0) : Int) := of_decide_eq_true (by first | (with_reducible assumption) | assumption)
                              have q24 : ((bt t438 0) : Int) < ((x3_1.length : Int) : Int) := of_decide_eq_true (by first | (with_reducible assumption) | assumption)
                              have ql24 : ((bt t438 0) : Int) < (256 : Int) := by have h_ := (Kd.R_reads' HO_3.out).1; omega
                              have GB24 := Aside0.mk (Nat.le_refl w.heap.size)
                              obtain ⟨hx24_0, hf24_0⟩ := Kd.R_celln false HO_3.out ((bt t438 0) : Int) p24 ql24
                              replace ql24 := eq_true ql24
                              replace p24 := eq_true p24
                              replace q24 := eq_true q24
                              have HP80 := Kd.R_putg HO_3.out ((bt t438 0) : Int) true
                              go_wp2_with (first | ((with_reducible refine gate_store (t := 4) (p := 42) rfl ?_); refine store_event (t := 4) (p := 42) (v := ?vo_w81) (w1 := (wc.setCell ⟨w.heap.size, ((bt t438 0) : Int).toNat, none⟩ (.bool true))) ?hg ?ho ?hn ?hr ?_; (case ho => rfl); (case hg => rfl); (case hn => rfl); (case hr => first | (go_simp; done) | (go_simp; rfl)); intro w81 hw; have hg : wc.grownBy w81 (some w.heap.size) := (by rw [hw]; exact HP80.2); have hp_ : Kd.R Kd.bool 50 w81 w.heap.size (fun _ => True) (.slice (some ⟨w.heap.size, 0, none⟩) 256 256) y441 := (by rw [hw, Ny441.out]; exact HP80.1); clear HP80; have n0_ := Aside0.mk (hp_); have n1_ := Aside0.mk ((by rw [hw]; exact below_set (HB.out) GB24.out : Below w.heap.size w w81)); clear HO_3; clear HB; have HO_3 := n0_; have HB := n1_; clear n0_ n1_; clear hg hw hp_; have p75 : 0 ≤ (0 : Int) := (by omega); have q75 : 0 < t438.size := (by have : (0 : Int) < (t438.size : Int) := of_decide_eq_true (by first | (with_reducible assumption) | assumption); omega); have hx75 : ∀ h : 0 < t438.size, ((t438[0]'h).toNat : Int) = bt t438 0 := bt_at t438 0; clear p75; have qi75 : (0 < (t438.size : Int)) = True := eq_true (of_decide_eq_true (by first | (with_reducible assumption) | assumption)); replace q75 := eq_true q75; have p79 : 0 ≤ (0 : Int) := (by omega); have q79 : 0 < t438.size := (by have : (0 : Int) < (t438.size : Int) := of_decide_eq_true (by first | (with_reducible assumption) | assumption); omega); have hx79 : ∀ h : 0 < t438.size, ((t438[0]'h).toNat : Int) = bt t438 0 := bt_at t438 0; clear p79; have qi79 : (0 < (t438.size : Int)) = True := eq_true (of_decide_eq_true (by first | (with_reducible assumption) | assumption)); replace q79 := eq_true q79))
                              go_roundg kj6
                              case measure => have := HK1.out; have := HJ6.out; omega
                              case rel => exact ⟨(y441), (bt t438 0), (wrap64 (x5_1 + 1)), (by first | rfl | (simp; done) | (simp [*]; done)), (by first | rfl | (simp; done) | (simp [*]; done)), H', ⟨by have := HK1.out; have := HJ6.out; omega⟩, ⟨by (with_reducible repeat (first | apply Kd.R_alloc | apply Kd.R_drewN | apply Kd.R_drew)); exact HO_3.out⟩, ⟨by repeat (first | (with_reducible first | exact HB.out | apply below_alloc | apply pw_below_drewN | apply below_drew1) | exact HB.out)⟩⟩
                          · rw [if_neg c74] at H
                            have c74b0 : decide (x5_1 ≤ 90) = false := decide_eq_false c74
                            clear c74
                            by_cases c82 : x5_1 > 97
                            · rw [if_pos c82] at H
                              have c82b0 : decide (97 < x5_1) = true := decide_eq_true c82
                              clear c82
                              by_cases c83 : x5_1 ≤ 122
                              · rw [if_pos c83] at H
                                have c83b0 : decide (x5_1 ≤ 122) = true := decide_eq_true c83
                                clear c83
                                by_cases c85 : (bt t438 0) ≤ x4_1
                                · rw [if_pos c85] at H
                                  have c85b0 : decide ((bt t438 0) ≤ x4_1) = true := decide_eq_true c85
                                  clear c85
                                  obtain rfl := Option.some.inj H
                                  have p21 : 0 ≤ (0 : Int) := (by omega)
                                  have q21 : 0 < t438.size := (by have : (0 : Int) < (t438.size : Int) := of_decide_eq_true (by first | (with_reducible assumption) | assumption); omega)
                                  have hx21 : ∀ h : 0 < t438.size, ((t438[0]'h).toNat : Int) = bt t438 0 := bt_at t438 0
                                  clear p21
                                  have qi21 : (0 < (t438.size : Int)) = True := eq_true (of_decide_eq_true (by first | (with_reducible assumption) | assumption))
                                  replace q21 := eq_true q21
                                  have p24 : 0 ≤ ((bt t438 0) : Int) := of_decide_eq_true (by first | (with_reducible assumption) | assumption)
                                  have q24 : ((bt t438 0) : Int) < ((x3_1.length : Int) : Int) := of_decide_eq_true (by first | (with_reducible assumption) | assumption)
                                  have ql24 : ((bt t438 0) : Int) < (256 : Int) := by have h_ := (Kd.R_reads' HO_3.out).1; omega
                                  have GB24 := Aside0.mk (Nat.le_refl w.heap.size)
                                  obtain ⟨hx24_0, hf24_0⟩ := Kd.R_celln false HO_3.out ((bt t438 0) : Int) p24 ql24
                                  replace ql24 := eq_true ql24
                                  replace p24 := eq_true p24
                                  replace q24 := eq_true q24
                                  have HP86 := Kd.R_putg HO_3.out ((bt t438 0) : Int) true
                                  go_wp2_with (first | ((with_reducible refine gate_store (t := 4) (p := 42) rfl ?_); refine store_event (t := 4) (p := 42) (v := ?vo_w87) (w1 := (wc.setCell ⟨w.heap.size, ((bt t438 0) : Int).toNat, none⟩ (.bool true))) ?hg ?ho ?hn ?hr ?_; (case ho => rfl); (case hg => rfl); (case hn => rfl); (case hr => first | (go_simp; done) | (go_simp; rfl)); intro w87 hw; have hg : wc.grownBy w87 (some w.heap.size) := (by rw [hw]; exact HP86.2); have hp_ : Kd.R Kd.bool 50 w87 w.heap.size (fun _ => True) (.slice (some ⟨w.heap.size, 0, none⟩) 256 256) y441 := (by rw [hw, Ny441.out]; exact HP86.1); clear HP86; have n0_ := Aside0.mk (hp_); have n1_ := Aside0.mk ((by rw [hw]; exact below_set (HB.out) GB24.out : Below w.heap.size w w87)); clear HO_3; clear HB; have HO_3 := n0_; have HB := n1_; clear n0_ n1_; clear hg hw hp_; have p84 : 0 ≤ (0 : Int) := (by omega); have q84 : 0 < t438.size := (by have : (0 : Int) < (t438.size : Int) := of_decide_eq_true (by first | (with_reducible assumption) | assumption); omega); have hx84 : ∀ h : 0 < t438.size, ((t438[0]'h).toNat : Int) = bt t438 0 := bt_at t438 0; clear p84; have qi84 : (0 < (t438.size : Int)) = True := eq_true (of_decide_eq_true (by first | (with_reducible assumption) | assumption)); replace q84 := eq_true q84))
                                  go_ret
                                  exact ⟨by first | rfl | (simp [errW_none, errW_some] <;> rfl) | (simp [*, errW_none, errW_some] <;> rfl), by repeat (first | (with_reducible first | exact HB.out | apply below_alloc | apply pw_below_drewN | apply below_drew1) | exact HB.out)⟩
                                · rw [if_neg c85] at H
                                  have c85b0 : decide ((bt t438 0) ≤ x4_1) = false := decide_eq_false c85
                                  clear c85
                                  have H' := Aside0.mk H
                                  clear H
                                  have p21 : 0 ≤ (0 : Int) := (by omega)
                                  have q21 : 0 < t438.size := (by have : (0 : Int) < (t438.size : Int) := of_decide_eq_true (by first | (with_reducible assumption) | assumption); omega)
                                  have hx21 : ∀ h : 0 < t438.size, ((t438[0]'h).toNat : Int) = bt t438 0 := bt_at t438 0
                                  clear p21
                                  have qi21 : (0 < (t438.size : Int)) = True := eq_true (of_decide_eq_true (by first | (with_reducible assumption) | assumption))
                                  replace q21 := eq_true q21
                                  have p24 : 0 ≤ ((bt t438 0) : Int) := of_decide_eq_true (by first | (with_reducible assumption) | assumption)
                                  have q24 : ((bt t438 0) : Int) < ((x3_1.length : Int) : Int) := of_decide_eq_true (by first | (with_reducible assumption) | assumption)
                                  have ql24 : ((bt t438 0) : Int) < (256 : Int) := by have h_ := (Kd.R_reads' HO_3.out).1; omega
                                  have GB24 := Aside0.mk (Nat.le_refl w.heap.size)
                                  obtain ⟨hx24_0, hf24_0⟩ := Kd.R_celln false HO_3.out ((bt t438 0) : Int) p24 ql24
                                  replace ql24 := eq_true ql24
                                  replace p24 := eq_true p24
                                  replace q24 := eq_true q24
                                  have HP89 := Kd.R_putg HO_3.out ((bt t438 0) : Int) true
                                  go_wp2_with (first | ((with_reducible refine gate_store (t := 4) (p := 42) rfl ?_); refine store_event (t := 4) (p := 42) (v := ?vo_w90) (w1 := (wc.setCell ⟨w.heap.size, ((bt t438 0) : Int).toNat, none⟩ (.bool true))) ?hg ?ho ?hn ?hr ?_; (case ho => rfl); (case hg => rfl); (case hn => rfl); (case hr => first | (go_simp; done) | (go_simp; rfl)); intro w90 hw; have hg : wc.grownBy w90 (some w.heap.size) := (by rw [hw]; exact HP89.2); have hp_ : Kd.R Kd.bool 50 w90 w.heap.size (fun _ => True) (.slice (some ⟨w.heap.size, 0, none⟩) 256 256) y441 := (by rw [hw, Ny441.out]; exact HP89.1); clear HP89; have n0_ := Aside0.mk (hp_); have n1_ := Aside0.mk ((by rw [hw]; exact below_set (HB.out) GB24.out : Below w.heap.size w w90)); clear HO_3; clear HB; have HO_3 := n0_; have HB := n1_; clear n0_ n1_; clear hg hw hp_; have p84 : 0 ≤ (0 : Int) := (by omega); have q84 : 0 < t438.size := (by have : (0 : Int) < (t438.size : Int) := of_decide_eq_true (by first | (with_reducible assumption) | assumption); omega); have hx84 : ∀ h : 0 < t438.size, ((t438[0]'h).toNat : Int) = bt t438 0 := bt_at t438 0; clear p84; have qi84 : (0 < (t438.size : Int)) = True := eq_true (of_decide_eq_true (by first | (with_reducible assumption) | assumption)); replace q84 := eq_true q84; have p88 : 0 ≤ (0 : Int) := (by omega); have q88 : 0 < t438.size := (by have : (0 : Int) < (t438.size : Int) := of_decide_eq_true (by first | (with_reducible assumption) | assumption); omega); have hx88 : ∀ h : 0 < t438.size, ((t438[0]'h).toNat : Int) = bt t438 0 := bt_at t438 0; clear p88; have qi88 : (0 < (t438.size : Int)) = True := eq_true (of_decide_eq_true (by first | (with_reducible assumption) | assumption)); replace q88 := eq_true q88))
                                  go_roundg kj6
                                  case measure => have := HK1.out; have := HJ6.out; omega
                                  case rel => exact ⟨(y441), (bt t438 0), (wrap64 (x5_1 + 1)), (by first | rfl | (simp; done) | (simp [*]; done)), (by first | rfl | (simp; done) | (simp [*]; done)), H', ⟨by have := HK1.out; have := HJ6.out; omega⟩, ⟨by (with_reducible repeat (first | apply Kd.R_alloc | apply Kd.R_drewN | apply Kd.R_drew)); exact HO_3.out⟩, ⟨by repeat (first | (with_reducible first | exact HB.out | apply below_alloc | apply pw_below_drewN | apply below_drew1) | exact HB.out)⟩⟩
                              · rw [if_neg c83] at H
                                have c83b0 : decide (x5_1 ≤ 122) = false := decide_eq_false c83
                                clear c83
                                have H' := Aside0.mk H
                                clear H
                                have p21 : 0 ≤ (0 : Int) := (by omega)
                                have q21 : 0 < t438.size := (by have : (0 : Int) < (t438.size : Int) := of_decide_eq_true (by first | (with_reducible assumption) | assumption); omega)
                                have hx21 : ∀ h : 0 < t438.size, ((t438[0]'h).toNat : Int) = bt t438 0 := bt_at t438 0
                                clear p21
                                have qi21 : (0 < (t438.size : Int)) = True := eq_true (of_decide_eq_true (by first | (with_reducible assumption) | assumption))
                                replace q21 := eq_true q21
                                have p24 : 0 ≤ ((bt t438 0) : Int) := of_decide_eq_true (by first | (with_reducible assumption) | assumption)
                                have q24 : ((bt t438 0) : Int) < ((x3_1.length : Int) : Int) := of_decide_eq_true (by first | (with_reducible assumption) | assumption)
                                have ql24 : ((bt t438 0) : Int) < (256 : Int) := by have h_ := (Kd.R_reads' HO_3.out).1; omega
                                have GB24 := Aside0.mk (Nat.le_refl w.heap.size)
                                obtain ⟨hx24_0, hf24_0⟩ := Kd.R_celln false HO_3.out ((bt t438 0) : Int) p24 ql24
                                replace ql24 := eq_true ql24
                                replace p24 := eq_true p24
                                replace q24 := eq_true q24
                                have HP92 := Kd.R_putg HO_3.out ((bt t438 0) : Int) true
                                go_wp2_with (first | ((with_reducible refine gate_store (t := 4) (p := 42) rfl ?_); refine store_event (t := 4) (p := 42) (v := ?vo_w93) (w1 := (wc.setCell ⟨w.heap.size, ((bt t438 0) : Int).toNat, none⟩ (.bool true))) ?hg ?ho ?hn ?hr ?_; (case ho => rfl); (case hg => rfl); (case hn => rfl); (case hr => first | (go_simp; done) | (go_simp; rfl)); intro w93 hw; have hg : wc.grownBy w93 (some w.heap.size) := (by rw [hw]; exact HP92.2); have hp_ : Kd.R Kd.bool 50 w93 w.heap.size (fun _ => True) (.slice (some ⟨w.heap.size, 0, none⟩) 256 256) y441 := (by rw [hw, Ny441.out]; exact HP92.1); clear HP92; have n0_ := Aside0.mk (hp_); have n1_ := Aside0.mk ((by rw [hw]; exact below_set (HB.out) GB24.out : Below w.heap.size w w93)); clear HO_3; clear HB; have HO_3 := n0_; have HB := n1_; clear n0_ n1_; clear hg hw hp_; have p91 : 0 ≤ (0 : Int) := (by omega); have q91 : 0 < t438.size := (by have : (0 : Int) < (t438.size : Int) := of_decide_eq_true (by first | (with_reducible assumption) | assumption); omega); have hx91 : ∀ h : 0 < t438.size, ((t438[0]'h).toNat : Int) = bt t438 0 := bt_at t438 0; clear p91; have qi91 : (0 < (t438.size : Int)) = True := eq_true (of_decide_eq_true (by first | (with_reducible assumption) | assumption)); replace q91 := eq_true q91))
                                go_roundg kj6
                                case measure => have := HK1.out; have := HJ6.out; omega
                                case rel => exact ⟨(y441), (bt t438 0), (wrap64 (x5_1 + 1)), (by first | rfl | (simp; done) | (simp [*]; done)), (by first | rfl | (simp; done) | (simp [*]; done)), H', ⟨by have := HK1.out; have := HJ6.out; omega⟩, ⟨by (with_reducible repeat (first | apply Kd.R_alloc | apply Kd.R_drewN | apply Kd.R_drew)); exact HO_3.out⟩, ⟨by repeat (first | (with_reducible first | exact HB.out | apply below_alloc | apply pw_below_drewN | apply below_drew1) | exact HB.out)⟩⟩
                            · rw [if_neg c82] at H
                              have c82b0 : decide (97 < x5_1) = false := decide_eq_false c82
                              clear c82
                              have H' := Aside0.mk H
                              clear H
                              have p21 : 0 ≤ (0 : Int) := (by omega)
                              have q21 : 0 < t438.size := (by have : (0 : Int) < (t438.size : Int) := of_decide_eq_true (by first | (with_reducible assumption) | assumption); omega)
                              have hx21 : ∀ h : 0 < t438.size, ((t438[0]'h).toNat : Int) = bt t438 0 := bt_at t438 0
                              clear p21
                              have qi21 : (0 < (t438.size : Int)) = True := eq_true (of_decide_eq_true (by first | (with_reducible assumption) | assumption))
                              replace q21 := eq_true q21
                              have p24 : 0 ≤ ((bt t438 0) : Int) := of_decide_eq_true (by first | (with_reducible assumption) | assumption)
                              have q24 : ((bt t438 0) : Int) < ((x3_1.length : Int) : Int) := of_decide_eq_true (by first | (with_reducible assumption) | assumption)
                              have ql24 : ((bt t438 0) : Int) < (256 : Int) := by have h_ := (Kd.R_reads' HO_3.out).1; omega
                              have GB24 := Aside0.mk (Nat.le_refl w.heap.size)
                              obtain ⟨hx24_0, hf24_0⟩ := Kd.R_celln false HO_3.out ((bt t438 0) : Int) p24 ql24
                              replace ql24 := eq_true ql24
                              replace p24 := eq_true p24
                              replace q24 := eq_true q24
                              have HP95 := Kd.R_putg HO_3.out ((bt t438 0) : Int) true
                              go_wp2_with (first | ((with_reducible refine gate_store (t := 4) (p := 42) rfl ?_); refine store_event (t := 4) (p := 42) (v := ?vo_w96) (w1 := (wc.setCell ⟨w.heap.size, ((bt t438 0) : Int).toNat, none⟩ (.bool true))) ?hg ?ho ?hn ?hr ?_; (case ho => rfl); (case hg => rfl); (case hn => rfl); (case hr => first | (go_simp; done) | (go_simp; rfl)); intro w96 hw; have hg : wc.grownBy w96 (some w.heap.size) := (by rw [hw]; exact HP95.2); have hp_ : Kd.R Kd.bool 50 w96 w.heap.size (fun _ => True) (.slice (some ⟨w.heap.size, 0, none⟩) 256 256) y441 := (by rw [hw, Ny441.out]; exact HP95.1); clear HP95; have n0_ := Aside0.mk (hp_); have n1_ := Aside0.mk ((by rw [hw]; exact below_set (HB.out) GB24.out : Below w.heap.size w w96)); clear HO_3; clear HB; have HO_3 := n0_; have HB := n1_; clear n0_ n1_; clear hg hw hp_; have p94 : 0 ≤ (0 : Int) := (by omega); have q94 : 0 < t438.size := (by have : (0 : Int) < (t438.size : Int) := of_decide_eq_true (by first | (with_reducible assumption) | assumption); omega); have hx94 : ∀ h : 0 < t438.size, ((t438[0]'h).toNat : Int) = bt t438 0 := bt_at t438 0; clear p94; have qi94 : (0 < (t438.size : Int)) = True := eq_true (of_decide_eq_true (by first | (with_reducible assumption) | assumption)); replace q94 := eq_true q94))
                              go_roundg kj6
                              case measure => have := HK1.out; have := HJ6.out; omega
                              case rel => exact ⟨(y441), (bt t438 0), (wrap64 (x5_1 + 1)), (by first | rfl | (simp; done) | (simp [*]; done)), (by first | rfl | (simp; done) | (simp [*]; done)), H', ⟨by have := HK1.out; have := HJ6.out; omega⟩, ⟨by (with_reducible repeat (first | apply Kd.R_alloc | apply Kd.R_drewN | apply Kd.R_drew)); exact HO_3.out⟩, ⟨by repeat (first | (with_reducible first | exact HB.out | apply below_alloc | apply pw_below_drewN | apply below_drew1) | exact HB.out)⟩⟩
                        · rw [if_neg c73] at H
                          have c73b0 : decide (65 < x5_1) = false := decide_eq_false c73
                          clear c73
                          by_cases c97 : x5_1 > 97
                          · rw [if_pos c97] at H
                            have c97b0 : decide (97 < x5_1) = true := decide_eq_true c97
                            clear c97
                            by_cases c98 : x5_1 ≤ 122
                            · rw [if_pos c98] at H
                              have c98b0 : decide (x5_1 ≤ 122) = true := decide_eq_true c98
                              clear c98
                              by_cases c100 : (bt t438 0) ≤ x4_1
                              · rw [if_pos c100] at H
                                have c100b0 : decide ((bt t438 0) ≤ x4_1) = true := decide_eq_true c100
                                clear c100
                                obtain rfl := Option.some.inj H
                                have p21 : 0 ≤ (0 : Int) := (by omega)
                                have q21 : 0 < t438.size := (by have : (0 : Int) < (t438.size : Int) := of_decide_eq_true (by first | (with_reducible assumption) | assumption); omega)
                                have hx21 : ∀ h : 0 < t438.size, ((t438[0]'h).toNat : Int) = bt t438 0 := bt_at t438 0
                                clear p21
                                have qi21 : (0 < (t438.size : Int)) = True := eq_true (of_decide_eq_true (by first | (with_reducible assumption) | assumption))
                                replace q21 := eq_true q21
                                have p24 : 0 ≤ ((bt t438 0) : Int) := of_decide_eq_true (by first | (with_reducible assumption) | assumption)
                                have q24 : ((bt t438 0) : Int) < ((x3_1.length : Int) : Int) := of_decide_eq_true (by first | (with_reducible assumption) | assumption)
                                have ql24 : ((bt t438 0) : Int) < (256 : Int) := by have h_ := (Kd.R_reads' HO_3.out).1; omega
                                have GB24 := Aside0.mk (Nat.le_refl w.heap.size)
                                obtain ⟨hx24_0, hf24_0⟩ := Kd.R_celln false HO_3.out ((bt t438 0) : Int) p24 ql24
                                replace ql24 := eq_true ql24
                                replace p24 := eq_true p24
                                replace q24 := eq_true q24
                                have HP101 := Kd.R_putg HO_3.out ((bt t438 0) : Int) true
                                go_wp2_with (first | ((with_reducible refine gate_store (t := 4) (p := 42) rfl ?_); refine store_event (t := 4) (p := 42) (v := ?vo_w102) (w1 := (wc.setCell ⟨w.heap.size, ((bt t438 0) : Int).toNat, none⟩ (.bool true))) ?hg ?ho ?hn ?hr ?_; (case ho => rfl); (case hg => rfl); (case hn => rfl); (case hr => first | (go_simp; done) | (go_simp; rfl)); intro w102 hw; have hg : wc.grownBy w102 (some w.heap.size) := (by rw [hw]; exact HP101.2); have hp_ : Kd.R Kd.bool 50 w102 w.heap.size (fun _ => True) (.slice (some ⟨w.heap.size, 0, none⟩) 256 256) y441 := (by rw [hw, Ny441.out]; exact HP101.1); clear HP101; have n0_ := Aside0.mk (hp_); have n1_ := Aside0.mk ((by rw [hw]; exact below_set (HB.out) GB24.out : Below w.heap.size w w102)); clear HO_3; clear HB; have HO_3 := n0_; have HB := n1_; clear n0_ n1_; clear hg hw hp_; have p99 : 0 ≤ (0 : Int) := (by omega); have q99 : 0 < t438.size := (by have : (0 : Int) < (t438.size : Int) := of_decide_eq_true (by first | (with_reducible assumption) | assumption); omega); have hx99 : ∀ h : 0 < t438.size, ((t438[0]'h).toNat : Int) = bt t438 0 := bt_at t438 0; clear p99; have qi99 : (0 < (t438.size : Int)) = True := eq_true (of_decide_eq_true (by first | (with_reducible assumption) | assumption)); replace q99 := eq_true q99))
                                go_ret
                                exact ⟨by first | rfl | (simp [errW_none, errW_some] <;> rfl) | (simp [*, errW_none, errW_some] <;> rfl), by repeat (first | (with_reducible first | exact HB.out | apply below_alloc | apply pw_below_drewN | apply below_drew1) | exact HB.out)⟩
                              · rw [if_neg c100] at H
                                have c100b0 : decide ((bt t438 0) ≤ x4_1) = false := decide_eq_false c100
                                clear c100
                                have H' := Aside0.mk H
                                clear H
                                have p21 : 0 ≤ (0 : Int) := (by omega)
                                have q21 : 0 < t438.size := (by have : (0 : Int) < (t438.size : Int) := of_decide_eq_true (by first | (with_reducible assumption) | assumption); omega)
                                have hx21 : ∀ h : 0 < t438.size, ((t438[0]'h).toNat : Int) = bt t438 0 := bt_at t438 0
                                clear p21
                                have qi21 : (0 < (t438.size : Int)) = True := eq_true (of_decide_eq_true (by first | (with_reducible assumption) | assumption))
                                replace q21 := eq_true q21
                                have p24 : 0 ≤ ((bt t438 0) : Int) := of_decide_eq_true (by first | (with_reducible assumption) | assumption)
                                have q24 : ((bt t438 0) : Int) < ((x3_1.length : Int) : Int) := of_decide_eq_true (by first | (with_reducible assumption) | assumption)
                                have ql24 : ((bt t438 0) : Int) < (256 : Int) := by have h_ := (Kd.R_reads' HO_3.out).1; omega
                                have GB24 := Aside0.mk (Nat.le_refl w.heap.size)
                                obtain ⟨hx24_0, hf24_0⟩ := Kd.R_celln false HO_3.out ((bt t438 0) : Int) p24 ql24
                                replace ql24 := eq_true ql24
                                replace p24 := eq_true p24
                                replace q24 := eq_true q24
                                have HP104 := Kd.R_putg HO_3.out ((bt t438 0) : Int) true
                                go_wp2_with (first | ((with_reducible refine gate_store (t := 4) (p := 42) rfl ?_); refine store_event (t := 4) (p := 42) (v := ?vo_w105) (w1 := (wc.setCell ⟨w.heap.size, ((bt t438 0) : Int).toNat, none⟩ (.bool true))) ?hg ?ho ?hn ?hr ?_; (case ho => rfl); (case hg => rfl); (case hn => rfl); (case hr => first | (go_simp; done) | (go_simp; rfl)); intro w105 hw; have hg : wc.grownBy w105 (some w.heap.size) := (by rw [hw]; exact HP104.2); have hp_ : Kd.R Kd.bool 50 w105 w.heap.size (fun _ => True) (.slice (some ⟨w.heap.size, 0, none⟩) 256 256) y441 := (by rw [hw, Ny441.out]; exact HP104.1); clear HP104; have n0_ := Aside0.mk (hp_); have n1_ := Aside0.mk ((by rw [hw]; exact below_set (HB.out) GB24.out : Below w.heap.size w w105)); clear HO_3; clear HB; have HO_3 := n0_; have HB := n1_; clear n0_ n1_; clear hg hw hp_; have p99 : 0 ≤ (0 : Int) := (by omega); have q99 : 0 < t438.size := (by have : (0 : Int) < (t438.size : Int) := of_decide_eq_true (by first | (with_reducible assumption) | assumption); omega); have hx99 : ∀ h : 0 < t438.size, ((t438[0]'h).toNat : Int) = bt t438 0 := bt_at t438 0; clear p99; have qi99 : (0 < (t438.size : Int)) = True := eq_true (of_decide_eq_true (by first | (with_reducible assumption) | assumption)); replace q99 := eq_true q99; have p103 : 0 ≤ (0 : Int) := (by omega); have q103 : 0 < t438.size := (by have : (0 : Int) < (t438.size : Int) := of_decide_eq_true (by first | (with_reducible assumption) | assumption); omega); have hx103 : ∀ h : 0 < t438.size, ((t438[0]'h).toNat : Int) = bt t438 0 := bt_at t438 0; clear p103; have qi103 : (0 < (t438.size : Int)) = True := eq_true (of_decide_eq_true (by first | (with_reducible assumption) | assumption)); replace q103 := eq_true q103))
                                go_roundg kj6
                                case measure => have := HK1.out; have := HJ6.out; omega
                                case rel => exact ⟨(y441), (bt t438 0), (wrap64 (x5_1 + 1)), (by first | rfl | (simp; done) | (simp [*]; done)), (by first | rfl | (simp; done) | (simp [*]; done)), H', ⟨by have := HK1.out; have := HJ6.out; omega⟩, ⟨by (with_reducible repeat (first | apply Kd.R_alloc | apply Kd.R_drewN | apply Kd.R_drew)); exact HO_3.out⟩, ⟨by repeat (first | (with_reducible first | exact HB.out | apply below_alloc | apply pw_below_drewN | apply below_drew1) | exact HB.out)⟩⟩
                            · rw [if_neg c98] at H
                              have c98b0 : decide (x5_1 ≤ 122) = false := decide_eq_false c98
                              clear c98
                              have H' := Aside0.mk H
                              clear H
                              have p21 : 0 ≤ (0 : Int) := (by omega)
                              have q21 : 0 < t438.size := (by have : (0 : Int) < (t438.size : Int) := of_decide_eq_true (by first | (with_reducible assumption) | assumption); omega)
                              have hx21 : ∀ h : 0 < t438.size, ((t438[0]'h).toNat : Int) = bt t438 0 := bt_at t438 0
                              clear p21
                              have qi21 : (0 < (t438.size : Int)) = True := eq_true (of_decide_eq_true (by first | (with_reducible assumption) | assumption))
                              replace q21 := eq_true q21
                              have p24 : 0 ≤ ((bt t438 0) : Int) := of_decide_eq_true (by first | (with_reducible assumption) | assumption)
                              have q24 : ((bt t438 0) : Int) < ((x3_1.length : Int) : Int) := of_decide_eq_true (by first | (with_reducible assumption) | assumption)
                              have ql24 : ((bt t438 0) : Int) < (256 : Int) := by have h_ := (Kd.R_reads' HO_3.out).1; omega
                              have GB24 := Aside0.mk (Nat.le_refl w.heap.size)
                              obtain ⟨hx24_0, hf24_0⟩ := Kd.R_celln false HO_3.out ((bt t438 0) : Int) p24 ql24
                              replace ql24 := eq_true ql24
                              replace p24 := eq_true p24
                              replace q24 := eq_true q24
                              have HP107 := Kd.R_putg HO_3.out ((bt t438 0) : Int) true
                              go_wp2_with (first | ((with_reducible refine gate_store (t := 4) (p := 42) rfl ?_); refine store_event (t := 4) (p := 42) (v := ?vo_w108) (w1 := (wc.setCell ⟨w.heap.size, ((bt t438 0) : Int).toNat, none⟩ (.bool true))) ?hg ?ho ?hn ?hr ?_; (case ho => rfl); (case hg => rfl); (case hn => rfl); (case hr => first | (go_simp; done) | (go_simp; rfl)); intro w108 hw; have hg : wc.grownBy w108 (some w.heap.size) := (by rw [hw]; exact HP107.2); have hp_ : Kd.R Kd.bool 50 w108 w.heap.size (fun _ => True) (.slice (some ⟨w.heap.size, 0, none⟩) 256 256) y441 := (by rw [hw, Ny441.out]; exact HP107.1); clear HP107; have n0_ := Aside0.mk (hp_); have n1_ := Aside0.mk ((by rw [hw]; exact below_set (HB.out) GB24.out : Below w.heap.size w w108)); clear HO_3; clear HB; have HO_3 := n0_; have HB := n1_; clear n0_ n1_; clear hg hw hp_; have p106 : 0 ≤ (0 : Int) := (by omega); have q106 : 0 < t438.size := (by have : (0 : Int) < (t438.size : Int) := of_decide_eq_true (by first | (with_reducible assumption) | assumption); omega); have hx106 : ∀ h : 0 < t438.size, ((t438[0]'h).toNat : Int) = bt t438 0 := bt_at t438 0; clear p106; have qi106 : (0 < (t438.size : Int)) = True := eq_true (of_decide_eq_true (by first | (with_reducible assumption) | assumption)); replace q106 := eq_true q106))
                              go_roundg kj6
                              case measure => have := HK1.out; have := HJ6.out; omega
                              case rel => exact ⟨(y441), (bt t438 0), (wrap64 (x5_1 + 1)), (by first | rfl | (simp; done) | (simp [*]; done)), (by first | rfl | (simp; done) | (simp [*]; done)), H', ⟨by have := HK1.out; have := HJ6.out; omega⟩, ⟨by (with_reducible repeat (first | apply Kd.R_alloc | apply Kd.R_drewN | apply Kd.R_drew)); exact HO_3.out⟩, ⟨by repeat (first | (with_reducible first | exact HB.out | apply below_alloc | apply pw_below_drewN | apply below_drew1) | exact HB.out)⟩⟩
                          · rw [if_neg c97] at H
                            have c97b0 : decide (97 < x5_1) = false := decide_eq_false c97
                            clear c97
                            have H' := Aside0.mk H
                            clear H
                            have p21 : 0 ≤ (0 : Int) := (by omega)
                            have q21 : 0 < t438.size := (by have : (0 : Int) < (t438.size : Int) := of_decide_eq_true (by first | (with_reducible assumption) | assumption); omega)
                            have hx21 : ∀ h : 0 < t438.size, ((t438[0]'h).toNat : Int) = bt t438 0 := bt_at t438 0
                            clear p21
                            have qi21 : (0 < (t438.size : Int)) = True := eq_true (of_decide_eq_true (by first | (with_reducible assumption) | assumption))
                            replace q21 := eq_true q21
                            have p24 : 0 ≤ ((bt t438 0) : Int) := of_decide_eq_true (by first | (with_reducible assumption) | assumption)
                            have q24 : ((bt t438 0) : Int) < ((x3_1.length : Int) : Int) := of_decide_eq_true (by first | (with_reducible assumption) | assumption)
                            have ql24 : ((bt t438 0) : Int) < (256 : Int) := by have h_ := (Kd.R_reads' HO_3.out).1; omega
                            have GB24 := Aside0.mk (Nat.le_refl w.heap.size)
                            obtain ⟨hx24_0, hf24_0⟩ := Kd.R_celln false HO_3.out ((bt t438 0) : Int) p24 ql24
                            replace ql24 := eq_true ql24
                            replace p24 := eq_true p24
                            replace q24 := eq_true q24
                            have HP110 := Kd.R_putg HO_3.out ((bt t438 0) : Int) true
                            go_wp2_with (first | ((with_reducible refine gate_store (t := 4) (p := 42) rfl ?_); refine store_event (t := 4) (p := 42) (v := ?vo_w111) (w1 := (wc.setCell ⟨w.heap.size, ((bt t438 0) : Int).toNat, none⟩ (.bool true))) ?hg ?ho ?hn ?hr ?_; (case ho => rfl); (case hg => rfl); (case hn => rfl); (case hr => first | (go_simp; done) | (go_simp; rfl)); intro w111 hw; have hg : wc.grownBy w111 (some w.heap.size) := (by rw [hw]; exact HP110.2); have hp_ : Kd.R Kd.bool 50 w111 w.heap.size (fun _ => True) (.slice (some ⟨w.heap.size, 0, none⟩) 256 256) y441 := (by rw [hw, Ny441.out]; exact HP110.1); clear HP110; have n0_ := Aside0.mk (hp_); have n1_ := Aside0.mk ((by rw [hw]; exact below_set (HB.out) GB24.out : Below w.heap.size w w111)); clear HO_3; clear HB; have HO_3 := n0_; have HB := n1_; clear n0_ n1_; clear hg hw hp_; have p109 : 0 ≤ (0 : Int) := (by omega); have q109 : 0 < t438.size := (by have : (0 : Int) < (t438.size : Int) := of_decide_eq_true (by first | (with_reducible assumption) | assumption); omega); have hx109 : ∀ h : 0 < t438.size, ((t438[0]'h).toNat : Int) = bt t438 0 := bt_at t438 0; clear p109; have qi109 : (0 < (t438.size : Int)) = True := eq_true (of_decide_eq_true (by first | (with_reducible assumption) | assumption)); replace q109 := eq_true q109))
                            go_roundg kj6
                            case measure => have := HK1.out; have := HJ6.out; omega
                            case rel => exact ⟨(y441), (bt t438 0), (wrap64 (x5_1 + 1)), (by first | rfl | (simp; done) | (simp [*]; done)), (by first | rfl | (simp; done) | (simp [*]; done)), H', ⟨by have := HK1.out; have := HJ6.out; omega⟩, ⟨by (with_reducible repeat (first | apply Kd.R_alloc | apply Kd.R_drewN | apply Kd.R_drew)); exact HO_3.out⟩, ⟨by repeat (first | (with_reducible first | exact HB.out | apply below_alloc | apply pw_below_drewN | apply below_drew1) | exact HB.out)⟩⟩
                    · rw [if_neg c23] at H
                      exact absurd H (by simp)
                  · rw [if_neg c22] at H
                    exact absurd H (by simp)
                · rw [if_neg c20] at H
                  exact absurd H (by simp)
        · rw [if_neg c5] at H
          have c5b0 : decide (x5_1 ≤ 126) = false := decide_eq_false c5
          clear c5
          replace H := Option.bind_eq_some_iff.mp H
          obtain ⟨t442, A1120, H⟩ := H
          replace H : ((digits_Unpack.f k1 4 (strOfNums (([(t442) % 256] : List Int))) 1).bind fun bt446 => (if 0 ≤ t442 then (if t442 < (x3_1.length : Int) then (if rdOf false x3_1 t442 = true then ((digits_Pack.f k1 4 bt446.1).bind fun bt450 => (if bt446.2.1 = 0 then (if (bt446.1.size : Int) = 1 then (if bt450.2 = 0 then (some (bt450.1.toList == (strOfNums (([(t442) % 256] : List Int))).toList)) else (some false)) else (some false)) else (some false))) else (if bt446.1.toList = ([] : List UInt8) then (if bt446.2.1 = 11 then (some (bt446.2.2 == 0)) else (some false)) else (some false))) else (none)) else (none))) = some r := H
          have A112 := Aside0.mk A1120
          clear A1120
          obtain ⟨y443, hy443⟩ : ∃ y_ : List Int, y_ = (([(t442) % 256] : List Int)) := ⟨_, rfl⟩
          replace H : ((digits_Unpack.f k1 4 (strOfNums y443) 1).bind fun bt446 => (if 0 ≤ t442 then (if t442 < (x3_1.length : Int) then (if rdOf false x3_1 t442 = true then ((digits_Pack.f k1 4 bt446.1).bind fun bt450 => (if bt446.2.1 = 0 then (if (bt446.1.size : Int) = 1 then (if bt450.2 = 0 then (some (bt450.1.toList == (strOfNums (([(t442) % 256] : List Int))).toList)) else (some false)) else (some false)) else (some false))) else (if bt446.1.toList = ([] : List UInt8) then (if bt446.2.1 = 11 then (some (bt446.2.2 == 0)) else (some false)) else (some false))) else (none)) else (none))) = some r := by first | (rw [hy443]; with_reducible exact H) | (have H2_ := (Option.bind_some _ _).symm.trans H; rw [hy443]; with_reducible exact H2_) | (have H2_ := (Option.bind_some _ _).symm.trans H; with_reducible exact H2_) | with_reducible exact H | (rw [hy443]; exact H) | exact H
          have Ny443 := Aside0.mk hy443
          clear hy443
          replace H := Option.bind_eq_some_iff.mp H
          obtain ⟨⟨t446, t447, t448⟩, A1130, H⟩ := H
          replace H : (if 0 ≤ t442 then (if t442 < (x3_1.length : Int) then (if rdOf false x3_1 t442 = true then ((digits_Pack.f k1 4 t446).bind fun bt450 => (if t447 = 0 then (if (t446.size : Int) = 1 then (if bt450.2 = 0 then (some (bt450.1.toList == (strOfNums (([(t442) % 256] : List Int))).toList)) else (some false)) else (some false)) else (some false))) else (if t446.toList = ([] : List UInt8) then (if t447 = 11 then (some (t448 == 0)) else (some false)) else (some false))) else (none)) else (none)) = some r := H
          have A113 := Aside0.mk A1130
          clear A1130
          by_cases c114 : 0 ≤ t442
          · rw [if_pos c114] at H
            have c114b0 : decide (0 ≤ t442) = true := decide_eq_true c114
            clear c114
            by_cases c115 : t442 < (x3_1.length : Int)
            · rw [if_pos c115] at H
              have c115b0 : decide (t442 < (x3_1.length : Int)) = true := decide_eq_true c115
              clear c115
              obtain ⟨bq116, hbq116⟩ : ∃ b_ : Bool, b_ = (rdOf false x3_1 t442) := ⟨_, rfl⟩
              replace H : (if bq116 = true then ((digits_Pack.f k1 4 t446).bind fun bt450 => (if t447 = 0 then (if (t446.size : Int) = 1 then (if bt450.2 = 0 then (some (bt450.1.toList == (strOfNums (([(t442) % 256] : List Int))).toList)) else (some false)) else (some false)) else (some false))) else (if t446.toList = ([] : List UInt8) then (if t447 = 11 then (some (t448 == 0)) else (some false)) else (some false))) = some r := by rw [← hbq116] at H; exact H
              have Nbq116 := Aside0.mk hbq116
              clear hbq116
              by_cases c117 : bq116 = true
              · subst c117
                have H1 : ((digits_Pack.f k1 4 t446).bind fun bt450 => (if t447 = 0 then (if (t446.size : Int) = 1 then (if bt450.2 = 0 then (some (bt450.1.toList == (strOfNums (([(t442) % 256] : List Int))).toList)) else (some false)) else (some false)) else (some false))) = some r := by rw [if_pos rfl] at H; exact H
                clear H
                have H := H1
                clear H1
                replace H := Option.bind_eq_some_iff.mp H
                obtain ⟨⟨t450, t451⟩, A1180, H⟩ := H
                replace H : (if t447 = 0 then (if (t446.size : Int) = 1 then (if t451 = 0 then (some (t450.toList == (strOfNums (([(t442) % 256] : List Int))).toList)) else (some false)) else (some false)) else (some false)) = some r := H
                have A118 := Aside0.mk A1180
                clear A1180
                by_cases c119 : t447 = 0
                · rw [if_pos c119] at H
                  have c119b0 : (t447 == 0) = true := beq_iff_eq.mpr c119
                  have c119b1 : (t447 != 0) = false := bne_eq_false_iff_eq.mpr c119
                  clear c119
                  by_cases c120 : (t446.size : Int) = 1
                  · rw [if_pos c120] at H
                    have c120b0 : ((t446.size : Int) == 1) = true := beq_iff_eq.mpr c120
                    have c120b1 : ((t446.size : Int) != 1) = false := bne_eq_false_iff_eq.mpr c120
                    clear c120
                    by_cases c121 : t451 = 0
                    · rw [if_pos c121] at H
                      have c121b0 : (t451 == 0) = true := beq_iff_eq.mpr c121
                      have c121b1 : (t451 != 0) = false := bne_eq_false_iff_eq.mpr c121
                      clear c121
                      obtain ⟨y452, hy452⟩ : ∃ y_ : List Int, y_ = (([(t442) % 256] : List Int)) := ⟨_, rfl⟩
                      replace H : (some (t450.toList == (strOfNums y452).toList)) = some r := by first | (rw [hy452]; with_reducible exact H) | (have H2_ := (Option.bind_some _ _).symm.trans H; rw [hy452]; with_reducible exact H2_) | (have H2_ := (Option.bind_some _ _).symm.trans H; with_reducible exact H2_) | with_reducible exact H | (rw [hy452]; exact H) | exact H
                      have Ny452 := Aside0.mk hy452
                      clear hy452
                      obtain rfl := Option.some.inj H
                      go_wp2_with (first | ((with_reducible refine gate_callee (f := 19) rfl ?_); refine goesL_ (some 75) rfl rfl Try.func19 (by kernel_rfl) rfl #[.int .i64 a0, .int .i64 256] rfl (by (try simp only [List.map_toArray, List.map_cons, List.map_nil]); first | done | rfl | (simp only [List.length_drop, List.length_take]; rfl)) ?_; (with_reducible refine (turnstilelaw1_pick.calls a0 256 t442 _ A112.out).mono ?_); rintro e w' ⟨rfl, ⟨nd, rfl⟩⟩; refine ⟨_, rfl, ?_⟩) | ((with_reducible refine gate_dst (N := 79) rfl ?_); (try (refine gate_guard (by rfl) ?_; dsimp only)); refine Kd.R_lit (Kd.int .u8) _ 5 ?hg (N := 79) ?hd (xs := ([(t442) % 256] : List Int)) (inner := [.int .u8 ((t442) % 256)]) (ok := fun _ => True) (okp := fun _ => True) ?hr ?hp (fun _ hk => hk) trivial (Below.refl _ _) (Nat.le_refl _) (by simp) ?_; (case hd => rfl); (case hg => rfl); (case hr => first | (go_simp; done) | (go_simp; rfl)); (case hp => exact (Reps.one (show Kd.M (Kd.int .u8) _ _ _ ((t442) % 256) [.int .u8 ((t442) % 256)] from rfl) (Reps.none _ _))); intro v444 w122 ho123 hb hg_ hnew_; clear hg_ hnew_; (first | rw [← Ny443.out] at ho123 | (simp only [Int.reduceToNat] at ho123; rw [← Ny443.out] at ho123)); have n0_ := Aside0.mk (Kd.R_below (by (with_reducible repeat (first | apply Kd.R_alloc | apply Kd.R_drewN | apply Kd.R_drew)); exact HO_3.out) hb); have n1_ := Aside0.mk (Kd.R_lower ho123 (below_size (by repeat (first | (with_reducible first | exact HB.out | apply below_alloc | apply pw_below_drewN | apply below_drew1) | exact HB.out)))); have n2_ := Aside0.mk (below_step (by repeat (first | (with_reducible first | exact HB.out | apply below_alloc | apply pw_below_drewN | apply below_drew1) | exact HB.out)) hb); clear HO_3; clear HB; have HO_3 := n0_; have HO445 := n1_; have HB := n2_; clear n0_ n1_ n2_; clear hb ho123; have hcv124 := own_string (P := Try.prog) Try.underlying51 Try.underlying5 Try.underlying9 (Kd.own_of_R HO445.out)) | ((with_reducible refine gate_callee (f := 34) rfl ?_); refine goesL_ (some 81) rfl rfl Try.func34 (by kernel_rfl) rfl #[.int .i64 4, .string (strOfNums y443), .int .i64 1] rfl (by (try simp only [List.map_toArray, List.map_cons, List.map_nil]); first | done | rfl | (simp only [List.length_drop, List.length_take]; rfl)) ?_; (with_reducible refine (digits_Unpack.calls k1 4 (strOfNums y443) 1 t446 t447 t448 _ A113.out).mono ?_); rintro e w125 ⟨rfl, hb⟩; refine ⟨_, rfl, ?_⟩; have n0_ := Aside0.mk (Kd.R_below (by (with_reducible repeat (first | apply Kd.R_alloc | apply Kd.R_drewN | apply Kd.R_drew)); exact HO_3.out) hb); have n1_ := Aside0.mk (Kd.R_below (by (with_reducible repeat (first | apply Kd.R_alloc | apply Kd.R_drewN | apply Kd.R_drew)); exact HO445.out) hb); have n2_ := Aside0.mk (below_step (by repeat (first | (with_reducible first | exact HB.out | apply below_alloc | apply pw_below_drewN | apply below_drew1) | exact HB.out)) hb); clear HO_3; clear HO445; clear HB; have HO_3 := n0_; have HO445 := n1_; have HB := n2_; clear n0_ n1_ n2_; (try clear hb); (try clear hb2); (try clear hk); (try clear hi); have p449 : 0 ≤ (t442 : Int) := of_decide_eq_true (by first | (with_reducible assumption) | assumption); have q449 : t442 < (x3_1.length : Int) := of_decide_eq_true (by first | (with_reducible assumption) | assumption); have ql449 : t442 < (256 : Int) := (by have h_ := (Kd.R_reads' HO_3.out).1; omega); obtain ⟨hx449_0, hf449_0⟩ := Kd.R_celln false HO_3.out t442 p449 ql449; (try rw [← Nbq116.out] at hx449_0); replace ql449 := eq_true ql449; replace p449 := eq_true p449; replace q449 := eq_true q449) | ((with_reducible refine gate_callee (f := 32) rfl ?_); refine goesL_ (some 101) rfl rfl Try.func32 (by kernel_rfl) rfl #[.int .i64 4, .string t446] rfl (by (try simp only [List.map_toArray, List.map_cons, List.map_nil]); first | done | rfl | (simp only [List.length_drop, List.length_take]; rfl)) ?_; (with_reducible refine (digits_Pack.calls k1 4 t446 t450 t451 _ A118.out).mono ?_); rintro e w127 ⟨rfl, hb⟩; refine ⟨_, rfl, ?_⟩; have n0_ := Aside0.mk (Kd.R_below (by (with_reducible repeat (first | apply Kd.R_alloc | apply Kd.R_drewN | apply Kd.R_drew)); exact HO_3.out) hb); have n1_ := Aside0.mk (Kd.R_below (by (with_reducible repeat (first | apply Kd.R_alloc | apply Kd.R_drewN | apply Kd.R_drew)); exact HO445.out) hb); have n2_ := Aside0.mk (below_step (by repeat (first | (with_reducible first | exact HB.out | apply below_alloc | apply pw_below_drewN | apply below_drew1) | exact HB.out)) hb); clear HO_3; clear HO445; clear HB; have HO_3 := n0_; have HO445 := n1_; have HB := n2_; clear n0_ n1_ n2_; (try clear hb); (try clear hb2); (try clear hk); (try clear hi)) | ((with_reducible refine gate_dst (N := 119) rfl ?_); (try (refine gate_guard (by rfl) ?_; dsimp only)); refine Kd.R_lit (Kd.int .u8) _ 5 ?hg (N := 119) ?hd (xs := ([(t442) % 256] : List Int)) (inner := [.int .u8 ((t442) % 256)]) (ok := fun _ => True) (okp := fun _ => True) ?hr ?hp (fun _ hk => hk) trivial (Below.refl _ _) (Nat.le_refl _) (by simp) ?_; (case hd => rfl); (case hg => rfl); (case hr => first | (go_simp; done) | (go_simp; rfl)); (case hp => exact (Reps.one (show Kd.M (Kd.int .u8) _ _ _ ((t442) % 256) [.int .u8 ((t442) % 256)] from rfl) (Reps.none _ _))); intro v453 w128 ho129 hb hg_ hnew_; clear hg_ hnew_; (first | rw [← Ny452.out] at ho129 | (simp only [Int.reduceToNat] at ho129; rw [← Ny452.out] at ho129)); have n0_ := Aside0.mk (Kd.R_below (by (with_reducible repeat (first | apply Kd.R_alloc | apply Kd.R_drewN | apply Kd.R_drew)); exact HO_3.out) hb); have n1_ := Aside0.mk (Kd.R_elder' (by (with_reducible repeat (first | apply Kd.R_alloc | apply Kd.R_drewN | apply Kd.R_drew)); exact HO445.out) (Kd.R_base ho129) hb); have n2_ := Aside0.mk (Kd.R_lower (Kd.R_new' ho129 (Kd.R_lt (by (with_reducible repeat (first | apply Kd.R_alloc | apply Kd.R_drewN | apply Kd.R_drew)); exact HO445.out))) (below_size (by repeat (first | (with_reducible first | exact HB.out | apply below_alloc | apply pw_below_drewN | apply below_drew1) | exact HB.out)))); have n3_ := Aside0.mk (below_step (by repeat (first | (with_reducible first | exact HB.out | apply below_alloc | apply pw_below_drewN | apply below_drew1) | exact HB.out)) hb); clear HO_3; clear HO445; clear HB; have HO_3 := n0_; have HO445 := n1_; have HO454 := n2_; have HB := n3_; clear n0_ n1_ n2_ n3_; clear hb ho129; have hcv130 := own_string (P := Try.prog) Try.underlying51 Try.underlying5 Try.underlying9 (Kd.own_of_R HO454.out)))
                      go_ret
                      exact ⟨by first | rfl | (simp [errW_none, errW_some] <;> rfl) | (simp [*, errW_none, errW_some] <;> rfl), by repeat (first | (with_reducible first | exact HB.out | apply below_alloc | apply pw_below_drewN | apply below_drew1) | exact HB.out)⟩
                    · rw [if_neg c121] at H
                      have c121b0 : (t451 == 0) = false := beq_eq_false_iff_ne.mpr c121
                      have c121b1 : (t451 != 0) = true := bne_iff_ne.mpr c121
                      obtain rfl := Option.some.inj H
                      go_wp2_with (first | ((with_reducible refine gate_callee (f := 19) rfl ?_); refine goesL_ (some 75) rfl rfl Try.func19 (by kernel_rfl) rfl #[.int .i64 a0, .int .i64 256] rfl (by (try simp only [List.map_toArray, List.map_cons, List.map_nil]); first | done | rfl | (simp only [List.length_drop, List.length_take]; rfl)) ?_; (with_reducible refine (turnstilelaw1_pick.calls a0 256 t442 _ A112.out).mono ?_); rintro e w' ⟨rfl, ⟨nd, rfl⟩⟩; refine ⟨_, rfl, ?_⟩) | ((with_reducible refine gate_dst (N := 79) rfl ?_); (try (refine gate_guard (by rfl) ?_; dsimp only)); refine Kd.R_lit (Kd.int .u8) _ 5 ?hg (N := 79) ?hd (xs := ([(t442) % 256] : List Int)) (inner := [.int .u8 ((t442) % 256)]) (ok := fun _ => True) (okp := fun _ => True) ?hr ?hp (fun _ hk => hk) trivial (Below.refl _ _) (Nat.le_refl _) (by simp) ?_; (case hd => rfl); (case hg => rfl); (case hr => first | (go_simp; done) | (go_simp; rfl)); (case hp => exact (Reps.one (show Kd.M (Kd.int .u8) _ _ _ ((t442) % 256) [.int .u8 ((t442) % 256)] from rfl) (Reps.none _ _))); intro v444 w131 ho132 hb hg_ hnew_; clear hg_ hnew_; (first | rw [← Ny443.out] at ho132 | (simp only [Int.reduceToNat] at ho132; rw [← Ny443.out] at ho132)); have n0_ := Aside0.mk (Kd.R_below (by (with_reducible repeat (first | apply Kd.R_alloc | apply Kd.R_drewN | apply Kd.R_drew)); exact HO_3.out) hb); have n1_ := Aside0.mk (Kd.R_lower ho132 (below_size (by repeat (first | (with_reducible first | exact HB.out | apply below_alloc | apply pw_below_drewN | apply below_drew1) | exact HB.out)))); have n2_ := Aside0.mk (below_step (by repeat (first | (with_reducible first | exact HB.out | apply below_alloc | apply pw_below_drewN | apply below_drew1) | exact HB.out)) hb); clear HO_3; clear HB; have HO_3 := n0_; have HO445 := n1_; have HB := n2_; clear n0_ n1_ n2_; clear hb ho132; have hcv133 := own_string (P := Try.prog) Try.underlying51 Try.underlying5 Try.underlying9 (Kd.own_of_R HO445.out)) | ((with_reducible refine gate_callee (f := 34) rfl ?_); refine goesL_ (some 81) rfl rfl Try.func34 (by kernel_rfl) rfl #[.int .i64 4, .string (strOfNums y443), .int .i64 1] rfl (by (try simp only [List.map_toArray, List.map_cons, List.map_nil]); first | done | rfl | (simp only [List.length_drop, List.length_take]; rfl)) ?_; (with_reducible refine (digits_Unpack.calls k1 4 (strOfNums y443) 1 t446 t447 t448 _ A113.out).mono ?_); rintro e w134 ⟨rfl, hb⟩; refine ⟨_, rfl, ?_⟩; have n0_ := Aside0.mk (Kd.R_below (by (with_reducible repeat (first | apply Kd.R_alloc | apply Kd.R_drewN | apply Kd.R_drew)); exact HO_3.out) hb); have n1_ := Aside0.mk (Kd.R_below (by (with_reducible repeat (first | apply Kd.R_alloc | apply Kd.R_drewN | apply Kd.R_drew)); exact HO445.out) hb); have n2_ := Aside0.mk (below_step (by repeat (first | (with_reducible first | exact HB.out | apply below_alloc | apply pw_below_drewN | apply below_drew1) | exact HB.out)) hb); clear HO_3; clear HO445; clear HB; have HO_3 := n0_; have HO445 := n1_; have HB := n2_; clear n0_ n1_ n2_; (try clear hb); (try clear hb2); (try clear hk); (try clear hi); have p449 : 0 ≤ (t442 : Int) := of_decide_eq_true (by first | (with_reducible assumption) | assumption); have q449 : t442 < (x3_1.length : Int) := of_decide_eq_true (by first | (with_reducible assumption) | assumption); have ql449 : t442 < (256 : Int) := (by have h_ := (Kd.R_reads' HO_3.out).1; omega); obtain ⟨hx449_0, hf449_0⟩ := Kd.R_celln false HO_3.out t442 p449 ql449; (try rw [← Nbq116.out] at hx449_0); replace ql449 := eq_true ql449; replace p449 := eq_true p449; replace q449 := eq_true q449) | ((with_reducible refine gate_callee (f := 32) rfl ?_); refine goesL_ (some 101) rfl rfl Try.func32 (by kernel_rfl) rfl #[.int .i64 4, .string t446] rfl (by (try simp only [List.map_toArray, List.map_cons, List.map_nil]); first | done | rfl | (simp only [List.length_drop, List.length_take]; rfl)) ?_; (with_reducible refine (digits_Pack.calls k1 4 t446 t450 t451 _ A118.out).mono ?_); rintro e w136 ⟨rfl, hb⟩; refine ⟨_, rfl, ?_⟩; have n0_ := Aside0.mk (Kd.R_below (by (with_reducible repeat (first | apply Kd.R_alloc | apply Kd.R_drewN | apply Kd.R_drew)); exact HO_3.out) hb); have n1_ := Aside0.mk (Kd.R_below (by (with_reducible repeat (first | apply Kd.R_alloc | apply Kd.R_drewN | apply Kd.R_drew)); exact HO445.out) hb); have n2_ := Aside0.mk (below_step (by repeat (first | (with_reducible first | exact HB.out | apply below_alloc | apply pw_below_drewN | apply below_drew1) | exact HB.out)) hb); clear HO_3; clear HO445; clear HB; have HO_3 := n0_; have HO445 := n1_; have HB := n2_; clear n0_ n1_ n2_; (try clear hb); (try clear hb2); (try clear hk); (try clear hi)))
                      go_ret
                      exact ⟨by first | rfl | (simp [errW_none, errW_some] <;> rfl) | (simp [*, errW_none, errW_some] <;> rfl), by repeat (first | (with_reducible first | exact HB.out | apply below_alloc | apply pw_below_drewN | apply below_drew1) | exact HB.out)⟩
                  · rw [if_neg c120] at H
                    have c120b0 : ((t446.size : Int) == 1) = false := beq_eq_false_iff_ne.mpr c120
                    have c120b1 : ((t446.size : Int) != 1) = true := bne_iff_ne.mpr c120
                    obtain rfl := Option.some.inj H
                    go_wp2_with (first | ((with_reducible refine gate_callee (f := 19) rfl ?_); refine goesL_ (some 75) rfl rfl Try.func19 (by kernel_rfl) rfl #[.int .i64 a0, .int .i64 256] rfl (by (try simp only [List.map_toArray, List.map_cons, List.map_nil]); first | done | rfl | (simp only [List.length_drop, List.length_take]; rfl)) ?_; (with_reducible refine (turnstilelaw1_pick.calls a0 256 t442 _ A112.out).mono ?_); rintro e w' ⟨rfl, ⟨nd, rfl⟩⟩; refine ⟨_, rfl, ?_⟩) | ((with_reducible refine gate_dst (N := 79) rfl ?_); (try (refine gate_guard (by rfl) ?_; dsimp only)); refine Kd.R_lit (Kd.int .u8) _ 5 ?hg (N := 79) ?hd (xs := ([(t442) % 256] : List Int)) (inner := [.int .u8 ((t442) % 256)]) (ok := fun _ => True) (okp := fun _ => True) ?hr ?hp (fun _ hk => hk) trivial (Below.refl _ _) (Nat.le_refl _) (by simp) ?_; (case hd => rfl); (case hg => rfl); (case hr => first | (go_simp; done) | (go_simp; rfl)); (case hp => exact (Reps.one (show Kd.M (Kd.int .u8) _ _ _ ((t442) % 256) [.int .u8 ((t442) % 256)] from rfl) (Reps.none _ _))); intro v444 w137 ho138 hb hg_ hnew_; clear hg_ hnew_; (first | rw [← Ny443.out] at ho138 | (simp only [Int.reduceToNat] at ho138; rw [← Ny443.out] at ho138)); have n0_ := Aside0.mk (Kd.R_below (by (with_reducible repeat (first | apply Kd.R_alloc | apply Kd.R_drewN | apply Kd.R_drew)); exact HO_3.out) hb); have n1_ := Aside0.mk (Kd.R_lower ho138 (below_size (by repeat (first | (with_reducible first | exact HB.out | apply below_alloc | apply pw_below_drewN | apply below_drew1) | exact HB.out)))); have n2_ := Aside0.mk (below_step (by repeat (first | (with_reducible first | exact HB.out | apply below_alloc | apply pw_below_drewN | apply below_drew1) | exact HB.out)) hb); clear HO_3; clear HB; have HO_3 := n0_; have HO445 := n1_; have HB := n2_; clear n0_ n1_ n2_; clear hb ho138; have hcv139 := own_string (P := Try.prog) Try.underlying51 Try.underlying5 Try.underlying9 (Kd.own_of_R HO445.out)) | ((with_reducible refine gate_callee (f := 34) rfl ?_); refine goesL_ (some 81) rfl rfl Try.func34 (by kernel_rfl) rfl #[.int .i64 4, .string (strOfNums y443), .int .i64 1] rfl (by (try simp only [List.map_toArray, List.map_cons, List.map_nil]); first | done | rfl | (simp only [List.length_drop, List.length_take]; rfl)) ?_; (with_reducible refine (digits_Unpack.calls k1 4 (strOfNums y443) 1 t446 t447 t448 _ A113.out).mono ?_); rintro e w140 ⟨rfl, hb⟩; refine ⟨_, rfl, ?_⟩; have n0_ := Aside0.mk (Kd.R_below (by (with_reducible repeat (first | apply Kd.R_alloc | apply Kd.R_drewN | apply Kd.R_drew)); exact HO_3.out) hb); have n1_ := Aside0.mk (Kd.R_below (by (with_reducible repeat (first | apply Kd.R_alloc | apply Kd.R_drewN | apply Kd.R_drew)); exact HO445.out) hb); have n2_ := Aside0.mk (below_step (by repeat (first | (with_reducible first | exact HB.out | apply below_alloc | apply pw_below_drewN | apply below_drew1) | exact HB.out)) hb); clear HO_3; clear HO445; clear HB; have HO_3 := n0_; have HO445 := n1_; have HB := n2_; clear n0_ n1_ n2_; (try clear hb); (try clear hb2); (try clear hk); (try clear hi); have p449 : 0 ≤ (t442 : Int) := of_decide_eq_true (by first | (with_reducible assumption) | assumption); have q449 : t442 < (x3_1.length : Int) := of_decide_eq_true (by first | (with_reducible assumption) | assumption); have ql449 : t442 < (256 : Int) := (by have h_ := (Kd.R_reads' HO_3.out).1; omega); obtain ⟨hx449_0, hf449_0⟩ := Kd.R_celln false HO_3.out t442 p449 ql449; (try rw [← Nbq116.out] at hx449_0); replace ql449 := eq_true ql449; replace p449 := eq_true p449; replace q449 := eq_true q449) | ((with_reducible refine gate_callee (f := 32) rfl ?_); refine goesL_ (some 101) rfl rfl Try.func32 (by kernel_rfl) rfl #[.int .i64 4, .string t446] rfl (by (try simp only [List.map_toArray, List.map_cons, List.map_nil]); first | done | rfl | (simp only [List.length_drop, List.length_take]; rfl)) ?_; (with_reducible refine (digits_Pack.calls k1 4 t446 t450 t451 _ A118.out).mono ?_); rintro e w142 ⟨rfl, hb⟩; refine ⟨_, rfl, ?_⟩; have n0_ := Aside0.mk (Kd.R_below (by (with_reducible repeat (first | apply Kd.R_alloc | apply Kd.R_drewN | apply Kd.R_drew)); exact HO_3.out) hb); have n1_ := Aside0.mk (Kd.R_below (by (with_reducible repeat (first | apply Kd.R_alloc | apply Kd.R_drewN | apply Kd.R_drew)); exact HO445.out) hb); have n2_ := Aside0.mk (below_step (by repeat (first | (with_reducible first | exact HB.out | apply below_alloc | apply pw_below_drewN | apply below_drew1) | exact HB.out)) hb); clear HO_3; clear HO445; clear HB; have HO_3 := n0_; have HO445 := n1_; have HB := n2_; clear n0_ n1_ n2_; (try clear hb); (try clear hb2); (try clear hk); (try clear hi)))
                    go_ret
                    exact ⟨by first | rfl | (simp [errW_none, errW_some] <;> rfl) | (simp [*, errW_none, errW_some] <;> rfl), by repeat (first | (with_reducible first | exact HB.out | apply below_alloc | apply pw_below_drewN | apply below_drew1) | exact HB.out)⟩
                · rw [if_neg c119] at H
                  have c119b0 : (t447 == 0) = false := beq_eq_false_iff_ne.mpr c119
                  have c119b1 : (t447 != 0) = true := bne_iff_ne.mpr c119
                  obtain rfl := Option.some.inj H
                  go_wp2_with (first | ((with_reducible refine gate_callee (f := 19) rfl ?_); refine goesL_ (some 75) rfl rfl Try.func19 (by kernel_rfl) rfl #[.int .i64 a0, .int .i64 256] rfl (by (try simp only [List.map_toArray, List.map_cons, List.map_nil]); first | done | rfl | (simp only [List.length_drop, List.length_take]; rfl)) ?_; (with_reducible refine (turnstilelaw1_pick.calls a0 256 t442 _ A112.out).mono ?_); rintro e w' ⟨rfl, ⟨nd, rfl⟩⟩; refine ⟨_, rfl, ?_⟩) | ((with_reducible refine gate_dst (N := 79) rfl ?_); (try (refine gate_guard (by rfl) ?_; dsimp only)); refine Kd.R_lit (Kd.int .u8) _ 5 ?hg (N := 79) ?hd (xs := ([(t442) % 256] : List Int)) (inner := [.int .u8 ((t442) % 256)]) (ok := fun _ => True) (okp := fun _ => True) ?hr ?hp (fun _ hk => hk) trivial (Below.refl _ _) (Nat.le_refl _) (by simp) ?_; (case hd => rfl); (case hg => rfl); (case hr => first | (go_simp; done) | (go_simp; rfl)); (case hp => exact (Reps.one (show Kd.M (Kd.int .u8) _ _ _ ((t442) % 256) [.int .u8 ((t442) % 256)] from rfl) (Reps.none _ _))); intro v444 w143 ho144 hb hg_ hnew_; clear hg_ hnew_; (first | rw [← Ny443.out] at ho144 | (simp only [Int.reduceToNat] at ho144; rw [← Ny443.out] at ho144)); have n0_ := Aside0.mk (Kd.R_below (by (with_reducible repeat (first | apply Kd.R_alloc | apply Kd.R_drewN | apply Kd.R_drew)); exact HO_3.out) hb); have n1_ := Aside0.mk (Kd.R_lower ho144 (below_size (by repeat (first | (with_reducible first | exact HB.out | apply below_alloc | apply pw_below_drewN | apply below_drew1) | exact HB.out)))); have n2_ := Aside0.mk (below_step (by repeat (first | (with_reducible first | exact HB.out | apply below_alloc | apply pw_below_drewN | apply below_drew1) | exact HB.out)) hb); clear HO_3; clear HB; have HO_3 := n0_; have HO445 := n1_; have HB := n2_; clear n0_ n1_ n2_; clear hb ho144; have hcv145 := own_string (P := Try.prog) Try.underlying51 Try.underlying5 Try.underlying9 (Kd.own_of_R HO445.out)) | ((with_reducible refine gate_callee (f := 34) rfl ?_); refine goesL_ (some 81) rfl rfl Try.func34 (by kernel_rfl) rfl #[.int .i64 4, .string (strOfNums y443), .int .i64 1] rfl (by (try simp only [List.map_toArray, List.map_cons, List.map_nil]); first | done | rfl | (simp only [List.length_drop, List.length_take]; rfl)) ?_; (with_reducible refine (digits_Unpack.calls k1 4 (strOfNums y443) 1 t446 t447 t448 _ A113.out).mono ?_); rintro e w146 ⟨rfl, hb⟩; refine ⟨_, rfl, ?_⟩; have n0_ := Aside0.mk (Kd.R_below (by (with_reducible repeat (first | apply Kd.R_alloc | apply Kd.R_drewN | apply Kd.R_drew)); exact HO_3.out) hb); have n1_ := Aside0.mk (Kd.R_below (by (with_reducible repeat (first | apply Kd.R_alloc | apply Kd.R_drewN | apply Kd.R_drew)); exact HO445.out) hb); have n2_ := Aside0.mk (below_step (by repeat (first | (with_reducible first | exact HB.out | apply below_alloc | apply pw_below_drewN | apply below_drew1) | exact HB.out)) hb); clear HO_3; clear HO445; clear HB; have HO_3 := n0_; have HO445 := n1_; have HB := n2_; clear n0_ n1_ n2_; (try clear hb); (try clear hb2); (try clear hk); (try clear hi); have p449 : 0 ≤ (t442 : Int) := of_decide_eq_true (by first | (with_reducible assumption) | assumption); have q449 : t442 < (x3_1.length : Int) := of_decide_eq_true (by first | (with_reducible assumption) | assumption); have ql449 : t442 < (256 : Int) := (by have h_ := (Kd.R_reads' HO_3.out).1; omega); obtain ⟨hx449_0, hf449_0⟩ := Kd.R_celln false HO_3.out t442 p449 ql449; (try rw [← Nbq116.out] at hx449_0); replace ql449 := eq_true ql449; replace p449 := eq_true p449; replace q449 := eq_true q449) | ((with_reducible refine gate_callee (f := 32) rfl ?_); refine goesL_ (some 101) rfl rfl Try.func32 (by kernel_rfl) rfl #[.int .i64 4, .string t446] rfl (by (try simp only [List.map_toArray, List.map_cons, List.map_nil]); first | done | rfl | (simp only [List.length_drop, List.length_take]; rfl)) ?_; (with_reducible refine (digits_Pack.calls k1 4 t446 t450 t451 _ A118.out).mono ?_); rintro e w148 ⟨rfl, hb⟩; refine ⟨_, rfl, ?_⟩; have n0_ := Aside0.mk (Kd.R_below (by (with_reducible repeat (first | apply Kd.R_alloc | apply Kd.R_drewN | apply Kd.R_drew)); exact HO_3.out) hb); have n1_ := Aside0.mk (Kd.R_below (by (with_reducible repeat (first | apply Kd.R_alloc | apply Kd.R_drewN | apply Kd.R_drew)); exact HO445.out) hb); have n2_ := Aside0.mk (below_step (by repeat (first | (with_reducible first | exact HB.out | apply below_alloc | apply pw_below_drewN | apply below_drew1) | exact HB.out)) hb); clear HO_3; clear HO445; clear HB; have HO_3 := n0_; have HO445 := n1_; have HB := n2_; clear n0_ n1_ n2_; (try clear hb); (try clear hb2); (try clear hk); (try clear hi)))
                  go_ret
                  exact ⟨by first | rfl | (simp [errW_none, errW_some] <;> rfl) | (simp [*, errW_none, errW_some] <;> rfl), by repeat (first | (with_reducible first | exact HB.out | apply below_alloc | apply pw_below_drewN | apply below_drew1) | exact HB.out)⟩
              · replace c117 := Bool.eq_false_iff.mpr c117
                subst c117
                have H1 : (if t446.toList = ([] : List UInt8) then (if t447 = 11 then (some (t448 == 0)) else (some false)) else (some false)) = some r := by rw [if_neg (show ¬ (false = true) by decide)] at H; exact H
                clear H
                have H := H1
                clear H1
                by_cases c149 : t446.toList = ([] : List UInt8)
                · rw [if_pos c149] at H
                  have c149b0 : (t446.toList == ([] : List UInt8)) = true := beq_iff_eq.mpr c149
                  have c149b1 : (t446.toList != ([] : List UInt8)) = false := bne_eq_false_iff_eq.mpr c149
                  clear c149
                  by_cases c150 : t447 = 11
                  · rw [if_pos c150] at H
                    have c150b0 : (t447 == 11) = true := beq_iff_eq.mpr c150
                    have c150b1 : (t447 != 11) = false := bne_eq_false_iff_eq.mpr c150
                    clear c150
                    obtain rfl := Option.some.inj H
                    go_wp2_with (first | ((with_reducible refine gate_callee (f := 19) rfl ?_); refine goesL_ (some 75) rfl rfl Try.func19 (by kernel_rfl) rfl #[.int .i64 a0, .int .i64 256] rfl (by (try simp only [List.map_toArray, List.map_cons, List.map_nil]); first | done | rfl | (simp only [List.length_drop, List.length_take]; rfl)) ?_; (with_reducible refine (turnstilelaw1_pick.calls a0 256 t442 _ A112.out).mono ?_); rintro e w' ⟨rfl, ⟨nd, rfl⟩⟩; refine ⟨_, rfl, ?_⟩) | ((with_reducible refine gate_dst (N := 79) rfl ?_); (try (refine gate_guard (by rfl) ?_; dsimp only)); refine Kd.R_lit (Kd.int .u8) _ 5 ?hg (N := 79) ?hd (xs := ([(t442) % 256] : List Int)) (inner := [.int .u8 ((t442) % 256)]) (ok := fun _ => True) (okp := fun _ => True) ?hr ?hp (fun _ hk => hk) trivial (Below.refl _ _) (Nat.le_refl _) (by simp) ?_; (case hd => rfl); (case hg => rfl); (case hr => first | (go_simp; done) | (go_simp; rfl)); (case hp => exact (Reps.one (show Kd.M (Kd.int .u8) _ _ _ ((t442) % 256) [.int .u8 ((t442) % 256)] from rfl) (Reps.none _ _))); intro v444 w151 ho152 hb hg_ hnew_; clear hg_ hnew_; (first | rw [← Ny443.out] at ho152 | (simp only [Int.reduceToNat] at ho152; rw [← Ny443.out] at ho152)); have n0_ := Aside0.mk (Kd.R_below (by (with_reducible repeat (first | apply Kd.R_alloc | apply Kd.R_drewN | apply Kd.R_drew)); exact HO_3.out) hb); have n1_ := Aside0.mk (Kd.R_lower ho152 (below_size (by repeat (first | (with_reducible first | exact HB.out | apply below_alloc | apply pw_below_drewN | apply below_drew1) | exact HB.out)))); have n2_ := Aside0.mk (below_step (by repeat (first | (with_reducible first | exact HB.out | apply below_alloc | apply pw_below_drewN | apply below_drew1) | exact HB.out)) hb); clear HO_3; clear HB; have HO_3 := n0_; have HO445 := n1_; have HB := n2_; clear n0_ n1_ n2_; clear hb ho152; have hcv153 := own_string (P := Try.prog) Try.underlying51 Try.underlying5 Try.underlying9 (Kd.own_of_R HO445.out)) | ((with_reducible refine gate_callee (f := 34) rfl ?_); refine goesL_ (some 81) rfl rfl Try.func34 (by kernel_rfl) rfl #[.int .i64 4, .string (strOfNums y443), .int .i64 1] rfl (by (try simp only [List.map_toArray, List.map_cons, List.map_nil]); first | done | rfl | (simp only [List.length_drop, List.length_take]; rfl)) ?_; (with_reducible refine (digits_Unpack.calls k1 4 (strOfNums y443) 1 t446 t447 t448 _ A113.out).mono ?_); rintro e w154 ⟨rfl, hb⟩; refine ⟨_, rfl, ?_⟩; have n0_ := Aside0.mk (Kd.R_below (by (with_reducible repeat (first | apply Kd.R_alloc | apply Kd.R_drewN | apply Kd.R_drew)); exact HO_3.out) hb); have n1_ := Aside0.mk (Kd.R_below (by (with_reducible repeat (first | apply Kd.R_alloc | apply Kd.R_drewN | apply Kd.R_drew)); exact HO445.out) hb); have n2_ := Aside0.mk (below_step (by repeat (first | (with_reducible first | exact HB.out | apply below_alloc | apply pw_below_drewN | apply below_drew1) | exact HB.out)) hb); clear HO_3; clear HO445; clear HB; have HO_3 := n0_; have HO445 := n1_; have HB := n2_; clear n0_ n1_ n2_; (try clear hb); (try clear hb2); (try clear hk); (try clear hi); have p449 : 0 ≤ (t442 : Int) := of_decide_eq_true (by first | (with_reducible assumption) | assumption); have q449 : t442 < (x3_1.length : Int) := of_decide_eq_true (by first | (with_reducible assumption) | assumption); have ql449 : t442 < (256 : Int) := (by have h_ := (Kd.R_reads' HO_3.out).1; omega); obtain ⟨hx449_0, hf449_0⟩ := Kd.R_celln false HO_3.out t442 p449 ql449; (try rw [← Nbq116.out] at hx449_0); replace ql449 := eq_true ql449; replace p449 := eq_true p449; replace q449 := eq_true q449))
                    go_ret
                    exact ⟨by first | rfl | (simp [errW_none, errW_some] <;> rfl) | (simp [*, errW_none, errW_some] <;> rfl), by repeat (first | (with_reducible first | exact HB.out | apply below_alloc | apply pw_below_drewN | apply below_drew1) | exact HB.out)⟩
                  · rw [if_neg c150] at H
                    have c150b0 : (t447 == 11) = false := beq_eq_false_iff_ne.mpr c150
                    have c150b1 : (t447 != 11) = true := bne_iff_ne.mpr c150
                    obtain rfl := Option.some.inj H
                    go_wp2_with (first | ((with_reducible refine gate_callee (f := 19) rfl ?_); refine goesL_ (some 75) rfl rfl Try.func19 (by kernel_rfl) rfl #[.int .i64 a0, .int .i64 256] rfl (by (try simp only [List.map_toArray, List.map_cons, List.map_nil]); first | done | rfl | (simp only [List.length_drop, List.length_take]; rfl)) ?_; (with_reducible refine (turnstilelaw1_pick.calls a0 256 t442 _ A112.out).mono ?_); rintro e w' ⟨rfl, ⟨nd, rfl⟩⟩; refine ⟨_, rfl, ?_⟩) | ((with_reducible refine gate_dst (N := 79) rfl ?_); (try (refine gate_guard (by rfl) ?_; dsimp only)); refine Kd.R_lit (Kd.int .u8) _ 5 ?hg (N := 79) ?hd (xs := ([(t442) % 256] : List Int)) (inner := [.int .u8 ((t442) % 256)]) (ok := fun _ => True) (okp := fun _ => True) ?hr ?hp (fun _ hk => hk) trivial (Below.refl _ _) (Nat.le_refl _) (by simp) ?_; (case hd => rfl); (case hg => rfl); (case hr => first | (go_simp; done) | (go_simp; rfl)); (case hp => exact (Reps.one (show Kd.M (Kd.int .u8) _ _ _ ((t442) % 256) [.int .u8 ((t442) % 256)] from rfl) (Reps.none _ _))); intro v444 w156 ho157 hb hg_ hnew_; clear hg_ hnew_; (first | rw [← Ny443.out] at ho157 | (simp only [Int.reduceToNat] at ho157; rw [← Ny443.out] at ho157)); have n0_ := Aside0.mk (Kd.R_below (by (with_reducible repeat (first | apply Kd.R_alloc | apply Kd.R_drewN | apply Kd.R_drew)); exact HO_3.out) hb); have n1_ := Aside0.mk (Kd.R_lower ho157 (below_size (by repeat (first | (with_reducible first | exact HB.out | apply below_alloc | apply pw_below_drewN | apply below_drew1) | exact HB.out)))); have n2_ := Aside0.mk (below_step (by repeat (first | (with_reducible first | exact HB.out | apply below_alloc | apply pw_below_drewN | apply below_drew1) | exact HB.out)) hb); clear HO_3; clear HB; have HO_3 := n0_; have HO445 := n1_; have HB := n2_; clear n0_ n1_ n2_; clear hb ho157; have hcv158 := own_string (P := Try.prog) Try.underlying51 Try.underlying5 Try.underlying9 (Kd.own_of_R HO445.out)) | ((with_reducible refine gate_callee (f := 34) rfl ?_); refine goesL_ (some 81) rfl rfl Try.func34 (by kernel_rfl) rfl #[.int .i64 4, .string (strOfNums y443), .int .i64 1] rfl (by (try simp only [List.map_toArray, List.map_cons, List.map_nil]); first | done | rfl | (simp only [List.length_drop, List.length_take]; rfl)) ?_; (with_reducible refine (digits_Unpack.calls k1 4 (strOfNums y443) 1 t446 t447 t448 _ A113.out).mono ?_); rintro e w159 ⟨rfl, hb⟩; refine ⟨_, rfl, ?_⟩; have n0_ := Aside0.mk (Kd.R_below (by (with_reducible repeat (first | apply Kd.R_alloc | apply Kd.R_drewN | apply Kd.R_drew)); exact HO_3.out) hb); have n1_ := Aside0.mk (Kd.R_below (by (with_reducible repeat (first | apply Kd.R_alloc | apply Kd.R_drewN | apply Kd.R_drew)); exact HO445.out) hb); have n2_ := Aside0.mk (below_step (by repeat (first | (with_reducible first | exact HB.out | apply below_alloc | apply pw_below_drewN | apply below_drew1) | exact HB.out)) hb); clear HO_3; clear HO445; clear HB; have HO_3 := n0_; have HO445 := n1_; have HB := n2_; clear n0_ n1_ n2_; (try clear hb); (try clear hb2); (try clear hk); (try clear hi); have p449 : 0 ≤ (t442 : Int) := of_decide_eq_true (by first | (with_reducible assumption) | assumption); have q449 : t442 < (x3_1.length : Int) := of_decide_eq_true (by first | (with_reducible assumption) | assumption); have ql449 : t442 < (256 : Int) := (by have h_ := (Kd.R_reads' HO_3.out).1; omega); obtain ⟨hx449_0, hf449_0⟩ := Kd.R_celln false HO_3.out t442 p449 ql449; (try rw [← Nbq116.out] at hx449_0); replace ql449 := eq_true ql449; replace p449 := eq_true p449; replace q449 := eq_true q449))
                    go_ret
                    exact ⟨by first | rfl | (simp [errW_none, errW_some] <;> rfl) | (simp [*, errW_none, errW_some] <;> rfl), by repeat (first | (with_reducible first | exact HB.out | apply below_alloc | apply pw_below_drewN | apply below_drew1) | exact HB.out)⟩
                · rw [if_neg c149] at H
                  have c149b0 : (t446.toList == ([] : List UInt8)) = false := beq_eq_false_iff_ne.mpr c149
                  have c149b1 : (t446.toList != ([] : List UInt8)) = true := bne_iff_ne.mpr c149
                  obtain rfl := Option.some.inj H
                  go_wp2_with (first | ((with_reducible refine gate_callee (f := 19) rfl ?_); refine goesL_ (some 75) rfl rfl Try.func19 (by kernel_rfl) rfl #[.int .i64 a0, .int .i64 256] rfl (by (try simp only [List.map_toArray, List.map_cons, List.map_nil]); first | done | rfl | (simp only [List.length_drop, List.length_take]; rfl)) ?_; (with_reducible refine (turnstilelaw1_pick.calls a0 256 t442 _ A112.out).mono ?_); rintro e w' ⟨rfl, ⟨nd, rfl⟩⟩; refine ⟨_, rfl, ?_⟩) | ((with_reducible refine gate_dst (N := 79) rfl ?_); (try (refine gate_guard (by rfl) ?_; dsimp only)); refine Kd.R_lit (Kd.int .u8) _ 5 ?hg (N := 79) ?hd (xs := ([(t442) % 256] : List Int)) (inner := [.int .u8 ((t442) % 256)]) (ok := fun _ => True) (okp := fun _ => True) ?hr ?hp (fun _ hk => hk) trivial (Below.refl _ _) (Nat.le_refl _) (by simp) ?_; (case hd => rfl); (case hg => rfl); (case hr => first | (go_simp; done) | (go_simp; rfl)); (case hp => exact (Reps.one (show Kd.M (Kd.int .u8) _ _ _ ((t442) % 256) [.int .u8 ((t442) % 256)] from rfl) (Reps.none _ _))); intro v444 w161 ho162 hb hg_ hnew_; clear hg_ hnew_; (first | rw [← Ny443.out] at ho162 | (simp only [Int.reduceToNat] at ho162; rw [← Ny443.out] at ho162)); have n0_ := Aside0.mk (Kd.R_below (by (with_reducible repeat (first | apply Kd.R_alloc | apply Kd.R_drewN | apply Kd.R_drew)); exact HO_3.out) hb); have n1_ := Aside0.mk (Kd.R_lower ho162 (below_size (by repeat (first | (with_reducible first | exact HB.out | apply below_alloc | apply pw_below_drewN | apply below_drew1) | exact HB.out)))); have n2_ := Aside0.mk (below_step (by repeat (first | (with_reducible first | exact HB.out | apply below_alloc | apply pw_below_drewN | apply below_drew1) | exact HB.out)) hb); clear HO_3; clear HB; have HO_3 := n0_; have HO445 := n1_; have HB := n2_; clear n0_ n1_ n2_; clear hb ho162; have hcv163 := own_string (P := Try.prog) Try.underlying51 Try.underlying5 Try.underlying9 (Kd.own_of_R HO445.out)) | ((with_reducible refine gate_callee (f := 34) rfl ?_); refine goesL_ (some 81) rfl rfl Try.func34 (by kernel_rfl) rfl #[.int .i64 4, .string (strOfNums y443), .int .i64 1] rfl (by (try simp only [List.map_toArray, List.map_cons, List.map_nil]); first | done | rfl | (simp only [List.length_drop, List.length_take]; rfl)) ?_; (with_reducible refine (digits_Unpack.calls k1 4 (strOfNums y443) 1 t446 t447 t448 _ A113.out).mono ?_); rintro e w164 ⟨rfl, hb⟩; refine ⟨_, rfl, ?_⟩; have n0_ := Aside0.mk (Kd.R_below (by (with_reducible repeat (first | apply Kd.R_alloc | apply Kd.R_drewN | apply Kd.R_drew)); exact HO_3.out) hb); have n1_ := Aside0.mk (Kd.R_below (by (with_reducible repeat (first | apply Kd.R_alloc | apply Kd.R_drewN | apply Kd.R_drew)); exact HO445.out) hb); have n2_ := Aside0.mk (below_step (by repeat (first | (with_reducible first | exact HB.out | apply below_alloc | apply pw_below_drewN | apply below_drew1) | exact HB.out)) hb); clear HO_3; clear HO445; clear HB; have HO_3 := n0_; have HO445 := n1_; have HB := n2_; clear n0_ n1_ n2_; (try clear hb); (try clear hb2); (try clear hk); (try clear hi); have p449 : 0 ≤ (t442 : Int) := of_decide_eq_true (by first | (with_reducible assumption) | assumption); have q449 : t442 < (x3_1.length : Int) := of_decide_eq_true (by first | (with_reducible assumption) | assumption); have ql449 : t442 < (256 : Int) := (by have h_ := (Kd.R_reads' HO_3.out).1; omega); obtain ⟨hx449_0, hf449_0⟩ := Kd.R_celln false HO_3.out t442 p449 ql449; (try rw [← Nbq116.out] at hx449_0); replace ql449 := eq_true ql449; replace p449 := eq_true p449; replace q449 := eq_true q449))
                  go_ret
                  exact ⟨by first | rfl | (simp [errW_none, errW_some] <;> rfl) | (simp [*, errW_none, errW_some] <;> rfl), by repeat (first | (with_reducible first | exact HB.out | apply below_alloc | apply pw_below_drewN | apply below_drew1) | exact HB.out)⟩
            · rw [if_neg c115] at H
              exact absurd H (by simp)
          · rw [if_neg c114] at H
            exact absurd H (by simp)
  · rw [if_neg c2] at H
    exact absurd H (by simp)

/-- THE ONE PURE STATEMENT of turnstilelaw1_DigitsLetters: yours. -/
def turnstilelaw1_DigitsLetters.Pure : Prop := ∀ (a0 : Int), (Lit.int .i64 a0).wf = true → ∃ k, turnstilelaw1_DigitsLetters.f k a0 = some true
theorem turnstilelaw1_DigitsLetters.walk (P : turnstilelaw1_DigitsLetters.Pure) (a0 : Int) (w : World) (w0 : (Lit.int .i64 a0).wf = true) :
    Calls Try.prog 16 #[.int .i64 a0] w fun e w' => e = .returned (.bool true) ∧ Below w.heap.size w w' := by
  obtain ⟨k, h⟩ := P a0 w0
  refine (turnstilelaw1_DigitsLetters.calls k a0 true w h).mono ?_
  rintro e w' ⟨rfl, hd⟩
  exact ⟨rfl, hd⟩

end Go.Proofs.Ytlpamhffpgoebaa.All
