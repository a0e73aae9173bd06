-- WRITTEN BY this session's own drv.py over the kit's print. Not trusted: Lean checks it.
import Derived.Test.YtlpamhffpgoebaaAx0
import Derived.Test.YtlpamhffpgoebaaAx45
namespace Go.Proofs.Ytlpamhffpgoebaa.All
open Go.RowKit Go.Proofs.YtlpamhffpgoebaaW.PrintWords Go.Proofs.YtlpamhffpgoebaaW.PrintLast Go.Proofs.YtlpamhffpgoebaaW.PrintMore
attribute [local go_sem] max2_int min2_int max_two min_two max_three min_three max_four min_four   -- for this text's walks alone
set_option linter.unusedVariables false
set_option linter.unusedSimpArgs false

/-! ### digits_unpackHalves: function 53 -/
mutual
def digits_unpackHalves.l0 : Nat → Int → ByteArray → Int → List Int → Int → Int → Option (ByteArray × Int × Int)
  | 0, _, _, _, _, _, _ => none
  | k + 1, x0, x1, x2, x9, x18, x19 => if x19 < x18 then (if 0 ≤ x19 then (if x19 < (x1.size : Int) then ((some (([(bt x1 x19) / 16, Go.bits .and .u8 (bt x1 x19) 15] : List Int) : List Int)).bind fun y297 => (if (Int.tmod x2 2) = 1 then (if x0 = 2 then (digits_unpackHalves.j1 k x0 x1 x2 x9 x19 y297 false x18 x19 (x19 == 0)) else (digits_unpackHalves.j1 k x0 x1 x2 x9 x19 y297 false x18 x19 false)) else (digits_unpackHalves.j1 k x0 x1 x2 x9 x19 y297 false x18 x19 false))) else (none)) else (none)) else (some (strOfNums x9, 0, 0))
def digits_unpackHalves.j1 : Nat → Int → ByteArray → Int → List Int → Int → List Int → Bool → Int → Int → Bool → Option (ByteArray × Int × Int)
  | 0, _, _, _, _, _, _, _, _, _, _ => none
  | k + 1, x0, x1, x2, x9, x10, x11, x12, x18, x19, x41 => if x41 = true then (if 0 < (x11.length : Int) then (if 1 ≤ (x11.length : Int) then (digits_unpackHalves.j2 k x0 x1 x2 x9 x10 (x11.drop (1 : Int).toNat) ((rd x11 0) != 0) x18 x19) else (none)) else (none)) else (digits_unpackHalves.j2 k x0 x1 x2 x9 x10 x11 x12 x18 x19)
def digits_unpackHalves.j2 : Nat → Int → ByteArray → Int → List Int → Int → List Int → Bool → Int → Int → Option (ByteArray × Int × Int)
  | 0, _, _, _, _, _, _, _, _, _ => none
  | k + 1, x0, x1, x2, x9, x10, x11, x12, x18, x19 => if (Int.tmod x2 2) = 1 then (if x0 = 3 then (digits_unpackHalves.j3 k x0 x1 x2 x9 x10 x11 x12 x18 x19 (x10 == (wrap64 ((x1.size : Int) - 1)))) else (digits_unpackHalves.j3 k x0 x1 x2 x9 x10 x11 x12 x18 x19 false)) else (digits_unpackHalves.j3 k x0 x1 x2 x9 x10 x11 x12 x18 x19 false)
def digits_unpackHalves.j3 : Nat → Int → ByteArray → Int → List Int → Int → List Int → Bool → Int → Int → Bool → Option (ByteArray × Int × Int)
  | 0, _, _, _, _, _, _, _, _, _, _ => none
  | k + 1, x0, x1, x2, x9, x10, x11, x12, x18, x19, x61 => if x61 = true then (if 1 < (x11.length : Int) then (if 1 ≤ (x11.length : Int) then (digits_unpackHalves.j4 k x0 x1 x2 x9 x10 (x11.take (1 : Int).toNat) ((rd x11 1) != 15) x18 x19) else (none)) else (none)) else (digits_unpackHalves.j4 k x0 x1 x2 x9 x10 x11 x12 x18 x19)
def digits_unpackHalves.j4 : Nat → Int → ByteArray → Int → List Int → Int → List Int → Bool → Int → Int → Option (ByteArray × Int × Int)
  | 0, _, _, _, _, _, _, _, _, _ => none
  | k + 1, x0, x1, x2, x9, x10, x11, x12, x18, x19 => digits_unpackHalves.l1 k x0 x1 x2 x9 x10 x12 x18 x19 x11 (x11.length : Int) 0
def digits_unpackHalves.l1 : Nat → Int → ByteArray → Int → List Int → Int → Bool → Int → Int → List Int → Int → Int → Option (ByteArray × Int × Int)
  | 0, _, _, _, _, _, _, _, _, _, _, _ => none
  | k + 1, x0, x1, x2, x9, x10, x12, x18, x19, x68, x69, x70 => if x70 < x69 then (if 0 ≤ x70 then (if x70 < (x68.length : Int) then ((digits_character.f (rd x68 x70)).bind fun bt309 => (if bt309.2 = true then (if x9.length < 140737488355328 then (digits_unpackHalves.l1 k x0 x1 x2 (x9 ++ [bt309.1]) x10 x12 x18 x19 x68 x69 (wrap64 (x70 + 1))) else (none)) else (some ((⟨#[]⟩ : ByteArray), 11, x10)))) else (none)) else (none)) else (if x12 = true then (some ((⟨#[]⟩ : ByteArray), 12, x10)) else (digits_unpackHalves.l0 k x0 x1 x2 x9 x18 (wrap64 (x19 + 1))))
end
def digits_unpackHalves.f (k : Nat) (a0 : Int) (a1 : ByteArray) (a2 : Int) : Option (ByteArray × Int × Int) := digits_unpackHalves.l0 k a0 a1 a2 ([] : List Int) (a1.size : Int) 0
theorem digits_unpackHalves.mono_l : ∀ k, (∀ y0 y1 y2 y3 y4 y5, LeO (digits_unpackHalves.l0 k y0 y1 y2 y3 y4 y5) (digits_unpackHalves.l0 (k + 1) y0 y1 y2 y3 y4 y5)) ∧ (∀ y0 y1 y2 y3 y4 y5 y6 y7 y8 y9, LeO (digits_unpackHalves.j1 k y0 y1 y2 y3 y4 y5 y6 y7 y8 y9) (digits_unpackHalves.j1 (k + 1) y0 y1 y2 y3 y4 y5 y6 y7 y8 y9)) ∧ (∀ y0 y1 y2 y3 y4 y5 y6 y7 y8, LeO (digits_unpackHalves.j2 k y0 y1 y2 y3 y4 y5 y6 y7 y8) (digits_unpackHalves.j2 (k + 1) y0 y1 y2 y3 y4 y5 y6 y7 y8)) ∧ (∀ y0 y1 y2 y3 y4 y5 y6 y7 y8 y9, LeO (digits_unpackHalves.j3 k y0 y1 y2 y3 y4 y5 y6 y7 y8 y9) (digits_unpackHalves.j3 (k + 1) y0 y1 y2 y3 y4 y5 y6 y7 y8 y9)) ∧ (∀ y0 y1 y2 y3 y4 y5 y6 y7 y8, LeO (digits_unpackHalves.j4 k y0 y1 y2 y3 y4 y5 y6 y7 y8) (digits_unpackHalves.j4 (k + 1) y0 y1 y2 y3 y4 y5 y6 y7 y8)) ∧ (∀ y0 y1 y2 y3 y4 y5 y6 y7 y8 y9 y10, LeO (digits_unpackHalves.l1 k y0 y1 y2 y3 y4 y5 y6 y7 y8 y9 y10) (digits_unpackHalves.l1 (k + 1) y0 y1 y2 y3 y4 y5 y6 y7 y8 y9 y10))
  | 0 => ⟨fun _ _ _ _ _ _ r h => by simp [digits_unpackHalves.l0] at h, fun _ _ _ _ _ _ _ _ _ _ r h => by simp [digits_unpackHalves.j1] at h, fun _ _ _ _ _ _ _ _ _ r h => by simp [digits_unpackHalves.j2] at h, fun _ _ _ _ _ _ _ _ _ _ r h => by simp [digits_unpackHalves.j3] at h, fun _ _ _ _ _ _ _ _ _ r h => by simp [digits_unpackHalves.j4] at h, fun _ _ _ _ _ _ _ _ _ _ _ r h => by simp [digits_unpackHalves.l1] at h⟩
  | k + 1 => by
    obtain ⟨ih0, ih1, ih2, ih3, ih4, ih5⟩ := digits_unpackHalves.mono_l k
    refine ⟨?_, ?_, ?_, ?_, ?_, ?_⟩
    · intro y0 y1 y2 y3 y4 y5
      unfold digits_unpackHalves.l0
      repeat' first
      | (with_reducible exact ih0 _ _ _ _ _ _)
      | (with_reducible exact ih1 _ _ _ _ _ _ _ _ _ _)
      | (with_reducible exact ih2 _ _ _ _ _ _ _ _ _)
      | (with_reducible exact ih3 _ _ _ _ _ _ _ _ _ _)
      | (with_reducible exact ih4 _ _ _ _ _ _ _ _ _)
      | (with_reducible exact ih5 _ _ _ _ _ _ _ _ _ _ _)
      | (with_reducible exact LeO.refl _)
      | (with_reducible exact LeO.none _)
      | (with_reducible refine LeO.ite ?_ ?_)
      | (with_reducible refine LeO.bind ?_ (fun _ => ?_))
      | exact ih0 _ _ _ _ _ _
      | exact ih1 _ _ _ _ _ _ _ _ _ _
      | exact ih2 _ _ _ _ _ _ _ _ _
      | exact ih3 _ _ _ _ _ _ _ _ _ _
      | exact ih4 _ _ _ _ _ _ _ _ _
      | exact ih5 _ _ _ _ _ _ _ _ _ _ _
      | exact LeO.none _
      | refine LeO.ite ?_ ?_
      | refine LeO.bind ?_ (fun _ => ?_)
    · intro y0 y1 y2 y3 y4 y5 y6 y7 y8 y9
      unfold digits_unpackHalves.j1
      repeat' first
      | (with_reducible exact ih0 _ _ _ _ _ _)
      | (with_reducible exact ih1 _ _ _ _ _ _ _ _ _ _)
      | (with_reducible exact ih2 _ _ _ _ _ _ _ _ _)
      | (with_reducible exact ih3 _ _ _ _ _ _ _ _ _ _)
      | (with_reducible exact ih4 _ _ _ _ _ _ _ _ _)
      | (with_reducible exact ih5 _ _ _ _ _ _ _ _ _ _ _)
      | (with_reducible exact LeO.refl _)
      | (with_reducible exact LeO.none _)
      | (with_reducible refine LeO.ite ?_ ?_)
      | (with_reducible refine LeO.bind ?_ (fun _ => ?_))
      | exact ih0 _ _ _ _ _ _
      | exact ih1 _ _ _ _ _ _ _ _ _ _
      | exact ih2 _ _ _ _ _ _ _ _ _
      | exact ih3 _ _ _ _ _ _ _ _ _ _
      | exact ih4 _ _ _ _ _ _ _ _ _
      | exact ih5 _ _ _ _ _ _ _ _ _ _ _
      | exact LeO.none _
      | refine LeO.ite ?_ ?_
      | refine LeO.bind ?_ (fun _ => ?_)
    · intro y0 y1 y2 y3 y4 y5 y6 y7 y8
      unfold digits_unpackHalves.j2
      repeat' first
      | (with_reducible exact ih0 _ _ _ _ _ _)
      | (with_reducible exact ih1 _ _ _ _ _ _ _ _ _ _)
      | (with_reducible exact ih2 _ _ _ _ _ _ _ _ _)
      | (with_reducible exact ih3 _ _ _ _ _ _ _ _ _ _)
      | (with_reducible exact ih4 _ _ _ _ _ _ _ _ _)
      | (with_reducible exact ih5 _ _ _ _ _ _ _ _ _ _ _)
      | (with_reducible exact LeO.refl _)
      | (with_reducible exact LeO.none _)
      | (with_reducible refine LeO.ite ?_ ?_)
      | (with_reducible refine LeO.bind ?_ (fun _ => ?_))
      | exact ih0 _ _ _ _ _ _
      | exact ih1 _ _ _ _ _ _ _ _ _ _
      | exact ih2 _ _ _ _ _ _ _ _ _
      | exact ih3 _ _ _ _ _ _ _ _ _ _
      | exact ih4 _ _ _ _ _ _ _ _ _
      | exact ih5 _ _ _ _ _ _ _ _ _ _ _
      | exact LeO.none _
      | refine LeO.ite ?_ ?_
      | refine LeO.bind ?_ (fun _ => ?_)
    · intro y0 y1 y2 y3 y4 y5 y6 y7 y8 y9
      unfold digits_unpackHalves.j3
      repeat' first
      | (with_reducible exact ih0 _ _ _ _ _ _)
      | (with_reducible exact ih1 _ _ _ _ _ _ _ _ _ _)
      | (with_reducible exact ih2 _ _ _ _ _ _ _ _ _)
      | (with_reducible exact ih3 _ _ _ _ _ _ _ _ _ _)
      | (with_reducible exact ih4 _ _ _ _ _ _ _ _ _)
      | (with_reducible exact ih5 _ _ _ _ _ _ _ _ _ _ _)
      | (with_reducible exact LeO.refl _)
      | (with_reducible exact LeO.none _)
      | (with_reducible refine LeO.ite ?_ ?_)
      | (with_reducible refine LeO.bind ?_ (fun _ => ?_))
      | exact ih0 _ _ _ _ _ _
      | exact ih1 _ _ _ _ _ _ _ _ _ _
      | exact ih2 _ _ _ _ _ _ _ _ _
      | exact ih3 _ _ _ _ _ _ _ _ _ _
      | exact ih4 _ _ _ _ _ _ _ _ _
      | exact ih5 _ _ _ _ _ _ _ _ _ _ _
      | exact LeO.none _
      | refine LeO.ite ?_ ?_
      | refine LeO.bind ?_ (fun _ => ?_)
    · intro y0 y1 y2 y3 y4 y5 y6 y7 y8
      unfold digits_unpackHalves.j4
      repeat' first
      | (with_reducible exact ih0 _ _ _ _ _ _)
      | (with_reducible exact ih1 _ _ _ _ _ _ _ _ _ _)
      | (with_reducible exact ih2 _ _ _ _ _ _ _ _ _)
      | (with_reducible exact ih3 _ _ _ _ _ _ _ _ _ _)
      | (with_reducible exact ih4 _ _ _ _ _ _ _ _ _)
      | (with_reducible exact ih5 _ _ _ _ _ _ _ _ _ _ _)
      | (with_reducible exact LeO.refl _)
      | (with_reducible exact LeO.none _)
      | (with_reducible refine LeO.ite ?_ ?_)
      | (with_reducible refine LeO.bind ?_ (fun _ => ?_))
      | exact ih0 _ _ _ _ _ _
      | exact ih1 _ _ _ _ _ _ _ _ _ _
      | exact ih2 _ _ _ _ _ _ _ _ _
      | exact ih3 _ _ _ _ _ _ _ _ _ _
      | exact ih4 _ _ _ _ _ _ _ _ _
      | exact ih5 _ _ _ _ _ _ _ _ _ _ _
      | exact LeO.none _
      | refine LeO.ite ?_ ?_
      | refine LeO.bind ?_ (fun _ => ?_)
    · intro y0 y1 y2 y3 y4 y5 y6 y7 y8 y9 y10
      unfold digits_unpackHalves.l1
      repeat' first
      | (with_reducible exact ih0 _ _ _ _ _ _)
      | (with_reducible exact ih1 _ _ _ _ _ _ _ _ _ _)
      | (with_reducible exact ih2 _ _ _ _ _ _ _ _ _)
      | (with_reducible exact ih3 _ _ _ _ _ _ _ _ _ _)
      | (with_reducible exact ih4 _ _ _ _ _ _ _ _ _)
      | (with_reducible exact ih5 _ _ _ _ _ _ _ _ _ _ _)
      | (with_reducible exact LeO.refl _)
      | (with_reducible exact LeO.none _)
      | (with_reducible refine LeO.ite ?_ ?_)
      | (with_reducible refine LeO.bind ?_ (fun _ => ?_))
      | exact ih0 _ _ _ _ _ _
      | exact ih1 _ _ _ _ _ _ _ _ _ _
      | exact ih2 _ _ _ _ _ _ _ _ _
      | exact ih3 _ _ _ _ _ _ _ _ _ _
      | exact ih4 _ _ _ _ _ _ _ _ _
      | exact ih5 _ _ _ _ _ _ _ _ _ _ _
      | exact LeO.none _
      | refine LeO.ite ?_ ?_
      | refine LeO.bind ?_ (fun _ => ?_)
theorem digits_unpackHalves.mono : ∀ a0 a1 a2 k, LeO (digits_unpackHalves.f k a0 a1 a2) (digits_unpackHalves.f (k + 1) a0 a1 a2) := by
  intro a0 a1 a2 k
  obtain ⟨ih0, ih1, ih2, ih3, ih4, ih5⟩ := digits_unpackHalves.mono_l k
  unfold digits_unpackHalves.f
  repeat' first
      | (with_reducible exact ih0 _ _ _ _ _ _)
      | (with_reducible exact ih1 _ _ _ _ _ _ _ _ _ _)
      | (with_reducible exact ih2 _ _ _ _ _ _ _ _ _)
      | (with_reducible exact ih3 _ _ _ _ _ _ _ _ _ _)
      | (with_reducible exact ih4 _ _ _ _ _ _ _ _ _)
      | (with_reducible exact ih5 _ _ _ _ _ _ _ _ _ _ _)
      | (with_reducible exact LeO.refl _)
      | (with_reducible exact LeO.none _)
      | (with_reducible refine LeO.ite ?_ ?_)
      | (with_reducible refine LeO.bind ?_ (fun _ => ?_))
      | exact ih0 _ _ _ _ _ _
      | exact ih1 _ _ _ _ _ _ _ _ _ _
      | exact ih2 _ _ _ _ _ _ _ _ _
      | exact ih3 _ _ _ _ _ _ _ _ _ _
      | exact ih4 _ _ _ _ _ _ _ _ _
      | exact ih5 _ _ _ _ _ _ _ _ _ _ _
      | exact LeO.none _
      | refine LeO.ite ?_ ?_
      | refine LeO.bind ?_ (fun _ => ?_)
def digits_unpackHalves.T5 : Bool × List (List Nat × List Nat) := (true, [([], []), ([], []), ([0, 1], [0, 1]), ([2], [2]), ([], []), ([], []), ([4, 5], [4, 5]), ([6], [6]), ([3, 7], [3, 7]), ([8, 0, 1, 2, 3, 4, 5, 6, 7, 8], [8])])
def digits_unpackHalves.B5 : List Nat := [0, 0, 3, 7, 0, 0, 48, 112, 255, 511]
theorem digits_unpackHalves.tab5 : rtab .any (opsOf Try.f53 5) = digits_unpackHalves.T5 := by kernel_rfl
theorem digits_unpackHalves.bits5 : waitsOk digits_unpackHalves.T5.2 digits_unpackHalves.B5 = true := by kernel_rfl
set_option maxHeartbeats 8000000 in
set_option maxRecDepth 100000 in
theorem digits_unpackHalves.calls (k : Nat) (a0 : Int) (a1 : ByteArray) (a2 : Int) (r1 : ByteArray) (r2 : Int) (r3 : Int) (w : World) (h : digits_unpackHalves.f k a0 a1 a2 = some (r1, r2, r3)) :
    Calls Try.prog 53 #[.int .i64 a0, .string a1, .int .i64 a2] w fun e w' => e = .returned (.tuple #[.string r1, .int .i64 r2, .int .i64 r3]) ∧ Below w.heap.size w w' := by
  have HB := Aside0.mk (Below.refl w.heap.size w)
  have H : (digits_unpackHalves.l0 k a0 a1 a2 ([] : List Int) (a1.size : Int) 0) = some (r1, r2, r3) := h
  clear h
  have H' := Aside0.mk H
  clear H
  go_enter Try.func53, Try.ntmps53
  go_wp2
  go_loopg [9, 19] k (fun kq v9 v19 w' => ∃ (x9_1 : List Int) (x19_1 : Int), v19 = .int .i64 x19_1 ∧ Aside0 (digits_unpackHalves.l0 kq a0 a1 a2 x9_1 (a1.size : Int) x19_1 = some (r1, r2, r3)) ∧ Aside0 (kq ≤ k) ∧ Aside0 (Kd.R (Kd.int .u8) 5 w' w.heap.size (fun _ => True) v9 x9_1) ∧ Aside0 (Below w.heap.size w w'))
  case atStart => exact ⟨(([] : List Int)), (0), (by first | rfl | (simp; done) | (simp [*]; done)), H', ⟨Nat.le_refl _⟩, ⟨by first | exact Kd.R_nil _ _ _ _ _ | exact Kd.N_nil _ _ _ _ _ | exact Kd.V_nil _ _ _ _ _ | exact Kd.Q_nil _ _ _ _ _ | exact Kd.S_nil _ _ _ _ _⟩, ⟨by repeat (first | (with_reducible first | exact HB.out | apply below_alloc | apply pw_below_drewN | apply below_drew1) | exact HB.out)⟩⟩
  case round =>
    clear H'
    try clear p2
    obtain ⟨x9_1, x19_1, rfl, HA, HK1, HO_9, HB⟩ := hrel
    cases gk with
    | zero => exact absurd HA.out (by simp [digits_unpackHalves.l0])
    | succ k1 =>
      have H := HA.out
      clear HA
      simp only [digits_unpackHalves.l0] at H
      by_cases c4 : x19_1 < (a1.size : Int)
      · rw [if_pos c4] at H
        have c4b0 : decide (x19_1 < (a1.size : Int)) = true := decide_eq_true c4
        clear c4
        by_cases c5 : 0 ≤ x19_1
        · rw [if_pos c5] at H
          have c5b0 : decide (0 ≤ x19_1) = true := decide_eq_true c5
          clear c5
          by_cases c6 : x19_1 < (a1.size : Int)
          · rw [if_pos c6] at H
            have c6b0 : decide (x19_1 < (a1.size : Int)) = true := decide_eq_true c6
            clear c6
            obtain ⟨y297, hy297⟩ : ∃ y_ : List Int, y_ = (([(bt a1 x19_1) / 16, Go.bits .and .u8 (bt a1 x19_1) 15] : List Int)) := ⟨_, rfl⟩
            replace H : (if (Int.tmod a2 2) = 1 then (if a0 = 2 then (digits_unpackHalves.j1 k1 a0 a1 a2 x9_1 x19_1 y297 false (a1.size : Int) x19_1 (x19_1 == 0)) else (digits_unpackHalves.j1 k1 a0 a1 a2 x9_1 x19_1 y297 false (a1.size : Int) x19_1 false)) else (digits_unpackHalves.j1 k1 a0 a1 a2 x9_1 x19_1 y297 false (a1.size : Int) x19_1 false)) = some (r1, r2, r3) := by first | (rw [hy297]; with_reducible exact H) | (have H2_ := (Option.bind_some _ _).symm.trans H; rw [hy297]; with_reducible exact H2_) | (have H2_ := (Option.bind_some _ _).symm.trans H; with_reducible exact H2_) | with_reducible exact H | (rw [hy297]; exact H) | exact H
            have Ny297 := Aside0.mk hy297
            clear hy297
            have HC9 := Aside0.mk H
            clear H
            try go_wp2
            have n0_ := Aside0.mk (Kd.R_drew HO_9.out)
            have n1_ := Aside0.mk (below_drew1 HB.out)
            clear HO_9
            clear HB
            have HO_9 := n0_
            have HB := n1_
            clear n0_ n1_
            have p7 : 0 ≤ (x19_1 : Int) := of_decide_eq_true (by first | (with_reducible assumption) | assumption)
            have q7 : x19_1 < (a1.size : Int) := of_decide_eq_true (by first | (with_reducible assumption) | assumption)
            have hx7 := bt_at a1 x19_1
            replace p7 := eq_true p7
            replace q7 := eq_true q7
            have p8 : 0 ≤ (x19_1 : Int) := of_decide_eq_true (by first | (with_reducible assumption) | assumption)
            have q8 : x19_1 < (a1.size : Int) := of_decide_eq_true (by first | (with_reducible assumption) | assumption)
            have hx8 := bt_at a1 x19_1
            replace p8 := eq_true p8
            replace q8 := eq_true q8
            refine start_ (n := 10) (S := fun w' => True) (ds := []) #[false, false, false, false, false, false, false, false, false, false] (by kernel_rfl) rfl rfl trivial (fun hHeld => ?_); refine with_tabW digits_unpackHalves.tab5 digits_unpackHalves.bits5 (fun HT_ HW_ => ?_)
            generalize wr.drew = w10 at HO_9 HB hHeld ⊢
            refine pure_ (i := 0) (N := some 22) (v := ?_) (a' := ?_) #[true, false, false, false, false, false, false, false, false, false] rfl rfl (any_of HT_.out (by kernel_rfl)) (fun _ _ _ h => h) (Or.inl ⟨by rfl, ?_⟩) ?_ ?_
            rotate_left
            · intro w'
              go_simp
              with_reducible rfl
            rotate_left
            · simp only [Act.put, List.setIfInBounds_toArray, List.set_cons_zero, List.set_cons_succ, i64_w, i32_w]
              rfl
            refine pure_ (i := 1) (N := some 23) (v := ?_) (a' := ?_) #[true, true, false, false, false, false, false, false, false, false] rfl rfl (any_of HT_.out (by kernel_rfl)) (fun _ _ _ h => h) (Or.inl ⟨by rfl, ?_⟩) ?_ ?_
            rotate_left
            · intro w'
              go_simp
              with_reducible rfl
            rotate_left
            · simp only [Act.put, List.setIfInBounds_toArray, List.set_cons_zero, List.set_cons_succ, i64_w, i32_w]
              rfl
            refine pure_ (i := 4) (N := some 26) (v := ?_) (a' := ?_) #[true, true, false, false, true, false, false, false, false, false] rfl rfl (any_of HT_.out (by kernel_rfl)) (fun _ _ _ h => h) (Or.inl ⟨by rfl, ?_⟩) ?_ ?_
            rotate_left
            · intro w'
              go_simp
              with_reducible rfl
            rotate_left
            · simp only [Act.put, List.setIfInBounds_toArray, List.set_cons_zero, List.set_cons_succ, i64_w, i32_w]
              rfl
            refine pure_ (i := 5) (N := some 27) (v := ?_) (a' := ?_) #[true, true, false, false, true, true, false, false, false, false] rfl rfl (any_of HT_.out (by kernel_rfl)) (fun _ _ _ h => h) (Or.inl ⟨by rfl, ?_⟩) ?_ ?_
            rotate_left
            · intro w'
              go_simp
              with_reducible rfl
            rotate_left
            · simp only [Act.put, List.setIfInBounds_toArray, List.set_cons_zero, List.set_cons_succ, i64_w, i32_w]
              rfl
            refine take_ (i := 2) (N := some 24) (v := ?_) (a' := ?_) #[true, true, true, false, true, true, false, false, false, false] rfl rfl (take_ofW HT_.out HW_.out (by kernel_rfl)) (fun _ _ _ h => h) (Or.inl ⟨by rfl, ?_⟩) hHeld ?_ ?_
            rotate_left
            · intro w' _
              go_simp
              with_reducible rfl
            rotate_left
            · simp only [Act.put, List.setIfInBounds_toArray, List.set_cons_zero, List.set_cons_succ, i64_w, i32_w]
              rfl
            refine pure_ (i := 3) (N := some 25) (v := ?_) (a' := ?_) #[true, true, true, true, true, true, false, false, false, false] rfl rfl (any_of HT_.out (by kernel_rfl)) (fun _ _ _ h => h) (Or.inl ⟨by rfl, ?_⟩) ?_ ?_
            rotate_left
            · intro w'
              go_simp
              with_reducible rfl
            rotate_left
            · simp only [Act.put, List.setIfInBounds_toArray, List.set_cons_zero, List.set_cons_succ, i64_w, i32_w]
              rfl
            refine take_ (i := 6) (N := some 28) (v := ?_) (a' := ?_) #[true, true, true, true, true, true, true, false, false, false] rfl rfl (take_ofW HT_.out HW_.out (by kernel_rfl)) (fun _ _ _ h => h) (Or.inl ⟨by rfl, ?_⟩) hHeld ?_ ?_
            rotate_left
            · intro w' _
              go_simp
              with_reducible rfl
            rotate_left
            · simp only [Act.put, List.setIfInBounds_toArray, List.set_cons_zero, List.set_cons_succ, i64_w, i32_w]
              rfl
            refine pure_ (i := 7) (N := some 29) (v := ?_) (a' := ?_) #[true, true, true, true, true, true, true, true, false, false] rfl rfl (any_of HT_.out (by kernel_rfl)) (fun _ _ _ h => h) (Or.inl ⟨by rfl, ?_⟩) ?_ ?_
            rotate_left
            · intro w'
              go_simp
              with_reducible rfl
            rotate_left
            · simp only [Act.put, List.setIfInBounds_toArray, List.set_cons_zero, List.set_cons_succ, i64_w, i32_w]
              rfl
            refine one_ (i := 8) (N := some 30) #[true, true, true, true, true, true, true, true, true, false] rfl rfl (one_of HT_.out (by kernel_rfl)) (by decide) (fun K hK => ?_)
            refine Kd.R_lit_step (Kd.int .u8) _ 5 ?hg (N := 30) ?hd (xs := ([(bt a1 x19_1) / 16, Go.bits .and .u8 (bt a1 x19_1) 15] : List Int)) (inner := [.int .u8 ((bt a1 x19_1) / 16), .int .u8 (Go.bits .and .u8 (bt a1 x19_1) 15)]) (ok := fun _ => True) (okp := fun _ => True) ?hr ?hp (fun _ hk => hk) trivial (Below.refl _ _) (Nat.le_refl _) (by simp) ?_; (case hd => rfl); (case hg => rfl); (case hr => first | (go_simp; done) | (go_simp; rfl)); (case hp => exact (Reps.one (show Kd.M (Kd.int .u8) _ _ _ ((bt a1 x19_1) / 16) [.int .u8 ((bt a1 x19_1) / 16)] from rfl) (Reps.one (show Kd.M (Kd.int .u8) _ _ _ (Go.bits .and .u8 (bt a1 x19_1) 15) [.int .u8 (Go.bits .and .u8 (bt a1 x19_1) 15)] from rfl) (Reps.none _ _))))
            intro v298 w11 ho12 hb hg_ hnew_
            clear hg_ hnew_
            (first | rw [← Ny297.out] at ho12 | (simp only [Int.reduceToNat] at ho12; rw [← Ny297.out] at ho12))
            have n0_ := Aside0.mk (Kd.R_elder' (by (with_reducible repeat (first | apply Kd.R_alloc | apply Kd.R_drewN | apply Kd.R_drew)); exact HO_9.out) (Kd.R_base ho12) hb)
            have n1_ := Aside0.mk (Kd.R_lower (Kd.R_new' ho12 (Kd.R_lt (by (with_reducible repeat (first | apply Kd.R_alloc | apply Kd.R_drewN | apply Kd.R_drew)); exact HO_9.out))) (below_size (by repeat (first | (with_reducible first | exact HB.out | apply below_alloc | apply pw_below_drewN | apply below_drew1) | exact HB.out))))
            have n2_ := Aside0.mk (below_step (by repeat (first | (with_reducible first | exact HB.out | apply below_alloc | apply pw_below_drewN | apply below_drew1) | exact HB.out)) hb)
            clear HO_9
            clear HB
            have HO_9 := n0_
            have HO299 := n1_
            have HB := n2_
            clear n0_ n1_ n2_
            clear hb ho12
            refine hK.out _ _ trivial (fun hHeld => ?_)
            clear hK K
            refine norm_ (a' := ?_) ?_ ?_
            rotate_left
            · show Act.put _ (some 30) _ = _
              simp only [Act.put, List.setIfInBounds_toArray, List.set_cons_zero, List.set_cons_succ, i64_w, i32_w]
              rfl
            refine pure_ (i := 9) (N := some 11) (v := ?_) (a' := ?_) #[true, true, true, true, true, true, true, true, true, true] rfl rfl (any_of HT_.out (by kernel_rfl)) (fun _ _ _ h => h) (Or.inl ⟨by rfl, ?_⟩) ?_ ?_
            rotate_left
            · intro w'
              go_simp
              with_reducible rfl
            rotate_left
            · simp only [Act.put, List.setIfInBounds_toArray, List.set_cons_zero, List.set_cons_succ, i64_w, i32_w]
              rfl
            refine done_ (done_of HT_.out (by kernel_rfl)) ?_
            go_upto_region 7 with (fail)
            go_cut [41] (fun v41 wc => ∃ (kq : Nat) (x41_8 : Bool), v41 = .bool x41_8 ∧ Aside0 (digits_unpackHalves.j1 kq a0 a1 a2 x9_1 x19_1 y297 false (a1.size : Int) x19_1 x41_8 = some (r1, r2, r3)) ∧ Aside0 (kq ≤ k1) ∧ Aside0 (Kd.R (Kd.int .u8) 5 wc w.heap.size (fun k_ => some k_ ≠ (v298 : Value).ownBlock) u9 x9_1) ∧ Aside0 (Kd.Q (Kd.int .u8) 5 wc w.heap.size (fun k_ => some k_ ≠ (u9 : Value).ownBlock) v298 y297) ∧ Aside0 (Below w.heap.size w wc))
            case first =>
              have H := HC9.out
              clear HC9
              by_cases c13 : (Int.tmod a2 2) = 1
              · rw [if_pos c13] at H
                have c13b0 : ((Int.tmod a2 2) == 1) = true := beq_iff_eq.mpr c13
                have c13b1 : ((Int.tmod a2 2) != 1) = false := bne_eq_false_iff_eq.mpr c13
                clear c13
                (first | rw [c13b0] | (simp only [i64_w, i32_w]; rw [c13b0]) | skip)
                by_cases c14 : a0 = 2
                · rw [if_pos c14] at H
                  have c14b0 : (a0 == 2) = true := beq_iff_eq.mpr c14
                  have c14b1 : (a0 != 2) = false := bne_eq_false_iff_eq.mpr c14
                  clear c14
                  have H' := Aside0.mk H
                  clear H
                  go_wp2
                  go_meet
                  case rel => exact ⟨_, ((x19_1 == 0)), (by first | rfl | (simp; done) | (simp [*]; done)), H', ⟨by have := HK1.out; first | omega | exact Nat.le_refl _⟩, ⟨by (with_reducible repeat (first | apply Kd.R_alloc | apply Kd.R_drewN | apply Kd.R_drew)); exact Kd.R_mono HO_9.out (fun _ hk => hk.2)⟩, ⟨Kd.Q_of_R (by (with_reducible repeat (first | apply Kd.R_alloc | apply Kd.R_drewN | apply Kd.R_drew)); exact Kd.R_mono HO299.out (fun _ hk => hk.2))⟩, ⟨by repeat (first | (with_reducible first | exact HB.out | apply below_alloc | apply pw_below_drewN | apply below_drew1) | exact HB.out)⟩⟩
                · rw [if_neg c14] at H
                  have c14b0 : (a0 == 2) = false := beq_eq_false_iff_ne.mpr c14
                  have c14b1 : (a0 != 2) = true := bne_iff_ne.mpr c14
                  have H' := Aside0.mk H
                  clear H
                  go_wp2
                  go_meet
                  case rel => exact ⟨_, (false), (by first | rfl | (simp; done) | (simp [*]; done)), H', ⟨by have := HK1.out; first | omega | exact Nat.le_refl _⟩, ⟨by (with_reducible repeat (first | apply Kd.R_alloc | apply Kd.R_drewN | apply Kd.R_drew)); exact Kd.R_mono HO_9.out (fun _ hk => hk.2)⟩, ⟨Kd.Q_of_R (by (with_reducible repeat (first | apply Kd.R_alloc | apply Kd.R_drewN | apply Kd.R_drew)); exact Kd.R_mono HO299.out (fun _ hk => hk.2))⟩, ⟨by repeat (first | (with_reducible first | exact HB.out | apply below_alloc | apply pw_below_drewN | apply below_drew1) | exact HB.out)⟩⟩
              · rw [if_neg c13] at H
                have c13b0 : ((Int.tmod a2 2) == 1) = false := beq_eq_false_iff_ne.mpr c13
                have c13b1 : ((Int.tmod a2 2) != 1) = true := bne_iff_ne.mpr c13
                (first | rw [c13b0] | (simp only [i64_w, i32_w]; rw [c13b0]) | skip)
                have H' := Aside0.mk H
                clear H
                go_wp2
                go_meet
                case rel => exact ⟨_, (false), (by first | rfl | (simp; done) | (simp [*]; done)), H', ⟨by have := HK1.out; first | omega | exact Nat.le_refl _⟩, ⟨by (with_reducible repeat (first | apply Kd.R_alloc | apply Kd.R_drewN | apply Kd.R_drew)); exact Kd.R_mono HO_9.out (fun _ hk => hk.2)⟩, ⟨Kd.Q_of_R (by (with_reducible repeat (first | apply Kd.R_alloc | apply Kd.R_drewN | apply Kd.R_drew)); exact Kd.R_mono HO299.out (fun _ hk => hk.2))⟩, ⟨by repeat (first | (with_reducible first | exact HB.out | apply below_alloc | apply pw_below_drewN | apply below_drew1) | exact HB.out)⟩⟩
            case rest =>
              clear HC9
              try clear c1
              try clear p2
              try clear c4
              try clear c4b0
              try clear c5
              try clear c5b0
              try clear c6
              try clear c6b0
              try clear p7
              try clear q7
              try clear hx7
              try clear p8
              try clear q8
              try clear hx8
              try clear c13
              try clear c13b0
              try clear c13b1
              try clear c14
              try clear c14b0
              try clear c14b1
              try clear p2
              try clear p7
              try clear p8
              try clear q7
              try clear q8
              obtain ⟨kq, x41_8, rfl, HA, HJ8, HO_9, HO_11, HB⟩ := hcut
              cases kq with
              | zero => exact absurd HA.out (by simp [digits_unpackHalves.j1])
              | succ kj8 =>
                have H := HA.out
                clear HA
                simp only [digits_unpackHalves.j1] at H
                have HC15 := Aside0.mk H
                clear H
                go_upto_if 41 with (fail)
                go_cut [11, 12] (fun v11 v12 wc => ∃ (kq : Nat) (x11_14 : List Int) (x12_14 : Bool), v12 = .bool x12_14 ∧ Aside0 (digits_unpackHalves.j2 kq a0 a1 a2 x9_1 x19_1 x11_14 x12_14 (a1.size : Int) x19_1 = some (r1, r2, r3)) ∧ Aside0 (kq ≤ kj8) ∧ Aside0 (Kd.R (Kd.int .u8) 5 wc w.heap.size (fun k_ => some k_ ≠ (v11 : Value).ownBlock) u9 x9_1) ∧ Aside0 (Kd.Q (Kd.int .u8) 5 wc w.heap.size (fun k_ => some k_ ≠ (u9 : Value).ownBlock) v11 x11_14) ∧ Aside0 (Below w.heap.size w wc))
                case first =>
                  have H := HC15.out
                  clear HC15
                  by_cases c16 : x41_8 = true
                  · subst c16
                    have H1 : (if 0 < (y297.length : Int) then (if 1 ≤ (y297.length : Int) then (digits_unpackHalves.j2 kj8 a0 a1 a2 x9_1 x19_1 (y297.drop (1 : Int).toNat) ((rd y297 0) != 0) (a1.size : Int) x19_1) else (none)) else (none)) = some (r1, r2, r3) := by rw [if_pos rfl] at H; exact H
                    clear H
                    have H := H1
                    clear H1
                    by_cases c17 : 0 < (y297.length : Int)
                    · rw [if_pos c17] at H
                      have c17b0 : decide (0 < (y297.length : Int)) = true := decide_eq_true c17
                      have c17b1 : decide (0 < y297.length) = true := decide_eq_true (by omega)
                      clear c17
                      (first | rw [c17b0] | (simp only [i64_w, i32_w]; rw [c17b0]) | skip)
                      by_cases c18 : 1 ≤ (y297.length : Int)
                      · rw [if_pos c18] at H
                        have c18b0 := eq_true c18
                        have c18b1 : decide (1 ≤ (y297.length : Int)) = true := decide_eq_true c18
                        clear c18
                        obtain ⟨y301, hy301⟩ : ∃ y_ : List Int, y_ = (y297.drop (1 : Int).toNat) := ⟨_, rfl⟩
                        replace H : (digits_unpackHalves.j2 kj8 a0 a1 a2 x9_1 x19_1 y301 ((rd y297 0) != 0) (a1.size : Int) x19_1) = some (r1, r2, r3) := by first | (rw [hy301]; with_reducible exact H) | (have H2_ := (Option.bind_some _ _).symm.trans H; rw [hy301]; with_reducible exact H2_) | (have H2_ := (Option.bind_some _ _).symm.trans H; with_reducible exact H2_) | with_reducible exact H | (rw [hy301]; exact H) | exact H
                        have Ny301 := Aside0.mk hy301
                        clear hy301
                        have H' := Aside0.mk H
                        clear H
                        obtain ⟨Ao19, co19, eo19, _⟩ := Kd.Q_slice HO_11.out
                        subst eo19
                        have p300 : 0 ≤ (0 : Int) := (by omega)
                        have q300 : 0 < (y297.length : Int) := of_decide_eq_true (by first | (with_reducible assumption) | assumption)
                        obtain ⟨ad300, e300, hx300_0⟩ := Kd.at_int (Kd.Q_reads' HO_11.out).2.2 0 p300 q300
                        cases e300
                        have qi300 : (0 < y297.length) = True := eq_true (by omega)
                        (try rw [show ((0 : Int)).toNat = 0 from rfl] at hx300_0)
                        (try rw [Addr.add_zero'] at hx300_0)
                        replace p300 := eq_true p300
                        replace q300 := eq_true q300
                        have q20 : (1 : Int) ≤ ((y297.length : Int) : Int) := of_decide_eq_true (by first | (with_reducible assumption) | assumption)
                        obtain ⟨i020, hi020, _, hsz20, _⟩ := info_parts info5
                        have hcut20 := cut_from (P := Try.prog) 51 5 .i64 Try.underlying51 hi020 1 hsz20 (some ad300) y297.length co19 1 (by omega) q20
                        have hr20 := Kd.Q_drop (k := (1 : Int).toNat) HO_11.out (by omega)
                        obtain ⟨A20, hA20⟩ : ∃ A1, A1 = (if co19 = (1 : Int).toNat then (some ad300) else ((some ad300) : Option Addr).map (·.add ((1 : Int).toNat * 1))) := ⟨_, rfl⟩
                        obtain ⟨c20, hc20⟩ : ∃ c1, c1 = co19 - (1 : Int).toNat := ⟨_, rfl⟩
                        have hy20 : y301.length = y297.length - (1 : Int).toNat := (by rw [Ny301.out, List.length_drop])
                        rw [← Ny301.out] at hr20
                        rw [← hy20, ← hA20, ← hc20] at hcut20
                        replace hr20 : Kd.Q (Kd.int .u8) 5 wc w.heap.size (fun k_ => some k_ ≠ (u9 : Value).ownBlock) (.slice A20 y301.length c20) y301 := (by rw [hA20, hc20, hy20]; exact hr20)
                        have HE20 : Aside0 ((Value.slice A20 y301.length c20).ownBlock = (.slice (some ad300) y297.length co19 : Value).ownBlock) := ⟨by rw [hA20]; split <;> (cases ((some ad300) : Option Addr) <;> rfl)⟩
                        clear hy20 hi020 hsz20 HO_11 hA20 hc20
                        have HO303 := Aside0.mk hr20
                        clear hr20
                        replace q20 := eq_true q20
                        have n_ := Aside0.mk (Kd.R_mono (ok' := fun k_ => some k_ ≠ (.slice A20 y301.length c20 : Value).ownBlock) HO_9.out (fun k_ hk => (by rw [HE20.out]; exact hk)))
                        clear HO_9
                        have HO_9 := n_
                        clear n_
                        go_wp2
                        go_meet
                        case rel => exact ⟨_, (y301), (((rd y297 0) != 0)), (by first | rfl | (simp; done) | (simp [*]; done)), H', ⟨by have := HK1.out; have := HJ8.out; first | omega | exact Nat.le_refl _⟩, ⟨by (with_reducible repeat (first | apply Kd.R_alloc | apply Kd.R_drewN | apply Kd.R_drew)); exact HO_9.out⟩, ⟨by (with_reducible repeat (first | apply Kd.Q_alloc | apply Kd.Q_drewN | apply Kd.Q_drew)); exact HO303.out⟩, ⟨by repeat (first | (with_reducible first | exact HB.out | apply below_alloc | apply pw_below_drewN | apply below_drew1) | exact HB.out)⟩⟩
                      · rw [if_neg c18] at H
                        exact absurd H (by simp)
                    · rw [if_neg c17] at H
                      exact absurd H (by simp)
                  · replace c16 := Bool.eq_false_iff.mpr c16
                    subst c16
                    have H1 : (digits_unpackHalves.j2 kj8 a0 a1 a2 x9_1 x19_1 y297 false (a1.size : Int) x19_1) = some (r1, r2, r3) := by rw [if_neg (show ¬ (false = true) by decide)] at H; exact H
                    clear H
                    have H := H1
                    clear H1
                    have H' := Aside0.mk H
                    clear H
                    go_wp2
                    go_meet
                    case rel => exact ⟨_, (y297), (false), (by first | rfl | (simp; done) | (simp [*]; done)), H', ⟨by have := HK1.out; have := HJ8.out; first | omega | exact Nat.le_refl _⟩, ⟨by (with_reducible repeat (first | apply Kd.R_alloc | apply Kd.R_drewN | apply Kd.R_drew)); exact HO_9.out⟩, ⟨by (with_reducible repeat (first | apply Kd.Q_alloc | apply Kd.Q_drewN | apply Kd.Q_drew)); exact HO_11.out⟩, ⟨by repeat (first | (with_reducible first | exact HB.out | apply below_alloc | apply pw_below_drewN | apply below_drew1) | exact HB.out)⟩⟩
                case rest =>
                  clear HC15
                  try clear c1
                  try clear c2
                  try clear p2
                  try clear q2
                  try clear p3
                  try clear q3
                  try clear hx3
                  try clear qi3
                  try clear c4
                  try clear c4b0
                  try clear c5
                  try clear c5b0
                  try clear c6
                  try clear c6b0
                  try clear p7
                  try clear q7
                  try clear hx7
                  try clear p8
                  try clear q8
                  try clear hx8
                  try clear c13
                  try clear c13b0
                  try clear c13b1
                  try clear c14
                  try clear c14b0
                  try clear c14b1
                  try clear c16
                  try clear c17
                  try clear c17b0
                  try clear c17b1
                  try clear c18
                  try clear c18b0
                  try clear c18b1
                  try clear c20
                  try clear q20
                  try clear hx300_0
                  try clear p2
                  try clear p300
                  try clear p7
                  try clear p8
                  try clear q20
                  try clear q300
                  try clear q7
                  try clear q8
                  obtain ⟨kq, x11_14, x12_14, rfl, HA, HJ14, HO_9, HO_11, HB⟩ := hcut
                  cases kq with
                  | zero => exact absurd HA.out (by simp [digits_unpackHalves.j2])
                  | succ kj14 =>
                    have H := HA.out
                    clear HA
                    simp only [digits_unpackHalves.j2] at H
                    have HC21 := Aside0.mk H
                    clear H
                    go_upto_region 10 with (fail)
                    go_cut [61] (fun v61 wc => ∃ (kq : Nat) (x61_20 : Bool), v61 = .bool x61_20 ∧ Aside0 (digits_unpackHalves.j3 kq a0 a1 a2 x9_1 x19_1 x11_14 x12_14 (a1.size : Int) x19_1 x61_20 = some (r1, r2, r3)) ∧ Aside0 (kq ≤ kj14) ∧ Aside0 (Kd.R (Kd.int .u8) 5 wc w.heap.size (fun k_ => some k_ ≠ (u11 : Value).ownBlock) u9 x9_1) ∧ Aside0 (Kd.Q (Kd.int .u8) 5 wc w.heap.size (fun k_ => some k_ ≠ (u9 : Value).ownBlock) u11 x11_14) ∧ Aside0 (Below w.heap.size w wc))
                    case first =>
                      have H := HC21.out
                      clear HC21
                      by_cases c22 : (Int.tmod a2 2) = 1
                      · rw [if_pos c22] at H
                        have c22b0 : ((Int.tmod a2 2) == 1) = true := beq_iff_eq.mpr c22
                        have c22b1 : ((Int.tmod a2 2) != 1) = false := bne_eq_false_iff_eq.mpr c22
                        clear c22
                        (first | rw [c22b0] | (simp only [i64_w, i32_w]; rw [c22b0]) | skip)
                        by_cases c23 : a0 = 3
                        · rw [if_pos c23] at H
                          have c23b0 : (a0 == 3) = true := beq_iff_eq.mpr c23
                          have c23b1 : (a0 != 3) = false := bne_eq_false_iff_eq.mpr c23
                          clear c23
                          have H' := Aside0.mk H
                          clear H
                          go_wp2
                          go_meet
                          case rel => exact ⟨_, ((x19_1 == (wrap64 ((a1.size : Int) - 1)))), (by first | rfl | (simp; done) | (simp [*]; done)), H', ⟨by have := HK1.out; have := HJ8.out; have := HJ14.out; first | omega | exact Nat.le_refl _⟩, ⟨by (with_reducible repeat (first | apply Kd.R_alloc | apply Kd.R_drewN | apply Kd.R_drew)); exact HO_9.out⟩, ⟨by (with_reducible repeat (first | apply Kd.Q_alloc | apply Kd.Q_drewN | apply Kd.Q_drew)); exact HO_11.out⟩, ⟨by repeat (first | (with_reducible first | exact HB.out | apply below_alloc | apply pw_below_drewN | apply below_drew1) | exact HB.out)⟩⟩
                        · rw [if_neg c23] at H
                          have c23b0 : (a0 == 3) = false := beq_eq_false_iff_ne.mpr c23
                          have c23b1 : (a0 != 3) = true := bne_iff_ne.mpr c23
                          have H' := Aside0.mk H
                          clear H
                          go_wp2
                          go_meet
                          case rel => exact ⟨_, (false), (by first | rfl | (simp; done) | (simp [*]; done)), H', ⟨by have := HK1.out; have := HJ8.out; have := HJ14.out; first | omega | exact Nat.le_refl _⟩, ⟨by (with_reducible repeat (first | apply Kd.R_alloc | apply Kd.R_drewN | apply Kd.R_drew)); exact HO_9.out⟩, ⟨by (with_reducible repeat (first | apply Kd.Q_alloc | apply Kd.Q_drewN | apply Kd.Q_drew)); exact HO_11.out⟩, ⟨by repeat (first | (with_reducible first | exact HB.out | apply below_alloc | apply pw_below_drewN | apply below_drew1) | exact HB.out)⟩⟩
                      · rw [if_neg c22] at H
                        have c22b0 : ((Int.tmod a2 2) == 1) = false := beq_eq_false_iff_ne.mpr c22
                        have c22b1 : ((Int.tmod a2 2) != 1) = true := bne_iff_ne.mpr c22
                        (first | rw [c22b0] | (simp only [i64_w, i32_w]; rw [c22b0]) | skip)
                        have H' := Aside0.mk H
                        clear H
                        go_wp2
                        go_meet
                        case rel => exact ⟨_, (false), (by first | rfl | (simp; done) | (simp [*]; done)), H', ⟨by have := HK1.out; have := HJ8.out; have := HJ14.out; first | omega | exact Nat.le_refl _⟩, ⟨by (with_reducible repeat (first | apply Kd.R_alloc | apply Kd.R_drewN | apply Kd.R_drew)); exact HO_9.out⟩, ⟨by (with_reducible repeat (first | apply Kd.Q_alloc | apply Kd.Q_drewN | apply Kd.Q_drew)); exact HO_11.out⟩, ⟨by repeat (first | (with_reducible first | exact HB.out | apply below_alloc | apply pw_below_drewN | apply below_drew1) | exact HB.out)⟩⟩
                    case rest =>
                      clear HC21
                      try clear c1
                      try clear c2
                      try clear p2
                      try clear q2
                      try clear p3
                      try clear q3
                      try clear hx3
                      try clear qi3
                      try clear c4
                      try clear c4b0
                      try clear c5
                      try clear c5b0
                      try clear c6
                      try clear c6b0
                      try clear p6
                      try clear p7
                      try clear q7
                      try clear hx7
                      try clear p8
                      try clear q8
                      try clear hx8
                      try clear c13
                      try clear c13b0
                      try clear c13b1
                      try clear c14
                      try clear c14b0
                      try clear c14b1
                      try clear c16
                      try clear c17
                      try clear c17b0
                      try clear c17b1
                      try clear c18
                      try clear c18b0
                      try clear c18b1
                      try clear c20
                      try clear q20
                      try clear c22
                      try clear c22b0
                      try clear c22b1
                      try clear c23
                      try clear c23b0
                      try clear c23b1
                      try clear hx300_0
                      try clear p2
                      try clear p3
                      try clear p300
                      try clear p7
                      try clear p8
                      try clear q2
                      try clear q20
                      try clear q3
                      try clear q300
                      try clear q7
                      try clear q8
                      obtain ⟨kq, x61_20, rfl, HA, HJ20, HO_9, HO_11, HB⟩ := hcut
                      cases kq with
                      | zero => exact absurd HA.out (by simp [digits_unpackHalves.j3])
                      | succ kj20 =>
                        have H := HA.out
                        clear HA
                        simp only [digits_unpackHalves.j3] at H
                        have HC24 := Aside0.mk H
                        clear H
                        go_upto_if 61 with (fail)
                        go_cut [11, 12] (fun v11 v12 wc => ∃ (kq : Nat) (x11_23 : List Int) (x12_23 : Bool), v12 = .bool x12_23 ∧ Aside0 (digits_unpackHalves.j4 kq a0 a1 a2 x9_1 x19_1 x11_23 x12_23 (a1.size : Int) x19_1 = some (r1, r2, r3)) ∧ Aside0 (kq ≤ kj20) ∧ Aside0 (Kd.R (Kd.int .u8) 5 wc w.heap.size (fun k_ => some k_ ≠ (v11 : Value).ownBlock) u9 x9_1) ∧ Aside0 (Kd.Q (Kd.int .u8) 5 wc w.heap.size (fun k_ => some k_ ≠ (u9 : Value).ownBlock) v11 x11_23) ∧ Aside0 (Below w.heap.size w wc))
                        case first =>
                          have H := HC24.out
                          clear HC24
                          by_cases c25 : x61_20 = true
                          · subst c25
                            have H1 : (if 1 < (x11_14.length : Int) then (if 1 ≤ (x11_14.length : Int) then (digits_unpackHalves.j4 kj20 a0 a1 a2 x9_1 x19_1 (x11_14.take (1 : Int).toNat) ((rd x11_14 1) != 15) (a1.size : Int) x19_1) else (none)) else (none)) = some (r1, r2, r3) := by rw [if_pos rfl] at H; exact H
                            clear H
                            have H := H1
                            clear H1
                            by_cases c26 : 1 < (x11_14.length : Int)
                            · rw [if_pos c26] at H
                              have c26b0 : decide (1 < (x11_14.length : Int)) = true := decide_eq_true c26
                              have c26b1 : decide (1 < x11_14.length) = true := decide_eq_true (by omega)
                              clear c26
                              (first | rw [c26b0] | (simp only [i64_w, i32_w]; rw [c26b0]) | skip)
                              by_cases c27 : 1 ≤ (x11_14.length : Int)
                              · rw [if_pos c27] at H
                                have c27b0 := eq_true c27
                                have c27b1 : decide (1 ≤ (x11_14.length : Int)) = true := decide_eq_true c27
                                clear c27
                                obtain ⟨y305, hy305⟩ : ∃ y_ : List Int, y_ = (x11_14.take (1 : Int).toNat) := ⟨_, rfl⟩
                                replace H : (digits_unpackHalves.j4 kj20 a0 a1 a2 x9_1 x19_1 y305 ((rd x11_14 1) != 15) (a1.size : Int) x19_1) = some (r1, r2, r3) := by first | (rw [hy305]; with_reducible exact H) | (have H2_ := (Option.bind_some _ _).symm.trans H; rw [hy305]; with_reducible exact H2_) | (have H2_ := (Option.bind_some _ _).symm.trans H; with_reducible exact H2_) | with_reducible exact H | (rw [hy305]; exact H) | exact H
                                have Ny305 := Aside0.mk hy305
                                clear hy305
                                have H' := Aside0.mk H
                                clear H
                                obtain ⟨Ao28, co28, eo28, _⟩ := Kd.Q_slice HO_11.out
                                subst eo28
                                have p304 : 0 ≤ (1 : Int) := (by omega)
                                have q304 : 1 < (x11_14.length : Int) := of_decide_eq_true (by first | (with_reducible assumption) | assumption)
                                obtain ⟨ad304, e304, hx304_0⟩ := Kd.at_int (Kd.Q_reads' HO_11.out).2.2 1 p304 q304
                                cases e304
                                (try simp only [show (1 : Int).toNat = 1 from rfl, Nat.reduceMul, Nat.reduceEqDiff, Go.Addr.add, ↓reduceIte] at hx304_0)
                                have qi304 : (1 < x11_14.length) = True := eq_true (by omega)
                                (try rw [show ((1 : Int)).toNat = 1 from rfl] at hx304_0)
                                replace p304 := eq_true p304
                                replace q304 := eq_true q304
                                have q29 : (1 : Int) ≤ ((x11_14.length : Int) : Int) := of_decide_eq_true (by first | (with_reducible assumption) | assumption)
                                obtain ⟨i029, hi029, _, hsz29, _⟩ := info_parts info5
                                have hcut29 := cut_to (P := Try.prog) 51 5 .i64 Try.underlying51 hi029 (some ad304) x11_14.length co28 1 (by omega) q29 (Kd.Q_reads' HO_11.out).2.1
                                have hr29 := Kd.Q_take (m := (1 : Int).toNat) HO_11.out (by omega)
                                have hy29 : y305.length = (1 : Int).toNat := (by rw [Ny305.out, List.length_take]; omega)
                                rw [← Ny305.out] at hr29
                                rw [← hy29] at hr29 hcut29
                                clear hy29 hi029 hsz29 HO_11
                                have HO307 := Aside0.mk hr29
                                clear hr29
                                replace q29 := eq_true q29
                                go_wp2
                                go_meet
                                case rel => exact ⟨_, (y305), (((rd x11_14 1) != 15)), (by first | rfl | (simp; done) | (simp [*]; done)), H', ⟨by have := HK1.out; have := HJ8.out; have := HJ14.out; have := HJ20.out; first | omega | exact Nat.le_refl _⟩, ⟨by (with_reducible repeat (first | apply Kd.R_alloc | apply Kd.R_drewN | apply Kd.R_drew)); exact HO_9.out⟩, ⟨by (with_reducible repeat (first | apply Kd.Q_alloc | apply Kd.Q_drewN | apply Kd.Q_drew)); exact HO307.out⟩, ⟨by repeat (first | (with_reducible first | exact HB.out | apply below_alloc | apply pw_below_drewN | apply below_drew1) | exact HB.out)⟩⟩
                              · rw [if_neg c27] at H
                                exact absurd H (by simp)
                            · rw [if_neg c26] at H
                              exact absurd H (by simp)
                          · replace c25 := Bool.eq_false_iff.mpr c25
                            subst c25
                            have H1 : (digits_unpackHalves.j4 kj20 a0 a1 a2 x9_1 x19_1 x11_14 x12_14 (a1.size : Int) x19_1) = some (r1, r2, r3) := by rw [if_neg (show ¬ (false = true) by decide)] at H; exact H
                            clear H
                            have H := H1
                            clear H1
                            have H' := Aside0.mk H
                            clear H
                            go_wp2
                            go_meet
                            case rel => exact ⟨_, (x11_14), (x12_14), (by first | rfl | (simp; done) | (simp [*]; done)), H', ⟨by have := HK1.out; have := HJ8.out; have := HJ14.out; have := HJ20.out; first | omega | exact Nat.le_refl _⟩, ⟨by (with_reducible repeat (first | apply Kd.R_alloc | apply Kd.R_drewN | apply Kd.R_drew)); exact HO_9.out⟩, ⟨by (with_reducible repeat (first | apply Kd.Q_alloc | apply Kd.Q_drewN | apply Kd.Q_drew)); exact HO_11.out⟩, ⟨by repeat (first | (with_reducible first | exact HB.out | apply below_alloc | apply pw_below_drewN | apply below_drew1) | exact HB.out)⟩⟩
                        case rest =>
                          clear HC24
                          try clear c1
                          try clear c2
                          try clear p2
                          try clear q2
                          try clear p3
                          try clear q3
                          try clear hx3
                          try clear qi3
                          try clear c4
                          try clear c4b0
                          try clear c5
                          try clear c5b0
                          try clear c6
                          try clear c6b0
                          try clear p6
                          try clear p7
                          try clear q7
                          try clear hx7
                          try clear p8
                          try clear q8
                          try clear hx8
                          try clear c13
                          try clear c13b0
                          try clear c13b1
                          try clear c14
                          try clear c14b0
                          try clear c14b1
                          try clear c16
                          try clear c17
                          try clear c17b0
                          try clear c17b1
                          try clear c18
                          try clear c18b0
                          try clear c18b1
                          try clear c20
                          try clear q20
                          try clear c22
                          try clear c22b0
                          try clear c22b1
                          try clear c23
                          try clear c23b0
                          try clear c23b1
                          try clear c25
                          try clear c26
                          try clear c26b0
                          try clear c26b1
                          try clear c27
                          try clear c27b0
                          try clear c27b1
                          try clear q29
                          try clear hx300_0
                          try clear hx304_0
                          try clear p2
                          try clear p3
                          try clear p300
                          try clear p304
                          try clear p6
                          try clear p7
                          try clear p8
                          try clear q2
                          try clear q20
                          try clear q29
                          try clear q3
                          try clear q300
                          try clear q304
                          try clear q7
                          try clear q8
                          obtain ⟨kq, x11_23, x12_23, rfl, HA, HJ23, HO_9, HO_11, HB⟩ := hcut
                          cases kq with
                          | zero => exact absurd HA.out (by simp [digits_unpackHalves.j4])
                          | succ kj23 =>
                            have H := HA.out
                            clear HA
                            simp only [digits_unpackHalves.j4] at H
                            have H' := Aside0.mk H
                            clear H
                            obtain ⟨Ao30, co30, eo30, _⟩ := Kd.Q_slice HO_11.out
                            subst eo30
                            go_wp2
                            go_loopg [9, 70] kj23 (fun kq v9 v70 w' => ∃ (x9_6 : List Int) (x70_6 : Int), v70 = .int .i64 x70_6 ∧ Aside0 (digits_unpackHalves.l1 kq a0 a1 a2 x9_6 x19_1 x12_23 (a1.size : Int) x19_1 x11_23 (x11_23.length : Int) x70_6 = some (r1, r2, r3)) ∧ Aside0 (kq ≤ kj23) ∧ Aside0 (Kd.R (Kd.int .u8) 5 w' w.heap.size (fun k_ => some k_ ≠ ((.slice Ao30 x11_23.length co30) : Value).ownBlock) v9 x9_6) ∧ Aside0 (Kd.Q (Kd.int .u8) 5 w' w.heap.size (fun k_ => some k_ ≠ (v9 : Value).ownBlock) (.slice Ao30 x11_23.length co30) x11_23) ∧ Aside0 (Below w.heap.size w w'))
                            case atStart => exact ⟨(x9_1), (0), (by first | rfl | (simp; done) | (simp [*]; done)), H', ⟨Nat.le_refl _⟩, ⟨by (with_reducible repeat (first | apply Kd.R_alloc | apply Kd.R_drewN | apply Kd.R_drew)); exact HO_9.out⟩, ⟨by (with_reducible repeat (first | apply Kd.Q_alloc | apply Kd.Q_drewN | apply Kd.Q_drew)); exact HO_11.out⟩, ⟨by repeat (first | (with_reducible first | exact HB.out | apply below_alloc | apply pw_below_drewN | apply below_drew1) | exact HB.out)⟩⟩
                            case round =>
                              clear H'
                              try clear c1
                              try clear c2
                              try clear p2
                              try clear q2
                              try clear p3
                              try clear q3
                              try clear hx3
                              try clear qi3
                              try clear c4
                              try clear c4b0
                              try clear c5
                              try clear c5b0
                              try clear c6
                              try clear c6b0
                              try clear p6
                              try clear p7
                              try clear q7
                              try clear hx7
                              try clear p8
                              try clear q8
                              try clear hx8
                              try clear c13
                              try clear c13b0
                              try clear c13b1
                              try clear c14
                              try clear c14b0
                              try clear c14b1
                              try clear c16
                              try clear c17
                              try clear c17b0
                              try clear c17b1
                              try clear c18
                              try clear c18b0
                              try clear c18b1
                              try clear c20
                              try clear q20
                              try clear c22
                              try clear c22b0
                              try clear c22b1
                              try clear c23
                              try clear c23b0
                              try clear c23b1
                              try clear c25
                              try clear c26
                              try clear c26b0
                              try clear c26b1
                              try clear c27
                              try clear c27b0
                              try clear c27b1
                              try clear q29
                              try clear p30
                              try clear q30
                              try clear hx30
                              try clear qi30
                              try clear hx300_0
                              try clear hx304_0
                              try clear p2
                              try clear p3
                              try clear p300
                              try clear p304
                              try clear p6
                              try clear p7
                              try clear p8
                              try clear q2
                              try clear q20
                              try clear q29
                              try clear q3
                              try clear q300
                              try clear q304
                              try clear q7
                              try clear q8
                              obtain ⟨x9_6, x70_6, rfl, HA, HK6, HO_9, HO_68, HB⟩ := hrel
                              cases gk with
                              | zero => exact absurd HA.out (by simp [digits_unpackHalves.l1])
                              | succ k6 =>
                                have H := HA.out
                                clear HA
                                simp only [digits_unpackHalves.l1] at H
                                by_cases c31 : x70_6 < (x11_23.length : Int)
                                · rw [if_pos c31] at H
                                  have c31b0 : decide (x70_6 < (x11_23.length : Int)) = true := decide_eq_true c31
                                  clear c31
                                  by_cases c32 : 0 ≤ x70_6
                                  · rw [if_pos c32] at H
                                    have c32b0 : decide (0 ≤ x70_6) = true := decide_eq_true c32
                                    clear c32
                                    by_cases c33 : x70_6 < (x11_23.length : Int)
                                    · rw [if_pos c33] at H
                                      have c33b0 : decide (x70_6 < (x11_23.length : Int)) = true := decide_eq_true c33
                                      clear c33
                                      replace H := Option.bind_eq_some_iff.mp H
                                      obtain ⟨⟨t309, t310⟩, A340, H⟩ := H
                                      replace H : (if t310 = true then (if x9_6.length < 140737488355328 then (digits_unpackHalves.l1 k6 a0 a1 a2 (x9_6 ++ [t309]) x19_1 x12_23 (a1.size : Int) x19_1 x11_23 (x11_23.length : Int) (wrap64 (x70_6 + 1))) else (none)) else (some ((⟨#[]⟩ : ByteArray), 11, x19_1))) = some (r1, r2, r3) := H
                                      have A34 := Aside0.mk A340
                                      clear A340
                                      by_cases c35 : t310 = true
                                      · subst c35
                                        have H1 : (if x9_6.length < 140737488355328 then (digits_unpackHalves.l1 k6 a0 a1 a2 (x9_6 ++ [t309]) x19_1 x12_23 (a1.size : Int) x19_1 x11_23 (x11_23.length : Int) (wrap64 (x70_6 + 1))) else (none)) = some (r1, r2, r3) := by rw [if_pos rfl] at H; exact H
                                        clear H
                                        have H := H1
                                        clear H1
                                        by_cases c36 : x9_6.length < 140737488355328
                                        · rw [if_pos c36] at H
                                          have LMc36 := Aside0.mk c36
                                          clear c36
                                          obtain ⟨y311, hy311⟩ : ∃ y_ : List Int, y_ = (x9_6 ++ [t309]) := ⟨_, rfl⟩
                                          replace H : (digits_unpackHalves.l1 k6 a0 a1 a2 y311 x19_1 x12_23 (a1.size : Int) x19_1 x11_23 (x11_23.length : Int) (wrap64 (x70_6 + 1))) = some (r1, r2, r3) := by first | (rw [hy311]; with_reducible exact H) | (have H2_ := (Option.bind_some _ _).symm.trans H; rw [hy311]; with_reducible exact H2_) | (have H2_ := (Option.bind_some _ _).symm.trans H; with_reducible exact H2_) | with_reducible exact H | (rw [hy311]; exact H) | exact H
                                          have Ny311 := Aside0.mk hy311
                                          clear hy311
                                          have H' := Aside0.mk H
                                          clear H
                                          have p308 : 0 ≤ (x70_6 : Int) := of_decide_eq_true (by first | (with_reducible assumption) | assumption)
                                          have q308 : x70_6 < (x11_23.length : Int) := of_decide_eq_true (by first | (with_reducible assumption) | assumption)
                                          obtain ⟨ad308, e308, hx308_0⟩ := Kd.at_int (Kd.Q_reads' HO_68.out).2.2 x70_6 p308 q308
                                          cases e308
                                          replace p308 := eq_true p308
                                          replace q308 := eq_true q308
                                          go_wp2_with (first | ((with_reducible refine gate_callee (f := 62) rfl ?_); refine goesL_ (some 76) rfl rfl Try.func62 (by kernel_rfl) rfl #[.int .u8 (rd x11_23 x70_6)] rfl (by (try simp only [List.map_toArray, List.map_cons, List.map_nil]); first | done | rfl | (simp only [List.length_drop, List.length_take]; rfl)) ?_; (with_reducible refine (digits_character.calls (rd x11_23 x70_6) t309 true _ A34.out).mono ?_); rintro e w' ⟨rfl, ⟨nd, rfl⟩⟩; refine ⟨_, rfl, ?_⟩) | ((with_reducible refine gate_builtin (b := .append) (xs := #[.tmp 82, .tmp 84]) rfl ?_); (try (refine gate_guard (by rfl) ?_; dsimp only)); at_builtin; refine Kd.R_append (Kd.int .u8) (w0 := w) w.heap.size rfl (.tmp 82) (.tmp 84) 51 5 (.int .u8 0) 1 rfl Try.underlying51 info5 rfl (by decide) (by omega) u9 x9_6 t309 [.int .u8 t309] (fun k_ => some k_ ≠ (.slice (some ad308) x11_23.length co30 : Value).ownBlock) (fun _ => False) rfl rfl ?aP (fun _ hk => hk.elim) ?aF ?aO ?aB ?aS ?aL ?_; (case aP => exact rfl); (case aB => exact (by repeat (first | (with_reducible first | exact HB.out | apply below_alloc | apply pw_below_drewN | apply below_drew1) | exact HB.out))); (case aF => exact (fun k_ hk => Kd.fresh' (Kd.Q_lt (by (with_reducible repeat (first | apply Kd.Q_alloc | apply Kd.Q_drewN | apply Kd.Q_drew)); exact HO_68.out)) k_ hk)); (case aO => exact (by (with_reducible repeat (first | apply Kd.R_alloc | apply Kd.R_drewN | apply Kd.R_drew)); exact HO_9.out)); (case aS => exact (below_size (by repeat (first | (with_reducible first | exact HB.out | apply below_alloc | apply pw_below_drewN | apply below_drew1) | exact HB.out)))); (case aL => have := LMc36.out; omega); intro v312 w37 ho hb hg hat; rw [← Ny311.out] at ho; have n0_ := Aside0.mk (Kd.Q_after (ok := (fun _ => True)) (by (with_reducible repeat (first | apply Kd.Q_alloc | apply Kd.Q_drewN | apply Kd.Q_drew)); exact Kd.Q_mono HO_68.out (fun _ hk => ⟨trivial, hk⟩)) hg hat); have n1_ := Aside0.mk (hb); have n2_ := Aside0.mk (ho); clear HO_68; clear HB; clear HO_9; have HO_68 := n0_; have HB := n1_; have HO313 := n2_; clear n0_ n1_ n2_; clear ho hb hg hat))
                                          go_roundg k6
                                          case measure => have := HK1.out; have := HJ8.out; have := HJ14.out; have := HJ20.out; have := HJ23.out; have := HK6.out; omega
                                          case rel => exact ⟨(y311), (wrap64 (x70_6 + 1)), (by first | rfl | (simp; done) | (simp [*]; done)), H', ⟨by have := HK1.out; have := HJ8.out; have := HJ14.out; have := HJ20.out; have := HJ23.out; have := HK6.out; omega⟩, ⟨by (with_reducible repeat (first | apply Kd.R_alloc | apply Kd.R_drewN | apply Kd.R_drew)); exact HO313.out⟩, ⟨by (with_reducible repeat (first | apply Kd.Q_alloc | apply Kd.Q_drewN | apply Kd.Q_drew)); exact Kd.Q_mono HO_68.out (fun _ hk => hk.2)⟩, ⟨by repeat (first | (with_reducible first | exact HB.out | apply below_alloc | apply pw_below_drewN | apply below_drew1) | exact HB.out)⟩⟩
                                        · rw [if_neg c36] at H
                                          exact absurd H (by simp)
                                      · replace c35 := Bool.eq_false_iff.mpr c35
                                        subst c35
                                        have H1 : (some ((⟨#[]⟩ : ByteArray), 11, x19_1)) = some (r1, r2, r3) := by rw [if_neg (show ¬ (false = true) by decide)] at H; exact H
                                        clear H
                                        have H := H1
                                        clear H1
                                        simp only [Option.some.injEq, Prod.mk.injEq] at H
                                        obtain ⟨rfl, rfl, rfl⟩ := H
                                        have p308 : 0 ≤ (x70_6 : Int) := of_decide_eq_true (by first | (with_reducible assumption) | assumption)
                                        have q308 : x70_6 < (x11_23.length : Int) := of_decide_eq_true (by first | (with_reducible assumption) | assumption)
                                        obtain ⟨ad308, e308, hx308_0⟩ := Kd.at_int (Kd.Q_reads' HO_68.out).2.2 x70_6 p308 q308
                                        cases e308
                                        replace p308 := eq_true p308
                                        replace q308 := eq_true q308
                                        go_wp2_with (first | ((with_reducible refine gate_callee (f := 62) rfl ?_); refine goesL_ (some 76) rfl rfl Try.func62 (by kernel_rfl) rfl #[.int .u8 (rd x11_23 x70_6)] rfl (by (try simp only [List.map_toArray, List.map_cons, List.map_nil]); first | done | rfl | (simp only [List.length_drop, List.length_take]; rfl)) ?_; (with_reducible refine (digits_character.calls (rd x11_23 x70_6) t309 false _ A34.out).mono ?_); rintro e w' ⟨rfl, ⟨nd, rfl⟩⟩; refine ⟨_, rfl, ?_⟩))
                                        go_ret3
                                        exact ⟨by first | rfl | (simp [errW_none, errW_some] <;> rfl) | (simp [*, errW_none, errW_some] <;> rfl), by repeat (first | (with_reducible first | exact HB.out | apply below_alloc | apply pw_below_drewN | apply below_drew1) | exact HB.out)⟩
                                    · rw [if_neg c33] at H
                                      exact absurd H (by simp)
                                  · rw [if_neg c32] at H
                                    exact absurd H (by simp)
                                · rw [if_neg c31] at H
                                  have c31b0 : decide (x70_6 < (x11_23.length : Int)) = false := decide_eq_false c31
                                  clear c31
                                  by_cases c38 : x12_23 = true
                                  · subst c38
                                    have H1 : (some ((⟨#[]⟩ : ByteArray), 12, x19_1)) = some (r1, r2, r3) := by rw [if_pos rfl] at H; exact H
                                    clear H
                                    have H := H1
                                    clear H1
                                    simp only [Option.some.injEq, Prod.mk.injEq] at H
                                    obtain ⟨rfl, rfl, rfl⟩ := H
                                    go_wp2
                                    go_ret3
                                    exact ⟨by first | rfl | (simp [errW_none, errW_some] <;> rfl) | (simp [*, errW_none, errW_some] <;> rfl), by repeat (first | (with_reducible first | exact HB.out | apply below_alloc | apply pw_below_drewN | apply below_drew1) | exact HB.out)⟩
                                  · replace c38 := Bool.eq_false_iff.mpr c38
                                    subst c38
                                    have H1 : (digits_unpackHalves.l0 k6 a0 a1 a2 x9_6 (a1.size : Int) (wrap64 (x19_1 + 1))) = some (r1, r2, r3) := by rw [if_neg (show ¬ (false = true) by decide)] at H; exact H
                                    clear H
                                    have H := H1
                                    clear H1
                                    have H' := Aside0.mk H
                                    clear H
                                    go_wp2
                                    go_roundg k6
                                    case measure => have := HK1.out; have := HJ8.out; have := HJ14.out; have := HJ20.out; have := HJ23.out; have := HK6.out; omega
                                    case rel => exact ⟨(x9_6), (wrap64 (x19_1 + 1)), (by first | rfl | (simp; done) | (simp [*]; done)), H', ⟨by have := HK1.out; have := HJ8.out; have := HJ14.out; have := HJ20.out; have := HJ23.out; have := HK6.out; omega⟩, ⟨by (with_reducible repeat (first | apply Kd.R_alloc | apply Kd.R_drewN | apply Kd.R_drew)); exact Kd.R_mono HO_9.out (fun _ hk => trivial)⟩, ⟨by repeat (first | (with_reducible first | exact HB.out | apply below_alloc | apply pw_below_drewN | apply below_drew1) | exact HB.out)⟩⟩
          · rw [if_neg c6] at H
            exact absurd H (by simp)
        · rw [if_neg c5] at H
          exact absurd H (by simp)
      · rw [if_neg c4] at H
        have c4b0 : decide (x19_1 < (a1.size : Int)) = false := decide_eq_false c4
        clear c4
        simp only [Option.some.injEq, Prod.mk.injEq] at H
        obtain ⟨rfl, rfl, rfl⟩ := H
        have hcv39 := own_string (P := Try.prog) Try.underlying51 Try.underlying5 Try.underlying9 (Kd.own_of_R HO_9.out)
        go_wp2
        go_ret3
        exact ⟨by first | rfl | (simp [errW_none, errW_some] <;> rfl) | (simp [*, errW_none, errW_some] <;> rfl), by repeat (first | (with_reducible first | exact HB.out | apply below_alloc | apply pw_below_drewN | apply below_drew1) | exact HB.out)⟩

end Go.Proofs.Ytlpamhffpgoebaa.All
