/- DigitsLengths of the package turnstilelaw1: of every two integers and every text digits.Length tells what the reference's does, its place too; of BINARY, 4 and the bytes 04 d2 it tells 1234 in 2 bytes. No condition. Texts of this claim laid together by merge.py: Ax46, Ax47, Pg, Ph, Ax14, Ax25, Ax11, Ax13, Ax16, Pb, Pf, Pi -/
import Derived.Test.YtlpamhffpgoebaaMLengthsa
import Derived.Test.YtlpamhffpgoebaaMLengthsb
import Derived.Laws.BitsAllLaws
-- WRITTEN BY this session's own drv.py over the kit's print. Not trusted: Lean checks it.
namespace Go.Proofs.Ytlpamhffpgoebaa.All
open Go.RowKit Go.Proofs.YtlpamhffpgoebaaW.PrintWords Go.Proofs.YtlpamhffpgoebaaW.PrintLast Go.Proofs.YtlpamhffpgoebaaW.PrintMore
attribute [local go_sem] max2_int min2_int max_two min_two max_three min_three max_four min_four   -- for this text's walks alone
set_option linter.unusedVariables false
set_option linter.unusedSimpArgs false

/-! ### digits_unpackHalves: function 53 -/
mutual
def digits_unpackHalves.l0 : Nat → Int → ByteArray → Int → List Int → Int → Int → Option (ByteArray × Int × Int)
  | 0, _, _, _, _, _, _ => none
  | k + 1, x0, x1, x2, x9, x18, x19 => if x19 < x18 then (if 0 ≤ x19 then (if x19 < (x1.size : Int) then ((some (([(bt x1 x19) / 16, Go.bits .and .u8 (bt x1 x19) 15] : List Int) : List Int)).bind fun y297 => (if (Int.tmod x2 2) = 1 then (if x0 = 2 then (digits_unpackHalves.j1 k x0 x1 x2 x9 x19 y297 false x18 x19 (x19 == 0)) else (digits_unpackHalves.j1 k x0 x1 x2 x9 x19 y297 false x18 x19 false)) else (digits_unpackHalves.j1 k x0 x1 x2 x9 x19 y297 false x18 x19 false))) else (none)) else (none)) else (some (strOfNums x9, 0, 0))
def digits_unpackHalves.j1 : Nat → Int → ByteArray → Int → List Int → Int → List Int → Bool → Int → Int → Bool → Option (ByteArray × Int × Int)
  | 0, _, _, _, _, _, _, _, _, _, _ => none
  | k + 1, x0, x1, x2, x9, x10, x11, x12, x18, x19, x41 => if x41 = true then (if 0 < (x11.length : Int) then (if 1 ≤ (x11.length : Int) then (digits_unpackHalves.j2 k x0 x1 x2 x9 x10 (x11.drop (1 : Int).toNat) ((rd x11 0) != 0) x18 x19) else (none)) else (none)) else (digits_unpackHalves.j2 k x0 x1 x2 x9 x10 x11 x12 x18 x19)
def digits_unpackHalves.j2 : Nat → Int → ByteArray → Int → List Int → Int → List Int → Bool → Int → Int → Option (ByteArray × Int × Int)
  | 0, _, _, _, _, _, _, _, _, _ => none
  | k + 1, x0, x1, x2, x9, x10, x11, x12, x18, x19 => if (Int.tmod x2 2) = 1 then (if x0 = 3 then (digits_unpackHalves.j3 k x0 x1 x2 x9 x10 x11 x12 x18 x19 (x10 == (wrap64 ((x1.size : Int) - 1)))) else (digits_unpackHalves.j3 k x0 x1 x2 x9 x10 x11 x12 x18 x19 false)) else (digits_unpackHalves.j3 k x0 x1 x2 x9 x10 x11 x12 x18 x19 false)
def digits_unpackHalves.j3 : Nat → Int → ByteArray → Int → List Int → Int → List Int → Bool → Int → Int → Bool → Option (ByteArray × Int × Int)
  | 0, _, _, _, _, _, _, _, _, _, _ => none
  | k + 1, x0, x1, x2, x9, x10, x11, x12, x18, x19, x61 => if x61 = true then (if 1 < (x11.length : Int) then (if 1 ≤ (x11.length : Int) then (digits_unpackHalves.j4 k x0 x1 x2 x9 x10 (x11.take (1 : Int).toNat) ((rd x11 1) != 15) x18 x19) else (none)) else (none)) else (digits_unpackHalves.j4 k x0 x1 x2 x9 x10 x11 x12 x18 x19)
def digits_unpackHalves.j4 : Nat → Int → ByteArray → Int → List Int → Int → List Int → Bool → Int → Int → Option (ByteArray × Int × Int)
  | 0, _, _, _, _, _, _, _, _, _ => none
  | k + 1, x0, x1, x2, x9, x10, x11, x12, x18, x19 => digits_unpackHalves.l1 k x0 x1 x2 x9 x10 x12 x18 x19 x11 (x11.length : Int) 0
def digits_unpackHalves.l1 : Nat → Int → ByteArray → Int → List Int → Int → Bool → Int → Int → List Int → Int → Int → Option (ByteArray × Int × Int)
  | 0, _, _, _, _, _, _, _, _, _, _, _ => none
  | k + 1, x0, x1, x2, x9, x10, x12, x18, x19, x68, x69, x70 => if x70 < x69 then (if 0 ≤ x70 then (if x70 < (x68.length : Int) then ((digits_character.f (rd x68 x70)).bind fun bt309 => (if bt309.2 = true then (if x9.length < 140737488355328 then (digits_unpackHalves.l1 k x0 x1 x2 (x9 ++ [bt309.1]) x10 x12 x18 x19 x68 x69 (wrap64 (x70 + 1))) else (none)) else (some ((⟨#[]⟩ : ByteArray), 11, x10)))) else (none)) else (none)) else (if x12 = true then (some ((⟨#[]⟩ : ByteArray), 12, x10)) else (digits_unpackHalves.l0 k x0 x1 x2 x9 x18 (wrap64 (x19 + 1))))
end
def digits_unpackHalves.f (k : Nat) (a0 : Int) (a1 : ByteArray) (a2 : Int) : Option (ByteArray × Int × Int) := digits_unpackHalves.l0 k a0 a1 a2 ([] : List Int) (a1.size : Int) 0
theorem digits_unpackHalves.mono_l : ∀ k, (∀ y0 y1 y2 y3 y4 y5, LeO (digits_unpackHalves.l0 k y0 y1 y2 y3 y4 y5) (digits_unpackHalves.l0 (k + 1) y0 y1 y2 y3 y4 y5)) ∧ (∀ y0 y1 y2 y3 y4 y5 y6 y7 y8 y9, LeO (digits_unpackHalves.j1 k y0 y1 y2 y3 y4 y5 y6 y7 y8 y9) (digits_unpackHalves.j1 (k + 1) y0 y1 y2 y3 y4 y5 y6 y7 y8 y9)) ∧ (∀ y0 y1 y2 y3 y4 y5 y6 y7 y8, LeO (digits_unpackHalves.j2 k y0 y1 y2 y3 y4 y5 y6 y7 y8) (digits_unpackHalves.j2 (k + 1) y0 y1 y2 y3 y4 y5 y6 y7 y8)) ∧ (∀ y0 y1 y2 y3 y4 y5 y6 y7 y8 y9, LeO (digits_unpackHalves.j3 k y0 y1 y2 y3 y4 y5 y6 y7 y8 y9) (digits_unpackHalves.j3 (k + 1) y0 y1 y2 y3 y4 y5 y6 y7 y8 y9)) ∧ (∀ y0 y1 y2 y3 y4 y5 y6 y7 y8, LeO (digits_unpackHalves.j4 k y0 y1 y2 y3 y4 y5 y6 y7 y8) (digits_unpackHalves.j4 (k + 1) y0 y1 y2 y3 y4 y5 y6 y7 y8)) ∧ (∀ y0 y1 y2 y3 y4 y5 y6 y7 y8 y9 y10, LeO (digits_unpackHalves.l1 k y0 y1 y2 y3 y4 y5 y6 y7 y8 y9 y10) (digits_unpackHalves.l1 (k + 1) y0 y1 y2 y3 y4 y5 y6 y7 y8 y9 y10))
  | 0 => ⟨fun _ _ _ _ _ _ r h => by simp [digits_unpackHalves.l0] at h, fun _ _ _ _ _ _ _ _ _ _ r h => by simp [digits_unpackHalves.j1] at h, fun _ _ _ _ _ _ _ _ _ r h => by simp [digits_unpackHalves.j2] at h, fun _ _ _ _ _ _ _ _ _ _ r h => by simp [digits_unpackHalves.j3] at h, fun _ _ _ _ _ _ _ _ _ r h => by simp [digits_unpackHalves.j4] at h, fun _ _ _ _ _ _ _ _ _ _ _ r h => by simp [digits_unpackHalves.l1] at h⟩
  | k + 1 => by
    obtain ⟨ih0, ih1, ih2, ih3, ih4, ih5⟩ := digits_unpackHalves.mono_l k
    refine ⟨?_, ?_, ?_, ?_, ?_, ?_⟩
    · intro y0 y1 y2 y3 y4 y5
      unfold digits_unpackHalves.l0
      repeat' first
      | (with_reducible exact ih0 _ _ _ _ _ _)
      | (with_reducible exact ih1 _ _ _ _ _ _ _ _ _ _)
      | (with_reducible exact ih2 _ _ _ _ _ _ _ _ _)
      | (with_reducible exact ih3 _ _ _ _ _ _ _ _ _ _)
      | (with_reducible exact ih4 _ _ _ _ _ _ _ _ _)
      | (with_reducible exact ih5 _ _ _ _ _ _ _ _ _ _ _)
      | (with_reducible exact LeO.refl _)
      | (with_reducible exact LeO.none _)
      | (with_reducible refine LeO.ite ?_ ?_)
      | (with_reducible refine LeO.bind ?_ (fun _ => ?_))
      | exact ih0 _ _ _ _ _ _
      | exact ih1 _ _ _ _ _ _ _ _ _ _
      | exact ih2 _ _ _ _ _ _ _ _ _
      | exact ih3 _ _ _ _ _ _ _ _ _ _
      | exact ih4 _ _ _ _ _ _ _ _ _
      | exact ih5 _ _ _ _ _ _ _ _ _ _ _
      | exact LeO.none _
      | refine LeO.ite ?_ ?_
      | refine LeO.bind ?_ (fun _ => ?_)
    · intro y0 y1 y2 y3 y4 y5 y6 y7 y8 y9
      unfold digits_unpackHalves.j1
      repeat' first
      | (with_reducible exact ih0 _ _ _ _ _ _)
      | (with_reducible exact ih1 _ _ _ _ _ _ _ _ _ _)
      | (with_reducible exact ih2 _ _ _ _ _ _ _ _ _)
      | (with_reducible exact ih3 _ _ _ _ _ _ _ _ _ _)
      | (with_reducible exact ih4 _ _ _ _ _ _ _ _ _)
      | (with_reducible exact ih5 _ _ _ _ _ _ _ _ _ _ _)
      | (with_reducible exact LeO.refl _)
      | (with_reducible exact LeO.none _)
      | (with_reducible refine LeO.ite ?_ ?_)
      | (with_reducible refine LeO.bind ?_ (fun _ => ?_))
      | exact ih0 _ _ _ _ _ _
      | exact ih1 _ _ _ _ _ _ _ _ _ _
      | exact ih2 _ _ _ _ _ _ _ _ _
      | exact ih3 _ _ _ _ _ _ _ _ _ _
      | exact ih4 _ _ _ _ _ _ _ _ _
      | exact ih5 _ _ _ _ _ _ _ _ _ _ _
      | exact LeO.none _
      | refine LeO.ite ?_ ?_
      | refine LeO.bind ?_ (fun _ => ?_)
    · intro y0 y1 y2 y3 y4 y5 y6 y7 y8
      unfold digits_unpackHalves.j2
      repeat' first
      | (with_reducible exact ih0 _ _ _ _ _ _)
      | (with_reducible exact ih1 _ _ _ _ _ _ _ _ _ _)
      | (with_reducible exact ih2 _ _ _ _ _ _ _ _ _)
      | (with_reducible exact ih3 _ _ _ _ _ _ _ _ _ _)
      | (with_reducible exact ih4 _ _ _ _ _ _ _ _ _)
      | (with_reducible exact ih5 _ _ _ _ _ _ _ _ _ _ _)
      | (with_reducible exact LeO.refl _)
      | (with_reducible exact LeO.none _)
      | (with_reducible refine LeO.ite ?_ ?_)
      | (with_reducible refine LeO.bind ?_ (fun _ => ?_))
      | exact ih0 _ _ _ _ _ _
      | exact ih1 _ _ _ _ _ _ _ _ _ _
      | exact ih2 _ _ _ _ _ _ _ _ _
      | exact ih3 _ _ _ _ _ _ _ _ _ _
      | exact ih4 _ _ _ _ _ _ _ _ _
      | exact ih5 _ _ _ _ _ _ _ _ _ _ _
      | exact LeO.none _
      | refine LeO.ite ?_ ?_
      | refine LeO.bind ?_ (fun _ => ?_)
    · intro y0 y1 y2 y3 y4 y5 y6 y7 y8 y9
      unfold digits_unpackHalves.j3
      repeat' first
      | (with_reducible exact ih0 _ _ _ _ _ _)
      | (with_reducible exact ih1 _ _ _ _ _ _ _ _ _ _)
      | (with_reducible exact ih2 _ _ _ _ _ _ _ _ _)
      | (with_reducible exact ih3 _ _ _ _ _ _ _ _ _ _)
      | (with_reducible exact ih4 _ _ _ _ _ _ _ _ _)
      | (with_reducible exact ih5 _ _ _ _ _ _ _ _ _ _ _)
      | (with_reducible exact LeO.refl _)
      | (with_reducible exact LeO.none _)
      | (with_reducible refine LeO.ite ?_ ?_)
      | (with_reducible refine LeO.bind ?_ (fun _ => ?_))
      | exact ih0 _ _ _ _ _ _
      | exact ih1 _ _ _ _ _ _ _ _ _ _
      | exact ih2 _ _ _ _ _ _ _ _ _
      | exact ih3 _ _ _ _ _ _ _ _ _ _
      | exact ih4 _ _ _ _ _ _ _ _ _
      | exact ih5 _ _ _ _ _ _ _ _ _ _ _
      | exact LeO.none _
      | refine LeO.ite ?_ ?_
      | refine LeO.bind ?_ (fun _ => ?_)
    · intro y0 y1 y2 y3 y4 y5 y6 y7 y8
      unfold digits_unpackHalves.j4
      repeat' first
      | (with_reducible exact ih0 _ _ _ _ _ _)
      | (with_reducible exact ih1 _ _ _ _ _ _ _ _ _ _)
      | (with_reducible exact ih2 _ _ _ _ _ _ _ _ _)
      | (with_reducible exact ih3 _ _ _ _ _ _ _ _ _ _)
      | (with_reducible exact ih4 _ _ _ _ _ _ _ _ _)
      | (with_reducible exact ih5 _ _ _ _ _ _ _ _ _ _ _)
      | (with_reducible exact LeO.refl _)
      | (with_reducible exact LeO.none _)
      | (with_reducible refine LeO.ite ?_ ?_)
      | (with_reducible refine LeO.bind ?_ (fun _ => ?_))
      | exact ih0 _ _ _ _ _ _
      | exact ih1 _ _ _ _ _ _ _ _ _ _
      | exact ih2 _ _ _ _ _ _ _ _ _
      | exact ih3 _ _ _ _ _ _ _ _ _ _
      | exact ih4 _ _ _ _ _ _ _ _ _
      | exact ih5 _ _ _ _ _ _ _ _ _ _ _
      | exact LeO.none _
      | refine LeO.ite ?_ ?_
      | refine LeO.bind ?_ (fun _ => ?_)
    · intro y0 y1 y2 y3 y4 y5 y6 y7 y8 y9 y10
      unfold digits_unpackHalves.l1
      repeat' first
      | (with_reducible exact ih0 _ _ _ _ _ _)
      | (with_reducible exact ih1 _ _ _ _ _ _ _ _ _ _)
      | (with_reducible exact ih2 _ _ _ _ _ _ _ _ _)
      | (with_reducible exact ih3 _ _ _ _ _ _ _ _ _ _)
      | (with_reducible exact ih4 _ _ _ _ _ _ _ _ _)
      | (with_reducible exact ih5 _ _ _ _ _ _ _ _ _ _ _)
      | (with_reducible exact LeO.refl _)
      | (with_reducible exact LeO.none _)
      | (with_reducible refine LeO.ite ?_ ?_)
      | (with_reducible refine LeO.bind ?_ (fun _ => ?_))
      | exact ih0 _ _ _ _ _ _
      | exact ih1 _ _ _ _ _ _ _ _ _ _
      | exact ih2 _ _ _ _ _ _ _ _ _
      | exact ih3 _ _ _ _ _ _ _ _ _ _
      | exact ih4 _ _ _ _ _ _ _ _ _
      | exact ih5 _ _ _ _ _ _ _ _ _ _ _
      | exact LeO.none _
      | refine LeO.ite ?_ ?_
      | refine LeO.bind ?_ (fun _ => ?_)
theorem digits_unpackHalves.mono : ∀ a0 a1 a2 k, LeO (digits_unpackHalves.f k a0 a1 a2) (digits_unpackHalves.f (k + 1) a0 a1 a2) := by
  intro a0 a1 a2 k
  obtain ⟨ih0, ih1, ih2, ih3, ih4, ih5⟩ := digits_unpackHalves.mono_l k
  unfold digits_unpackHalves.f
  repeat' first
      | (with_reducible exact ih0 _ _ _ _ _ _)
      | (with_reducible exact ih1 _ _ _ _ _ _ _ _ _ _)
      | (with_reducible exact ih2 _ _ _ _ _ _ _ _ _)
      | (with_reducible exact ih3 _ _ _ _ _ _ _ _ _ _)
      | (with_reducible exact ih4 _ _ _ _ _ _ _ _ _)
      | (with_reducible exact ih5 _ _ _ _ _ _ _ _ _ _ _)
      | (with_reducible exact LeO.refl _)
      | (with_reducible exact LeO.none _)
      | (with_reducible refine LeO.ite ?_ ?_)
      | (with_reducible refine LeO.bind ?_ (fun _ => ?_))
      | exact ih0 _ _ _ _ _ _
      | exact ih1 _ _ _ _ _ _ _ _ _ _
      | exact ih2 _ _ _ _ _ _ _ _ _
      | exact ih3 _ _ _ _ _ _ _ _ _ _
      | exact ih4 _ _ _ _ _ _ _ _ _
      | exact ih5 _ _ _ _ _ _ _ _ _ _ _
      | exact LeO.none _
      | refine LeO.ite ?_ ?_
      | refine LeO.bind ?_ (fun _ => ?_)
def digits_unpackHalves.T5 : Bool × List (List Nat × List Nat) := (true, [([], []), ([], []), ([0, 1], [0, 1]), ([2], [2]), ([], []), ([], []), ([4, 5], [4, 5]), ([6], [6]), ([3, 7], [3, 7]), ([8, 0, 1, 2, 3, 4, 5, 6, 7, 8], [8])])
def digits_unpackHalves.B5 : List Nat := [0, 0, 3, 7, 0, 0, 48, 112, 255, 511]
theorem digits_unpackHalves.tab5 : rtab .any (opsOf Try.f53 5) = digits_unpackHalves.T5 := by kernel_rfl
theorem digits_unpackHalves.bits5 : waitsOk digits_unpackHalves.T5.2 digits_unpackHalves.B5 = true := by kernel_rfl
set_option maxHeartbeats 8000000 in
set_option maxRecDepth 100000 in
theorem digits_unpackHalves.calls (k : Nat) (a0 : Int) (a1 : ByteArray) (a2 : Int) (r1 : ByteArray) (r2 : Int) (r3 : Int) (w : World) (h : digits_unpackHalves.f k a0 a1 a2 = some (r1, r2, r3)) :
    Calls Try.prog 53 #[.int .i64 a0, .string a1, .int .i64 a2] w fun e w' => e = .returned (.tuple #[.string r1, .int .i64 r2, .int .i64 r3]) ∧ Below w.heap.size w w' := by
  have HB := Aside0.mk (Below.refl w.heap.size w)
  have H : (digits_unpackHalves.l0 k a0 a1 a2 ([] : List Int) (a1.size : Int) 0) = some (r1, r2, r3) := h
  clear h
  have H' := Aside0.mk H
  clear H
  go_enter Try.func53, Try.ntmps53
  go_wp2
  go_loopg [9, 19] k (fun kq v9 v19 w' => ∃ (x9_1 : List Int) (x19_1 : Int), v19 = .int .i64 x19_1 ∧ Aside0 (digits_unpackHalves.l0 kq a0 a1 a2 x9_1 (a1.size : Int) x19_1 = some (r1, r2, r3)) ∧ Aside0 (kq ≤ k) ∧ Aside0 (Kd.R (Kd.int .u8) 5 w' w.heap.size (fun _ => True) v9 x9_1) ∧ Aside0 (Below w.heap.size w w'))
  case atStart => exact ⟨(([] : List Int)), (0), (by first | rfl | (simp; done) | (simp [*]; done)), H', ⟨Nat.le_refl _⟩, ⟨by first | exact Kd.R_nil _ _ _ _ _ | exact Kd.N_nil _ _ _ _ _ | exact Kd.V_nil _ _ _ _ _ | exact Kd.Q_nil _ _ _ _ _ | exact Kd.S_nil _ _ _ _ _⟩, ⟨by repeat (first | (with_reducible first | exact HB.out | apply below_alloc | apply pw_below_drewN | apply below_drew1) | exact HB.out)⟩⟩
  case round =>
    clear H'
    try clear p2
    obtain ⟨x9_1, x19_1, rfl, HA, HK1, HO_9, HB⟩ := hrel
    cases gk with
    | zero => exact absurd HA.out (by simp [digits_unpackHalves.l0])
    | succ k1 =>
      have H := HA.out
      clear HA
      simp only [digits_unpackHalves.l0] at H
      by_cases c4 : x19_1 < (a1.size : Int)
      · rw [if_pos c4] at H
        have c4b0 : decide (x19_1 < (a1.size : Int)) = true := decide_eq_true c4
        clear c4
        by_cases c5 : 0 ≤ x19_1
        · rw [if_pos c5] at H
          have c5b0 : decide (0 ≤ x19_1) = true := decide_eq_true c5
          clear c5
          by_cases c6 : x19_1 < (a1.size : Int)
          · rw [if_pos c6] at H
            have c6b0 : decide (x19_1 < (a1.size : Int)) = true := decide_eq_true c6
            clear c6
            obtain ⟨y297, hy297⟩ : ∃ y_ : List Int, y_ = (([(bt a1 x19_1) / 16, Go.bits .and .u8 (bt a1 x19_1) 15] : List Int)) := ⟨_, rfl⟩
            replace H : (if (Int.tmod a2 2) = 1 then (if a0 = 2 then (digits_unpackHalves.j1 k1 a0 a1 a2 x9_1 x19_1 y297 false (a1.size : Int) x19_1 (x19_1 == 0)) else (digits_unpackHalves.j1 k1 a0 a1 a2 x9_1 x19_1 y297 false (a1.size : Int) x19_1 false)) else (digits_unpackHalves.j1 k1 a0 a1 a2 x9_1 x19_1 y297 false (a1.size : Int) x19_1 false)) = some (r1, r2, r3) := by first | (rw [hy297]; with_reducible exact H) | (have H2_ := (Option.bind_some _ _).symm.trans H; rw [hy297]; with_reducible exact H2_) | (have H2_ := (Option.bind_some _ _).symm.trans H; with_reducible exact H2_) | with_reducible exact H | (rw [hy297]; exact H) | exact H
            have Ny297 := Aside0.mk hy297
            clear hy297
            have HC9 := Aside0.mk H
            clear H
            try go_wp2
            have n0_ := Aside0.mk (Kd.R_drew HO_9.out)
            have n1_ := Aside0.mk (below_drew1 HB.out)
            clear HO_9
            clear HB
            have HO_9 := n0_
            have HB := n1_
            clear n0_ n1_
            have p7 : 0 ≤ (x19_1 : Int) := of_decide_eq_true (by first | (with_reducible assumption) | assumption)
            have q7 : x19_1 < (a1.size : Int) := of_decide_eq_true (by first | (with_reducible assumption) | assumption)
            have hx7 := bt_at a1 x19_1
            replace p7 := eq_true p7
            replace q7 := eq_true q7
            have p8 : 0 ≤ (x19_1 : Int) := of_decide_eq_true (by first | (with_reducible assumption) | assumption)
            have q8 : x19_1 < (a1.size : Int) := of_decide_eq_true (by first | (with_reducible assumption) | assumption)
            have hx8 := bt_at a1 x19_1
            replace p8 := eq_true p8
            replace q8 := eq_true q8
            refine start_ (n := 10) (S := fun w' => True) (ds := []) #[false, false, false, false, false, false, false, false, false, false] (by kernel_rfl) rfl rfl trivial (fun hHeld => ?_); refine with_tabW digits_unpackHalves.tab5 digits_unpackHalves.bits5 (fun HT_ HW_ => ?_)
            generalize wr.drew = w10 at HO_9 HB hHeld ⊢
            refine pure_ (i := 0) (N := some 22) (v := ?_) (a' := ?_) #[true, false, false, false, false, false, false, false, false, false] rfl rfl (any_of HT_.out (by kernel_rfl)) (fun _ _ _ h => h) (Or.inl ⟨by rfl, ?_⟩) ?_ ?_
            rotate_left
            · intro w'
              go_simp
              with_reducible rfl
            rotate_left
            · simp only [Act.put, List.setIfInBounds_toArray, List.set_cons_zero, List.set_cons_succ, i64_w, i32_w]
              rfl
            refine pure_ (i := 1) (N := some 23) (v := ?_) (a' := ?_) #[true, true, false, false, false, false, false, false, false, false] rfl rfl (any_of HT_.out (by kernel_rfl)) (fun _ _ _ h => h) (Or.inl ⟨by rfl, ?_⟩) ?_ ?_
            rotate_left
            · intro w'
              go_simp
              with_reducible rfl
            rotate_left
            · simp only [Act.put, List.setIfInBounds_toArray, List.set_cons_zero, List.set_cons_succ, i64_w, i32_w]
              rfl
            refine pure_ (i := 4) (N := some 26) (v := ?_) (a' := ?_) #[true, true, false, false, true, false, false, false, false, false] rfl rfl (any_of HT_.out (by kernel_rfl)) (fun _ _ _ h => h) (Or.inl ⟨by rfl, ?_⟩) ?_ ?_
            rotate_left
            · intro w'
              go_simp
              with_reducible rfl
            rotate_left
            · simp only [Act.put, List.setIfInBounds_toArray, List.set_cons_zero, List.set_cons_succ, i64_w, i32_w]
              rfl
            refine pure_ (i := 5) (N := some 27) (v := ?_) (a' := ?_) #[true, true, false, false, true, true, false, false, false, false] rfl rfl (any_of HT_.out (by kernel_rfl)) (fun _ _ _ h => h) (Or.inl ⟨by rfl, ?_⟩) ?_ ?_
            rotate_left
            · intro w'
              go_simp
              with_reducible rfl
            rotate_left
            · simp only [Act.put, List.setIfInBounds_toArray, List.set_cons_zero, List.set_cons_succ, i64_w, i32_w]
              rfl
            refine take_ (i := 2) (N := some 24) (v := ?_) (a' := ?_) #[true, true, true, false, true, true, false, false, false, false] rfl rfl (take_ofW HT_.out HW_.out (by kernel_rfl)) (fun _ _ _ h => h) (Or.inl ⟨by rfl, ?_⟩) hHeld ?_ ?_
            rotate_left
            · intro w' _
              go_simp
              with_reducible rfl
            rotate_left
            · simp only [Act.put, List.setIfInBounds_toArray, List.set_cons_zero, List.set_cons_succ, i64_w, i32_w]
              rfl
            refine pure_ (i := 3) (N := some 25) (v := ?_) (a' := ?_) #[true, true, true, true, true, true, false, false, false, false] rfl rfl (any_of HT_.out (by kernel_rfl)) (fun _ _ _ h => h) (Or.inl ⟨by rfl, ?_⟩) ?_ ?_
            rotate_left
            · intro w'
              go_simp
              with_reducible rfl
            rotate_left
            · simp only [Act.put, List.setIfInBounds_toArray, List.set_cons_zero, List.set_cons_succ, i64_w, i32_w]
              rfl
            refine take_ (i := 6) (N := some 28) (v := ?_) (a' := ?_) #[true, true, true, true, true, true, true, false, false, false] rfl rfl (take_ofW HT_.out HW_.out (by kernel_rfl)) (fun _ _ _ h => h) (Or.inl ⟨by rfl, ?_⟩) hHeld ?_ ?_
            rotate_left
            · intro w' _
              go_simp
              with_reducible rfl
            rotate_left
            · simp only [Act.put, List.setIfInBounds_toArray, List.set_cons_zero, List.set_cons_succ, i64_w, i32_w]
              rfl
            refine pure_ (i := 7) (N := some 29) (v := ?_) (a' := ?_) #[true, true, true, true, true, true, true, true, false, false] rfl rfl (any_of HT_.out (by kernel_rfl)) (fun _ _ _ h => h) (Or.inl ⟨by rfl, ?_⟩) ?_ ?_
            rotate_left
            · intro w'
              go_simp
              with_reducible rfl
            rotate_left
            · simp only [Act.put, List.setIfInBounds_toArray, List.set_cons_zero, List.set_cons_succ, i64_w, i32_w]
              rfl
            refine one_ (i := 8) (N := some 30) #[true, true, true, true, true, true, true, true, true, false] rfl rfl (one_of HT_.out (by kernel_rfl)) (by decide) (fun K hK => ?_)
            refine Kd.R_lit_step (Kd.int .u8) _ 5 ?hg (N := 30) ?hd (xs := ([(bt a1 x19_1) / 16, Go.bits .and .u8 (bt a1 x19_1) 15] : List Int)) (inner := [.int .u8 ((bt a1 x19_1) / 16), .int .u8 (Go.bits .and .u8 (bt a1 x19_1) 15)]) (ok := fun _ => True) (okp := fun _ => True) ?hr ?hp (fun _ hk => hk) trivial (Below.refl _ _) (Nat.le_refl _) (by simp) ?_; (case hd => rfl); (case hg => rfl); (case hr => first | (go_simp; done) | (go_simp; rfl)); (case hp => exact (Reps.one (show Kd.M (Kd.int .u8) _ _ _ ((bt a1 x19_1) / 16) [.int .u8 ((bt a1 x19_1) / 16)] from rfl) (Reps.one (show Kd.M (Kd.int .u8) _ _ _ (Go.bits .and .u8 (bt a1 x19_1) 15) [.int .u8 (Go.bits .and .u8 (bt a1 x19_1) 15)] from rfl) (Reps.none _ _))))
            intro v298 w11 ho12 hb hg_ hnew_
            clear hg_ hnew_
            (first | rw [← Ny297.out] at ho12 | (simp only [Int.reduceToNat] at ho12; rw [← Ny297.out] at ho12))
            have n0_ := Aside0.mk (Kd.R_elder' (by (with_reducible repeat (first | apply Kd.R_alloc | apply Kd.R_drewN | apply Kd.R_drew)); exact HO_9.out) (Kd.R_base ho12) hb)
            have n1_ := Aside0.mk (Kd.R_lower (Kd.R_new' ho12 (Kd.R_lt (by (with_reducible repeat (first | apply Kd.R_alloc | apply Kd.R_drewN | apply Kd.R_drew)); exact HO_9.out))) (below_size (by repeat (first | (with_reducible first | exact HB.out | apply below_alloc | apply pw_below_drewN | apply below_drew1) | exact HB.out))))
            have n2_ := Aside0.mk (below_step (by repeat (first | (with_reducible first | exact HB.out | apply below_alloc | apply pw_below_drewN | apply below_drew1) | exact HB.out)) hb)
            clear HO_9
            clear HB
            have HO_9 := n0_
            have HO299 := n1_
            have HB := n2_
            clear n0_ n1_ n2_
            clear hb ho12
            refine hK.out _ _ trivial (fun hHeld => ?_)
            clear hK K
            refine norm_ (a' := ?_) ?_ ?_
            rotate_left
            · show Act.put _ (some 30) _ = _
              simp only [Act.put, List.setIfInBounds_toArray, List.set_cons_zero, List.set_cons_succ, i64_w, i32_w]
              rfl
            refine pure_ (i := 9) (N := some 11) (v := ?_) (a' := ?_) #[true, true, true, true, true, true, true, true, true, true] rfl rfl (any_of HT_.out (by kernel_rfl)) (fun _ _ _ h => h) (Or.inl ⟨by rfl, ?_⟩) ?_ ?_
            rotate_left
            · intro w'
              go_simp
              with_reducible rfl
            rotate_left
            · simp only [Act.put, List.setIfInBounds_toArray, List.set_cons_zero, List.set_cons_succ, i64_w, i32_w]
              rfl
            refine done_ (done_of HT_.out (by kernel_rfl)) ?_
            go_upto_region 7 with (fail)
            go_cut [41] (fun v41 wc => ∃ (kq : Nat) (x41_8 : Bool), v41 = .bool x41_8 ∧ Aside0 (digits_unpackHalves.j1 kq a0 a1 a2 x9_1 x19_1 y297 false (a1.size : Int) x19_1 x41_8 = some (r1, r2, r3)) ∧ Aside0 (kq ≤ k1) ∧ Aside0 (Kd.R (Kd.int .u8) 5 wc w.heap.size (fun k_ => some k_ ≠ (v298 : Value).ownBlock) u9 x9_1) ∧ Aside0 (Kd.Q (Kd.int .u8) 5 wc w.heap.size (fun k_ => some k_ ≠ (u9 : Value).ownBlock) v298 y297) ∧ Aside0 (Below w.heap.size w wc))
            case first =>
              have H := HC9.out
              clear HC9
              by_cases c13 : (Int.tmod a2 2) = 1
              · rw [if_pos c13] at H
                have c13b0 : ((Int.tmod a2 2) == 1) = true := beq_iff_eq.mpr c13
                have c13b1 : ((Int.tmod a2 2) != 1) = false := bne_eq_false_iff_eq.mpr c13
                clear c13
                (first | rw [c13b0] | (simp only [i64_w, i32_w]; rw [c13b0]) | skip)
                by_cases c14 : a0 = 2
                · rw [if_pos c14] at H
                  have c14b0 : (a0 == 2) = true := beq_iff_eq.mpr c14
                  have c14b1 : (a0 != 2) = false := bne_eq_false_iff_eq.mpr c14
                  clear c14
                  have H' := Aside0.mk H
                  clear H
                  go_wp2
                  go_meet
                  case rel => exact ⟨_, ((x19_1 == 0)), (by first | rfl | (simp; done) | (simp [*]; done)), H', ⟨by have := HK1.out; first | omega | exact Nat.le_refl _⟩, ⟨by (with_reducible repeat (first | apply Kd.R_alloc | apply Kd.R_drewN | apply Kd.R_drew)); exact Kd.R_mono HO_9.out (fun _ hk => hk.2)⟩, ⟨Kd.Q_of_R (by (with_reducible repeat (first | apply Kd.R_alloc | apply Kd.R_drewN | apply Kd.R_drew)); exact Kd.R_mono HO299.out (fun _ hk => hk.2))⟩, ⟨by repeat (first | (with_reducible first | exact HB.out | apply below_alloc | apply pw_below_drewN | apply below_drew1) | exact HB.out)⟩⟩
                · rw [if_neg c14] at H
                  have c14b0 : (a0 == 2) = false := beq_eq_false_iff_ne.mpr c14
                  have c14b1 : (a0 != 2) = true := bne_iff_ne.mpr c14
                  have H' := Aside0.mk H
                  clear H
                  go_wp2
                  go_meet
                  case rel => exact ⟨_, (false), (by first | rfl | (simp; done) | (simp [*]; done)), H', ⟨by have := HK1.out; first | omega | exact Nat.le_refl _⟩, ⟨by (with_reducible repeat (first | apply Kd.R_alloc | apply Kd.R_drewN | apply Kd.R_drew)); exact Kd.R_mono HO_9.out (fun _ hk => hk.2)⟩, ⟨Kd.Q_of_R (by (with_reducible repeat (first | apply Kd.R_alloc | apply Kd.R_drewN | apply Kd.R_drew)); exact Kd.R_mono HO299.out (fun _ hk => hk.2))⟩, ⟨by repeat (first | (with_reducible first | exact HB.out | apply below_alloc | apply pw_below_drewN | apply below_drew1) | exact HB.out)⟩⟩
              · rw [if_neg c13] at H
                have c13b0 : ((Int.tmod a2 2) == 1) = false := beq_eq_false_iff_ne.mpr c13
                have c13b1 : ((Int.tmod a2 2) != 1) = true := bne_iff_ne.mpr c13
                (first | rw [c13b0] | (simp only [i64_w, i32_w]; rw [c13b0]) | skip)
                have H' := Aside0.mk H
                clear H
                go_wp2
                go_meet
                case rel => exact ⟨_, (false), (by first | rfl | (simp; done) | (simp [*]; done)), H', ⟨by have := HK1.out; first | omega | exact Nat.le_refl _⟩, ⟨by (with_reducible repeat (first | apply Kd.R_alloc | apply Kd.R_drewN | apply Kd.R_drew)); exact Kd.R_mono HO_9.out (fun _ hk => hk.2)⟩, ⟨Kd.Q_of_R (by (with_reducible repeat (first | apply Kd.R_alloc | apply Kd.R_drewN | apply Kd.R_drew)); exact Kd.R_mono HO299.out (fun _ hk => hk.2))⟩, ⟨by repeat (first | (with_reducible first | exact HB.out | apply below_alloc | apply pw_below_drewN | apply below_drew1) | exact HB.out)⟩⟩
            case rest =>
              clear HC9
              try clear c1
              try clear p2
              try clear c4
              try clear c4b0
              try clear c5
              try clear c5b0
              try clear c6
              try clear c6b0
              try clear p7
              try clear q7
              try clear hx7
              try clear p8
              try clear q8
              try clear hx8
              try clear c13
              try clear c13b0
              try clear c13b1
              try clear c14
              try clear c14b0
              try clear c14b1
              try clear p2
              try clear p7
              try clear p8
              try clear q7
              try clear q8
              obtain ⟨kq, x41_8, rfl, HA, HJ8, HO_9, HO_11, HB⟩ := hcut
              cases kq with
              | zero => exact absurd HA.out (by simp [digits_unpackHalves.j1])
              | succ kj8 =>
                have H := HA.out
                clear HA
                simp only [digits_unpackHalves.j1] at H
                have HC15 := Aside0.mk H
                clear H
                go_upto_if 41 with (fail)
                go_cut [11, 12] (fun v11 v12 wc => ∃ (kq : Nat) (x11_14 : List Int) (x12_14 : Bool), v12 = .bool x12_14 ∧ Aside0 (digits_unpackHalves.j2 kq a0 a1 a2 x9_1 x19_1 x11_14 x12_14 (a1.size : Int) x19_1 = some (r1, r2, r3)) ∧ Aside0 (kq ≤ kj8) ∧ Aside0 (Kd.R (Kd.int .u8) 5 wc w.heap.size (fun k_ => some k_ ≠ (v11 : Value).ownBlock) u9 x9_1) ∧ Aside0 (Kd.Q (Kd.int .u8) 5 wc w.heap.size (fun k_ => some k_ ≠ (u9 : Value).ownBlock) v11 x11_14) ∧ Aside0 (Below w.heap.size w wc))
                case first =>
                  have H := HC15.out
                  clear HC15
                  by_cases c16 : x41_8 = true
                  · subst c16
                    have H1 : (if 0 < (y297.length : Int) then (if 1 ≤ (y297.length : Int) then (digits_unpackHalves.j2 kj8 a0 a1 a2 x9_1 x19_1 (y297.drop (1 : Int).toNat) ((rd y297 0) != 0) (a1.size : Int) x19_1) else (none)) else (none)) = some (r1, r2, r3) := by rw [if_pos rfl] at H; exact H
                    clear H
                    have H := H1
                    clear H1
                    by_cases c17 : 0 < (y297.length : Int)
                    · rw [if_pos c17] at H
                      have c17b0 : decide (0 < (y297.length : Int)) = true := decide_eq_true c17
                      have c17b1 : decide (0 < y297.length) = true := decide_eq_true (by omega)
                      clear c17
                      (first | rw [c17b0] | (simp only [i64_w, i32_w]; rw [c17b0]) | skip)
                      by_cases c18 : 1 ≤ (y297.length : Int)
                      · rw [if_pos c18] at H
                        have c18b0 := eq_true c18
                        have c18b1 : decide (1 ≤ (y297.length : Int)) = true := decide_eq_true c18
                        clear c18
                        obtain ⟨y301, hy301⟩ : ∃ y_ : List Int, y_ = (y297.drop (1 : Int).toNat) := ⟨_, rfl⟩
                        replace H : (digits_unpackHalves.j2 kj8 a0 a1 a2 x9_1 x19_1 y301 ((rd y297 0) != 0) (a1.size : Int) x19_1) = some (r1, r2, r3) := by first | (rw [hy301]; with_reducible exact H) | (have H2_ := (Option.bind_some _ _).symm.trans H; rw [hy301]; with_reducible exact H2_) | (have H2_ := (Option.bind_some _ _).symm.trans H; with_reducible exact H2_) | with_reducible exact H | (rw [hy301]; exact H) | exact H
                        have Ny301 := Aside0.mk hy301
                        clear hy301
                        have H' := Aside0.mk H
                        clear H
                        obtain ⟨Ao19, co19, eo19, _⟩ := Kd.Q_slice HO_11.out
                        subst eo19
                        have p300 : 0 ≤ (0 : Int) := (by omega)
                        have q300 : 0 < (y297.length : Int) := of_decide_eq_true (by first | (with_reducible assumption) | assumption)
                        obtain ⟨ad300, e300, hx300_0⟩ := Kd.at_int (Kd.Q_reads' HO_11.out).2.2 0 p300 q300
                        cases e300
                        have qi300 : (0 < y297.length) = True := eq_true (by omega)
                        (try rw [show ((0 : Int)).toNat = 0 from rfl] at hx300_0)
                        (try rw [Addr.add_zero'] at hx300_0)
                        replace p300 := eq_true p300
                        replace q300 := eq_true q300
                        have q20 : (1 : Int) ≤ ((y297.length : Int) : Int) := of_decide_eq_true (by first | (with_reducible assumption) | assumption)
                        obtain ⟨i020, hi020, _, hsz20, _⟩ := info_parts info5
                        have hcut20 := cut_from (P := Try.prog) 51 5 .i64 Try.underlying51 hi020 1 hsz20 (some ad300) y297.length co19 1 (by omega) q20
                        have hr20 := Kd.Q_drop (k := (1 : Int).toNat) HO_11.out (by omega)
                        obtain ⟨A20, hA20⟩ : ∃ A1, A1 = (if co19 = (1 : Int).toNat then (some ad300) else ((some ad300) : Option Addr).map (·.add ((1 : Int).toNat * 1))) := ⟨_, rfl⟩
                        obtain ⟨c20, hc20⟩ : ∃ c1, c1 = co19 - (1 : Int).toNat := ⟨_, rfl⟩
                        have hy20 : y301.length = y297.length - (1 : Int).toNat := (by rw [Ny301.out, List.length_drop])
                        rw [← Ny301.out] at hr20
                        rw [← hy20, ← hA20, ← hc20] at hcut20
                        replace hr20 : Kd.Q (Kd.int .u8) 5 wc w.heap.size (fun k_ => some k_ ≠ (u9 : Value).ownBlock) (.slice A20 y301.length c20) y301 := (by rw [hA20, hc20, hy20]; exact hr20)
                        have HE20 : Aside0 ((Value.slice A20 y301.length c20).ownBlock = (.slice (some ad300) y297.length co19 : Value).ownBlock) := ⟨by rw [hA20]; split <;> (cases ((some ad300) : Option Addr) <;> rfl)⟩
                        clear hy20 hi020 hsz20 HO_11 hA20 hc20
                        have HO303 := Aside0.mk hr20
                        clear hr20
                        replace q20 := eq_true q20
                        have n_ := Aside0.mk (Kd.R_mono (ok' := fun k_ => some k_ ≠ (.slice A20 y301.length c20 : Value).ownBlock) HO_9.out (fun k_ hk => (by rw [HE20.out]; exact hk)))
                        clear HO_9
                        have HO_9 := n_
                        clear n_
                        go_wp2
                        go_meet
                        case rel => exact ⟨_, (y301), (((rd y297 0) != 0)), (by first | rfl | (simp; done) | (simp [*]; done)), H', ⟨by have := HK1.out; have := HJ8.out; first | omega | exact Nat.le_refl _⟩, ⟨by (with_reducible repeat (first | apply Kd.R_alloc | apply Kd.R_drewN | apply Kd.R_drew)); exact HO_9.out⟩, ⟨by (with_reducible repeat (first | apply Kd.Q_alloc | apply Kd.Q_drewN | apply Kd.Q_drew)); exact HO303.out⟩, ⟨by repeat (first | (with_reducible first | exact HB.out | apply below_alloc | apply pw_below_drewN | apply below_drew1) | exact HB.out)⟩⟩
                      · rw [if_neg c18] at H
                        exact absurd H (by simp)
                    · rw [if_neg c17] at H
                      exact absurd H (by simp)
                  · replace c16 := Bool.eq_false_iff.mpr c16
                    subst c16
                    have H1 : (digits_unpackHalves.j2 kj8 a0 a1 a2 x9_1 x19_1 y297 false (a1.size : Int) x19_1) = some (r1, r2, r3) := by rw [if_neg (show ¬ (false = true) by decide)] at H; exact H
                    clear H
                    have H := H1
                    clear H1
                    have H' := Aside0.mk H
                    clear H
                    go_wp2
                    go_meet
                    case rel => exact ⟨_, (y297), (false), (by first | rfl | (simp; done) | (simp [*]; done)), H', ⟨by have := HK1.out; have := HJ8.out; first | omega | exact Nat.le_refl _⟩, ⟨by (with_reducible repeat (first | apply Kd.R_alloc | apply Kd.R_drewN | apply Kd.R_drew)); exact HO_9.out⟩, ⟨by (with_reducible repeat (first | apply Kd.Q_alloc | apply Kd.Q_drewN | apply Kd.Q_drew)); exact HO_11.out⟩, ⟨by repeat (first | (with_reducible first | exact HB.out | apply below_alloc | apply pw_below_drewN | apply below_drew1) | exact HB.out)⟩⟩
                case rest =>
                  clear HC15
                  try clear c1
                  try clear c2
                  try clear p2
                  try clear q2
                  try clear p3
                  try clear q3
                  try clear hx3
                  try clear qi3
                  try clear c4
                  try clear c4b0
                  try clear c5
                  try clear c5b0
                  try clear c6
                  try clear c6b0
                  try clear p7
                  try clear q7
                  try clear hx7
                  try clear p8
                  try clear q8
                  try clear hx8
                  try clear c13
                  try clear c13b0
                  try clear c13b1
                  try clear c14
                  try clear c14b0
                  try clear c14b1
                  try clear c16
                  try clear c17
                  try clear c17b0
                  try clear c17b1
                  try clear c18
                  try clear c18b0
                  try clear c18b1
                  try clear c20
                  try clear q20
                  try clear hx300_0
                  try clear p2
                  try clear p300
                  try clear p7
                  try clear p8
                  try clear q20
                  try clear q300
                  try clear q7
                  try clear q8
                  obtain ⟨kq, x11_14, x12_14, rfl, HA, HJ14, HO_9, HO_11, HB⟩ := hcut
                  cases kq with
                  | zero => exact absurd HA.out (by simp [digits_unpackHalves.j2])
                  | succ kj14 =>
                    have H := HA.out
                    clear HA
                    simp only [digits_unpackHalves.j2] at H
                    have HC21 := Aside0.mk H
                    clear H
                    go_upto_region 10 with (fail)
                    go_cut [61] (fun v61 wc => ∃ (kq : Nat) (x61_20 : Bool), v61 = .bool x61_20 ∧ Aside0 (digits_unpackHalves.j3 kq a0 a1 a2 x9_1 x19_1 x11_14 x12_14 (a1.size : Int) x19_1 x61_20 = some (r1, r2, r3)) ∧ Aside0 (kq ≤ kj14) ∧ Aside0 (Kd.R (Kd.int .u8) 5 wc w.heap.size (fun k_ => some k_ ≠ (u11 : Value).ownBlock) u9 x9_1) ∧ Aside0 (Kd.Q (Kd.int .u8) 5 wc w.heap.size (fun k_ => some k_ ≠ (u9 : Value).ownBlock) u11 x11_14) ∧ Aside0 (Below w.heap.size w wc))
                    case first =>
                      have H := HC21.out
                      clear HC21
                      by_cases c22 : (Int.tmod a2 2) = 1
                      · rw [if_pos c22] at H
                        have c22b0 : ((Int.tmod a2 2) == 1) = true := beq_iff_eq.mpr c22
                        have c22b1 : ((Int.tmod a2 2) != 1) = false := bne_eq_false_iff_eq.mpr c22
                        clear c22
                        (first | rw [c22b0] | (simp only [i64_w, i32_w]; rw [c22b0]) | skip)
                        by_cases c23 : a0 = 3
                        · rw [if_pos c23] at H
                          have c23b0 : (a0 == 3) = true := beq_iff_eq.mpr c23
                          have c23b1 : (a0 != 3) = false := bne_eq_false_iff_eq.mpr c23
                          clear c23
                          have H' := Aside0.mk H
                          clear H
                          go_wp2
                          go_meet
                          case rel => exact ⟨_, ((x19_1 == (wrap64 ((a1.size : Int) - 1)))), (by first | rfl | (simp; done) | (simp [*]; done)), H', ⟨by have := HK1.out; have := HJ8.out; have := HJ14.out; first | omega | exact Nat.le_refl _⟩, ⟨by (with_reducible repeat (first | apply Kd.R_alloc | apply Kd.R_drewN | apply Kd.R_drew)); exact HO_9.out⟩, ⟨by (with_reducible repeat (first | apply Kd.Q_alloc | apply Kd.Q_drewN | apply Kd.Q_drew)); exact HO_11.out⟩, ⟨by repeat (first | (with_reducible first | exact HB.out | apply below_alloc | apply pw_below_drewN | apply below_drew1) | exact HB.out)⟩⟩
                        · rw [if_neg c23] at H
                          have c23b0 : (a0 == 3) = false := beq_eq_false_iff_ne.mpr c23
                          have c23b1 : (a0 != 3) = true := bne_iff_ne.mpr c23
                          have H' := Aside0.mk H
                          clear H
                          go_wp2
                          go_meet
                          case rel => exact ⟨_, (false), (by first | rfl | (simp; done) | (simp [*]; done)), H', ⟨by have := HK1.out; have := HJ8.out; have := HJ14.out; first | omega | exact Nat.le_refl _⟩, ⟨by (with_reducible repeat (first | apply Kd.R_alloc | apply Kd.R_drewN | apply Kd.R_drew)); exact HO_9.out⟩, ⟨by (with_reducible repeat (first | apply Kd.Q_alloc | apply Kd.Q_drewN | apply Kd.Q_drew)); exact HO_11.out⟩, ⟨by repeat (first | (with_reducible first | exact HB.out | apply below_alloc | apply pw_below_drewN | apply below_drew1) | exact HB.out)⟩⟩
                      · rw [if_neg c22] at H
                        have c22b0 : ((Int.tmod a2 2) == 1) = false := beq_eq_false_iff_ne.mpr c22
                        have c22b1 : ((Int.tmod a2 2) != 1) = true := bne_iff_ne.mpr c22
                        (first | rw [c22b0] | (simp only [i64_w, i32_w]; rw [c22b0]) | skip)
                        have H' := Aside0.mk H
                        clear H
                        go_wp2
                        go_meet
                        case rel => exact ⟨_, (false), (by first | rfl | (simp; done) | (simp [*]; done)), H', ⟨by have := HK1.out; have := HJ8.out; have := HJ14.out; first | omega | exact Nat.le_refl _⟩, ⟨by (with_reducible repeat (first | apply Kd.R_alloc | apply Kd.R_drewN | apply Kd.R_drew)); exact HO_9.out⟩, ⟨by (with_reducible repeat (first | apply Kd.Q_alloc | apply Kd.Q_drewN | apply Kd.Q_drew)); exact HO_11.out⟩, ⟨by repeat (first | (with_reducible first | exact HB.out | apply below_alloc | apply pw_below_drewN | apply below_drew1) | exact HB.out)⟩⟩
                    case rest =>
                      clear HC21
                      try clear c1
                      try clear c2
                      try clear p2
                      try clear q2
                      try clear p3
                      try clear q3
                      try clear hx3
                      try clear qi3
                      try clear c4
                      try clear c4b0
                      try clear c5
                      try clear c5b0
                      try clear c6
                      try clear c6b0
                      try clear p6
                      try clear p7
                      try clear q7
                      try clear hx7
                      try clear p8
                      try clear q8
                      try clear hx8
                      try clear c13
                      try clear c13b0
                      try clear c13b1
                      try clear c14
                      try clear c14b0
                      try clear c14b1
                      try clear c16
                      try clear c17
                      try clear c17b0
                      try clear c17b1
                      try clear c18
                      try clear c18b0
                      try clear c18b1
                      try clear c20
                      try clear q20
                      try clear c22
                      try clear c22b0
                      try clear c22b1
                      try clear c23
                      try clear c23b0
                      try clear c23b1
                      try clear hx300_0
                      try clear p2
                      try clear p3
                      try clear p300
                      try clear p7
                      try clear p8
                      try clear q2
                      try clear q20
                      try clear q3
                      try clear q300
                      try clear q7
                      try clear q8
                      obtain ⟨kq, x61_20, rfl, HA, HJ20, HO_9, HO_11, HB⟩ := hcut
                      cases kq with
                      | zero => exact absurd HA.out (by simp [digits_unpackHalves.j3])
                      | succ kj20 =>
                        have H := HA.out
                        clear HA
                        simp only [digits_unpackHalves.j3] at H
                        have HC24 := Aside0.mk H
                        clear H
                        go_upto_if 61 with (fail)
                        go_cut [11, 12] (fun v11 v12 wc => ∃ (kq : Nat) (x11_23 : List Int) (x12_23 : Bool), v12 = .bool x12_23 ∧ Aside0 (digits_unpackHalves.j4 kq a0 a1 a2 x9_1 x19_1 x11_23 x12_23 (a1.size : Int) x19_1 = some (r1, r2, r3)) ∧ Aside0 (kq ≤ kj20) ∧ Aside0 (Kd.R (Kd.int .u8) 5 wc w.heap.size (fun k_ => some k_ ≠ (v11 : Value).ownBlock) u9 x9_1) ∧ Aside0 (Kd.Q (Kd.int .u8) 5 wc w.heap.size (fun k_ => some k_ ≠ (u9 : Value).ownBlock) v11 x11_23) ∧ Aside0 (Below w.heap.size w wc))
                        case first =>
                          have H := HC24.out
                          clear HC24
                          by_cases c25 : x61_20 = true
                          · subst c25
                            have H1 : (if 1 < (x11_14.length : Int) then (if 1 ≤ (x11_14.length : Int) then (digits_unpackHalves.j4 kj20 a0 a1 a2 x9_1 x19_1 (x11_14.take (1 : Int).toNat) ((rd x11_14 1) != 15) (a1.size : Int) x19_1) else (none)) else (none)) = some (r1, r2, r3) := by rw [if_pos rfl] at H; exact H
                            clear H
                            have H := H1
                            clear H1
                            by_cases c26 : 1 < (x11_14.length : Int)
                            · rw [if_pos c26] at H
                              have c26b0 : decide (1 < (x11_14.length : Int)) = true := decide_eq_true c26
                              have c26b1 : decide (1 < x11_14.length) = true := decide_eq_true (by omega)
                              clear c26
                              (first | rw [c26b0] | (simp only [i64_w, i32_w]; rw [c26b0]) | skip)
                              by_cases c27 : 1 ≤ (x11_14.length : Int)
                              · rw [if_pos c27] at H
                                have c27b0 := eq_true c27
                                have c27b1 : decide (1 ≤ (x11_14.length : Int)) = true := decide_eq_true c27
                                clear c27
                                obtain ⟨y305, hy305⟩ : ∃ y_ : List Int, y_ = (x11_14.take (1 : Int).toNat) := ⟨_, rfl⟩
                                replace H : (digits_unpackHalves.j4 kj20 a0 a1 a2 x9_1 x19_1 y305 ((rd x11_14 1) != 15) (a1.size : Int) x19_1) = some (r1, r2, r3) := by first | (rw [hy305]; with_reducible exact H) | (have H2_ := (Option.bind_some _ _).symm.trans H; rw [hy305]; with_reducible exact H2_) | (have H2_ := (Option.bind_some _ _).symm.trans H; with_reducible exact H2_) | with_reducible exact H | (rw [hy305]; exact H) | exact H
                                have Ny305 := Aside0.mk hy305
                                clear hy305
                                have H' := Aside0.mk H
                                clear H
                                obtain ⟨Ao28, co28, eo28, _⟩ := Kd.Q_slice HO_11.out
                                subst eo28
                                have p304 : 0 ≤ (1 : Int) := (by omega)
                                have q304 : 1 < (x11_14.length : Int) := of_decide_eq_true (by first | (with_reducible assumption) | assumption)
                                obtain ⟨ad304, e304, hx304_0⟩ := Kd.at_int (Kd.Q_reads' HO_11.out).2.2 1 p304 q304
                                cases e304
                                (try simp only [show (1 : Int).toNat = 1 from rfl, Nat.reduceMul, Nat.reduceEqDiff, Go.Addr.add, ↓reduceIte] at hx304_0)
                                have qi304 : (1 < x11_14.length) = True := eq_true (by omega)
                                (try rw [show ((1 : Int)).toNat = 1 from rfl] at hx304_0)
                                replace p304 := eq_true p304
                                replace q304 := eq_true q304
                                have q29 : (1 : Int) ≤ ((x11_14.length : Int) : Int) := of_decide_eq_true (by first | (with_reducible assumption) | assumption)
                                obtain ⟨i029, hi029, _, hsz29, _⟩ := info_parts info5
                                have hcut29 := cut_to (P := Try.prog) 51 5 .i64 Try.underlying51 hi029 (some ad304) x11_14.length co28 1 (by omega) q29 (Kd.Q_reads' HO_11.out).2.1
                                have hr29 := Kd.Q_take (m := (1 : Int).toNat) HO_11.out (by omega)
                                have hy29 : y305.length = (1 : Int).toNat := (by rw [Ny305.out, List.length_take]; omega)
                                rw [← Ny305.out] at hr29
                                rw [← hy29] at hr29 hcut29
                                clear hy29 hi029 hsz29 HO_11
                                have HO307 := Aside0.mk hr29
                                clear hr29
                                replace q29 := eq_true q29
                                go_wp2
                                go_meet
                                case rel => exact ⟨_, (y305), (((rd x11_14 1) != 15)), (by first | rfl | (simp; done) | (simp [*]; done)), H', ⟨by have := HK1.out; have := HJ8.out; have := HJ14.out; have := HJ20.out; first | omega | exact Nat.le_refl _⟩, ⟨by (with_reducible repeat (first | apply Kd.R_alloc | apply Kd.R_drewN | apply Kd.R_drew)); exact HO_9.out⟩, ⟨by (with_reducible repeat (first | apply Kd.Q_alloc | apply Kd.Q_drewN | apply Kd.Q_drew)); exact HO307.out⟩, ⟨by repeat (first | (with_reducible first | exact HB.out | apply below_alloc | apply pw_below_drewN | apply below_drew1) | exact HB.out)⟩⟩
                              · rw [if_neg c27] at H
                                exact absurd H (by simp)
                            · rw [if_neg c26] at H
                              exact absurd H (by simp)
                          · replace c25 := Bool.eq_false_iff.mpr c25
                            subst c25
                            have H1 : (digits_unpackHalves.j4 kj20 a0 a1 a2 x9_1 x19_1 x11_14 x12_14 (a1.size : Int) x19_1) = some (r1, r2, r3) := by rw [if_neg (show ¬ (false = true) by decide)] at H; exact H
                            clear H
                            have H := H1
                            clear H1
                            have H' := Aside0.mk H
                            clear H
                            go_wp2
                            go_meet
                            case rel => exact ⟨_, (x11_14), (x12_14), (by first | rfl | (simp; done) | (simp [*]; done)), H', ⟨by have := HK1.out; have := HJ8.out; have := HJ14.out; have := HJ20.out; first | omega | exact Nat.le_refl _⟩, ⟨by (with_reducible repeat (first | apply Kd.R_alloc | apply Kd.R_drewN | apply Kd.R_drew)); exact HO_9.out⟩, ⟨by (with_reducible repeat (first | apply Kd.Q_alloc | apply Kd.Q_drewN | apply Kd.Q_drew)); exact HO_11.out⟩, ⟨by repeat (first | (with_reducible first | exact HB.out | apply below_alloc | apply pw_below_drewN | apply below_drew1) | exact HB.out)⟩⟩
                        case rest =>
                          clear HC24
                          try clear c1
                          try clear c2
                          try clear p2
                          try clear q2
                          try clear p3
                          try clear q3
                          try clear hx3
                          try clear qi3
                          try clear c4
                          try clear c4b0
                          try clear c5
                          try clear c5b0
                          try clear c6
                          try clear c6b0
                          try clear p6
                          try clear p7
                          try clear q7
                          try clear hx7
                          try clear p8
                          try clear q8
                          try clear hx8
                          try clear c13
                          try clear c13b0
                          try clear c13b1
                          try clear c14
                          try clear c14b0
                          try clear c14b1
                          try clear c16
                          try clear c17
                          try clear c17b0
                          try clear c17b1
                          try clear c18
                          try clear c18b0
                          try clear c18b1
                          try clear c20
                          try clear q20
                          try clear c22
                          try clear c22b0
                          try clear c22b1
                          try clear c23
                          try clear c23b0
                          try clear c23b1
                          try clear c25
                          try clear c26
                          try clear c26b0
                          try clear c26b1
                          try clear c27
                          try clear c27b0
                          try clear c27b1
                          try clear q29
                          try clear hx300_0
                          try clear hx304_0
                          try clear p2
                          try clear p3
                          try clear p300
                          try clear p304
                          try clear p6
                          try clear p7
                          try clear p8
                          try clear q2
                          try clear q20
                          try clear q29
                          try clear q3
                          try clear q300
                          try clear q304
                          try clear q7
                          try clear q8
                          obtain ⟨kq, x11_23, x12_23, rfl, HA, HJ23, HO_9, HO_11, HB⟩ := hcut
                          cases kq with
                          | zero => exact absurd HA.out (by simp [digits_unpackHalves.j4])
                          | succ kj23 =>
                            have H := HA.out
                            clear HA
                            simp only [digits_unpackHalves.j4] at H
                            have H' := Aside0.mk H
                            clear H
                            obtain ⟨Ao30, co30, eo30, _⟩ := Kd.Q_slice HO_11.out
                            subst eo30
                            go_wp2
                            go_loopg [9, 70] kj23 (fun kq v9 v70 w' => ∃ (x9_6 : List Int) (x70_6 : Int), v70 = .int .i64 x70_6 ∧ Aside0 (digits_unpackHalves.l1 kq a0 a1 a2 x9_6 x19_1 x12_23 (a1.size : Int) x19_1 x11_23 (x11_23.length : Int) x70_6 = some (r1, r2, r3)) ∧ Aside0 (kq ≤ kj23) ∧ Aside0 (Kd.R (Kd.int .u8) 5 w' w.heap.size (fun k_ => some k_ ≠ ((.slice Ao30 x11_23.length co30) : Value).ownBlock) v9 x9_6) ∧ Aside0 (Kd.Q (Kd.int .u8) 5 w' w.heap.size (fun k_ => some k_ ≠ (v9 : Value).ownBlock) (.slice Ao30 x11_23.length co30) x11_23) ∧ Aside0 (Below w.heap.size w w'))
                            case atStart => exact ⟨(x9_1), (0), (by first | rfl | (simp; done) | (simp [*]; done)), H', ⟨Nat.le_refl _⟩, ⟨by (with_reducible repeat (first | apply Kd.R_alloc | apply Kd.R_drewN | apply Kd.R_drew)); exact HO_9.out⟩, ⟨by (with_reducible repeat (first | apply Kd.Q_alloc | apply Kd.Q_drewN | apply Kd.Q_drew)); exact HO_11.out⟩, ⟨by repeat (first | (with_reducible first | exact HB.out | apply below_alloc | apply pw_below_drewN | apply below_drew1) | exact HB.out)⟩⟩
                            case round =>
                              clear H'
                              try clear c1
                              try clear c2
                              try clear p2
                              try clear q2
                              try clear p3
                              try clear q3
                              try clear hx3
                              try clear qi3
                              try clear c4
                              try clear c4b0
                              try clear c5
                              try clear c5b0
                              try clear c6
                              try clear c6b0
                              try clear p6
                              try clear p7
                              try clear q7
                              try clear hx7
                              try clear p8
                              try clear q8
                              try clear hx8
                              try clear c13
                              try clear c13b0
                              try clear c13b1
                              try clear c14
                              try clear c14b0
                              try clear c14b1
                              try clear c16
                              try clear c17
                              try clear c17b0
                              try clear c17b1
                              try clear c18
                              try clear c18b0
                              try clear c18b1
                              try clear c20
                              try clear q20
                              try clear c22
                              try clear c22b0
                              try clear c22b1
                              try clear c23
                              try clear c23b0
                              try clear c23b1
                              try clear c25
                              try clear c26
                              try clear c26b0
                              try clear c26b1
                              try clear c27
                              try clear c27b0
                              try clear c27b1
                              try clear q29
                              try clear p30
                              try clear q30
                              try clear hx30
                              try clear qi30
                              try clear hx300_0
                              try clear hx304_0
                              try clear p2
                              try clear p3
                              try clear p300
                              try clear p304
                              try clear p6
                              try clear p7
                              try clear p8
                              try clear q2
                              try clear q20
                              try clear q29
                              try clear q3
                              try clear q300
                              try clear q304
                              try clear q7
                              try clear q8
                              obtain ⟨x9_6, x70_6, rfl, HA, HK6, HO_9, HO_68, HB⟩ := hrel
                              cases gk with
                              | zero => exact absurd HA.out (by simp [digits_unpackHalves.l1])
                              | succ k6 =>
                                have H := HA.out
                                clear HA
                                simp only [digits_unpackHalves.l1] at H
                                by_cases c31 : x70_6 < (x11_23.length : Int)
                                · rw [if_pos c31] at H
                                  have c31b0 : decide (x70_6 < (x11_23.length : Int)) = true := decide_eq_true c31
                                  clear c31
                                  by_cases c32 : 0 ≤ x70_6
                                  · rw [if_pos c32] at H
                                    have c32b0 : decide (0 ≤ x70_6) = true := decide_eq_true c32
                                    clear c32
                                    by_cases c33 : x70_6 < (x11_23.length : Int)
                                    · rw [if_pos c33] at H
                                      have c33b0 : decide (x70_6 < (x11_23.length : Int)) = true := decide_eq_true c33
                                      clear c33
                                      replace H := Option.bind_eq_some_iff.mp H
                                      obtain ⟨⟨t309, t310⟩, A340, H⟩ := H
                                      replace H : (if t310 = true then (if x9_6.length < 140737488355328 then (digits_unpackHalves.l1 k6 a0 a1 a2 (x9_6 ++ [t309]) x19_1 x12_23 (a1.size : Int) x19_1 x11_23 (x11_23.length : Int) (wrap64 (x70_6 + 1))) else (none)) else (some ((⟨#[]⟩ : ByteArray), 11, x19_1))) = some (r1, r2, r3) := H
                                      have A34 := Aside0.mk A340
                                      clear A340
                                      by_cases c35 : t310 = true
                                      · subst c35
                                        have H1 : (if x9_6.length < 140737488355328 then (digits_unpackHalves.l1 k6 a0 a1 a2 (x9_6 ++ [t309]) x19_1 x12_23 (a1.size : Int) x19_1 x11_23 (x11_23.length : Int) (wrap64 (x70_6 + 1))) else (none)) = some (r1, r2, r3) := by rw [if_pos rfl] at H; exact H
                                        clear H
                                        have H := H1
                                        clear H1
                                        by_cases c36 : x9_6.length < 140737488355328
                                        · rw [if_pos c36] at H
                                          have LMc36 := Aside0.mk c36
                                          clear c36
                                          obtain ⟨y311, hy311⟩ : ∃ y_ : List Int, y_ = (x9_6 ++ [t309]) := ⟨_, rfl⟩
                                          replace H : (digits_unpackHalves.l1 k6 a0 a1 a2 y311 x19_1 x12_23 (a1.size : Int) x19_1 x11_23 (x11_23.length : Int) (wrap64 (x70_6 + 1))) = some (r1, r2, r3) := by first | (rw [hy311]; with_reducible exact H) | (have H2_ := (Option.bind_some _ _).symm.trans H; rw [hy311]; with_reducible exact H2_) | (have H2_ := (Option.bind_some _ _).symm.trans H; with_reducible exact H2_) | with_reducible exact H | (rw [hy311]; exact H) | exact H
                                          have Ny311 := Aside0.mk hy311
                                          clear hy311
                                          have H' := Aside0.mk H
                                          clear H
                                          have p308 : 0 ≤ (x70_6 : Int) := of_decide_eq_true (by first | (with_reducible assumption) | assumption)
                                          have q308 : x70_6 < (x11_23.length : Int) := of_decide_eq_true (by first | (with_reducible assumption) | assumption)
                                          obtain ⟨ad308, e308, hx308_0⟩ := Kd.at_int (Kd.Q_reads' HO_68.out).2.2 x70_6 p308 q308
                                          cases e308
                                          replace p308 := eq_true p308
                                          replace q308 := eq_true q308
                                          go_wp2_with (first | ((with_reducible refine gate_callee (f := 62) rfl ?_); refine goesL_ (some 76) rfl rfl Try.func62 (by kernel_rfl) rfl #[.int .u8 (rd x11_23 x70_6)] rfl (by (try simp only [List.map_toArray, List.map_cons, List.map_nil]); first | done | rfl | (simp only [List.length_drop, List.length_take]; rfl)) ?_; (with_reducible refine (digits_character.calls (rd x11_23 x70_6) t309 true _ A34.out).mono ?_); rintro e w' ⟨rfl, ⟨nd, rfl⟩⟩; refine ⟨_, rfl, ?_⟩) | ((with_reducible refine gate_builtin (b := .append) (xs := #[.tmp 82, .tmp 84]) rfl ?_); (try (refine gate_guard (by rfl) ?_; dsimp only)); at_builtin; refine Kd.R_append (Kd.int .u8) (w0 := w) w.heap.size rfl (.tmp 82) (.tmp 84) 51 5 (.int .u8 0) 1 rfl Try.underlying51 info5 rfl (by decide) (by omega) u9 x9_6 t309 [.int .u8 t309] (fun k_ => some k_ ≠ (.slice (some ad308) x11_23.length co30 : Value).ownBlock) (fun _ => False) rfl rfl ?aP (fun _ hk => hk.elim) ?aF ?aO ?aB ?aS ?aL ?_; (case aP => exact rfl); (case aB => exact (by repeat (first | (with_reducible first | exact HB.out | apply below_alloc | apply pw_below_drewN | apply below_drew1) | exact HB.out))); (case aF => exact (fun k_ hk => Kd.fresh' (Kd.Q_lt (by (with_reducible repeat (first | apply Kd.Q_alloc | apply Kd.Q_drewN | apply Kd.Q_drew)); exact HO_68.out)) k_ hk)); (case aO => exact (by (with_reducible repeat (first | apply Kd.R_alloc | apply Kd.R_drewN | apply Kd.R_drew)); exact HO_9.out)); (case aS => exact (below_size (by repeat (first | (with_reducible first | exact HB.out | apply below_alloc | apply pw_below_drewN | apply below_drew1) | exact HB.out)))); (case aL => have := LMc36.out; omega); intro v312 w37 ho hb hg hat; rw [← Ny311.out] at ho; have n0_ := Aside0.mk (Kd.Q_after (ok := (fun _ => True)) (by (with_reducible repeat (first | apply Kd.Q_alloc | apply Kd.Q_drewN | apply Kd.Q_drew)); exact Kd.Q_mono HO_68.out (fun _ hk => ⟨trivial, hk⟩)) hg hat); have n1_ := Aside0.mk (hb); have n2_ := Aside0.mk (ho); clear HO_68; clear HB; clear HO_9; have HO_68 := n0_; have HB := n1_; have HO313 := n2_; clear n0_ n1_ n2_; clear ho hb hg hat))
                                          go_roundg k6
                                          case measure => have := HK1.out; have := HJ8.out; have := HJ14.out; have := HJ20.out; have := HJ23.out; have := HK6.out; omega
                                          case rel => exact ⟨(y311), (wrap64 (x70_6 + 1)), (by first | rfl | (simp; done) | (simp [*]; done)), H', ⟨by have := HK1.out; have := HJ8.out; have := HJ14.out; have := HJ20.out; have := HJ23.out; have := HK6.out; omega⟩, ⟨by (with_reducible repeat (first | apply Kd.R_alloc | apply Kd.R_drewN | apply Kd.R_drew)); exact HO313.out⟩, ⟨by (with_reducible repeat (first | apply Kd.Q_alloc | apply Kd.Q_drewN | apply Kd.Q_drew)); exact Kd.Q_mono HO_68.out (fun _ hk => hk.2)⟩, ⟨by repeat (first | (with_reducible first | exact HB.out | apply below_alloc | apply pw_below_drewN | apply below_drew1) | exact HB.out)⟩⟩
                                        · rw [if_neg c36] at H
                                          exact absurd H (by simp)
                                      · replace c35 := Bool.eq_false_iff.mpr c35
                                        subst c35
                                        have H1 : (some ((⟨#[]⟩ : ByteArray), 11, x19_1)) = some (r1, r2, r3) := by rw [if_neg (show ¬ (false = true) by decide)] at H; exact H
                                        clear H
                                        have H := H1
                                        clear H1
                                        simp only [Option.some.injEq, Prod.mk.injEq] at H
                                        obtain ⟨rfl, rfl, rfl⟩ := H
                                        have p308 : 0 ≤ (x70_6 : Int) := of_decide_eq_true (by first | (with_reducible assumption) | assumption)
                                        have q308 : x70_6 < (x11_23.length : Int) := of_decide_eq_true (by first | (with_reducible assumption) | assumption)
                                        obtain ⟨ad308, e308, hx308_0⟩ := Kd.at_int (Kd.Q_reads' HO_68.out).2.2 x70_6 p308 q308
                                        cases e308
                                        replace p308 := eq_true p308
                                        replace q308 := eq_true q308
                                        go_wp2_with (first | ((with_reducible refine gate_callee (f := 62) rfl ?_); refine goesL_ (some 76) rfl rfl Try.func62 (by kernel_rfl) rfl #[.int .u8 (rd x11_23 x70_6)] rfl (by (try simp only [List.map_toArray, List.map_cons, List.map_nil]); first | done | rfl | (simp only [List.length_drop, List.length_take]; rfl)) ?_; (with_reducible refine (digits_character.calls (rd x11_23 x70_6) t309 false _ A34.out).mono ?_); rintro e w' ⟨rfl, ⟨nd, rfl⟩⟩; refine ⟨_, rfl, ?_⟩))
                                        go_ret3
                                        exact ⟨by first | rfl | (simp [errW_none, errW_some] <;> rfl) | (simp [*, errW_none, errW_some] <;> rfl), by repeat (first | (with_reducible first | exact HB.out | apply below_alloc | apply pw_below_drewN | apply below_drew1) | exact HB.out)⟩
                                    · rw [if_neg c33] at H
                                      exact absurd H (by simp)
                                  · rw [if_neg c32] at H
                                    exact absurd H (by simp)
                                · rw [if_neg c31] at H
                                  have c31b0 : decide (x70_6 < (x11_23.length : Int)) = false := decide_eq_false c31
                                  clear c31
                                  by_cases c38 : x12_23 = true
                                  · subst c38
                                    have H1 : (some ((⟨#[]⟩ : ByteArray), 12, x19_1)) = some (r1, r2, r3) := by rw [if_pos rfl] at H; exact H
                                    clear H
                                    have H := H1
                                    clear H1
                                    simp only [Option.some.injEq, Prod.mk.injEq] at H
                                    obtain ⟨rfl, rfl, rfl⟩ := H
                                    go_wp2
                                    go_ret3
                                    exact ⟨by first | rfl | (simp [errW_none, errW_some] <;> rfl) | (simp [*, errW_none, errW_some] <;> rfl), by repeat (first | (with_reducible first | exact HB.out | apply below_alloc | apply pw_below_drewN | apply below_drew1) | exact HB.out)⟩
                                  · replace c38 := Bool.eq_false_iff.mpr c38
                                    subst c38
                                    have H1 : (digits_unpackHalves.l0 k6 a0 a1 a2 x9_6 (a1.size : Int) (wrap64 (x19_1 + 1))) = some (r1, r2, r3) := by rw [if_neg (show ¬ (false = true) by decide)] at H; exact H
                                    clear H
                                    have H := H1
                                    clear H1
                                    have H' := Aside0.mk H
                                    clear H
                                    go_wp2
                                    go_roundg k6
                                    case measure => have := HK1.out; have := HJ8.out; have := HJ14.out; have := HJ20.out; have := HJ23.out; have := HK6.out; omega
                                    case rel => exact ⟨(x9_6), (wrap64 (x19_1 + 1)), (by first | rfl | (simp; done) | (simp [*]; done)), H', ⟨by have := HK1.out; have := HJ8.out; have := HJ14.out; have := HJ20.out; have := HJ23.out; have := HK6.out; omega⟩, ⟨by (with_reducible repeat (first | apply Kd.R_alloc | apply Kd.R_drewN | apply Kd.R_drew)); exact Kd.R_mono HO_9.out (fun _ hk => trivial)⟩, ⟨by repeat (first | (with_reducible first | exact HB.out | apply below_alloc | apply pw_below_drewN | apply below_drew1) | exact HB.out)⟩⟩
          · rw [if_neg c6] at H
            exact absurd H (by simp)
        · rw [if_neg c5] at H
          exact absurd H (by simp)
      · rw [if_neg c4] at H
        have c4b0 : decide (x19_1 < (a1.size : Int)) = false := decide_eq_false c4
        clear c4
        simp only [Option.some.injEq, Prod.mk.injEq] at H
        obtain ⟨rfl, rfl, rfl⟩ := H
        have hcv39 := own_string (P := Try.prog) Try.underlying51 Try.underlying5 Try.underlying9 (Kd.own_of_R HO_9.out)
        go_wp2
        go_ret3
        exact ⟨by first | rfl | (simp [errW_none, errW_some] <;> rfl) | (simp [*, errW_none, errW_some] <;> rfl), by repeat (first | (with_reducible first | exact HB.out | apply below_alloc | apply pw_below_drewN | apply below_drew1) | exact HB.out)⟩

end Go.Proofs.Ytlpamhffpgoebaa.All

-- WRITTEN BY this session's own drv.py over the kit's print. Not trusted: Lean checks it.
namespace Go.Proofs.Ytlpamhffpgoebaa.All
open Go.RowKit Go.Proofs.YtlpamhffpgoebaaW.PrintWords Go.Proofs.YtlpamhffpgoebaaW.PrintLast Go.Proofs.YtlpamhffpgoebaaW.PrintMore
attribute [local go_sem] max2_int min2_int max_two min_two max_three min_three max_four min_four   -- for this text's walks alone
set_option linter.unusedVariables false
set_option linter.unusedSimpArgs false

/-! ### digits_Unpack: function 34 -/
mutual
def digits_Unpack.j0 : Nat → Int → ByteArray → Int → Bool → Option (ByteArray × Int × Int)
  | 0, _, _, _, _ => none
  | k + 1, x0, x1, x2, x23 => if x23 = true then (some ((⟨#[]⟩ : ByteArray), 1, 0)) else ((digits_Width.f x0 x2).bind fun t314 => (if (x1.size : Int) < t314 then (some ((⟨#[]⟩ : ByteArray), 10, (x1.size : Int))) else (if x0 = 2 then (digits_Unpack.j1 k x0 x1 x2 t314 true) else (digits_Unpack.j1 k x0 x1 x2 t314 (x0 == 3)))))
def digits_Unpack.j1 : Nat → Int → ByteArray → Int → Int → Bool → Option (ByteArray × Int × Int)
  | 0, _, _, _, _, _ => none
  | k + 1, x0, x1, x2, x9, x38 => if x38 = true then (if 0 ≤ x9 then (if x9 ≤ (x1.size : Int) then ((digits_unpackHalves.f k x0 (x1.extract 0 (x9 : Int).toNat) x2).bind fun bt315 => (some (bt315.1, bt315.2.1, bt315.2.2))) else (none)) else (none)) else (if 0 ≤ x9 then (if (x9 : Int).toNat ≤ 281474976710656 then (digits_Unpack.l0 k x0 x1 (([] : List Int)) x9 0) else (none)) else (none))
def digits_Unpack.l0 : Nat → Int → ByteArray → List Int → Int → Int → Option (ByteArray × Int × Int)
  | 0, _, _, _, _, _ => none
  | k + 1, x0, x1, x10, x50, x51 => if x51 < x50 then (if 0 ≤ x51 then (if x51 < (x1.size : Int) then ((digits_read.f x0 (bt x1 x51)).bind fun bt321 => (if bt321.2 = true then (if x10.length < 140737488355328 then (digits_Unpack.l0 k x0 x1 (x10 ++ [bt321.1]) x50 (wrap64 (x51 + 1))) else (none)) else (some ((⟨#[]⟩ : ByteArray), 11, x51)))) else (none)) else (none)) else (some (strOfNums x10, 0, 0))
end
def digits_Unpack.f (k : Nat) (a0 : Int) (a1 : ByteArray) (a2 : Int) : Option (ByteArray × Int × Int) := if a0 < 1 then (digits_Unpack.j0 k a0 a1 a2 true) else (if a0 > 5 then (digits_Unpack.j0 k a0 a1 a2 true) else (digits_Unpack.j0 k a0 a1 a2 (decide (a2 < 0))))
theorem digits_Unpack.mono_l : ∀ k, (∀ y0 y1 y2 y3, LeO (digits_Unpack.j0 k y0 y1 y2 y3) (digits_Unpack.j0 (k + 1) y0 y1 y2 y3)) ∧ (∀ y0 y1 y2 y3 y4, LeO (digits_Unpack.j1 k y0 y1 y2 y3 y4) (digits_Unpack.j1 (k + 1) y0 y1 y2 y3 y4)) ∧ (∀ y0 y1 y2 y3 y4, LeO (digits_Unpack.l0 k y0 y1 y2 y3 y4) (digits_Unpack.l0 (k + 1) y0 y1 y2 y3 y4))
  | 0 => ⟨fun _ _ _ _ r h => by simp [digits_Unpack.j0] at h, fun _ _ _ _ _ r h => by simp [digits_Unpack.j1] at h, fun _ _ _ _ _ r h => by simp [digits_Unpack.l0] at h⟩
  | k + 1 => by
    obtain ⟨ih0, ih1, ih2⟩ := digits_Unpack.mono_l k
    refine ⟨?_, ?_, ?_⟩
    · intro y0 y1 y2 y3
      unfold digits_Unpack.j0
      repeat' first
      | (with_reducible exact ih0 _ _ _ _)
      | (with_reducible exact ih1 _ _ _ _ _)
      | (with_reducible exact ih2 _ _ _ _ _)
      | (with_reducible exact digits_unpackHalves.mono _ _ _ _)
      | (with_reducible exact LeO.refl _)
      | (with_reducible exact LeO.none _)
      | (with_reducible refine LeO.ite ?_ ?_)
      | (with_reducible refine LeO.bind ?_ (fun _ => ?_))
      | exact ih0 _ _ _ _
      | exact ih1 _ _ _ _ _
      | exact ih2 _ _ _ _ _
      | exact digits_unpackHalves.mono _ _ _ _
      | exact LeO.none _
      | refine LeO.ite ?_ ?_
      | refine LeO.bind ?_ (fun _ => ?_)
    · intro y0 y1 y2 y3 y4
      unfold digits_Unpack.j1
      repeat' first
      | (with_reducible exact ih0 _ _ _ _)
      | (with_reducible exact ih1 _ _ _ _ _)
      | (with_reducible exact ih2 _ _ _ _ _)
      | (with_reducible exact digits_unpackHalves.mono _ _ _ _)
      | (with_reducible exact LeO.refl _)
      | (with_reducible exact LeO.none _)
      | (with_reducible refine LeO.ite ?_ ?_)
      | (with_reducible refine LeO.bind ?_ (fun _ => ?_))
      | exact ih0 _ _ _ _
      | exact ih1 _ _ _ _ _
      | exact ih2 _ _ _ _ _
      | exact digits_unpackHalves.mono _ _ _ _
      | exact LeO.none _
      | refine LeO.ite ?_ ?_
      | refine LeO.bind ?_ (fun _ => ?_)
    · intro y0 y1 y2 y3 y4
      unfold digits_Unpack.l0
      repeat' first
      | (with_reducible exact ih0 _ _ _ _)
      | (with_reducible exact ih1 _ _ _ _ _)
      | (with_reducible exact ih2 _ _ _ _ _)
      | (with_reducible exact digits_unpackHalves.mono _ _ _ _)
      | (with_reducible exact LeO.refl _)
      | (with_reducible exact LeO.none _)
      | (with_reducible refine LeO.ite ?_ ?_)
      | (with_reducible refine LeO.bind ?_ (fun _ => ?_))
      | exact ih0 _ _ _ _
      | exact ih1 _ _ _ _ _
      | exact ih2 _ _ _ _ _
      | exact digits_unpackHalves.mono _ _ _ _
      | exact LeO.none _
      | refine LeO.ite ?_ ?_
      | refine LeO.bind ?_ (fun _ => ?_)
theorem digits_Unpack.mono : ∀ a0 a1 a2 k, LeO (digits_Unpack.f k a0 a1 a2) (digits_Unpack.f (k + 1) a0 a1 a2) := by
  intro a0 a1 a2 k
  obtain ⟨ih0, ih1, ih2⟩ := digits_Unpack.mono_l k
  unfold digits_Unpack.f
  repeat' first
      | (with_reducible exact ih0 _ _ _ _)
      | (with_reducible exact ih1 _ _ _ _ _)
      | (with_reducible exact ih2 _ _ _ _ _)
      | (with_reducible exact digits_unpackHalves.mono _ _ _ _)
      | (with_reducible exact LeO.refl _)
      | (with_reducible exact LeO.none _)
      | (with_reducible refine LeO.ite ?_ ?_)
      | (with_reducible refine LeO.bind ?_ (fun _ => ?_))
      | exact ih0 _ _ _ _
      | exact ih1 _ _ _ _ _
      | exact ih2 _ _ _ _ _
      | exact digits_unpackHalves.mono _ _ _ _
      | exact LeO.none _
      | refine LeO.ite ?_ ?_
      | refine LeO.bind ?_ (fun _ => ?_)
set_option maxHeartbeats 8000000 in
set_option maxRecDepth 100000 in
theorem digits_Unpack.calls (k : Nat) (a0 : Int) (a1 : ByteArray) (a2 : Int) (r1 : ByteArray) (r2 : Int) (r3 : Int) (w : World) (h : digits_Unpack.f k a0 a1 a2 = some (r1, r2, r3)) :
    Calls Try.prog 34 #[.int .i64 a0, .string a1, .int .i64 a2] w fun e w' => e = .returned (.tuple #[.string r1, .int .i64 r2, .int .i64 r3]) ∧ Below w.heap.size w w' := by
  have HB := Aside0.mk (Below.refl w.heap.size w)
  have H : (if a0 < 1 then (digits_Unpack.j0 k a0 a1 a2 true) else (if a0 > 5 then (digits_Unpack.j0 k a0 a1 a2 true) else (digits_Unpack.j0 k a0 a1 a2 (decide (a2 < 0))))) = some (r1, r2, r3) := h
  clear h
  have HC4 := Aside0.mk H
  clear H
  go_enter Try.func34, Try.ntmps34
  go_upto_region 1 with (fail)
  go_cut [23] (fun v23 wc => ∃ (kq : Nat) (x23_3 : Bool), v23 = .bool x23_3 ∧ Aside0 (digits_Unpack.j0 kq a0 a1 a2 x23_3 = some (r1, r2, r3)) ∧ Aside0 (kq ≤ k) ∧ Aside0 (Below w.heap.size w wc))
  case first =>
    have H := HC4.out
    clear HC4
    by_cases c5 : a0 < 1
    · rw [if_pos c5] at H
      have c5b0 : decide (a0 < 1) = true := decide_eq_true c5
      clear c5
      (first | rw [c5b0] | (simp only [i64_w, i32_w]; rw [c5b0]) | skip)
      have H' := Aside0.mk H
      clear H
      go_wp2
      go_meet
      case rel => exact ⟨_, (true), (by first | rfl | (simp; done) | (simp [*]; done)), H', ⟨by first | omega | exact Nat.le_refl _⟩, ⟨by repeat (first | (with_reducible first | exact HB.out | apply below_alloc | apply pw_below_drewN | apply below_drew1) | exact HB.out)⟩⟩
    · rw [if_neg c5] at H
      have c5b0 : decide (a0 < 1) = false := decide_eq_false c5
      clear c5
      (first | rw [c5b0] | (simp only [i64_w, i32_w]; rw [c5b0]) | skip)
      by_cases c6 : a0 > 5
      · rw [if_pos c6] at H
        have c6b0 : decide (5 < a0) = true := decide_eq_true c6
        clear c6
        have H' := Aside0.mk H
        clear H
        go_wp2
        go_meet
        case rel => exact ⟨_, (true), (by first | rfl | (simp; done) | (simp [*]; done)), H', ⟨by first | omega | exact Nat.le_refl _⟩, ⟨by repeat (first | (with_reducible first | exact HB.out | apply below_alloc | apply pw_below_drewN | apply below_drew1) | exact HB.out)⟩⟩
      · rw [if_neg c6] at H
        have c6b0 : decide (5 < a0) = false := decide_eq_false c6
        clear c6
        have H' := Aside0.mk H
        clear H
        go_wp2
        go_meet
        case rel => exact ⟨_, (decide (a2 < 0)), (by first | rfl | (simp; done) | (simp [*]; done)), H', ⟨by first | omega | exact Nat.le_refl _⟩, ⟨by repeat (first | (with_reducible first | exact HB.out | apply below_alloc | apply pw_below_drewN | apply below_drew1) | exact HB.out)⟩⟩
  case rest =>
    clear HC4
    try clear p2
    try clear c3
    try clear c5
    try clear c5b0
    try clear c6
    try clear c6b0
    obtain ⟨kq, x23_3, rfl, HA, HJ3, HB⟩ := hcut
    cases kq with
    | zero => exact absurd HA.out (by simp [digits_Unpack.j0])
    | succ kj3 =>
      have H := HA.out
      clear HA
      simp only [digits_Unpack.j0] at H
      by_cases c7 : x23_3 = true
      · subst c7
        have H1 : (some ((⟨#[]⟩ : ByteArray), 1, 0)) = some (r1, r2, r3) := by rw [if_pos rfl] at H; exact H
        clear H
        have H := H1
        clear H1
        simp only [Option.some.injEq, Prod.mk.injEq] at H
        obtain ⟨rfl, rfl, rfl⟩ := H
        go_wp2
        go_ret3
        exact ⟨by first | rfl | (simp [errW_none, errW_some] <;> rfl) | (simp [*, errW_none, errW_some] <;> rfl), by repeat (first | (with_reducible first | exact HB.out | apply below_alloc | apply pw_below_drewN | apply below_drew1) | exact HB.out)⟩
      · replace c7 := Bool.eq_false_iff.mpr c7
        subst c7
        have H1 : ((digits_Width.f a0 a2).bind fun t314 => (if (a1.size : Int) < t314 then (some ((⟨#[]⟩ : ByteArray), 10, (a1.size : Int))) else (if a0 = 2 then (digits_Unpack.j1 kj3 a0 a1 a2 t314 true) else (digits_Unpack.j1 kj3 a0 a1 a2 t314 (a0 == 3))))) = some (r1, r2, r3) := by rw [if_neg (show ¬ (false = true) by decide)] at H; exact H
        clear H
        have H := H1
        clear H1
        replace H := Option.bind_eq_some_iff.mp H
        obtain ⟨t314, A80, H⟩ := H
        replace H : (if (a1.size : Int) < t314 then (some ((⟨#[]⟩ : ByteArray), 10, (a1.size : Int))) else (if a0 = 2 then (digits_Unpack.j1 kj3 a0 a1 a2 t314 true) else (digits_Unpack.j1 kj3 a0 a1 a2 t314 (a0 == 3)))) = some (r1, r2, r3) := H
        have A8 := Aside0.mk A80
        clear A80
        by_cases c9 : (a1.size : Int) < t314
        · rw [if_pos c9] at H
          have c9b0 : decide ((a1.size : Int) < t314) = true := decide_eq_true c9
          clear c9
          simp only [Option.some.injEq, Prod.mk.injEq] at H
          obtain ⟨rfl, rfl, rfl⟩ := H
          go_wp2_with (first | ((with_reducible refine gate_callee (f := 20) rfl ?_); refine goesL_ (some 26) rfl rfl Try.func20 (by kernel_rfl) rfl #[.int .i64 a0, .int .i64 a2] rfl (by (try simp only [List.map_toArray, List.map_cons, List.map_nil]); first | done | rfl | (simp only [List.length_drop, List.length_take]; rfl)) ?_; (with_reducible refine (digits_Width.calls a0 a2 t314 _ A8.out).mono ?_); rintro e w' ⟨rfl, ⟨nd, rfl⟩⟩; refine ⟨_, rfl, ?_⟩))
          go_ret3
          exact ⟨by first | rfl | (simp [errW_none, errW_some] <;> rfl) | (simp [*, errW_none, errW_some] <;> rfl), by repeat (first | (with_reducible first | exact HB.out | apply below_alloc | apply pw_below_drewN | apply below_drew1) | exact HB.out)⟩
        · rw [if_neg c9] at H
          have c9b0 : decide ((a1.size : Int) < t314) = false := decide_eq_false c9
          clear c9
          have HC10 := Aside0.mk H
          clear H
          go_upto_region 6 with (first | ((with_reducible refine gate_callee (f := 20) rfl ?_); refine goesL_ (some 26) rfl rfl Try.func20 (by kernel_rfl) rfl #[.int .i64 a0, .int .i64 a2] rfl (by (try simp only [List.map_toArray, List.map_cons, List.map_nil]); first | done | rfl | (simp only [List.length_drop, List.length_take]; rfl)) ?_; (with_reducible refine (digits_Width.calls a0 a2 t314 _ A8.out).mono ?_); rintro e w' ⟨rfl, ⟨nd, rfl⟩⟩; refine ⟨_, rfl, ?_⟩))
          (try simp only [Act.put, List.setIfInBounds_toArray, List.set_cons_zero, List.set_cons_succ])
          go_cut [38] (fun v38 wc => ∃ (kq : Nat) (x38_9 : Bool), v38 = .bool x38_9 ∧ Aside0 (digits_Unpack.j1 kq a0 a1 a2 t314 x38_9 = some (r1, r2, r3)) ∧ Aside0 (kq ≤ kj3) ∧ Aside0 (Below w.heap.size w wc))
          case first =>
            have H := HC10.out
            clear HC10
            by_cases c11 : a0 = 2
            · rw [if_pos c11] at H
              have c11b0 : (a0 == 2) = true := beq_iff_eq.mpr c11
              have c11b1 : (a0 != 2) = false := bne_eq_false_iff_eq.mpr c11
              clear c11
              (first | rw [c11b0] | (simp only [i64_w, i32_w]; rw [c11b0]) | skip)
              have H' := Aside0.mk H
              clear H
              go_wp2
              go_meet
              case rel => exact ⟨_, (true), (by first | rfl | (simp; done) | (simp [*]; done)), H', ⟨by have := HJ3.out; first | omega | exact Nat.le_refl _⟩, ⟨by repeat (first | (with_reducible first | exact HB.out | apply below_alloc | apply pw_below_drewN | apply below_drew1) | exact HB.out)⟩⟩
            · rw [if_neg c11] at H
              have c11b0 : (a0 == 2) = false := beq_eq_false_iff_ne.mpr c11
              have c11b1 : (a0 != 2) = true := bne_iff_ne.mpr c11
              (first | rw [c11b0] | (simp only [i64_w, i32_w]; rw [c11b0]) | skip)
              have H' := Aside0.mk H
              clear H
              go_wp2
              go_meet
              case rel => exact ⟨_, ((a0 == 3)), (by first | rfl | (simp; done) | (simp [*]; done)), H', ⟨by have := HJ3.out; first | omega | exact Nat.le_refl _⟩, ⟨by repeat (first | (with_reducible first | exact HB.out | apply below_alloc | apply pw_below_drewN | apply below_drew1) | exact HB.out)⟩⟩
          case rest =>
            clear HC10
            try clear c1
            try clear c2
            try clear p2
            try clear c3
            try clear c5
            try clear c5b0
            try clear c6
            try clear c6b0
            try clear c7
            try clear c9
            try clear c9b0
            try clear c11
            try clear c11b0
            try clear c11b1
            try clear p2
            obtain ⟨kq, x38_9, rfl, HA, HJ9, HB⟩ := hcut
            cases kq with
            | zero => exact absurd HA.out (by simp [digits_Unpack.j1])
            | succ kj9 =>
              have H := HA.out
              clear HA
              simp only [digits_Unpack.j1] at H
              by_cases c12 : x38_9 = true
              · subst c12
                have H1 : (if 0 ≤ t314 then (if t314 ≤ (a1.size : Int) then ((digits_unpackHalves.f kj9 a0 (a1.extract 0 (t314 : Int).toNat) a2).bind fun bt315 => (some (bt315.1, bt315.2.1, bt315.2.2))) else (none)) else (none)) = some (r1, r2, r3) := by rw [if_pos rfl] at H; exact H
                clear H
                have H := H1
                clear H1
                by_cases c13 : 0 ≤ t314
                · rw [if_pos c13] at H
                  have c13b0 := eq_true c13
                  have c13b1 : decide (0 ≤ t314) = true := decide_eq_true c13
                  clear c13
                  by_cases c14 : t314 ≤ (a1.size : Int)
                  · rw [if_pos c14] at H
                    have c14b0 := eq_true c14
                    have c14b1 : decide (t314 ≤ (a1.size : Int)) = true := decide_eq_true c14
                    clear c14
                    replace H := Option.bind_eq_some_iff.mp H
                    obtain ⟨⟨t315, t316, t317⟩, A150, H⟩ := H
                    replace H : (some (t315, t316, t317)) = some (r1, r2, r3) := H
                    have A15 := Aside0.mk A150
                    clear A150
                    simp only [Option.some.injEq, Prod.mk.injEq] at H
                    obtain ⟨rfl, rfl, rfl⟩ := H
                    go_wp2_with (first | ((with_reducible refine gate_callee (f := 53) rfl ?_); refine goesL_ (some 44) rfl rfl Try.func53 (by kernel_rfl) rfl #[.int .i64 a0, .string (a1.extract 0 (t314 : Int).toNat), .int .i64 a2] rfl (by (try simp only [List.map_toArray, List.map_cons, List.map_nil]); first | done | rfl | (simp only [List.length_drop, List.length_take]; rfl)) ?_; (with_reducible refine (digits_unpackHalves.calls kj9 a0 (a1.extract 0 (t314 : Int).toNat) a2 t315 t316 t317 _ A15.out).mono ?_); rintro e w16 ⟨rfl, hb⟩; refine ⟨_, rfl, ?_⟩; have n0_ := Aside0.mk (below_step (by repeat (first | (with_reducible first | exact HB.out | apply below_alloc | apply pw_below_drewN | apply below_drew1) | exact HB.out)) hb); clear HB; have HB := n0_; clear n0_; (try clear hb); (try clear hb2); (try clear hk); (try clear hi)))
                    go_ret3
                    exact ⟨by first | rfl | (simp [errW_none, errW_some] <;> rfl) | (simp [*, errW_none, errW_some] <;> rfl), by repeat (first | (with_reducible first | exact HB.out | apply below_alloc | apply pw_below_drewN | apply below_drew1) | exact HB.out)⟩
                  · rw [if_neg c14] at H
                    exact absurd H (by simp)
                · rw [if_neg c13] at H
                  exact absurd H (by simp)
              · replace c12 := Bool.eq_false_iff.mpr c12
                subst c12
                have H1 : (if 0 ≤ t314 then (if (t314 : Int).toNat ≤ 281474976710656 then (digits_Unpack.l0 kj9 a0 a1 (([] : List Int)) t314 0) else (none)) else (none)) = some (r1, r2, r3) := by rw [if_neg (show ¬ (false = true) by decide)] at H; exact H
                clear H
                have H := H1
                clear H1
                by_cases c17 : 0 ≤ t314
                · rw [if_pos c17] at H
                  have c17b0 := eq_true c17
                  have c17b1 : decide (0 ≤ t314) = true := decide_eq_true c17
                  clear c17
                  by_cases c18 : (t314 : Int).toNat ≤ 281474976710656
                  · rw [if_pos c18] at H
                    have c18b0 := eq_true c18
                    have c18b1 : decide ((t314 : Int).toNat ≤ 281474976710656) = true := decide_eq_true c18
                    clear c18
                    obtain ⟨y318, hy318⟩ : ∃ y_ : List Int, y_ = (([] : List Int)) := ⟨_, rfl⟩
                    replace H : (digits_Unpack.l0 kj9 a0 a1 y318 t314 0) = some (r1, r2, r3) := by first | (rw [hy318]; with_reducible exact H) | (have H2_ := (Option.bind_some _ _).symm.trans H; rw [hy318]; with_reducible exact H2_) | (have H2_ := (Option.bind_some _ _).symm.trans H; with_reducible exact H2_) | with_reducible exact H | (rw [hy318]; exact H) | exact H
                    have Ny318 := Aside0.mk hy318
                    clear hy318
                    have H' := Aside0.mk H
                    clear H
                    go_wp2_with (first | ((with_reducible refine gate_dst (N := 49) rfl ?_); refine Kd.R_makecap (Kd.int .u8) _ 5 rfl (N := 49) rfl 51 _ _ rfl t314 rfl rfl Try.underlying51 (.int .u8 0) 1 info5 rfl (by decide) (by omega) (ok := fun _ => True) trivial (of_decide_eq_true (by first | (with_reducible assumption) | assumption)) (Nat.le_trans (Nat.mul_le_mul_right _ (of_decide_eq_true (by first | (with_reducible assumption) | assumption) : t314.toNat ≤ 281474976710656)) (by omega)) (Below.refl _ _) (Nat.le_refl _) ?_; intro v319 w19 ho20 hb hg_ hnew_; clear hg_ hnew_; (first | rw [← Ny318.out] at ho20 | (simp only [Int.reduceToNat] at ho20; rw [← Ny318.out] at ho20)); have n0_ := Aside0.mk (Kd.R_lower ho20 (below_size (by repeat (first | (with_reducible first | exact HB.out | apply below_alloc | apply pw_below_drewN | apply below_drew1) | exact HB.out)))); have n1_ := Aside0.mk (below_step (by repeat (first | (with_reducible first | exact HB.out | apply below_alloc | apply pw_below_drewN | apply below_drew1) | exact HB.out)) hb); clear HB; have HO320 := n0_; have HB := n1_; clear n0_ n1_; clear hb ho20))
                    go_loopg [10, 51] kj9 (fun kq v10 v51 w' => ∃ (x10_3 : List Int) (x51_3 : Int), v51 = .int .i64 x51_3 ∧ Aside0 (digits_Unpack.l0 kq a0 a1 x10_3 t314 x51_3 = some (r1, r2, r3)) ∧ Aside0 (kq ≤ kj9) ∧ Aside0 (Kd.R (Kd.int .u8) 5 w' w.heap.size (fun _ => True) v10 x10_3) ∧ Aside0 (Below w.heap.size w w'))
                    case atStart => exact ⟨(y318), (0), (by first | rfl | (simp; done) | (simp [*]; done)), H', ⟨Nat.le_refl _⟩, ⟨by (with_reducible repeat (first | apply Kd.R_alloc | apply Kd.R_drewN | apply Kd.R_drew)); exact HO320.out⟩, ⟨by repeat (first | (with_reducible first | exact HB.out | apply below_alloc | apply pw_below_drewN | apply below_drew1) | exact HB.out)⟩⟩
                    case round =>
                      clear H'
                      try clear c1
                      try clear c2
                      try clear p2
                      try clear c3
                      try clear c5
                      try clear c5b0
                      try clear c6
                      try clear c6b0
                      try clear c7
                      try clear c9
                      try clear c9b0
                      try clear c11
                      try clear c11b0
                      try clear c11b1
                      try clear c12
                      try clear c13
                      try clear c13b0
                      try clear c13b1
                      try clear c14
                      try clear c14b0
                      try clear c14b1
                      try clear c17
                      try clear c17b0
                      try clear c17b1
                      try clear c18
                      try clear c18b0
                      try clear c18b1
                      try clear c20
                      try clear p2
                      obtain ⟨x10_3, x51_3, rfl, HA, HK3, HO_10, HB⟩ := hrel
                      cases gk with
                      | zero => exact absurd HA.out (by simp [digits_Unpack.l0])
                      | succ k3 =>
                        have H := HA.out
                        clear HA
                        simp only [digits_Unpack.l0] at H
                        by_cases c21 : x51_3 < t314
                        · rw [if_pos c21] at H
                          have c21b0 : decide (x51_3 < t314) = true := decide_eq_true c21
                          clear c21
                          by_cases c22 : 0 ≤ x51_3
                          · rw [if_pos c22] at H
                            have c22b0 : decide (0 ≤ x51_3) = true := decide_eq_true c22
                            clear c22
                            by_cases c23 : x51_3 < (a1.size : Int)
                            · rw [if_pos c23] at H
                              have c23b0 : decide (x51_3 < (a1.size : Int)) = true := decide_eq_true c23
                              clear c23
                              replace H := Option.bind_eq_some_iff.mp H
                              obtain ⟨⟨t321, t322⟩, A250, H⟩ := H
                              replace H : (if t322 = true then (if x10_3.length < 140737488355328 then (digits_Unpack.l0 k3 a0 a1 (x10_3 ++ [t321]) t314 (wrap64 (x51_3 + 1))) else (none)) else (some ((⟨#[]⟩ : ByteArray), 11, x51_3))) = some (r1, r2, r3) := H
                              have A25 := Aside0.mk A250
                              clear A250
                              by_cases c26 : t322 = true
                              · subst c26
                                have H1 : (if x10_3.length < 140737488355328 then (digits_Unpack.l0 k3 a0 a1 (x10_3 ++ [t321]) t314 (wrap64 (x51_3 + 1))) else (none)) = some (r1, r2, r3) := by rw [if_pos rfl] at H; exact H
                                clear H
                                have H := H1
                                clear H1
                                by_cases c27 : x10_3.length < 140737488355328
                                · rw [if_pos c27] at H
                                  have LMc27 := Aside0.mk c27
                                  clear c27
                                  obtain ⟨y323, hy323⟩ : ∃ y_ : List Int, y_ = (x10_3 ++ [t321]) := ⟨_, rfl⟩
                                  replace H : (digits_Unpack.l0 k3 a0 a1 y323 t314 (wrap64 (x51_3 + 1))) = some (r1, r2, r3) := by first | (rw [hy323]; with_reducible exact H) | (have H2_ := (Option.bind_some _ _).symm.trans H; rw [hy323]; with_reducible exact H2_) | (have H2_ := (Option.bind_some _ _).symm.trans H; with_reducible exact H2_) | with_reducible exact H | (rw [hy323]; exact H) | exact H
                                  have Ny323 := Aside0.mk hy323
                                  clear hy323
                                  have H' := Aside0.mk H
                                  clear H
                                  have p24 : 0 ≤ (x51_3 : Int) := of_decide_eq_true (by first | (with_reducible assumption) | assumption)
                                  have q24 : x51_3 < (a1.size : Int) := of_decide_eq_true (by first | (with_reducible assumption) | assumption)
                                  have hx24 := bt_at a1 x51_3
                                  replace p24 := eq_true p24
                                  replace q24 := eq_true q24
                                  go_wp2_with (first | ((with_reducible refine gate_callee (f := 54) rfl ?_); refine goesL_ (some 59) rfl rfl Try.func54 (by kernel_rfl) rfl #[.int .i64 a0, .int .u8 (bt a1 x51_3)] rfl (by (try simp only [List.map_toArray, List.map_cons, List.map_nil]); first | done | rfl | (simp only [List.length_drop, List.length_take]; rfl)) ?_; (with_reducible refine (digits_read.calls a0 (bt a1 x51_3) t321 true _ A25.out).mono ?_); rintro e w28 ⟨rfl, hb⟩; refine ⟨_, rfl, ?_⟩; have n0_ := Aside0.mk (Kd.R_below (by (with_reducible repeat (first | apply Kd.R_alloc | apply Kd.R_drewN | apply Kd.R_drew)); exact HO_10.out) hb); have n1_ := Aside0.mk (below_step (by repeat (first | (with_reducible first | exact HB.out | apply below_alloc | apply pw_below_drewN | apply below_drew1) | exact HB.out)) hb); clear HO_10; clear HB; have HO_10 := n0_; have HB := n1_; clear n0_ n1_; (try clear hb); (try clear hb2); (try clear hk); (try clear hi)) | ((with_reducible refine gate_builtin (b := .append) (xs := #[.tmp 65, .tmp 67]) rfl ?_); at_builtin; refine Kd.R_append (Kd.int .u8) (w0 := w) w.heap.size rfl (.tmp 65) (.tmp 67) 51 5 (.int .u8 0) 1 rfl Try.underlying51 info5 rfl (by decide) (by omega) u10 x10_3 t321 [.int .u8 t321] (fun _ => True) (fun _ => False) rfl rfl ?aP (fun _ hk => hk.elim) ?aF ?aO ?aB ?aS ?aL ?_; (case aP => exact rfl); (case aB => exact (by repeat (first | (with_reducible first | exact HB.out | apply below_alloc | apply pw_below_drewN | apply below_drew1) | exact HB.out))); (case aF => exact (fun _ _ => trivial)); (case aO => exact (by (with_reducible repeat (first | apply Kd.R_alloc | apply Kd.R_drewN | apply Kd.R_drew)); exact HO_10.out)); (case aS => exact (below_size (by repeat (first | (with_reducible first | exact HB.out | apply below_alloc | apply pw_below_drewN | apply below_drew1) | exact HB.out)))); (case aL => have := LMc27.out; omega); intro v324 w29 ho hb hg hat; rw [← Ny323.out] at ho; have n0_ := Aside0.mk (hb); have n1_ := Aside0.mk (ho); clear HB; clear HO_10; have HB := n0_; have HO325 := n1_; clear n0_ n1_; clear ho hb hg hat))
                                  go_roundg k3
                                  case measure => have := HJ3.out; have := HJ9.out; have := HK3.out; omega
                                  case rel => exact ⟨(y323), (wrap64 (x51_3 + 1)), (by first | rfl | (simp; done) | (simp [*]; done)), H', ⟨by have := HJ3.out; have := HJ9.out; have := HK3.out; omega⟩, ⟨by (with_reducible repeat (first | apply Kd.R_alloc | apply Kd.R_drewN | apply Kd.R_drew)); exact HO325.out⟩, ⟨by repeat (first | (with_reducible first | exact HB.out | apply below_alloc | apply pw_below_drewN | apply below_drew1) | exact HB.out)⟩⟩
                                · rw [if_neg c27] at H
                                  exact absurd H (by simp)
                              · replace c26 := Bool.eq_false_iff.mpr c26
                                subst c26
                                have H1 : (some ((⟨#[]⟩ : ByteArray), 11, x51_3)) = some (r1, r2, r3) := by rw [if_neg (show ¬ (false = true) by decide)] at H; exact H
                                clear H
                                have H := H1
                                clear H1
                                simp only [Option.some.injEq, Prod.mk.injEq] at H
                                obtain ⟨rfl, rfl, rfl⟩ := H
                                have p24 : 0 ≤ (x51_3 : Int) := of_decide_eq_true (by first | (with_reducible assumption) | assumption)
                                have q24 : x51_3 < (a1.size : Int) := of_decide_eq_true (by first | (with_reducible assumption) | assumption)
                                have hx24 := bt_at a1 x51_3
                                replace p24 := eq_true p24
                                replace q24 := eq_true q24
                                go_wp2_with (first | ((with_reducible refine gate_callee (f := 54) rfl ?_); refine goesL_ (some 59) rfl rfl Try.func54 (by kernel_rfl) rfl #[.int .i64 a0, .int .u8 (bt a1 x51_3)] rfl (by (try simp only [List.map_toArray, List.map_cons, List.map_nil]); first | done | rfl | (simp only [List.length_drop, List.length_take]; rfl)) ?_; (with_reducible refine (digits_read.calls a0 (bt a1 x51_3) t321 false _ A25.out).mono ?_); rintro e w30 ⟨rfl, hb⟩; refine ⟨_, rfl, ?_⟩; have n0_ := Aside0.mk (Kd.R_below (by (with_reducible repeat (first | apply Kd.R_alloc | apply Kd.R_drewN | apply Kd.R_drew)); exact HO_10.out) hb); have n1_ := Aside0.mk (below_step (by repeat (first | (with_reducible first | exact HB.out | apply below_alloc | apply pw_below_drewN | apply below_drew1) | exact HB.out)) hb); clear HO_10; clear HB; have HO_10 := n0_; have HB := n1_; clear n0_ n1_; (try clear hb); (try clear hb2); (try clear hk); (try clear hi)))
                                go_ret3
                                exact ⟨by first | rfl | (simp [errW_none, errW_some] <;> rfl) | (simp [*, errW_none, errW_some] <;> rfl), by repeat (first | (with_reducible first | exact HB.out | apply below_alloc | apply pw_below_drewN | apply below_drew1) | exact HB.out)⟩
                            · rw [if_neg c23] at H
                              exact absurd H (by simp)
                          · rw [if_neg c22] at H
                            exact absurd H (by simp)
                        · rw [if_neg c21] at H
                          have c21b0 : decide (x51_3 < t314) = false := decide_eq_false c21
                          clear c21
                          simp only [Option.some.injEq, Prod.mk.injEq] at H
                          obtain ⟨rfl, rfl, rfl⟩ := H
                          have hcv31 := own_string (P := Try.prog) Try.underlying51 Try.underlying5 Try.underlying9 (Kd.own_of_R HO_10.out)
                          go_wp2
                          go_ret3
                          exact ⟨by first | rfl | (simp [errW_none, errW_some] <;> rfl) | (simp [*, errW_none, errW_some] <;> rfl), by repeat (first | (with_reducible first | exact HB.out | apply below_alloc | apply pw_below_drewN | apply below_drew1) | exact HB.out)⟩
                  · rw [if_neg c18] at H
                    exact absurd H (by simp)
                · rw [if_neg c17] at H
                  exact absurd H (by simp)

end Go.Proofs.Ytlpamhffpgoebaa.All

/- Unpack of digits, told with enough rounds as a plain function on lists of numbers. Condition: a text, and a number of characters, that an append in the model can bear. -/
namespace Go.Proofs.Ytlpamhffpgoebaa.Pure
open Go.RowKit Go.Proofs.Ytlpamhffpgoebaa.All Go.Proofs.YtlpamhffpgoebaaW.PrintWords Go.Proofs.YtlpamhffpgoebaaW.PrintLast Go.Proofs.YtlpamhffpgoebaaW.PrintMore

/-- the character of a half -/
def chS (h : Int) : Option Int := if h = 13 then some 61 else if h ≤ 9 then some (48 + h) else none
/-- the character of a byte, of ASCII, EBCDIC, BINARY -/
def rdS (enc b : Int) : Option Int := if enc = 4 then (ebFind b).map (fun i => 32 + (i : Int)) else if enc = 5 ∨ (32 ≤ b ∧ b ≤ 126) then some b else none
/-- which half of the i-th byte of n characters is filling: 0, 1; -1: none -/
def fillS (enc i n : Int) : Int := if Int.tmod n 2 = 1 ∧ enc = 2 ∧ i = 0 then 0 else if Int.tmod n 2 = 1 ∧ enc = 3 ∧ i = Int.tdiv n 2 then 1 else -1
/-- the characters of the i-th byte of n characters, and what is wrong with it -/
def byteS (enc b i n : Int) : List Int × Int :=
  if enc = 2 ∨ enc = 3 then
    (if fillS enc i n = 0 then (match chS (b % 16) with | none => ([], 11) | some c => ([c], if b / 16 = 0 then 0 else 12))
     else if fillS enc i n = 1 then (match chS (b / 16) with | none => ([], 11) | some c => ([c], if b % 16 = 15 then 0 else 12))
     else match chS (b / 16) with | none => ([], 11) | some c => match chS (b % 16) with | none => ([], 11) | some d => ([c, d], 0))
  else match rdS enc b with | none => ([], 11) | some c => ([c], 0)
/-- what Unpack tells of the bytes from place i on, behind what it has made -/
def unpS (enc n : Int) : List Int → Int → List Int → ByteArray × Int × Int
  | [], _, xs => (strOfNums xs, 0, 0)
  | b :: r, i, xs => if (byteS enc b i n).2 = 0 then unpS enc n r (i + 1) (xs ++ (byteS enc b i n).1) else ((⟨#[]⟩ : ByteArray), (byteS enc b i n).2, i)

theorem and15' (x : Int) (h0 : 0 ≤ x) (h1 : x ≤ 255) : Go.bits .and .u8 x 15 = x % 16 := by
  have : ∀ e : Fin 256, Go.bits .and .u8 (e.val : Int) 15 = (e.val : Int) % 16 := by decide +kernel
  have h := this ⟨x.toNat, by omega⟩
  simp only [show ((x.toNat : Nat) : Int) = x by omega] at h
  exact h
theorem character_is (h : Int) (h0 : 0 ≤ h) (h1 : h < 16) : ∃ u, digits_character.f h = some (match chS h with | some c => (c, true) | none => (u, false)) := by
  unfold digits_character.f chS
  by_cases c1 : h = 13
  · rw [if_pos c1, if_pos c1]; exact ⟨0, rfl⟩
  · rw [if_neg c1, if_neg c1]
    by_cases c2 : h ≤ 9
    · rw [if_pos c2, decide_eq_true c2]; exact ⟨0, by simp; omega⟩
    · rw [if_neg c2, decide_eq_false c2]; exact ⟨_, rfl⟩
theorem read_is (enc b : Int) : ∃ u, digits_read.f enc b = some (match rdS enc b with | some c => (c, true) | none => (u, false)) := by
  unfold digits_read.f rdS
  by_cases c4 : enc = 4
  · rw [if_pos c4, if_pos c4]
    refine ⟨0, ?_⟩
    cases ebFind b <;> rfl
  · rw [if_neg c4, if_neg c4]
    by_cases c5 : enc = 5
    · rw [if_pos c5, if_pos (.inl c5)]; exact ⟨0, rfl⟩
    · rw [if_neg c5]
      by_cases h : 32 ≤ b ∧ b ≤ 126
      · rw [if_pos (.inr h), decide_eq_true h.1, decide_eq_true h.2]; exact ⟨0, rfl⟩
      · rw [if_neg (by simp [c5]; omega)]
        refine ⟨b, ?_⟩
        by_cases h1 : 32 ≤ b
        · rw [decide_eq_false (show ¬ b ≤ 126 by omega)]; simp
        · rw [decide_eq_false h1]; simp

/-! ### two characters a byte -/
section
variable (enc n : Int) (s : ByteArray) (S i : Int)
/-- one half, the last of its byte -/
theorem inner_last (hs : List Int) (p : Nat) (hp : p + 1 = hs.length) (hp4 : p < 4) (xs : List Int) (hx : xs.length < 140737488355328) (filled : Bool) (h0 : 0 ≤ rd hs p) (h1 : rd hs p < 16)
    (hi : wrap64 (i + 1) = i + 1) (R : ByteArray × Int × Int) (hR : ∀ c, chS (rd hs p) = some c → filled = false → Ev (fun k => digits_unpackHalves.l0 k enc s n (xs ++ [c]) S (i + 1)) R)
    (hF : ∀ c, chS (rd hs p) = some c → filled = true → R = ((⟨#[]⟩ : ByteArray), 12, i)) (hN : chS (rd hs p) = none → R = ((⟨#[]⟩ : ByteArray), 11, i)) :
    Ev (fun k => digits_unpackHalves.l1 k enc s n xs i filled S i hs (hs.length : Int) (p : Int)) R := by
  obtain ⟨u, hu⟩ := character_is _ h0 h1
  have q1 : (p : Int) < (hs.length : Int) := by omega
  have q2 : (0 : Int) ≤ (p : Int) := by omega
  cases hc : chS (rd hs p) with
  | none =>
    rw [hc] at hu
    rw [hN hc]
    refine Ev.step (f := fun _ => some ((⟨#[]⟩ : ByteArray), 11, i)) (fun k => ?_) (Ev.now _)
    simp only [digits_unpackHalves.l1]; rw [if_pos q1, if_pos q2, if_pos q1, hu]; rfl
  | some c =>
    rw [hc] at hu
    refine Ev.step (f := fun k => digits_unpackHalves.l1 k enc s n (xs ++ [c]) i filled S i hs (hs.length : Int) ((p + 1 : Nat) : Int)) (fun k => ?_) ?_
    · simp only [digits_unpackHalves.l1]; rw [if_pos q1, if_pos q2, if_pos q1, hu, w64 (by omega)]
      simp only [Option.bind_some, if_true]
      rw [if_pos hx]; rfl
    · cases hf : filled with
      | true =>
        rw [hF c hc hf]
        refine Ev.step (f := fun _ => some ((⟨#[]⟩ : ByteArray), 12, i)) (fun k => ?_) (Ev.now _)
        simp only [digits_unpackHalves.l1]; rw [if_neg (by omega)]; rfl
      | false =>
        refine Ev.step (fun k => ?_) (hR c hc hf)
        simp only [digits_unpackHalves.l1]; rw [if_neg (by omega), hi]; rfl
theorem inner_two (a b : Int) (ha : 0 ≤ a ∧ a < 16) (hb : 0 ≤ b ∧ b < 16) (xs : List Int) (hx : xs.length + 1 < 140737488355328)
    (hi : wrap64 (i + 1) = i + 1) (R : ByteArray × Int × Int) (hR : ∀ c d, chS a = some c → chS b = some d → Ev (fun k => digits_unpackHalves.l0 k enc s n (xs ++ [c, d]) S (i + 1)) R)
    (hN1 : chS a = none → R = ((⟨#[]⟩ : ByteArray), 11, i)) (hN2 : chS b = none → R = ((⟨#[]⟩ : ByteArray), 11, i)) :
    Ev (fun k => digits_unpackHalves.l1 k enc s n xs i false S i [a, b] (([a, b] : List Int).length : Int) 0) R := by
  obtain ⟨u, hu⟩ := character_is a ha.1 ha.2
  have er : rd [a, b] 0 = a := rfl
  cases hc : chS a with
  | none =>
    rw [hc] at hu
    rw [hN1 hc]
    refine Ev.step (f := fun _ => some ((⟨#[]⟩ : ByteArray), 11, i)) (fun k => ?_) (Ev.now _)
    simp only [digits_unpackHalves.l1]; rw [er, hu]; rfl
  | some c =>
    rw [hc] at hu
    refine Ev.step (f := fun k => digits_unpackHalves.l1 k enc s n (xs ++ [c]) i false S i [a, b] (([a, b] : List Int).length : Int) ((1 : Nat) : Int)) (fun k => ?_) ?_
    · simp only [digits_unpackHalves.l1]; rw [er, hu]
      simp only [Option.bind_some, if_true]
      rw [if_pos (by simp), if_pos (by omega), if_pos (by simp), if_pos (by omega), w64 (by decide)]; rfl
    · refine inner_last enc n s S i [a, b] 1 rfl (by omega) (xs ++ [c]) (by simp; omega) false hb.1 hb.2 hi R (fun d hd _ => ?_) (fun _ _ h => by cases h) hN2
      have := hR c d hc hd
      simpa using this
end

theorem tmod01 (n : Int) (h : 0 ≤ n) : Int.tmod n 2 = n % 2 := Int.tmod_eq_emod_of_nonneg h

section
variable (enc n : Int) (s : ByteArray) (S i : Int) (xs : List Int) (R : ByteArray × Int × Int)
theorem j4_of (hs : List Int) (filled : Bool) (h : Ev (fun k => digits_unpackHalves.l1 k enc s n xs i filled S i hs (hs.length : Int) 0) R) : Ev (fun k => digits_unpackHalves.j4 k enc s n xs i hs filled S i) R :=
  Ev.step (fun k => by simp only [digits_unpackHalves.j4]) h
theorem j3_no (hs : List Int) (filled : Bool) (h : Ev (fun k => digits_unpackHalves.l1 k enc s n xs i filled S i hs (hs.length : Int) 0) R) : Ev (fun k => digits_unpackHalves.j3 k enc s n xs i hs filled S i false) R :=
  Ev.step (fun k => by simp only [digits_unpackHalves.j3]; rfl) (j4_of enc n s S i xs R hs filled h)
theorem j2_no (hs : List Int) (filled : Bool) (hc : ¬ (Int.tmod n 2 = 1 ∧ enc = 3 ∧ i = wrap64 ((s.size : Int) - 1))) (h : Ev (fun k => digits_unpackHalves.l1 k enc s n xs i filled S i hs (hs.length : Int) 0) R) : Ev (fun k => digits_unpackHalves.j2 k enc s n xs i hs filled S i) R := by
  refine Ev.step (f := fun k => digits_unpackHalves.j3 k enc s n xs i hs filled S i false) (fun k => ?_) (j3_no enc n s S i xs R hs filled h)
  simp only [digits_unpackHalves.j2]
  by_cases c1 : Int.tmod n 2 = 1
  · rw [if_pos c1]
    by_cases c3 : enc = 3
    · rw [if_pos c3]
      have e : (i == wrap64 ((s.size : Int) - 1)) = false := beq_eq_false_iff_ne.mpr fun h => hc ⟨c1, c3, h⟩
      rw [e]
    · rw [if_neg c3]
  · rw [if_neg c1]
theorem j1_no (hs : List Int) (filled : Bool) (hc : ¬ (Int.tmod n 2 = 1 ∧ enc = 3 ∧ i = wrap64 ((s.size : Int) - 1))) (h : Ev (fun k => digits_unpackHalves.l1 k enc s n xs i filled S i hs (hs.length : Int) 0) R) : Ev (fun k => digits_unpackHalves.j1 k enc s n xs i hs filled S i false) R :=
  Ev.step (fun k => by simp only [digits_unpackHalves.j1]; rfl) (j2_no enc n s S i xs R hs filled hc h)
end

/-- one byte: what it tells, and on -/
theorem halves_round (enc n : Int) (he : enc = 2 ∨ enc = 3) (s : ByteArray) (hs : s.size ≤ 281474976710656) (i : Nat) (hi : i < s.size) (hn : 0 ≤ n) (hn2 : (s.size : Int) = n / 2 + n % 2) (xs : List Int) (hx : xs.length + 1 < 140737488355328)
    (R : ByteArray × Int × Int) (hR : (byteS enc (bt s i) i n).2 = 0 → Ev (fun k => digits_unpackHalves.l0 k enc s n (xs ++ (byteS enc (bt s i) i n).1) (s.size : Int) ((i : Int) + 1)) R)
    (hN : (byteS enc (bt s i) i n).2 ≠ 0 → R = ((⟨#[]⟩ : ByteArray), (byteS enc (bt s i) i n).2, (i : Int))) :
    Ev (fun k => digits_unpackHalves.l0 k enc s n xs (s.size : Int) (i : Int)) R := by
  have b0 := bt_lo s i
  have b1 := bt_hi s i
  have q1 : (i : Int) < (s.size : Int) := by omega
  have q2 : (0 : Int) ≤ (i : Int) := by omega
  have e15 := and15' _ b0 b1
  have ha : 0 ≤ bt s (i : Int) / 16 ∧ bt s (i : Int) / 16 < 16 := by omega
  have hb : 0 ≤ bt s (i : Int) % 16 ∧ bt s (i : Int) % 16 < 16 := by omega
  have hw : wrap64 ((i : Int) + 1) = (i : Int) + 1 := w64 (by omega)
  have hw1 : wrap64 ((s.size : Int) - 1) = (s.size : Int) - 1 := w64 (by omega)
  have hen : (enc = 2 ∨ enc = 3) := he
  -- to the first meeting point
  have start : ∀ (g : Nat → Option (ByteArray × Int × Int)), (∀ k, (if (Int.tmod n 2) = 1 then (if enc = 2 then (digits_unpackHalves.j1 k enc s n xs i [bt s (i : Int) / 16, bt s (i : Int) % 16] false (s.size : Int) i ((i : Int) == 0)) else (digits_unpackHalves.j1 k enc s n xs i [bt s (i : Int) / 16, bt s (i : Int) % 16] false (s.size : Int) i false)) else (digits_unpackHalves.j1 k enc s n xs i [bt s (i : Int) / 16, bt s (i : Int) % 16] false (s.size : Int) i false)) = g k) → Ev g R → Ev (fun k => digits_unpackHalves.l0 k enc s n xs (s.size : Int) (i : Int)) R := by
    intro g hg h
    refine Ev.step (fun k => ?_) h
    simp only [digits_unpackHalves.l0]
    rw [if_pos q1, if_pos q2, if_pos q1, Option.bind_some, e15]
    exact hg k
  by_cases f0 : Int.tmod n 2 = 1 ∧ enc = 2 ∧ (i : Int) = 0
  · -- the first byte's high half is filling
    obtain ⟨f1, f2, f3⟩ := f0
    have hf : fillS enc i n = 0 := by unfold fillS; rw [if_pos ⟨f1, f2, f3⟩]
    have hby : byteS enc (bt s i) i n = (match chS (bt s i % 16) with | none => ([], 11) | some c => ([c], if bt s i / 16 = 0 then 0 else 12)) := by unfold byteS; rw [if_pos hen, if_pos hf]
    refine start (fun k => digits_unpackHalves.j1 k enc s n xs i [bt s (i : Int) / 16, bt s (i : Int) % 16] false (s.size : Int) i true) (fun k => by rw [if_pos f1, if_pos f2, beq_iff_eq.mpr f3]) ?_
    refine Ev.step (f := fun k => digits_unpackHalves.j2 k enc s n xs i [bt s (i : Int) % 16] ((bt s (i : Int) / 16) != 0) (s.size : Int) i) (fun k => ?_) ?_
    · simp only [digits_unpackHalves.j1]; rfl
    · refine j2_no enc n s _ i xs R _ _ (fun h => by omega) (inner_last enc n s _ i [bt s (i : Int) % 16] 0 rfl (by omega) xs (by omega) _ hb.1 hb.2 hw R (fun c hc hz => ?_) (fun c hc hz => ?_) (fun hc => ?_))
      · have hc' : chS (bt s (i : Int) % 16) = some c := hc
        have hz' : bt s (i : Int) / 16 = 0 := by simpa using hz
        rw [hby, hc'] at hR
        simp only [if_pos hz'] at hR
        exact hR trivial
      · have hc' : chS (bt s (i : Int) % 16) = some c := hc
        have hz' : ¬ bt s (i : Int) / 16 = 0 := by simpa using hz
        rw [hby, hc'] at hN
        simp only [if_neg hz'] at hN
        exact hN (by decide)
      · have hc' : chS (bt s (i : Int) % 16) = none := hc
        rw [hby, hc'] at hN
        exact hN (show ¬ ((11 : Int) = 0) by decide)
  · by_cases f1 : Int.tmod n 2 = 1 ∧ enc = 3 ∧ (i : Int) = Int.tdiv n 2
    · -- the last byte's low half is filling
      obtain ⟨f1, f2, f3⟩ := f1
      have f3' : (i : Int) = (s.size : Int) - 1 := by
        rw [Int.tdiv_eq_ediv_of_nonneg hn] at f3
        rw [tmod01 n hn] at f1
        omega
      have hf : fillS enc i n = 1 := by unfold fillS; rw [if_neg f0, if_pos ⟨f1, f2, f3⟩]
      have hby : byteS enc (bt s i) i n = (match chS (bt s i / 16) with | none => ([], 11) | some c => ([c], if bt s i % 16 = 15 then 0 else 12)) := by unfold byteS; rw [if_pos hen, if_neg (by omega), if_pos hf]
      refine start (fun k => digits_unpackHalves.j1 k enc s n xs i [bt s (i : Int) / 16, bt s (i : Int) % 16] false (s.size : Int) i false) (fun k => by rw [if_pos f1, if_neg (by omega)]) ?_
      refine Ev.step (f := fun k => digits_unpackHalves.j2 k enc s n xs i [bt s (i : Int) / 16, bt s (i : Int) % 16] false (s.size : Int) i) (fun k => by simp only [digits_unpackHalves.j1]; rfl) ?_
      refine Ev.step (f := fun k => digits_unpackHalves.j3 k enc s n xs i [bt s (i : Int) / 16, bt s (i : Int) % 16] false (s.size : Int) i true) (fun k => ?_) ?_
      · simp only [digits_unpackHalves.j2]; rw [if_pos f1, if_pos f2, hw1, beq_iff_eq.mpr f3']
      refine Ev.step (f := fun k => digits_unpackHalves.j4 k enc s n xs i [bt s (i : Int) / 16] ((bt s (i : Int) % 16) != 15) (s.size : Int) i) (fun k => ?_) ?_
      · simp only [digits_unpackHalves.j3]; rfl
      · refine j4_of enc n s _ i xs R _ _ (inner_last enc n s _ i [bt s (i : Int) / 16] 0 rfl (by omega) xs (by omega) _ ha.1 ha.2 hw R (fun c hc hz => ?_) (fun c hc hz => ?_) (fun hc => ?_))
        · have hc' : chS (bt s (i : Int) / 16) = some c := hc
          have hz' : bt s (i : Int) % 16 = 15 := by simpa using hz
          rw [hby, hc'] at hR
          simp only [if_pos hz'] at hR
          exact hR trivial
        · have hc' : chS (bt s (i : Int) / 16) = some c := hc
          have hz' : ¬ bt s (i : Int) % 16 = 15 := by simpa using hz
          rw [hby, hc'] at hN
          simp only [if_neg hz'] at hN
          exact hN (by decide)
        · have hc' : chS (bt s (i : Int) / 16) = none := hc
          rw [hby, hc'] at hN
          exact hN (show ¬ ((11 : Int) = 0) by decide)
    · -- both are characters
      have hf : fillS enc i n = -1 := by unfold fillS; rw [if_neg f0, if_neg f1]
      have hby : byteS enc (bt s i) i n = (match chS (bt s i / 16) with | none => ([], 11) | some c => match chS (bt s i % 16) with | none => ([], 11) | some d => ([c, d], 0)) := by
        unfold byteS; rw [if_pos hen, if_neg (by omega), if_neg (by omega)]
      have f1' : ¬ (Int.tmod n 2 = 1 ∧ enc = 3 ∧ (i : Int) = wrap64 ((s.size : Int) - 1)) := by
        rintro ⟨g1, g2, g3⟩
        refine f1 ⟨g1, g2, ?_⟩
        rw [hw1] at g3
        rw [Int.tdiv_eq_ediv_of_nonneg hn]
        rw [tmod01 n hn] at g1
        omega
      refine start (fun k => digits_unpackHalves.j1 k enc s n xs i [bt s (i : Int) / 16, bt s (i : Int) % 16] false (s.size : Int) i false) (fun k => ?_) ?_
      · by_cases g1 : Int.tmod n 2 = 1
        · rw [if_pos g1]
          by_cases g2 : enc = 2
          · have e : ((i : Int) == 0) = false := beq_eq_false_iff_ne.mpr fun h => f0 ⟨g1, g2, h⟩
            rw [if_pos g2, e]
          · rw [if_neg g2]
        · rw [if_neg g1]
      · refine j1_no enc n s _ i xs R _ _ f1' (inner_two enc n s _ i _ _ ha hb xs hx hw R (fun c d hc hd => ?_) (fun hc => ?_) (fun hd => ?_))
        · rw [hby, hc, hd] at hR
          exact hR rfl
        · rw [hby, hc] at hN
          exact hN (show ¬ ((11 : Int) = 0) by decide)
        · rw [hby, hd] at hN
          cases hc : chS (bt s (i : Int) / 16) <;> rw [hc] at hN <;> exact hN (show ¬ ((11 : Int) = 0) by decide)

theorem byteS_len (enc b i n : Int) : (byteS enc b i n).1.length ≤ 2 := by
  unfold byteS
  split
  · split
    · split <;> simp
    · split
      · split <;> simp
      · split
        · simp
        · split <;> simp
  · split <;> simp

theorem unpackHalves_l0 (enc n : Int) (he : enc = 2 ∨ enc = 3) (s : ByteArray) (hs : s.size ≤ 70368744177600) (hn : 0 ≤ n) (hn2 : (s.size : Int) = n / 2 + n % 2) : ∀ (d i : Nat) (xs : List Int), i + d = s.size → xs.length ≤ 2 * i →
    Ev (fun k => digits_unpackHalves.l0 k enc s n xs (s.size : Int) (i : Int)) (unpS enc n ((bytesOf s).drop i) i xs) := by
  intro d
  induction d with
  | zero =>
    intro i xs hi hx
    rw [dropAll s i (by omega)]
    refine Ev.step (f := fun _ => some (unpS enc n [] i xs)) (fun k => ?_) (Ev.now _)
    simp only [digits_unpackHalves.l0]; rw [if_neg (by omega)]; rfl
  | succ d ih =>
    intro i xs hi hx
    rw [dropBt s i (by omega)]
    have hl := byteS_len enc (bt s i) i n
    refine halves_round enc n he s (by omega) i (by omega) hn hn2 xs (by omega) _ (fun h => ?_) (fun h => ?_)
    · have := ih (i + 1) (xs ++ (byteS enc (bt s i) i n).1) (by omega) (by simp; omega)
      simp only [unpS]
      rw [if_pos h]
      exact this
    · simp only [unpS]
      rw [if_neg h]

/-! ### a character a byte -/
theorem byteS_one (enc b i n : Int) (he : ¬ (enc = 2 ∨ enc = 3)) : byteS enc b i n = match rdS enc b with | none => ([], 11) | some c => ([c], 0) := by
  unfold byteS; rw [if_neg he]
theorem unpack_l0 (enc n : Int) (he : ¬ (enc = 2 ∨ enc = 3)) (s : ByteArray) (hs : s.size ≤ 281474976710656) (w : Nat) (hw : w ≤ s.size) (hw2 : w ≤ 140737488355320) : ∀ (d i : Nat) (xs : List Int), i + d = w → xs.length = i →
    Ev (fun k => digits_Unpack.l0 k enc s xs (w : Int) (i : Int)) (unpS enc n (((bytesOf s).take w).drop i) i xs) := by
  have hlen : ((bytesOf s).take w).length = w := by rw [List.length_take, bytesOf_length]; omega
  intro d
  induction d with
  | zero =>
    intro i xs hi hx
    rw [List.drop_eq_nil_iff.2 (by omega)]
    refine Ev.step (f := fun _ => some (unpS enc n [] i xs)) (fun k => ?_) (Ev.now _)
    simp only [digits_Unpack.l0]; rw [if_neg (by omega)]; rfl
  | succ d ih =>
    intro i xs hi hx
    have hc : ((bytesOf s).take w).drop i = bt s (i : Int) :: ((bytesOf s).take w).drop (i + 1) := by
      rw [List.drop_take, List.drop_take, dropBt s i (by omega), show w - i = (w - (i + 1)) + 1 by omega, List.take_succ_cons]
    rw [hc]
    simp only [unpS]
    rw [byteS_one _ _ _ _ he]
    obtain ⟨u, hu⟩ := read_is enc (bt s i)
    have q1 : (i : Int) < (w : Int) := by omega
    have q2 : (0 : Int) ≤ (i : Int) := by omega
    have q3 : (i : Int) < (s.size : Int) := by omega
    cases hr : rdS enc (bt s i) with
    | none =>
      rw [hr] at hu
      refine Ev.step (f := fun _ => some ((⟨#[]⟩ : ByteArray), 11, (i : Int))) (fun k => ?_) (Ev.now _)
      simp only [digits_Unpack.l0]; rw [if_pos q1, if_pos q2, if_pos q3, hu]; rfl
    | some c =>
      rw [hr] at hu
      refine Ev.step (fun k => ?_) (ih (i + 1) (xs ++ [c]) (by omega) (by simp [hx]))
      simp only [digits_Unpack.l0]; rw [if_pos q1, if_pos q2, if_pos q3, hu, w64 (by omega)]
      simp only [Option.bind_some, if_true]
      rw [if_pos (by omega)]; rfl

/-! ### Unpack -/
/-- how many bytes n characters have -/
def widthS (enc n : Int) : Int := if n < 0 then 0 else if enc = 2 ∨ enc = 3 then n / 2 + n % 2 else if enc = 1 ∨ enc = 4 ∨ enc = 5 then n else 0
theorem width_is (enc n : Int) (hn : n ≤ 9223372036854775807) : digits_Width.f enc n = some (widthS enc n) := by
  unfold digits_Width.f widthS
  by_cases h0 : n < 0
  · rw [if_pos h0, if_pos h0]
  · rw [if_neg h0, if_neg h0]
    have e : wrap64 ((wrap64 (Int.tdiv n 2)) + (Int.tmod n 2)) = n / 2 + n % 2 := by
      rw [Int.tdiv_eq_ediv_of_nonneg (by omega), Int.tmod_eq_emod_of_nonneg (by omega), w64 (by omega : -9223372036854775808 ≤ n / 2 ∧ n / 2 ≤ 9223372036854775807), w64 (by omega)]
    rw [e]
    by_cases c2 : enc = 2
    · rw [if_pos c2, if_pos (.inl c2)]
    · rw [if_neg c2]
      by_cases c3 : enc = 3
      · rw [if_pos c3, if_pos (.inr c3)]
      · rw [if_neg c3, if_neg (show ¬ (enc = 2 ∨ enc = 3) by omega)]
        by_cases c1 : enc = 1
        · rw [if_pos c1, if_pos (.inl c1)]
        · rw [if_neg c1]
          by_cases c4 : enc = 4
          · rw [if_pos c4, if_pos (.inr (.inl c4))]
          · rw [if_neg c4]
            by_cases c5 : enc = 5
            · rw [if_pos c5, if_pos (.inr (.inr c5))]
            · rw [if_neg c5, if_neg (show ¬ (enc = 1 ∨ enc = 4 ∨ enc = 5) by omega)]
def unpackS (enc : Int) (s : ByteArray) (n : Int) : ByteArray × Int × Int :=
  if enc < 1 ∨ enc > 5 ∨ n < 0 then ((⟨#[]⟩ : ByteArray), 1, 0) else if (s.size : Int) < widthS enc n then ((⟨#[]⟩ : ByteArray), 10, (s.size : Int)) else unpS enc n ((bytesOf s).take (widthS enc n).toNat) 0 []
theorem bytesOf_extract (s : ByteArray) (w : Nat) : bytesOf (s.extract 0 w) = (bytesOf s).take w := by
  have h : (s.extract 0 w).data.toList = s.data.toList.take w := by rw [ByteArray.data_extract]; simp
  unfold bytesOf
  rw [h, List.map_take]
theorem unpack_is (enc : Int) (s : ByteArray) (n : Int) (hs : s.size ≤ 281474976710656) (hn : n ≤ 9223372036854775807) (hw : (s.size : Int) < widthS enc n ∨ widthS enc n ≤ 70368744177600) : Ev (fun k => digits_Unpack.f k enc s n) (unpackS enc s n) := by
  unfold unpackS
  by_cases ha : enc < 1 ∨ enc > 5 ∨ n < 0
  · rw [if_pos ha]
    refine Ev.step (f := fun _ => some ((⟨#[]⟩ : ByteArray), 1, 0)) (fun k => ?_) (Ev.now _)
    unfold digits_Unpack.f
    by_cases c1 : enc < 1
    · rw [if_pos c1]; simp only [digits_Unpack.j0]; rfl
    · rw [if_neg c1]
      by_cases c5 : enc > 5
      · rw [if_pos c5]; simp only [digits_Unpack.j0]; rfl
      · rw [if_neg c5, decide_eq_true (by omega)]; simp only [digits_Unpack.j0]; rfl
  · rw [if_neg ha]
    refine Ev.step (f := fun k => (if (s.size : Int) < widthS enc n then (some ((⟨#[]⟩ : ByteArray), 10, (s.size : Int))) else (if enc = 2 then (digits_Unpack.j1 k enc s n (widthS enc n) true) else (digits_Unpack.j1 k enc s n (widthS enc n) (enc == 3))))) (fun k => ?_) ?_
    · unfold digits_Unpack.f
      rw [if_neg (by omega), if_neg (by omega), decide_eq_false (by omega)]; simp only [digits_Unpack.j0]
      rw [if_neg (by decide), width_is enc n hn]; rfl
    · by_cases hs2 : (s.size : Int) < widthS enc n
      · rw [if_pos hs2]; exact ev_some fun k => if_pos hs2
      · rw [if_neg hs2]
        refine Ev.congr (fun k => if_neg hs2) ?_
        have hw' : widthS enc n ≤ 70368744177600 := by omega
        have w0 : 0 ≤ widthS enc n := by unfold widthS; split; omega; split; omega; split <;> omega
        by_cases h23 : enc = 2 ∨ enc = 3
        · have ew : widthS enc n = n / 2 + n % 2 := by unfold widthS; rw [if_neg (by omega), if_pos h23]
          refine Ev.congr (f := fun k => digits_Unpack.j1 k enc s n (widthS enc n) true) (fun k => ?_) ?_
          · rcases h23 with h | h
            · rw [if_pos h]
            · rw [if_neg (by omega), beq_iff_eq.mpr h]
          · have hsz : (s.extract 0 (widthS enc n).toNat).size = (widthS enc n).toNat := by rw [ByteArray.size_extract]; omega
            have h := unpackHalves_l0 enc n h23 (s.extract 0 (widthS enc n).toNat) (by omega) (by omega) (by omega) _ 0 [] (Nat.zero_add _) (by simp)
            rw [bytesOf_extract] at h
            refine Ev.step (f := fun k => (digits_unpackHalves.f k enc (s.extract 0 (widthS enc n).toNat) n).bind fun b => some (b.1, b.2.1, b.2.2)) (fun k => ?_) (evb (a := unpS enc n ((bytesOf s).take (widthS enc n).toNat) 0 []) h (Ev.now _))
            simp only [digits_Unpack.j1]; rw [if_pos trivial, if_pos w0, if_pos (by omega)]
        · refine Ev.congr (f := fun k => digits_Unpack.j1 k enc s n (widthS enc n) false) (fun k => ?_) ?_
          · have e3 : (enc == 3) = false := beq_eq_false_iff_ne.mpr fun h => h23 (.inr h)
            rw [if_neg (fun h => h23 (.inl h)), e3]
          · have h := unpack_l0 enc n h23 s hs (widthS enc n).toNat (by omega) (by omega) (widthS enc n).toNat 0 [] (by omega) rfl
            refine Ev.step (fun k => ?_) h
            simp only [digits_Unpack.j1]; rw [if_neg (by decide), if_pos w0, if_pos (by omega)]
            congr 1
            omega
end Go.Proofs.Ytlpamhffpgoebaa.Pure

/- Byte, Char and Unpack of the reference, told with enough rounds as the same plain functions as those of digits. Condition: a text and a number of characters that an append in the model can bear. -/
namespace Go.Proofs.Ytlpamhffpgoebaa.Pure
open Go.RowKit Go.Proofs.Ytlpamhffpgoebaa.All Go.Proofs.YtlpamhffpgoebaaW.PrintWords Go.Proofs.YtlpamhffpgoebaaW.PrintLast Go.Proofs.YtlpamhffpgoebaaW.PrintMore

/-- the first character from c on whose byte is b -/
def seekC (enc b : Int) : Nat → Int → Option Int
  | 0, _ => none
  | d + 1, c => if wr enc c = some b then some c else seekC enc b d (c + 1)
theorem seek1 : ∀ e : Fin 256, seekC 1 (e.val : Int) 256 0 = rdS 1 (e.val : Int) := by decide +kernel
theorem seek4 : ∀ e : Fin 256, seekC 4 (e.val : Int) 256 0 = rdS 4 (e.val : Int) := by decide +kernel
theorem seek5 : ∀ e : Fin 256, seekC 5 (e.val : Int) 256 0 = rdS 5 (e.val : Int) := by decide +kernel
theorem seek_is (enc b : Int) (he : enc = 1 ∨ enc = 4 ∨ enc = 5) (h0 : 0 ≤ b) (h1 : b ≤ 255) : seekC enc b 256 0 = rdS enc b := by
  have e : ((b.toNat : Nat) : Int) = b := by omega
  rcases he with h | h | h <;> subst h
  · have h := seek1 ⟨b.toNat, by omega⟩; simp only [e] at h; exact h
  · have h := seek4 ⟨b.toNat, by omega⟩; simp only [e] at h; exact h
  · have h := seek5 ⟨b.toNat, by omega⟩; simp only [e] at h; exact h
theorem char_l0 (enc b : Int) (he : enc = 1 ∨ enc = 4 ∨ enc = 5) : ∀ (d : Nat) (c : Int), 0 ≤ c → c + d = 256 →
    Ev (fun k => turnstileref1_Char.l0 k enc b c) (match seekC enc b d c with | some c => (c, true) | none => (0, false)) := by
  intro d
  induction d with
  | zero =>
    intro c h0 hc
    refine Ev.step (f := fun _ => some (0, false)) (fun k => ?_) (Ev.now _)
    simp only [turnstileref1_Char.l0]; rw [if_neg (by omega)]
  | succ d ih =>
    intro c h0 hc
    obtain ⟨u, hu⟩ := code_is enc c he h0 (by omega)
    have e : c % 256 = c := by omega
    refine Ev.step (f := fun k => (turnstileref1_Code.f k enc c).bind fun t => if t.2 = true then (if t.1 = b then some (c, true) else turnstileref1_Char.l0 k enc b (c + 1)) else turnstileref1_Char.l0 k enc b (c + 1)) (fun k => ?_) (evb hu ?_)
    · simp only [turnstileref1_Char.l0]; rw [if_pos (by omega), e, w64 (by omega)]
    · simp only [seekC]
      cases hw : wr enc c with
      | none =>
        rw [if_neg (by simp)]
        exact ih (c + 1) (by omega) (by omega)
      | some v =>
        by_cases hv : v = b
        · subst hv
          rw [if_pos rfl]
          exact ev_some fun k => by simp
        · rw [if_neg (by simpa using hv)]
          refine Ev.congr (fun k => ?_) (ih (c + 1) (by omega) (by omega))
          simp [hv]
theorem char_is (enc b : Int) (he : enc = 1 ∨ enc = 4 ∨ enc = 5) (h0 : 0 ≤ b) (h1 : b ≤ 255) : Ev (fun k => turnstileref1_Char.f k enc b) (match rdS enc b with | some c => (c, true) | none => (0, false)) := by
  have h := char_l0 enc b he 256 0 (by omega) (by omega)
  rw [seek_is enc b he h0 h1] at h
  exact h

theorem chS_pos {h c : Int} (h0 : 0 ≤ h) (hc : chS h = some c) : 48 ≤ c ∧ c ≤ 61 := by
  unfold chS at hc
  by_cases c1 : h = 13
  · rw [if_pos c1] at hc; injection hc; omega
  · rw [if_neg c1] at hc
    by_cases c2 : h ≤ 9
    · rw [if_pos c2] at hc; injection hc; omega
    · rw [if_neg c2] at hc; cases hc
theorem rchar_is (h : Int) (h0 : 0 ≤ h) (h1 : h < 16) : turnstileref1_char.f h = some (match chS h with | some c => c | none => 0) := by
  unfold turnstileref1_char.f chS
  by_cases c1 : h = 13
  · rw [if_pos c1, if_pos c1]
  · rw [if_neg c1, if_neg c1]
    by_cases c2 : h ≤ 9
    · rw [if_neg (by omega), if_pos c2, w64 (by omega)]; simp; omega
    · rw [if_pos (by omega), if_neg c2]

/-- the end of a byte's loop -/
def endB (a b f : Int) (cs : List Int) : ByteArray × Int := if f = 0 then (strOfNums cs, if a = 0 then 0 else 12) else if f = 1 then (strOfNums cs, if b = 15 then 0 else 12) else (strOfNums cs, 0)
theorem byte_end (a b f : Int) (cs : List Int) : Ev (fun k => turnstileref1_Byte.l0 k [a, b] f cs 2) (endB a b f cs) := by
  refine Ev.step (f := fun _ => some (endB a b f cs)) (fun k => ?_) (Ev.now _)
  simp only [turnstileref1_Byte.l0]
  have ra : rd [a, b] 0 = a := rfl
  have rb : rd [a, b] 1 = b := rfl
  rw [if_neg (by decide), ra, rb]
  unfold endB
  by_cases f0 : f = 0
  · rw [if_pos f0, if_pos f0, if_pos (by simp)]
    by_cases a0 : a = 0
    · rw [if_pos a0, if_pos a0, if_neg (by omega)]
    · rw [if_neg a0, if_neg a0]
  · rw [if_neg f0, if_neg f0]
    by_cases f1 : f = 1
    · rw [if_pos f1, if_pos f1, if_pos (by simp)]
      by_cases b0 : b = 15
      · rw [if_pos b0, if_pos b0]
      · rw [if_neg b0, if_neg b0]
    · rw [if_neg f1, if_neg f1]
theorem byte_step (a b f : Int) (i : Nat) (hi : i < 2) (cs : List Int) (hcs : cs.length < 140737488355328) (r : Int) (hr : rd [a, b] (i : Int) = r) (r0 : 0 ≤ r) (r1 : r < 16) (R : ByteArray × Int) (hf : ¬ (i : Int) = f)
    (h : ∀ c, chS r = some c → Ev (fun k => turnstileref1_Byte.l0 k [a, b] f (cs ++ [c]) ((i + 1 : Nat) : Int)) R) (hN : chS r = none → R = ((⟨#[]⟩ : ByteArray), 11)) :
    Ev (fun k => turnstileref1_Byte.l0 k [a, b] f cs (i : Int)) R := by
  have hc := rchar_is r r0 r1
  have q : (i : Int) < (([a, b] : List Int).length : Int) := by simp; omega
  cases hs : chS r with
  | none =>
    rw [hs] at hc
    rw [hN hs]
    refine Ev.step (f := fun _ => some ((⟨#[]⟩ : ByteArray), 11)) (fun k => ?_) (Ev.now _)
    simp only [turnstileref1_Byte.l0]; rw [if_pos (by omega), if_neg hf, if_pos (by omega), if_pos q, hr, hc]; rfl
  | some c =>
    rw [hs] at hc
    have hp := chS_pos r0 hs
    refine Ev.step (fun k => ?_) (h c hs)
    simp only [turnstileref1_Byte.l0]; rw [if_pos (by omega), if_neg hf, if_pos (by omega), if_pos q, hr, hc, w64 (by omega)]
    simp only [Option.bind_some]
    rw [if_neg (by omega), if_pos hcs]; rfl
theorem byte_skip (a b : Int) (i : Nat) (hi : i < 2) (cs : List Int) (R : ByteArray × Int) (h : Ev (fun k => turnstileref1_Byte.l0 k [a, b] (i : Int) cs ((i + 1 : Nat) : Int)) R) :
    Ev (fun k => turnstileref1_Byte.l0 k [a, b] (i : Int) cs (i : Int)) R := by
  refine Ev.step (fun k => ?_) h
  simp only [turnstileref1_Byte.l0]; rw [if_pos (by omega), if_pos trivial, w64 (by omega)]; rfl

theorem fillS_cases (enc i n : Int) : fillS enc i n = 0 ∨ fillS enc i n = 1 ∨ fillS enc i n = -1 := by
  unfold fillS
  split
  · exact .inl rfl
  · split
    · exact .inr (.inl rfl)
    · exact .inr (.inr rfl)
theorem byte_is (enc b i n : Int) (he : 1 ≤ enc ∧ enc ≤ 5) (h0 : 0 ≤ b) (h1 : b ≤ 255) (hn : 0 ≤ n) (hn2 : n ≤ 9223372036854775807) :
    Ev (fun k => turnstileref1_Byte.f k enc b i n) (strOfNums (byteS enc b i n).1, (byteS enc b i n).2) := by
  unfold turnstileref1_Byte.f turnstileref1_Packed.f
  by_cases h23 : enc = 2 ∨ enc = 3
  · -- to the loop, with what is filling
    have hl : Ev (fun k => turnstileref1_Byte.l0 k [b / 16, b % 16] (fillS enc i n) [] 0) (strOfNums (byteS enc b i n).1, (byteS enc b i n).2) := by
      have ha : 0 ≤ b / 16 ∧ b / 16 < 16 := by omega
      have hb : 0 ≤ b % 16 ∧ b % 16 < 16 := by omega
      unfold byteS
      rw [if_pos h23]
      by_cases f0 : fillS enc i n = 0
      · rw [if_pos f0, f0]
        refine byte_skip _ _ 0 (by omega) [] _ (byte_step _ _ _ 1 (by omega) [] (by decide) _ rfl hb.1 hb.2 _ (by decide) (fun c hc => ?_) (fun hc => ?_))
        · have hc' : chS (b % 16) = some c := hc
          rw [hc']
          have := byte_end (b / 16) (b % 16) 0 [c]
          unfold endB at this
          rw [if_pos rfl] at this
          exact this
        · have hc' : chS (b % 16) = none := hc
          rw [hc']; rfl
      · rw [if_neg f0]
        by_cases f1 : fillS enc i n = 1
        · rw [if_pos f1, f1]
          refine byte_step _ _ _ 0 (by omega) [] (by decide) _ rfl ha.1 ha.2 _ (by decide) (fun c hc => ?_) (fun hc => ?_)
          · have hc' : chS (b / 16) = some c := hc
            rw [hc']
            have := byte_end (b / 16) (b % 16) 1 [c]
            unfold endB at this
            rw [if_neg (by decide), if_pos rfl] at this
            exact byte_skip _ _ 1 (by omega) [c] _ this
          · have hc' : chS (b / 16) = none := hc
            rw [hc']; rfl
        · rw [if_neg f1]
          have fm : fillS enc i n = -1 := by have := fillS_cases enc i n; omega
          rw [fm]
          refine byte_step _ _ _ 0 (by omega) [] (by decide) _ rfl ha.1 ha.2 _ (by decide) (fun c hc => ?_) (fun hc => ?_)
          · have hc' : chS (b / 16) = some c := hc
            rw [hc']
            refine byte_step _ _ _ 1 (by omega) [c] (by simp) _ rfl hb.1 hb.2 _ (by decide) (fun d hd => ?_) (fun hd => ?_)
            · have hd' : chS (b % 16) = some d := hd
              rw [hd']
              have := byte_end (b / 16) (b % 16) (-1) [c, d]
              unfold endB at this
              rw [if_neg (by decide), if_neg (by decide)] at this
              exact this
            · have hd' : chS (b % 16) = none := hd
              rw [hd']; rfl
          · have hc' : chS (b / 16) = none := hc
            rw [hc']; rfl
    have e1 : wrap64 (Int.tdiv (wrap64 b) 16) = b / 16 := by rw [w64 (by omega : -9223372036854775808 ≤ b ∧ b ≤ 9223372036854775807), Int.tdiv_eq_ediv_of_nonneg h0, w64 (by omega)]
    have e2 : Int.tmod (wrap64 b) 16 = b % 16 := by rw [w64 (by omega : -9223372036854775808 ≤ b ∧ b ≤ 9223372036854775807), Int.tmod_eq_emod_of_nonneg h0]
    have e3 : wrap64 (Int.tdiv n 2) = Int.tdiv n 2 := by rw [Int.tdiv_eq_ediv_of_nonneg hn, w64 (by omega)]
    have hj3 : Ev (fun k => turnstileref1_Byte.j3 k [b / 16, b % 16] (fillS enc i n)) (strOfNums (byteS enc b i n).1, (byteS enc b i n).2) :=
      Ev.step (fun k => by simp only [turnstileref1_Byte.j3]) hl
    by_cases f0 : Int.tmod n 2 = 1 ∧ enc = 2 ∧ i = 0
    · obtain ⟨g1, g2, g3⟩ := f0
      have hf : fillS enc i n = 0 := by unfold fillS; rw [if_pos ⟨g1, g2, g3⟩]
      rw [hf] at hj3
      have hj1 : Ev (fun k => turnstileref1_Byte.j1 k enc i n [b / 16, b % 16] 0) (strOfNums (byteS enc b i n).1, (byteS enc b i n).2) := by
        refine Ev.step (f := fun k => turnstileref1_Byte.j2 k [b / 16, b % 16] 0 false) (fun k => ?_) (Ev.step (fun k => by simp only [turnstileref1_Byte.j2]; rfl) hj3)
        simp only [turnstileref1_Byte.j1]; rw [if_pos g1, if_neg (by omega)]
      refine Ev.congr (f := fun k => turnstileref1_Byte.j0 k enc i n [b / 16, b % 16] (-1) true) (fun k => ?_) (Ev.step (fun k => by simp only [turnstileref1_Byte.j0]; rfl) hj1)
      rw [e1, e2, g2]
      simp only [if_true, Option.bind_some]
      rw [if_pos g1, beq_iff_eq.mpr g3]
    · have hj1 : Ev (fun k => turnstileref1_Byte.j1 k enc i n [b / 16, b % 16] (-1)) (strOfNums (byteS enc b i n).1, (byteS enc b i n).2) := by
        by_cases f1 : Int.tmod n 2 = 1 ∧ enc = 3 ∧ i = Int.tdiv n 2
        · obtain ⟨g1, g2, g3⟩ := f1
          have hf : fillS enc i n = 1 := by unfold fillS; rw [if_neg f0, if_pos ⟨g1, g2, g3⟩]
          rw [hf] at hj3
          refine Ev.step (f := fun k => turnstileref1_Byte.j2 k [b / 16, b % 16] (-1) true) (fun k => ?_) (Ev.step (fun k => by simp only [turnstileref1_Byte.j2]; rfl) hj3)
          simp only [turnstileref1_Byte.j1]; rw [if_pos g1, if_pos g2, e3, beq_iff_eq.mpr g3]
        · have hf : fillS enc i n = -1 := by unfold fillS; rw [if_neg f0, if_neg f1]
          rw [hf] at hj3
          refine Ev.step (f := fun k => turnstileref1_Byte.j2 k [b / 16, b % 16] (-1) false) (fun k => ?_) (Ev.step (fun k => by simp only [turnstileref1_Byte.j2]; rfl) hj3)
          simp only [turnstileref1_Byte.j1]
          by_cases g1 : Int.tmod n 2 = 1
          · rw [if_pos g1]
            by_cases g2 : enc = 3
            · have e : (i == Int.tdiv n 2) = false := beq_eq_false_iff_ne.mpr fun h => f1 ⟨g1, g2, h⟩
              rw [if_pos g2, e3, e]
            · rw [if_neg g2]
          · rw [if_neg g1]
      refine Ev.congr (f := fun k => turnstileref1_Byte.j0 k enc i n [b / 16, b % 16] (-1) false) (fun k => ?_) (Ev.step (fun k => by simp only [turnstileref1_Byte.j0]; rfl) hj1)
      rw [e1, e2]
      have ep : (if enc = 2 then (some true) else (some (enc == 3))) = some true := by
        rcases h23 with h | h <;> subst h <;> rfl
      rw [ep]
      simp only [if_true, Option.bind_some]
      by_cases g1 : Int.tmod n 2 = 1
      · rw [if_pos g1]
        by_cases g2 : enc = 2
        · have e : (i == 0) = false := beq_eq_false_iff_ne.mpr fun h => f0 ⟨g1, g2, h⟩
          rw [if_pos g2, e]
        · rw [if_neg g2]
      · rw [if_neg g1]
  · have he' : enc = 1 ∨ enc = 4 ∨ enc = 5 := by omega
    rw [byteS_one _ _ _ _ h23]
    refine Ev.congr (f := fun k => (turnstileref1_Char.f k enc b).bind fun t => if t.2 = true then some (strOfNums (([t.1] : List Int)), 0) else some ((⟨#[]⟩ : ByteArray), 11)) (fun k => ?_) (evb (char_is enc b he' h0 h1) ?_)
    · rcases he' with h | h | h <;> subst h <;> rfl
    · cases rdS enc b with
      | none => exact ev_some fun k => rfl
      | some c => exact ev_some fun k => rfl

theorem bytesOf_strOfNums (l : List Int) (h : ∀ x ∈ l, 0 ≤ x ∧ x ≤ 255) : bytesOf (strOfNums l) = l := by
  unfold bytesOf
  rw [strOfNums_data, List.map_map]
  have : ∀ x ∈ l, ((fun b : UInt8 => (b.toNat : Int)) ∘ fun n : Int => UInt8.ofNat n.toNat) x = id x := by
    intro x hx
    have := h x hx
    simp
    omega
  rw [List.map_congr_left this, List.map_id]
theorem rdS_range {enc b c : Int} (h0 : 0 ≤ b) (h1 : b ≤ 255) (h : rdS enc b = some c) : 0 ≤ c ∧ c ≤ 255 := by
  unfold rdS at h
  by_cases c4 : enc = 4
  · rw [if_pos c4] at h
    cases hf : ebFind b with
    | none => rw [hf] at h; cases h
    | some i =>
      rw [hf] at h
      simp at h
      unfold ebFind at hf
      obtain ⟨hl, _⟩ := List.findIdx?_eq_some_iff_getElem.1 hf
      have : i < 95 := hl
      omega
  · rw [if_neg c4] at h
    split at h
    · injection h; omega
    · cases h
theorem byteS_range (enc b i n : Int) (h0 : 0 ≤ b) (h1 : b ≤ 255) : ∀ x ∈ (byteS enc b i n).1, 0 ≤ x ∧ x ≤ 255 := by
  intro x hx
  unfold byteS at hx
  split at hx
  · split at hx
    · cases hc : chS (b % 16) with
      | none => rw [hc] at hx; cases hx
      | some c => rw [hc] at hx; have := chS_pos (by omega) hc; simp at hx; omega
    · split at hx
      · cases hc : chS (b / 16) with
        | none => rw [hc] at hx; cases hx
        | some c => rw [hc] at hx; have := chS_pos (by omega) hc; simp at hx; omega
      · cases hc : chS (b / 16) with
        | none => rw [hc] at hx; cases hx
        | some c =>
          have p := chS_pos (by omega) hc
          rw [hc] at hx
          cases hd : chS (b % 16) with
          | none => rw [hd] at hx; cases hx
          | some d =>
            have q := chS_pos (by omega) hd
            rw [hd] at hx
            simp at hx
            omega
  · cases hc : rdS enc b with
    | none => rw [hc] at hx; cases hx
    | some c => rw [hc] at hx; have := rdS_range h0 h1 hc; simp at hx; omega

theorem runpack_l0 (enc n : Int) (he : 1 ≤ enc ∧ enc ≤ 5) (hn : 0 ≤ n) (hn2 : n ≤ 9223372036854775807) (s : ByteArray) (hs : s.size ≤ 281474976710656) (w : Nat) (hw : w ≤ s.size) (hw2 : w ≤ 70368744177600) : ∀ (d i : Nat) (xs : List Int), i + d = w → xs.length ≤ 2 * i →
    Ev (fun k => turnstileref1_Unpack.l0 k enc s n (w : Int) xs (i : Int)) (unpS enc n (((bytesOf s).take w).drop i) i xs) := by
  have hlen : ((bytesOf s).take w).length = w := by rw [List.length_take, bytesOf_length]; omega
  intro d
  induction d with
  | zero =>
    intro i xs hi hx
    rw [List.drop_eq_nil_iff.2 (by omega)]
    refine Ev.step (f := fun _ => some (unpS enc n [] i xs)) (fun k => ?_) (Ev.now _)
    simp only [turnstileref1_Unpack.l0]; rw [if_neg (by omega)]; rfl
  | succ d ih =>
    intro i xs hi hx
    have hc : ((bytesOf s).take w).drop i = bt s (i : Int) :: ((bytesOf s).take w).drop (i + 1) := by
      rw [List.drop_take, List.drop_take, dropBt s i (by omega), show w - i = (w - (i + 1)) + 1 by omega, List.take_succ_cons]
    rw [hc]
    simp only [unpS]
    have q1 : (i : Int) < (w : Int) := by omega
    have q2 : (0 : Int) ≤ (i : Int) := by omega
    have q3 : (i : Int) < (s.size : Int) := by omega
    have hb := byte_is enc (bt s i) i n he (bt_lo _ _) (bt_hi _ _) hn hn2
    have hl := byteS_len enc (bt s i) i n
    have hr := byteS_range enc (bt s i) i n (bt_lo _ _) (bt_hi _ _)
    refine Ev.step (f := fun k => (turnstileref1_Byte.f k enc (bt s i) i n).bind fun b => (if b.2 = 0 then (if xs.length + b.1.size < 140737488355328 then (turnstileref1_Unpack.l0 k enc s n w (xs ++ bytesOf b.1) ((i + 1 : Nat) : Int)) else (none)) else (some ((⟨#[]⟩ : ByteArray), b.2, (i : Int))))) (fun k => ?_) (evb hb ?_)
    · simp only [turnstileref1_Unpack.l0]; rw [if_pos q1, if_pos q2, if_pos q3, w64 (by omega)]; rfl
    · by_cases h : (byteS enc (bt s i) i n).2 = 0
      · rw [if_pos h]
        refine Ev.congr (fun k => (if_pos h).trans (if_pos (by rw [strOfNums_size]; omega))) ?_
        rw [bytesOf_strOfNums _ hr]
        exact ih (i + 1) (xs ++ (byteS enc (bt s i) i n).1) (by omega) (by simp; omega)
      · rw [if_neg h]
        exact ev_some fun k => if_neg h

theorem rknown_is (enc : Int) : turnstileref1_known.f enc = some (decide (1 ≤ enc ∧ enc ≤ 5)) := by
  unfold turnstileref1_known.f
  by_cases c1 : enc ≥ 1
  · rw [if_pos c1]; congr 1; simp; omega
  · rw [if_neg c1, decide_eq_false (by omega)]
theorem rwidth_is (enc n : Int) (hn : n ≤ 9223372036854775807) : Ev (fun k => turnstileref1_Width.f k enc n) (widthS enc n) := by
  unfold turnstileref1_Width.f
  rw [rknown_is]
  by_cases hk : 1 ≤ enc ∧ enc ≤ 5
  · rw [decide_eq_true hk]
    refine Ev.step (f := fun _ => some (widthS enc n)) (fun k => ?_) (Ev.now _)
    rw [Option.bind_some, if_pos rfl]
    simp only [turnstileref1_Width.j0]
    unfold widthS
    by_cases h0 : n < 0
    · rw [decide_eq_true h0, if_pos rfl, if_pos h0]
    · rw [decide_eq_false h0, if_neg (by decide), if_neg h0]
      have e : wrap64 ((wrap64 (Int.tdiv n 2)) + (Int.tmod n 2)) = n / 2 + n % 2 := by
        rw [Int.tdiv_eq_ediv_of_nonneg (by omega), Int.tmod_eq_emod_of_nonneg (by omega), w64 (by omega : -9223372036854775808 ≤ n / 2 ∧ n / 2 ≤ 9223372036854775807), w64 (by omega)]
      rw [e]
      unfold turnstileref1_Packed.f
      by_cases h23 : enc = 2 ∨ enc = 3
      · rw [if_pos h23]; rcases h23 with h | h <;> subst h <;> rfl
      · have h145 : enc = 1 ∨ enc = 4 ∨ enc = 5 := by omega
        rw [if_neg h23, if_pos h145]; rcases h145 with h | h | h <;> subst h <;> rfl
  · rw [decide_eq_false hk]
    refine Ev.step (f := fun _ => some (widthS enc n)) (fun k => ?_) (Ev.now _)
    rw [Option.bind_some, if_neg (by decide)]
    simp only [turnstileref1_Width.j0]
    unfold widthS
    rw [if_pos trivial]
    by_cases h0 : n < 0
    · rw [if_pos h0]
    · rw [if_neg h0, if_neg (show ¬ (enc = 2 ∨ enc = 3) by omega), if_neg (show ¬ (enc = 1 ∨ enc = 4 ∨ enc = 5) by omega)]
theorem runpack_is (enc : Int) (s : ByteArray) (n : Int) (hs : s.size ≤ 281474976710656) (hn : n ≤ 9223372036854775807) (hw : (s.size : Int) < widthS enc n ∨ widthS enc n ≤ 70368744177600) : Ev (fun k => turnstileref1_Unpack.f k enc s n) (unpackS enc s n) := by
  unfold unpackS turnstileref1_Unpack.f
  rw [rknown_is]
  by_cases ha : enc < 1 ∨ enc > 5 ∨ n < 0
  · rw [if_pos ha]
    refine Ev.step (f := fun _ => some ((⟨#[]⟩ : ByteArray), 1, 0)) (fun k => ?_) (Ev.now _)
    by_cases hk : 1 ≤ enc ∧ enc ≤ 5
    · rw [decide_eq_true hk, Option.bind_some, if_pos rfl, decide_eq_true (by omega)]; simp only [turnstileref1_Unpack.j0]; rfl
    · rw [decide_eq_false hk, Option.bind_some, if_neg (by decide)]; simp only [turnstileref1_Unpack.j0]; rfl
  · rw [if_neg ha]
    refine Ev.step (f := fun k => (turnstileref1_Width.f k enc n).bind fun t => (if (s.size : Int) < t then (some ((⟨#[]⟩ : ByteArray), 10, (s.size : Int))) else (turnstileref1_Unpack.l0 k enc s n t ([] : List Int) 0))) (fun k => ?_) (evb (rwidth_is enc n hn) ?_)
    · rw [decide_eq_true (by omega), Option.bind_some, if_pos rfl, decide_eq_false (by omega)]; simp only [turnstileref1_Unpack.j0]; rfl
    · by_cases hs2 : (s.size : Int) < widthS enc n
      · rw [if_pos hs2]; exact ev_some fun k => if_pos hs2
      · rw [if_neg hs2]
        refine Ev.congr (fun k => if_neg hs2) ?_
        have w0 : 0 ≤ widthS enc n := by unfold widthS; split; omega; split; omega; split <;> omega
        have h := runpack_l0 enc n (by omega) (by omega) hn s hs (widthS enc n).toNat (by omega) (by omega) (widthS enc n).toNat 0 [] (by omega) (by simp)
        rw [show (((widthS enc n).toNat : Nat) : Int) = widthS enc n by omega] at h
        exact h
end Go.Proofs.Ytlpamhffpgoebaa.Pure

-- WRITTEN BY this session's own drv.py over the kit's print. Not trusted: Lean checks it.
namespace Go.Proofs.Ytlpamhffpgoebaa.All
open Go.RowKit Go.Proofs.YtlpamhffpgoebaaW.PrintWords Go.Proofs.YtlpamhffpgoebaaW.PrintLast Go.Proofs.YtlpamhffpgoebaaW.PrintMore
attribute [local go_sem] max2_int min2_int max_two min_two max_three min_three max_four min_four   -- for this text's walks alone
set_option linter.unusedVariables false
set_option linter.unusedSimpArgs false

/-! ### digits_Write: function 24 -/
mutual
def digits_Write.j0 : Nat → Int → Int → Bool → Option (ByteArray × Int)
  | 0, _, _, _ => none
  | k + 1, x0, x1, x17 => if x17 = true then (some ((⟨#[]⟩ : ByteArray), 1)) else (if 0 ≤ x1 then (if (x1 : Int).toNat ≤ 281474976710656 then (digits_Write.l0 k x0 (List.replicate (x1 : Int).toNat 0) (wrap64 (x1 - 1))) else (none)) else (none))
def digits_Write.l0 : Nat → Int → List Int → Int → Option (ByteArray × Int)
  | 0, _, _, _ => none
  | k + 1, x0, x6, x7 => if x7 ≥ 0 then (if 0 ≤ x7 then (if x7 < (x6.length : Int) then (digits_Write.l0 k (wrap64 (Int.tdiv x0 10)) (x6.set (x7 : Int).toNat ((wrap64 (48 + (Int.tmod x0 10))) % 256)) (wrap64 (x7 - 1))) else (none)) else (none)) else (if x0 > 0 then (some ((⟨#[]⟩ : ByteArray), 13)) else (some (strOfNums x6, 0)))
end
def digits_Write.f (k : Nat) (a0 : Int) (a1 : Int) : Option (ByteArray × Int) := if a0 < 0 then (digits_Write.j0 k a0 a1 true) else (if a1 < 1 then (digits_Write.j0 k a0 a1 true) else (digits_Write.j0 k a0 a1 (decide (a1 > 18))))
theorem digits_Write.mono_l : ∀ k, (∀ y0 y1 y2, LeO (digits_Write.j0 k y0 y1 y2) (digits_Write.j0 (k + 1) y0 y1 y2)) ∧ (∀ y0 y1 y2, LeO (digits_Write.l0 k y0 y1 y2) (digits_Write.l0 (k + 1) y0 y1 y2))
  | 0 => ⟨fun _ _ _ r h => by simp [digits_Write.j0] at h, fun _ _ _ r h => by simp [digits_Write.l0] at h⟩
  | k + 1 => by
    obtain ⟨ih0, ih1⟩ := digits_Write.mono_l k
    refine ⟨?_, ?_⟩
    · intro y0 y1 y2
      unfold digits_Write.j0
      repeat' first
      | (with_reducible exact ih0 _ _ _)
      | (with_reducible exact ih1 _ _ _)
      | (with_reducible exact LeO.refl _)
      | (with_reducible exact LeO.none _)
      | (with_reducible refine LeO.ite ?_ ?_)
      | (with_reducible refine LeO.bind ?_ (fun _ => ?_))
      | exact ih0 _ _ _
      | exact ih1 _ _ _
      | exact LeO.none _
      | refine LeO.ite ?_ ?_
      | refine LeO.bind ?_ (fun _ => ?_)
    · intro y0 y1 y2
      unfold digits_Write.l0
      repeat' first
      | (with_reducible exact ih0 _ _ _)
      | (with_reducible exact ih1 _ _ _)
      | (with_reducible exact LeO.refl _)
      | (with_reducible exact LeO.none _)
      | (with_reducible refine LeO.ite ?_ ?_)
      | (with_reducible refine LeO.bind ?_ (fun _ => ?_))
      | exact ih0 _ _ _
      | exact ih1 _ _ _
      | exact LeO.none _
      | refine LeO.ite ?_ ?_
      | refine LeO.bind ?_ (fun _ => ?_)
theorem digits_Write.mono : ∀ a0 a1 k, LeO (digits_Write.f k a0 a1) (digits_Write.f (k + 1) a0 a1) := by
  intro a0 a1 k
  obtain ⟨ih0, ih1⟩ := digits_Write.mono_l k
  unfold digits_Write.f
  repeat' first
      | (with_reducible exact ih0 _ _ _)
      | (with_reducible exact ih1 _ _ _)
      | (with_reducible exact LeO.refl _)
      | (with_reducible exact LeO.none _)
      | (with_reducible refine LeO.ite ?_ ?_)
      | (with_reducible refine LeO.bind ?_ (fun _ => ?_))
      | exact ih0 _ _ _
      | exact ih1 _ _ _
      | exact LeO.none _
      | refine LeO.ite ?_ ?_
      | refine LeO.bind ?_ (fun _ => ?_)
set_option maxHeartbeats 8000000 in
set_option maxRecDepth 100000 in
theorem digits_Write.calls (k : Nat) (a0 : Int) (a1 : Int) (r1 : ByteArray) (r2 : Int) (w : World) (h : digits_Write.f k a0 a1 = some (r1, r2)) :
    Calls Try.prog 24 #[.int .i64 a0, .int .i64 a1] w fun e w' => e = .returned (.tuple #[.string r1, .int .i64 r2]) ∧ Below w.heap.size w w' := by
  have HB := Aside0.mk (Below.refl w.heap.size w)
  have H : (if a0 < 0 then (digits_Write.j0 k a0 a1 true) else (if a1 < 1 then (digits_Write.j0 k a0 a1 true) else (digits_Write.j0 k a0 a1 (decide (a1 > 18))))) = some (r1, r2) := h
  clear h
  have HC3 := Aside0.mk H
  clear H
  go_enter Try.func24, Try.ntmps24
  go_upto_region 1 with (fail)
  go_cut [17] (fun v17 wc => ∃ (kq : Nat) (x17_2 : Bool), v17 = .bool x17_2 ∧ Aside0 (digits_Write.j0 kq a0 a1 x17_2 = some (r1, r2)) ∧ Aside0 (kq ≤ k) ∧ Aside0 (Below w.heap.size w wc))
  case first =>
    have H := HC3.out
    clear HC3
    by_cases c4 : a0 < 0
    · rw [if_pos c4] at H
      have c4b0 : decide (a0 < 0) = true := decide_eq_true c4
      clear c4
      (first | rw [c4b0] | (simp only [i64_w, i32_w]; rw [c4b0]) | skip)
      have H' := Aside0.mk H
      clear H
      go_wp2
      go_meet
      case rel => exact ⟨_, (true), (by first | rfl | (simp; done) | (simp [*]; done)), H', ⟨by first | omega | exact Nat.le_refl _⟩, ⟨by repeat (first | (with_reducible first | exact HB.out | apply below_alloc | apply pw_below_drewN | apply below_drew1) | exact HB.out)⟩⟩
    · rw [if_neg c4] at H
      have c4b0 : decide (a0 < 0) = false := decide_eq_false c4
      clear c4
      (first | rw [c4b0] | (simp only [i64_w, i32_w]; rw [c4b0]) | skip)
      by_cases c5 : a1 < 1
      · rw [if_pos c5] at H
        have c5b0 : decide (a1 < 1) = true := decide_eq_true c5
        clear c5
        have H' := Aside0.mk H
        clear H
        go_wp2
        go_meet
        case rel => exact ⟨_, (true), (by first | rfl | (simp; done) | (simp [*]; done)), H', ⟨by first | omega | exact Nat.le_refl _⟩, ⟨by repeat (first | (with_reducible first | exact HB.out | apply below_alloc | apply pw_below_drewN | apply below_drew1) | exact HB.out)⟩⟩
      · rw [if_neg c5] at H
        have c5b0 : decide (a1 < 1) = false := decide_eq_false c5
        clear c5
        have H' := Aside0.mk H
        clear H
        go_wp2
        go_meet
        case rel => exact ⟨_, (decide (a1 > 18)), (by first | rfl | (simp; done) | (simp [*]; done)), H', ⟨by first | omega | exact Nat.le_refl _⟩, ⟨by repeat (first | (with_reducible first | exact HB.out | apply below_alloc | apply pw_below_drewN | apply below_drew1) | exact HB.out)⟩⟩
  case rest =>
    clear HC3
    try clear c2
    try clear p2
    try clear c4
    try clear c4b0
    try clear c5
    try clear c5b0
    obtain ⟨kq, x17_2, rfl, HA, HJ2, HB⟩ := hcut
    cases kq with
    | zero => exact absurd HA.out (by simp [digits_Write.j0])
    | succ kj2 =>
      have H := HA.out
      clear HA
      simp only [digits_Write.j0] at H
      by_cases c6 : x17_2 = true
      · subst c6
        have H1 : (some ((⟨#[]⟩ : ByteArray), 1)) = some (r1, r2) := by rw [if_pos rfl] at H; exact H
        clear H
        have H := H1
        clear H1
        simp only [Option.some.injEq, Prod.mk.injEq] at H
        obtain ⟨rfl, rfl⟩ := H
        go_wp2
        go_ret2
        exact ⟨by first | rfl | (simp [errW_none, errW_some] <;> rfl) | (simp [*, errW_none, errW_some] <;> rfl), by repeat (first | (with_reducible first | exact HB.out | apply below_alloc | apply pw_below_drewN | apply below_drew1) | exact HB.out)⟩
      · replace c6 := Bool.eq_false_iff.mpr c6
        subst c6
        have H1 : (if 0 ≤ a1 then (if (a1 : Int).toNat ≤ 281474976710656 then (digits_Write.l0 kj2 a0 (List.replicate (a1 : Int).toNat 0) (wrap64 (a1 - 1))) else (none)) else (none)) = some (r1, r2) := by rw [if_neg (show ¬ (false = true) by decide)] at H; exact H
        clear H
        have H := H1
        clear H1
        by_cases c7 : 0 ≤ a1
        · rw [if_pos c7] at H
          have c7b0 := eq_true c7
          have c7b1 : decide (0 ≤ a1) = true := decide_eq_true c7
          clear c7
          by_cases c8 : (a1 : Int).toNat ≤ 281474976710656
          · rw [if_pos c8] at H
            have c8b0 := eq_true c8
            have c8b1 : decide ((a1 : Int).toNat ≤ 281474976710656) = true := decide_eq_true c8
            clear c8
            obtain ⟨y116, hy116⟩ : ∃ y_ : List Int, y_ = (List.replicate (a1 : Int).toNat 0) := ⟨_, rfl⟩
            replace H : (digits_Write.l0 kj2 a0 y116 (wrap64 (a1 - 1))) = some (r1, r2) := by first | (rw [hy116]; with_reducible exact H) | (have H2_ := (Option.bind_some _ _).symm.trans H; rw [hy116]; with_reducible exact H2_) | (have H2_ := (Option.bind_some _ _).symm.trans H; with_reducible exact H2_) | with_reducible exact H | (rw [hy116]; exact H) | exact H
            have Ny116 := Aside0.mk hy116
            clear hy116
            have H' := Aside0.mk H
            clear H
            go_wp2_with (first | ((with_reducible refine gate_dst (N := 19) rfl ?_); refine Kd.R_make (Kd.int .u8) _ 5 rfl (N := 19) rfl 51 _ _ rfl a1 rfl rfl Try.underlying51 (.int .u8 0) 1 info5 rfl (by decide) (by omega) 0 (ok := fun _ => True) (okp := fun _ => True) rfl (fun _ hk => hk) trivial (of_decide_eq_true (by first | (with_reducible assumption) | assumption)) (Nat.le_trans (Nat.mul_le_mul_right _ (of_decide_eq_true (by first | (with_reducible assumption) | assumption) : a1.toNat ≤ 281474976710656)) (by omega)) (Below.refl _ _) (Nat.le_refl _) ?_; intro v117 w9 ho10 hb hg_ hnew_; clear hg_ hnew_; (first | rw [← Ny116.out] at ho10 | (simp only [Int.reduceToNat] at ho10; rw [← Ny116.out] at ho10)); have n0_ := Aside0.mk (Kd.R_lower ho10 (below_size (by repeat (first | (with_reducible first | exact HB.out | apply below_alloc | apply pw_below_drewN | apply below_drew1) | exact HB.out)))); have n1_ := Aside0.mk (below_step (by repeat (first | (with_reducible first | exact HB.out | apply below_alloc | apply pw_below_drewN | apply below_drew1) | exact HB.out)) hb); clear HB; have HO118 := n0_; have HB := n1_; clear n0_ n1_; clear hb ho10))
            go_loopg [0, 7] kj2 (fun kq v0 v7 w' => ∃ (x0_2 : Int) (x6_2 : List Int) (x7_2 : Int), v0 = .int .i64 x0_2 ∧ v7 = .int .i64 x7_2 ∧ Aside0 (digits_Write.l0 kq x0_2 x6_2 x7_2 = some (r1, r2)) ∧ Aside0 (kq ≤ kj2) ∧ Aside0 (Kd.R (Kd.int .u8) 5 w' w.heap.size (fun _ => True) v117 x6_2) ∧ Aside0 (Below w.heap.size w w'))
            case atStart => exact ⟨(a0), (y116), (wrap64 (a1 - 1)), (by first | rfl | (simp; done) | (simp [*]; done)), (by first | rfl | (simp; done) | (simp [*]; done)), H', ⟨Nat.le_refl _⟩, ⟨by (with_reducible repeat (first | apply Kd.R_alloc | apply Kd.R_drewN | apply Kd.R_drew)); exact HO118.out⟩, ⟨by repeat (first | (with_reducible first | exact HB.out | apply below_alloc | apply pw_below_drewN | apply below_drew1) | exact HB.out)⟩⟩
            case round =>
              clear H'
              try clear c2
              try clear p2
              try clear c4
              try clear c4b0
              try clear c5
              try clear c5b0
              try clear c6
              try clear p6
              try clear c7
              try clear c7b0
              try clear c7b1
              try clear c8
              try clear c8b0
              try clear c8b1
              try clear p2
              obtain ⟨x0_2, x6_2, x7_2, rfl, rfl, HA, HK2, HO_6, HB⟩ := hrel
              cases gk with
              | zero => exact absurd HA.out (by simp [digits_Write.l0])
              | succ k2 =>
                have H := HA.out
                clear HA
                simp only [digits_Write.l0] at H
                by_cases c11 : x7_2 ≥ 0
                · rw [if_pos c11] at H
                  have c11b0 : decide (0 ≤ x7_2) = true := decide_eq_true c11
                  clear c11
                  by_cases c12 : 0 ≤ x7_2
                  · rw [if_pos c12] at H
                    have c12b0 : decide (0 ≤ x7_2) = true := decide_eq_true c12
                    clear c12
                    by_cases c13 : x7_2 < (x6_2.length : Int)
                    · rw [if_pos c13] at H
                      have c13b0 : decide (x7_2 < (x6_2.length : Int)) = true := decide_eq_true c13
                      clear c13
                      obtain ⟨y119, hy119⟩ : ∃ y_ : List Int, y_ = (x6_2.set (x7_2 : Int).toNat ((wrap64 (48 + (Int.tmod x0_2 10))) % 256)) := ⟨_, rfl⟩
                      replace H : (digits_Write.l0 k2 (wrap64 (Int.tdiv x0_2 10)) y119 (wrap64 (x7_2 - 1))) = some (r1, r2) := by first | (rw [hy119]; with_reducible exact H) | (have H2_ := (Option.bind_some _ _).symm.trans H; rw [hy119]; with_reducible exact H2_) | (have H2_ := (Option.bind_some _ _).symm.trans H; with_reducible exact H2_) | with_reducible exact H | (rw [hy119]; exact H) | exact H
                      have Ny119 := Aside0.mk hy119
                      clear hy119
                      have H' := Aside0.mk H
                      clear H
                      have p14 : 0 ≤ (x7_2 : Int) := of_decide_eq_true (by first | (with_reducible assumption) | assumption)
                      have q14 : (x7_2 : Int) < ((x6_2.length : Int) : Int) := of_decide_eq_true (by first | (with_reducible assumption) | assumption)
                      obtain ⟨go14, co14, eo14, gb14, gl14, cl14, HG14⟩ := Kd.R_form HO_6.out (by omega)
                      (first | cases eo14 | (injection eo14 with ea_ en_ ec_; (first | subst ea_ | (injection ea_ with ea_; subst ea_)); subst ec_; clear en_))
                      have GB14 := Aside0.mk gb14
                      have GG14 := Aside0.mk HG14
                      clear gb14 gl14 HG14
                      obtain ⟨hx14_0, hf14_0⟩ := Kd.R_celln 0 HO_6.out (x7_2 : Int) p14 q14
                      replace p14 := eq_true p14
                      replace q14 := eq_true q14
                      have HP15 := Kd.R_putg HO_6.out (x7_2 : Int) ((wrap64 (48 + (Int.tmod x0_2 10))) % 256)
                      go_wp2_with (first | ((with_reducible refine gate_store (t := 5) (p := 32) rfl ?_); refine store_event (t := 5) (p := 32) (v := ?vo_w16) (w1 := (wr.setCell ⟨go14, (x7_2 : Int).toNat, none⟩ (.int .u8 ((wrap64 (48 + (Int.tmod x0_2 10))) % 256)))) ?hg ?ho ?hn ?hr ?_; (case ho => rfl); (case hg => rfl); (case hn => rfl); (case hr => first | (go_simp; done) | (go_simp; rfl)); intro w16 hw; have hg : wr.grownBy w16 (some go14) := (by rw [hw]; exact HP15.2); have hp_ : Kd.R (Kd.int .u8) 5 w16 w.heap.size (fun _ => True) (.slice (some ⟨go14, 0, none⟩) x6_2.length co14) y119 := (by rw [hw, Ny119.out]; exact HP15.1); clear HP15; have n0_ := Aside0.mk (hp_); have n1_ := Aside0.mk ((by rw [hw]; exact below_set (HB.out) GB14.out : Below w.heap.size w w16)); clear HO_6; clear HB; have HO_6 := n0_; have HB := n1_; clear n0_ n1_; clear hg hw hp_))
                      go_roundg k2
                      case measure => have := HJ2.out; have := HK2.out; omega
                      case rel => exact ⟨(wrap64 (Int.tdiv x0_2 10)), (y119), (wrap64 (x7_2 - 1)), (by first | rfl | (simp; done) | (simp [*]; done)), (by first | rfl | (simp; done) | (simp [*]; done)), H', ⟨by have := HJ2.out; have := HK2.out; omega⟩, ⟨by (with_reducible repeat (first | apply Kd.R_alloc | apply Kd.R_drewN | apply Kd.R_drew)); exact HO_6.out⟩, ⟨by repeat (first | (with_reducible first | exact HB.out | apply below_alloc | apply pw_below_drewN | apply below_drew1) | exact HB.out)⟩⟩
                    · rw [if_neg c13] at H
                      exact absurd H (by simp)
                  · rw [if_neg c12] at H
                    exact absurd H (by simp)
                · rw [if_neg c11] at H
                  have c11b0 : decide (0 ≤ x7_2) = false := decide_eq_false c11
                  clear c11
                  by_cases c17 : x0_2 > 0
                  · rw [if_pos c17] at H
                    have c17b0 : decide (0 < x0_2) = true := decide_eq_true c17
                    clear c17
                    simp only [Option.some.injEq, Prod.mk.injEq] at H
                    obtain ⟨rfl, rfl⟩ := H
                    go_wp2
                    go_ret2
                    exact ⟨by first | rfl | (simp [errW_none, errW_some] <;> rfl) | (simp [*, errW_none, errW_some] <;> rfl), by repeat (first | (with_reducible first | exact HB.out | apply below_alloc | apply pw_below_drewN | apply below_drew1) | exact HB.out)⟩
                  · rw [if_neg c17] at H
                    have c17b0 : decide (0 < x0_2) = false := decide_eq_false c17
                    clear c17
                    simp only [Option.some.injEq, Prod.mk.injEq] at H
                    obtain ⟨rfl, rfl⟩ := H
                    have hcv18 := own_string (P := Try.prog) Try.underlying51 Try.underlying5 Try.underlying9 (Kd.own_of_R HO_6.out)
                    go_wp2
                    go_ret2
                    exact ⟨by first | rfl | (simp [errW_none, errW_some] <;> rfl) | (simp [*, errW_none, errW_some] <;> rfl), by repeat (first | (with_reducible first | exact HB.out | apply below_alloc | apply pw_below_drewN | apply below_drew1) | exact HB.out)⟩
          · rw [if_neg c8] at H
            exact absurd H (by simp)
        · rw [if_neg c7] at H
          exact absurd H (by simp)

end Go.Proofs.Ytlpamhffpgoebaa.All

-- WRITTEN BY this session's own drv.py over the kit's print. Not trusted: Lean checks it.
namespace Go.Proofs.Ytlpamhffpgoebaa.All
open Go.RowKit Go.Proofs.YtlpamhffpgoebaaW.PrintWords Go.Proofs.YtlpamhffpgoebaaW.PrintLast Go.Proofs.YtlpamhffpgoebaaW.PrintMore
attribute [local go_sem] max2_int min2_int max_two min_two max_three min_three max_four min_four   -- for this text's walks alone
set_option linter.unusedVariables false
set_option linter.unusedSimpArgs false

/-! ### digits_Prefix: function 26 -/
def digits_Prefix.j0 : Nat → Int → Int → Int → Int → Bool → Option (ByteArray × Int)
  | 0, _, _, _, _, _ => none
  | k + 1, x0, x1, x2, x8, x19 => if x19 = true then (some ((⟨#[]⟩ : ByteArray), 1)) else ((digits_ten.f k x1).bind fun t158 => (if x2 ≥ t158 then (some ((⟨#[]⟩ : ByteArray), 13)) else (if x0 = 5 then ((some (([(x2 / 256) % 256, (x2) % 256] : List Int) : List Int)).bind fun y159 => (if 0 ≤ (wrap64 (2 - x8)) then (if (wrap64 (2 - x8)) ≤ (y159.length : Int) then (some (strOfNums (y159.drop ((wrap64 (2 - x8)) : Int).toNat), 0)) else (none)) else (none))) else ((digits_Write.f k x2 x1).bind fun bt166 => (if bt166.2 = 0 then ((digits_Pack.f k x0 bt166.1).bind fun bt168 => (some (bt168.1, bt168.2))) else (some ((⟨#[]⟩ : ByteArray), bt166.2)))))))
def digits_Prefix.f (k : Nat) (a0 : Int) (a1 : Int) (a2 : Int) : Option (ByteArray × Int) := (digits_wide.f k a0 a1).bind fun t157 => (if t157 = 0 then (digits_Prefix.j0 k a0 a1 a2 t157 true) else (digits_Prefix.j0 k a0 a1 a2 t157 (decide (a2 < 0))))
theorem digits_Prefix.mono_l : ∀ k, (∀ y0 y1 y2 y3 y4, LeO (digits_Prefix.j0 k y0 y1 y2 y3 y4) (digits_Prefix.j0 (k + 1) y0 y1 y2 y3 y4))
  | 0 => fun _ _ _ _ _ r h => by simp [digits_Prefix.j0] at h
  | k + 1 => by
    have ih0 := digits_Prefix.mono_l k
    · intro y0 y1 y2 y3 y4
      unfold digits_Prefix.j0
      repeat' first
      | (with_reducible exact ih0 _ _ _ _ _)
      | (with_reducible exact digits_Pack.mono _ _ _)
      | (with_reducible exact digits_Write.mono _ _ _)
      | (with_reducible exact digits_ten.mono _ _)
      | (with_reducible exact digits_wide.mono _ _ _)
      | (with_reducible exact LeO.refl _)
      | (with_reducible exact LeO.none _)
      | (with_reducible refine LeO.ite ?_ ?_)
      | (with_reducible refine LeO.bind ?_ (fun _ => ?_))
      | exact ih0 _ _ _ _ _
      | exact digits_Pack.mono _ _ _
      | exact digits_Write.mono _ _ _
      | exact digits_ten.mono _ _
      | exact digits_wide.mono _ _ _
      | exact LeO.none _
      | refine LeO.ite ?_ ?_
      | refine LeO.bind ?_ (fun _ => ?_)
theorem digits_Prefix.mono : ∀ a0 a1 a2 k, LeO (digits_Prefix.f k a0 a1 a2) (digits_Prefix.f (k + 1) a0 a1 a2) := by
  intro a0 a1 a2 k
  have ih0 := digits_Prefix.mono_l k
  unfold digits_Prefix.f
  repeat' first
      | (with_reducible exact ih0 _ _ _ _ _)
      | (with_reducible exact digits_Pack.mono _ _ _)
      | (with_reducible exact digits_Write.mono _ _ _)
      | (with_reducible exact digits_ten.mono _ _)
      | (with_reducible exact digits_wide.mono _ _ _)
      | (with_reducible exact LeO.refl _)
      | (with_reducible exact LeO.none _)
      | (with_reducible refine LeO.ite ?_ ?_)
      | (with_reducible refine LeO.bind ?_ (fun _ => ?_))
      | exact ih0 _ _ _ _ _
      | exact digits_Pack.mono _ _ _
      | exact digits_Write.mono _ _ _
      | exact digits_ten.mono _ _
      | exact digits_wide.mono _ _ _
      | exact LeO.none _
      | refine LeO.ite ?_ ?_
      | refine LeO.bind ?_ (fun _ => ?_)
set_option maxHeartbeats 8000000 in
set_option maxRecDepth 100000 in
theorem digits_Prefix.calls (k : Nat) (a0 : Int) (a1 : Int) (a2 : Int) (r1 : ByteArray) (r2 : Int) (w : World) (h : digits_Prefix.f k a0 a1 a2 = some (r1, r2)) :
    Calls Try.prog 26 #[.int .i64 a0, .int .i64 a1, .int .i64 a2] w fun e w' => e = .returned (.tuple #[.string r1, .int .i64 r2]) ∧ Below w.heap.size w w' := by
  have HB := Aside0.mk (Below.refl w.heap.size w)
  have H : ((digits_wide.f k a0 a1).bind fun t157 => (if t157 = 0 then (digits_Prefix.j0 k a0 a1 a2 t157 true) else (digits_Prefix.j0 k a0 a1 a2 t157 (decide (a2 < 0))))) = some (r1, r2) := h
  clear h
  replace H := Option.bind_eq_some_iff.mp H
  obtain ⟨t157, A40, H⟩ := H
  replace H : (if t157 = 0 then (digits_Prefix.j0 k a0 a1 a2 t157 true) else (digits_Prefix.j0 k a0 a1 a2 t157 (decide (a2 < 0)))) = some (r1, r2) := H
  have A4 := Aside0.mk A40
  clear A40
  have HC5 := Aside0.mk H
  clear H
  go_enter Try.func26, Try.ntmps26
  go_upto_region 2 with (first | ((with_reducible refine gate_callee (f := 44) rfl ?_); refine goesL_ (some 13) rfl rfl Try.func44 (by kernel_rfl) rfl #[.int .i64 a0, .int .i64 a1] rfl (by (try simp only [List.map_toArray, List.map_cons, List.map_nil]); first | done | rfl | (simp only [List.length_drop, List.length_take]; rfl)) ?_; (with_reducible refine (digits_wide.calls k a0 a1 t157 _ A4.out).mono ?_); rintro e w' ⟨rfl, ⟨nd, rfl⟩⟩; refine ⟨_, rfl, ?_⟩))
  (try simp only [Act.put, List.setIfInBounds_toArray, List.set_cons_zero, List.set_cons_succ])
  go_cut [19] (fun v19 wc => ∃ (kq : Nat) (x19_4 : Bool), v19 = .bool x19_4 ∧ Aside0 (digits_Prefix.j0 kq a0 a1 a2 t157 x19_4 = some (r1, r2)) ∧ Aside0 (kq ≤ k) ∧ Aside0 (Below w.heap.size w wc))
  case first =>
    have H := HC5.out
    clear HC5
    by_cases c6 : t157 = 0
    · rw [if_pos c6] at H
      have c6b0 : (t157 == 0) = true := beq_iff_eq.mpr c6
      have c6b1 : (t157 != 0) = false := bne_eq_false_iff_eq.mpr c6
      clear c6
      (first | rw [c6b0] | (simp only [i64_w, i32_w]; rw [c6b0]) | skip)
      have H' := Aside0.mk H
      clear H
      go_wp2
      go_meet
      case rel => exact ⟨_, (true), (by first | rfl | (simp; done) | (simp [*]; done)), H', ⟨by first | omega | exact Nat.le_refl _⟩, ⟨by repeat (first | (with_reducible first | exact HB.out | apply below_alloc | apply pw_below_drewN | apply below_drew1) | exact HB.out)⟩⟩
    · rw [if_neg c6] at H
      have c6b0 : (t157 == 0) = false := beq_eq_false_iff_ne.mpr c6
      have c6b1 : (t157 != 0) = true := bne_iff_ne.mpr c6
      (first | rw [c6b0] | (simp only [i64_w, i32_w]; rw [c6b0]) | skip)
      have H' := Aside0.mk H
      clear H
      go_wp2
      go_meet
      case rel => exact ⟨_, (decide (a2 < 0)), (by first | rfl | (simp; done) | (simp [*]; done)), H', ⟨by first | omega | exact Nat.le_refl _⟩, ⟨by repeat (first | (with_reducible first | exact HB.out | apply below_alloc | apply pw_below_drewN | apply below_drew1) | exact HB.out)⟩⟩
  case rest =>
    clear HC5
    try clear c2
    try clear p2
    try clear c4
    try clear c6
    try clear c6b0
    try clear c6b1
    obtain ⟨kq, x19_4, rfl, HA, HJ4, HB⟩ := hcut
    cases kq with
    | zero => exact absurd HA.out (by simp [digits_Prefix.j0])
    | succ kj4 =>
      have H := HA.out
      clear HA
      simp only [digits_Prefix.j0] at H
      by_cases c7 : x19_4 = true
      · subst c7
        have H1 : (some ((⟨#[]⟩ : ByteArray), 1)) = some (r1, r2) := by rw [if_pos rfl] at H; exact H
        clear H
        have H := H1
        clear H1
        simp only [Option.some.injEq, Prod.mk.injEq] at H
        obtain ⟨rfl, rfl⟩ := H
        go_wp2
        go_ret2
        exact ⟨by first | rfl | (simp [errW_none, errW_some] <;> rfl) | (simp [*, errW_none, errW_some] <;> rfl), by repeat (first | (with_reducible first | exact HB.out | apply below_alloc | apply pw_below_drewN | apply below_drew1) | exact HB.out)⟩
      · replace c7 := Bool.eq_false_iff.mpr c7
        subst c7
        have H1 : ((digits_ten.f kj4 a1).bind fun t158 => (if a2 ≥ t158 then (some ((⟨#[]⟩ : ByteArray), 13)) else (if a0 = 5 then ((some (([(a2 / 256) % 256, (a2) % 256] : List Int) : List Int)).bind fun y159 => (if 0 ≤ (wrap64 (2 - t157)) then (if (wrap64 (2 - t157)) ≤ (y159.length : Int) then (some (strOfNums (y159.drop ((wrap64 (2 - t157)) : Int).toNat), 0)) else (none)) else (none))) else ((digits_Write.f kj4 a2 a1).bind fun bt166 => (if bt166.2 = 0 then ((digits_Pack.f kj4 a0 bt166.1).bind fun bt168 => (some (bt168.1, bt168.2))) else (some ((⟨#[]⟩ : ByteArray), bt166.2))))))) = some (r1, r2) := by rw [if_neg (show ¬ (false = true) by decide)] at H; exact H
        clear H
        have H := H1
        clear H1
        replace H := Option.bind_eq_some_iff.mp H
        obtain ⟨t158, A80, H⟩ := H
        replace H : (if a2 ≥ t158 then (some ((⟨#[]⟩ : ByteArray), 13)) else (if a0 = 5 then ((some (([(a2 / 256) % 256, (a2) % 256] : List Int) : List Int)).bind fun y159 => (if 0 ≤ (wrap64 (2 - t157)) then (if (wrap64 (2 - t157)) ≤ (y159.length : Int) then (some (strOfNums (y159.drop ((wrap64 (2 - t157)) : Int).toNat), 0)) else (none)) else (none))) else ((digits_Write.f kj4 a2 a1).bind fun bt166 => (if bt166.2 = 0 then ((digits_Pack.f kj4 a0 bt166.1).bind fun bt168 => (some (bt168.1, bt168.2))) else (some ((⟨#[]⟩ : ByteArray), bt166.2)))))) = some (r1, r2) := H
        have A8 := Aside0.mk A80
        clear A80
        by_cases c9 : a2 ≥ t158
        · rw [if_pos c9] at H
          have c9b0 : decide (t158 ≤ a2) = true := decide_eq_true c9
          clear c9
          simp only [Option.some.injEq, Prod.mk.injEq] at H
          obtain ⟨rfl, rfl⟩ := H
          go_wp2_with (first | ((with_reducible refine gate_callee (f := 45) rfl ?_); refine goesL_ (some 22) rfl rfl Try.func45 (by kernel_rfl) rfl #[.int .i64 a1] rfl (by (try simp only [List.map_toArray, List.map_cons, List.map_nil]); first | done | rfl | (simp only [List.length_drop, List.length_take]; rfl)) ?_; (with_reducible refine (digits_ten.calls kj4 a1 t158 _ A8.out).mono ?_); rintro e w' ⟨rfl, ⟨nd, rfl⟩⟩; refine ⟨_, rfl, ?_⟩))
          go_ret2
          exact ⟨by first | rfl | (simp [errW_none, errW_some] <;> rfl) | (simp [*, errW_none, errW_some] <;> rfl), by repeat (first | (with_reducible first | exact HB.out | apply below_alloc | apply pw_below_drewN | apply below_drew1) | exact HB.out)⟩
        · rw [if_neg c9] at H
          have c9b0 : decide (t158 ≤ a2) = false := decide_eq_false c9
          clear c9
          by_cases c10 : a0 = 5
          · rw [if_pos c10] at H
            have c10b0 : (a0 == 5) = true := beq_iff_eq.mpr c10
            have c10b1 : (a0 != 5) = false := bne_eq_false_iff_eq.mpr c10
            clear c10
            obtain ⟨y159, hy159⟩ : ∃ y_ : List Int, y_ = (([(a2 / 256) % 256, (a2) % 256] : List Int)) := ⟨_, rfl⟩
            replace H : (if 0 ≤ (wrap64 (2 - t157)) then (if (wrap64 (2 - t157)) ≤ (y159.length : Int) then (some (strOfNums (y159.drop ((wrap64 (2 - t157)) : Int).toNat), 0)) else (none)) else (none)) = some (r1, r2) := by first | (rw [hy159]; with_reducible exact H) | (have H2_ := (Option.bind_some _ _).symm.trans H; rw [hy159]; with_reducible exact H2_) | (have H2_ := (Option.bind_some _ _).symm.trans H; with_reducible exact H2_) | with_reducible exact H | (rw [hy159]; exact H) | exact H
            have Ny159 := Aside0.mk hy159
            clear hy159
            obtain ⟨ji11, hji11⟩ : ∃ j_ : Int, (wrap64 (2 - t157)) = j_ := ⟨_, rfl⟩
            replace H : (if 0 ≤ (ji11) then (if (ji11) ≤ (y159.length : Int) then (some (strOfNums (y159.drop ((ji11) : Int).toNat), 0)) else (none)) else (none)) = some (r1, r2) := by first | (rw [hji11] at H; exact H) | (simp only [hji11] at H ⊢; exact H)
            (try rw [hji11] at A8)
            have hji11w : (IntKind.i64.wrap (2 - t157)) = ji11 := (i64_w _).trans hji11
            by_cases c12 : 0 ≤ (ji11)
            · rw [if_pos c12] at H
              have c12b0 := eq_true c12
              have c12b1 : decide (0 ≤ (ji11)) = true := decide_eq_true c12
              clear c12
              by_cases c13 : (ji11) ≤ (y159.length : Int)
              · rw [if_pos c13] at H
                have c13b0 := eq_true c13
                have c13b1 : decide ((ji11) ≤ (y159.length : Int)) = true := decide_eq_true c13
                clear c13
                obtain ⟨y162, hy162⟩ : ∃ y_ : List Int, y_ = (y159.drop ((ji11) : Int).toNat) := ⟨_, rfl⟩
                replace H : (some (strOfNums y162, 0)) = some (r1, r2) := by first | (rw [hy162]; with_reducible exact H) | (have H2_ := (Option.bind_some _ _).symm.trans H; rw [hy162]; with_reducible exact H2_) | (have H2_ := (Option.bind_some _ _).symm.trans H; with_reducible exact H2_) | with_reducible exact H | (rw [hy162]; exact H) | exact H
                have Ny162 := Aside0.mk hy162
                clear hy162
                simp only [Option.some.injEq, Prod.mk.injEq] at H
                obtain ⟨rfl, rfl⟩ := H
                go_wp2_with (first | ((with_reducible refine gate_callee (f := 45) rfl ?_); refine goesL_ (some 22) rfl rfl Try.func45 (by kernel_rfl) rfl #[.int .i64 a1] rfl (by (try simp only [List.map_toArray, List.map_cons, List.map_nil]); first | done | rfl | (simp only [List.length_drop, List.length_take]; rfl)) ?_; (with_reducible refine (digits_ten.calls kj4 a1 t158 _ A8.out).mono ?_); rintro e w' ⟨rfl, ⟨nd, rfl⟩⟩; refine ⟨_, rfl, ?_⟩) | ((with_reducible refine gate_dst (N := 31) rfl ?_); refine Kd.R_lit (Kd.int .u8) _ 5 ?hg (N := 31) ?hd (xs := ([(a2 / 256) % 256, (a2) % 256] : List Int)) (inner := [.int .u8 ((a2 / 256) % 256), .int .u8 ((a2) % 256)]) (ok := fun _ => True) (okp := fun _ => True) ?hr ?hp (fun _ hk => hk) trivial (Below.refl _ _) (Nat.le_refl _) (by simp) ?_; (case hd => rfl); (case hg => rfl); (case hr => first | (go_simp; done) | (go_simp; rfl)); (case hp => exact (Reps.one (show Kd.M (Kd.int .u8) _ _ _ ((a2 / 256) % 256) [.int .u8 ((a2 / 256) % 256)] from rfl) (Reps.one (show Kd.M (Kd.int .u8) _ _ _ ((a2) % 256) [.int .u8 ((a2) % 256)] from rfl) (Reps.none _ _)))); intro v160 w14 ho15 hb hg_ hnew_; clear hg_ hnew_; (first | rw [← Ny159.out] at ho15 | (simp only [Int.reduceToNat] at ho15; rw [← Ny159.out] at ho15)); have n0_ := Aside0.mk (Kd.R_lower ho15 (below_size (by repeat (first | (with_reducible first | exact HB.out | apply below_alloc | apply pw_below_drewN | apply below_drew1) | exact HB.out)))); have n1_ := Aside0.mk (below_step (by repeat (first | (with_reducible first | exact HB.out | apply below_alloc | apply pw_below_drewN | apply below_drew1) | exact HB.out)) hb); clear HB; have HO161 := n0_; have HB := n1_; clear n0_ n1_; clear hb ho15; obtain ⟨Ao17, co17, eo17⟩ := Kd.R_slice HO161.out; subst eo17; have q16 : ((ji11) : Int) ≤ ((y159.length : Int) : Int) := of_decide_eq_true (by first | (with_reducible assumption) | assumption); obtain ⟨i016, hi016, _, hsz16, _⟩ := info_parts info5; have hroom16 : y159.length ≤ co17 := (Kd.R_reads' HO161.out).2.1; have hC16 : Kd.C (Kd.int .u8) _ Ao17 y159.length y159 := (Kd.R_reads' HO161.out).2.2; have q016 : (0 : Int) ≤ ((ji11) : Int) := of_decide_eq_true (by first | (with_reducible assumption) | assumption); have hcut16 := cut_from (P := Try.prog) 51 5 .i64 Try.underlying51 hi016 1 hsz16 Ao17 y159.length co17 (ji11) q016 q16; have hr16 := Kd.C_drop (m := ((ji11) : Int).toNat) (c := co17) hC16 (by omega) hroom16; obtain ⟨A16, hA16⟩ : ∃ A1, A1 = (if co17 = ((ji11) : Int).toNat then Ao17 else (Ao17 : Option Addr).map (·.add (((ji11) : Int).toNat * 1))) := ⟨_, rfl⟩; obtain ⟨c16, hc16⟩ : ∃ c1, c1 = co17 - ((ji11) : Int).toNat := ⟨_, rfl⟩; have hy16 : y162.length = y159.length - ((ji11) : Int).toNat := (by rw [Ny162.out, List.length_drop] <;> omega); rw [show (y159).drop ((ji11) : Int).toNat = y162 from Ny162.out.symm] at hr16; replace hr16 : Kd.C (Kd.int .u8) _ A16 y162.length y162 := (by rw [hA16]; exact hr16); rw [← hy16, ← hA16, ← hc16] at hcut16; have HR165 := Aside0.mk hr16; have HC165 := Aside0.mk (show y162.length ≤ c16 from by rw [hy16, hc16]; exact Nat.sub_le_sub_right hroom16 _); clear hr16 hC16 hroom16 hi016 hsz16 hc16; have KY16 := Aside0.mk hy16; have KA16 := Aside0.mk hA16; clear hy16 hA16; have KL16 := Aside0.mk (show ((ji11) : Int).toNat ≤ y159.length from by omega); replace q16 := eq_true q16; have hcv18 := Kd.C_string (P := Try.prog) (A := A16) (c := c16) Try.underlying51 Try.underlying5 Try.underlying9 (by repeat (first | (with_reducible exact HR165.out) | (with_reducible refine Kd.C_alloc ?_ _) | (with_reducible refine Kd.C_drewN ?_ _) | (with_reducible refine Kd.C_drew ?_) | exact HR165.out))))
                go_ret2
                exact ⟨by first | rfl | (simp [errW_none, errW_some] <;> rfl) | (simp only [← hji11]; first | rfl | (simp [errW_none, errW_some] <;> rfl)) | (simp [*, errW_none, errW_some] <;> rfl), by repeat (first | (with_reducible first | exact HB.out | apply below_alloc | apply pw_below_drewN | apply below_drew1) | exact HB.out)⟩
              · rw [if_neg c13] at H
                exact absurd H (by simp)
            · rw [if_neg c12] at H
              exact absurd H (by simp)
          · rw [if_neg c10] at H
            have c10b0 : (a0 == 5) = false := beq_eq_false_iff_ne.mpr c10
            have c10b1 : (a0 != 5) = true := bne_iff_ne.mpr c10
            replace H := Option.bind_eq_some_iff.mp H
            obtain ⟨⟨t166, t167⟩, A190, H⟩ := H
            replace H : (if t167 = 0 then ((digits_Pack.f kj4 a0 t166).bind fun bt168 => (some (bt168.1, bt168.2))) else (some ((⟨#[]⟩ : ByteArray), t167))) = some (r1, r2) := H
            have A19 := Aside0.mk A190
            clear A190
            by_cases c20 : t167 = 0
            · rw [if_pos c20] at H
              have c20b0 : (t167 == 0) = true := beq_iff_eq.mpr c20
              have c20b1 : (t167 != 0) = false := bne_eq_false_iff_eq.mpr c20
              clear c20
              replace H := Option.bind_eq_some_iff.mp H
              obtain ⟨⟨t168, t169⟩, A210, H⟩ := H
              replace H : (some (t168, t169)) = some (r1, r2) := H
              have A21 := Aside0.mk A210
              clear A210
              simp only [Option.some.injEq, Prod.mk.injEq] at H
              obtain ⟨rfl, rfl⟩ := H
              go_wp2_with (first | ((with_reducible refine gate_callee (f := 45) rfl ?_); refine goesL_ (some 22) rfl rfl Try.func45 (by kernel_rfl) rfl #[.int .i64 a1] rfl (by (try simp only [List.map_toArray, List.map_cons, List.map_nil]); first | done | rfl | (simp only [List.length_drop, List.length_take]; rfl)) ?_; (with_reducible refine (digits_ten.calls kj4 a1 t158 _ A8.out).mono ?_); rintro e w' ⟨rfl, ⟨nd, rfl⟩⟩; refine ⟨_, rfl, ?_⟩) | ((with_reducible refine gate_callee (f := 24) rfl ?_); refine goesL_ (some 39) rfl rfl Try.func24 (by kernel_rfl) rfl #[.int .i64 a2, .int .i64 a1] rfl (by (try simp only [List.map_toArray, List.map_cons, List.map_nil]); first | done | rfl | (simp only [List.length_drop, List.length_take]; rfl)) ?_; (with_reducible refine (digits_Write.calls kj4 a2 a1 t166 t167 _ A19.out).mono ?_); rintro e w22 ⟨rfl, hb⟩; refine ⟨_, rfl, ?_⟩; have n0_ := Aside0.mk (below_step (by repeat (first | (with_reducible first | exact HB.out | apply below_alloc | apply pw_below_drewN | apply below_drew1) | exact HB.out)) hb); clear HB; have HB := n0_; clear n0_; (try clear hb); (try clear hb2); (try clear hk); (try clear hi)) | ((with_reducible refine gate_callee (f := 32) rfl ?_); refine goesL_ (some 47) rfl rfl Try.func32 (by kernel_rfl) rfl #[.int .i64 a0, .string t166] rfl (by (try simp only [List.map_toArray, List.map_cons, List.map_nil]); first | done | rfl | (simp only [List.length_drop, List.length_take]; rfl)) ?_; (with_reducible refine (digits_Pack.calls kj4 a0 t166 t168 t169 _ A21.out).mono ?_); rintro e w23 ⟨rfl, hb⟩; refine ⟨_, rfl, ?_⟩; have n0_ := Aside0.mk (below_step (by repeat (first | (with_reducible first | exact HB.out | apply below_alloc | apply pw_below_drewN | apply below_drew1) | exact HB.out)) hb); clear HB; have HB := n0_; clear n0_; (try clear hb); (try clear hb2); (try clear hk); (try clear hi)))
              go_ret2
              exact ⟨by first | rfl | (simp [errW_none, errW_some] <;> rfl) | (simp [*, errW_none, errW_some] <;> rfl), by repeat (first | (with_reducible first | exact HB.out | apply below_alloc | apply pw_below_drewN | apply below_drew1) | exact HB.out)⟩
            · rw [if_neg c20] at H
              have c20b0 : (t167 == 0) = false := beq_eq_false_iff_ne.mpr c20
              have c20b1 : (t167 != 0) = true := bne_iff_ne.mpr c20
              simp only [Option.some.injEq, Prod.mk.injEq] at H
              obtain ⟨rfl, rfl⟩ := H
              go_wp2_with (first | ((with_reducible refine gate_callee (f := 45) rfl ?_); refine goesL_ (some 22) rfl rfl Try.func45 (by kernel_rfl) rfl #[.int .i64 a1] rfl (by (try simp only [List.map_toArray, List.map_cons, List.map_nil]); first | done | rfl | (simp only [List.length_drop, List.length_take]; rfl)) ?_; (with_reducible refine (digits_ten.calls kj4 a1 t158 _ A8.out).mono ?_); rintro e w' ⟨rfl, ⟨nd, rfl⟩⟩; refine ⟨_, rfl, ?_⟩) | ((with_reducible refine gate_callee (f := 24) rfl ?_); refine goesL_ (some 39) rfl rfl Try.func24 (by kernel_rfl) rfl #[.int .i64 a2, .int .i64 a1] rfl (by (try simp only [List.map_toArray, List.map_cons, List.map_nil]); first | done | rfl | (simp only [List.length_drop, List.length_take]; rfl)) ?_; (with_reducible refine (digits_Write.calls kj4 a2 a1 t166 t167 _ A19.out).mono ?_); rintro e w24 ⟨rfl, hb⟩; refine ⟨_, rfl, ?_⟩; have n0_ := Aside0.mk (below_step (by repeat (first | (with_reducible first | exact HB.out | apply below_alloc | apply pw_below_drewN | apply below_drew1) | exact HB.out)) hb); clear HB; have HB := n0_; clear n0_; (try clear hb); (try clear hb2); (try clear hk); (try clear hi)))
              go_ret2
              exact ⟨by first | rfl | (simp [errW_none, errW_some] <;> rfl) | (simp [*, errW_none, errW_some] <;> rfl), by repeat (first | (with_reducible first | exact HB.out | apply below_alloc | apply pw_below_drewN | apply below_drew1) | exact HB.out)⟩

end Go.Proofs.Ytlpamhffpgoebaa.All

-- WRITTEN BY this session's own drv.py over the kit's print. Not trusted: Lean checks it.
namespace Go.Proofs.Ytlpamhffpgoebaa.All
open Go.RowKit Go.Proofs.YtlpamhffpgoebaaW.PrintWords Go.Proofs.YtlpamhffpgoebaaW.PrintLast Go.Proofs.YtlpamhffpgoebaaW.PrintMore
attribute [local go_sem] max2_int min2_int max_two min_two max_three min_three max_four min_four   -- for this text's walks alone
set_option linter.unusedVariables false
set_option linter.unusedSimpArgs false

/-! ### digits_Number: function 22 -/
mutual
def digits_Number.j0 : Nat → ByteArray → Bool → Option (Int × Int)
  | 0, _, _ => none
  | k + 1, x0, x12 => if x12 = true then (some (0, 1)) else (digits_Number.l0 k x0 0 (x0.size : Int) 0)
def digits_Number.l0 : Nat → ByteArray → Int → Int → Int → Option (Int × Int)
  | 0, _, _, _, _ => none
  | k + 1, x0, x4, x14, x15 => if x15 < x14 then (if 0 ≤ x15 then (if x15 < (x0.size : Int) then (if (bt x0 x15) < 48 then (some (0, 11)) else (if (bt x0 x15) > 57 then (some (0, 11)) else (digits_Number.l0 k x0 (wrap64 ((wrap64 (10 * x4)) + (((bt x0 x15) - 48) % 256))) x14 (wrap64 (x15 + 1))))) else (none)) else (none)) else (some (x4, 0))
end
def digits_Number.f (k : Nat) (a0 : ByteArray) : Option (Int × Int) := if a0.toList = ([] : List UInt8) then (digits_Number.j0 k a0 true) else (digits_Number.j0 k a0 (decide ((a0.size : Int) > 18)))
theorem digits_Number.mono_l : ∀ k, (∀ y0 y1, LeO (digits_Number.j0 k y0 y1) (digits_Number.j0 (k + 1) y0 y1)) ∧ (∀ y0 y1 y2 y3, LeO (digits_Number.l0 k y0 y1 y2 y3) (digits_Number.l0 (k + 1) y0 y1 y2 y3))
  | 0 => ⟨fun _ _ r h => by simp [digits_Number.j0] at h, fun _ _ _ _ r h => by simp [digits_Number.l0] at h⟩
  | k + 1 => by
    obtain ⟨ih0, ih1⟩ := digits_Number.mono_l k
    refine ⟨?_, ?_⟩
    · intro y0 y1
      unfold digits_Number.j0
      repeat' first
      | (with_reducible exact ih0 _ _)
      | (with_reducible exact ih1 _ _ _ _)
      | (with_reducible exact LeO.refl _)
      | (with_reducible exact LeO.none _)
      | (with_reducible refine LeO.ite ?_ ?_)
      | (with_reducible refine LeO.bind ?_ (fun _ => ?_))
      | exact ih0 _ _
      | exact ih1 _ _ _ _
      | exact LeO.none _
      | refine LeO.ite ?_ ?_
      | refine LeO.bind ?_ (fun _ => ?_)
    · intro y0 y1 y2 y3
      unfold digits_Number.l0
      repeat' first
      | (with_reducible exact ih0 _ _)
      | (with_reducible exact ih1 _ _ _ _)
      | (with_reducible exact LeO.refl _)
      | (with_reducible exact LeO.none _)
      | (with_reducible refine LeO.ite ?_ ?_)
      | (with_reducible refine LeO.bind ?_ (fun _ => ?_))
      | exact ih0 _ _
      | exact ih1 _ _ _ _
      | exact LeO.none _
      | refine LeO.ite ?_ ?_
      | refine LeO.bind ?_ (fun _ => ?_)
theorem digits_Number.mono : ∀ a0 k, LeO (digits_Number.f k a0) (digits_Number.f (k + 1) a0) := by
  intro a0 k
  obtain ⟨ih0, ih1⟩ := digits_Number.mono_l k
  unfold digits_Number.f
  repeat' first
      | (with_reducible exact ih0 _ _)
      | (with_reducible exact ih1 _ _ _ _)
      | (with_reducible exact LeO.refl _)
      | (with_reducible exact LeO.none _)
      | (with_reducible refine LeO.ite ?_ ?_)
      | (with_reducible refine LeO.bind ?_ (fun _ => ?_))
      | exact ih0 _ _
      | exact ih1 _ _ _ _
      | exact LeO.none _
      | refine LeO.ite ?_ ?_
      | refine LeO.bind ?_ (fun _ => ?_)
set_option maxHeartbeats 8000000 in
set_option maxRecDepth 100000 in
theorem digits_Number.calls (k : Nat) (a0 : ByteArray) (r1 : Int) (r2 : Int) (w : World) (h : digits_Number.f k a0 = some (r1, r2)) :
    Calls Try.prog 22 #[.string a0] w fun e w' => e = .returned (.tuple #[.int .i64 r1, .int .i64 r2]) ∧ Drawn0 w w' := by
  have H : (if a0.toList = ([] : List UInt8) then (digits_Number.j0 k a0 true) else (digits_Number.j0 k a0 (decide ((a0.size : Int) > 18)))) = some (r1, r2) := h
  clear h
  have HC2 := Aside0.mk H
  clear H
  go_enter Try.func22, Try.ntmps22
  go_upto_region 1 with (fail)
  go_cut [12] (fun v12 wc => ∃ (kq : Nat) (x12_1 : Bool), v12 = .bool x12_1 ∧ Aside0 (digits_Number.j0 kq a0 x12_1 = some (r1, r2)) ∧ Aside0 (kq ≤ k) ∧ Drawn0 w wc)
  case first =>
    have H := HC2.out
    clear HC2
    by_cases c3 : a0.toList = ([] : List UInt8)
    · rw [if_pos c3] at H
      have c3b0 : (a0.toList == ([] : List UInt8)) = true := beq_iff_eq.mpr c3
      have c3b1 : (a0.toList != ([] : List UInt8)) = false := bne_eq_false_iff_eq.mpr c3
      clear c3
      (first | rw [c3b0] | (simp only [i64_w, i32_w]; rw [c3b0]) | skip)
      have H' := Aside0.mk H
      clear H
      go_wp2
      go_meet
      case rel => exact ⟨_, (true), (by first | rfl | (simp; done) | (simp [*]; done)), H', ⟨by first | omega | exact Nat.le_refl _⟩, by repeat (first | exact Drawn0.refl _ | apply Drawn0.step)⟩
    · rw [if_neg c3] at H
      have c3b0 : (a0.toList == ([] : List UInt8)) = false := beq_eq_false_iff_ne.mpr c3
      have c3b1 : (a0.toList != ([] : List UInt8)) = true := bne_iff_ne.mpr c3
      (first | rw [c3b0] | (simp only [i64_w, i32_w]; rw [c3b0]) | skip)
      have H' := Aside0.mk H
      clear H
      go_wp2
      go_meet
      case rel => exact ⟨_, (decide ((a0.size : Int) > 18)), (by first | rfl | (simp; done) | (simp [*]; done)), H', ⟨by first | omega | exact Nat.le_refl _⟩, by repeat (first | exact Drawn0.refl _ | apply Drawn0.step)⟩
  case rest =>
    clear HC2
    try clear c2
    try clear p2
    try clear c3
    try clear c3b0
    try clear c3b1
    obtain ⟨kq, x12_1, rfl, HA, HJ1, ⟨mc1, rfl⟩⟩ := hcut
    cases kq with
    | zero => exact absurd HA.out (by simp [digits_Number.j0])
    | succ kj1 =>
      have H := HA.out
      clear HA
      simp only [digits_Number.j0] at H
      by_cases c4 : x12_1 = true
      · subst c4
        have H1 : (some (0, 1)) = some (r1, r2) := by rw [if_pos rfl] at H; exact H
        clear H
        have H := H1
        clear H1
        simp only [Option.some.injEq, Prod.mk.injEq] at H
        obtain ⟨rfl, rfl⟩ := H
        go_wp2
        go_ret2
        exact ⟨by first | rfl | (simp; done) | (simp [*]; done), by repeat (first | exact Drawn0.refl _ | apply Drawn0.step)⟩
      · replace c4 := Bool.eq_false_iff.mpr c4
        subst c4
        have H1 : (digits_Number.l0 kj1 a0 0 (a0.size : Int) 0) = some (r1, r2) := by rw [if_neg (show ¬ (false = true) by decide)] at H; exact H
        clear H
        have H := H1
        clear H1
        have H' := Aside0.mk H
        clear H
        go_wp2
        go_loopg [4, 15] kj1 (fun kq v4 v15 w' => ∃ (x4_2 : Int) (x15_2 : Int), v4 = .int .i64 x4_2 ∧ v15 = .int .i64 x15_2 ∧ Aside0 (digits_Number.l0 kq a0 x4_2 (a0.size : Int) x15_2 = some (r1, r2)) ∧ Aside0 (kq ≤ kj1) ∧ Drawn0 w w')
        case atStart => exact ⟨(0), (0), (by first | rfl | (simp; done) | (simp [*]; done)), (by first | rfl | (simp; done) | (simp [*]; done)), H', ⟨Nat.le_refl _⟩, by repeat (first | exact Drawn0.refl _ | apply Drawn0.step)⟩
        case round =>
          clear H'
          try clear c1
          try clear c2
          try clear p2
          try clear c3
          try clear c3b0
          try clear c3b1
          try clear c4
          try clear p2
          obtain ⟨x4_2, x15_2, rfl, rfl, HA, HK2, ⟨m2, rfl⟩⟩ := hrel
          cases gk with
          | zero => exact absurd HA.out (by simp [digits_Number.l0])
          | succ k2 =>
            have H := HA.out
            clear HA
            simp only [digits_Number.l0] at H
            by_cases c5 : x15_2 < (a0.size : Int)
            · rw [if_pos c5] at H
              have c5b0 : decide (x15_2 < (a0.size : Int)) = true := decide_eq_true c5
              clear c5
              by_cases c6 : 0 ≤ x15_2
              · rw [if_pos c6] at H
                have c6b0 : decide (0 ≤ x15_2) = true := decide_eq_true c6
                clear c6
                by_cases c7 : x15_2 < (a0.size : Int)
                · rw [if_pos c7] at H
                  have c7b0 : decide (x15_2 < (a0.size : Int)) = true := decide_eq_true c7
                  clear c7
                  by_cases c9 : (bt a0 x15_2) < 48
                  · rw [if_pos c9] at H
                    have c9b0 : decide ((bt a0 x15_2) < 48) = true := decide_eq_true c9
                    clear c9
                    simp only [Option.some.injEq, Prod.mk.injEq] at H
                    obtain ⟨rfl, rfl⟩ := H
                    have p8 : 0 ≤ (x15_2 : Int) := of_decide_eq_true (by first | (with_reducible assumption) | assumption)
                    have q8 : x15_2 < (a0.size : Int) := of_decide_eq_true (by first | (with_reducible assumption) | assumption)
                    have hx8 := bt_at a0 x15_2
                    replace p8 := eq_true p8
                    replace q8 := eq_true q8
                    go_wp2
                    go_ret2
                    exact ⟨by first | rfl | (simp; done) | (simp [*]; done), by repeat (first | exact Drawn0.refl _ | apply Drawn0.step)⟩
                  · rw [if_neg c9] at H
                    have c9b0 : decide ((bt a0 x15_2) < 48) = false := decide_eq_false c9
                    clear c9
                    by_cases c11 : (bt a0 x15_2) > 57
                    · rw [if_pos c11] at H
                      have c11b0 : decide (57 < (bt a0 x15_2)) = true := decide_eq_true c11
                      clear c11
                      simp only [Option.some.injEq, Prod.mk.injEq] at H
                      obtain ⟨rfl, rfl⟩ := H
                      have p8 : 0 ≤ (x15_2 : Int) := of_decide_eq_true (by first | (with_reducible assumption) | assumption)
                      have q8 : x15_2 < (a0.size : Int) := of_decide_eq_true (by first | (with_reducible assumption) | assumption)
                      have hx8 := bt_at a0 x15_2
                      replace p8 := eq_true p8
                      replace q8 := eq_true q8
                      have p10 : 0 ≤ (x15_2 : Int) := of_decide_eq_true (by first | (with_reducible assumption) | assumption)
                      have q10 : x15_2 < (a0.size : Int) := of_decide_eq_true (by first | (with_reducible assumption) | assumption)
                      have hx10 := bt_at a0 x15_2
                      replace p10 := eq_true p10
                      replace q10 := eq_true q10
                      go_wp2
                      go_ret2
                      exact ⟨by first | rfl | (simp; done) | (simp [*]; done), by repeat (first | exact Drawn0.refl _ | apply Drawn0.step)⟩
                    · rw [if_neg c11] at H
                      have c11b0 : decide (57 < (bt a0 x15_2)) = false := decide_eq_false c11
                      clear c11
                      have H' := Aside0.mk H
                      clear H
                      have p8 : 0 ≤ (x15_2 : Int) := of_decide_eq_true (by first | (with_reducible assumption) | assumption)
                      have q8 : x15_2 < (a0.size : Int) := of_decide_eq_true (by first | (with_reducible assumption) | assumption)
                      have hx8 := bt_at a0 x15_2
                      replace p8 := eq_true p8
                      replace q8 := eq_true q8
                      have p10 : 0 ≤ (x15_2 : Int) := of_decide_eq_true (by first | (with_reducible assumption) | assumption)
                      have q10 : x15_2 < (a0.size : Int) := of_decide_eq_true (by first | (with_reducible assumption) | assumption)
                      have hx10 := bt_at a0 x15_2
                      replace p10 := eq_true p10
                      replace q10 := eq_true q10
                      have p12 : 0 ≤ (x15_2 : Int) := of_decide_eq_true (by first | (with_reducible assumption) | assumption)
                      have q12 : x15_2 < (a0.size : Int) := of_decide_eq_true (by first | (with_reducible assumption) | assumption)
                      have hx12 := bt_at a0 x15_2
                      replace p12 := eq_true p12
                      replace q12 := eq_true q12
                      go_wp2
                      go_roundg k2
                      case measure => have := HJ1.out; have := HK2.out; omega
                      case rel => exact ⟨(wrap64 ((wrap64 (10 * x4_2)) + (((bt a0 x15_2) - 48) % 256))), (wrap64 (x15_2 + 1)), (by first | rfl | (simp; done) | (simp [*]; done)), (by first | rfl | (simp; done) | (simp [*]; done)), H', ⟨by have := HJ1.out; have := HK2.out; omega⟩, by repeat (first | exact Drawn0.refl _ | apply Drawn0.step)⟩
                · rw [if_neg c7] at H
                  exact absurd H (by simp)
              · rw [if_neg c6] at H
                exact absurd H (by simp)
            · rw [if_neg c5] at H
              have c5b0 : decide (x15_2 < (a0.size : Int)) = false := decide_eq_false c5
              clear c5
              simp only [Option.some.injEq, Prod.mk.injEq] at H
              obtain ⟨rfl, rfl⟩ := H
              go_wp2
              go_ret2
              exact ⟨by first | rfl | (simp; done) | (simp [*]; done), by repeat (first | exact Drawn0.refl _ | apply Drawn0.step)⟩

end Go.Proofs.Ytlpamhffpgoebaa.All

-- WRITTEN BY this session's own drv.py over the kit's print. Not trusted: Lean checks it.
namespace Go.Proofs.Ytlpamhffpgoebaa.All
open Go.RowKit Go.Proofs.YtlpamhffpgoebaaW.PrintWords Go.Proofs.YtlpamhffpgoebaaW.PrintLast Go.Proofs.YtlpamhffpgoebaaW.PrintMore
attribute [local go_sem] max2_int min2_int max_two min_two max_three min_three max_four min_four   -- for this text's walks alone
set_option linter.unusedVariables false
set_option linter.unusedSimpArgs false

/-! ### turnstileref1_Number: function 23 -/
mutual
def turnstileref1_Number.j0 : Nat → ByteArray → Bool → Option (Int × Int)
  | 0, _, _ => none
  | k + 1, x0, x14 => if x14 = true then (some (0, 1)) else (turnstileref1_Number.l0 k x0 0 0)
def turnstileref1_Number.l0 : Nat → ByteArray → Int → Int → Option (Int × Int)
  | 0, _, _, _ => none
  | k + 1, x0, x4, x5 => if x5 < (x0.size : Int) then (if 0 ≤ x5 then ((turnstileref1_digit.f (bt x0 x5)).bind fun t115 => (if t115 = true then (turnstileref1_Number.l0 k x0 (wrap64 ((wrap64 (10 * x4)) + (((bt x0 x5) - 48) % 256))) (wrap64 (x5 + 1))) else (some (0, 11)))) else (none)) else (some (x4, 0))
end
def turnstileref1_Number.f (k : Nat) (a0 : ByteArray) : Option (Int × Int) := if (a0.size : Int) < 1 then (turnstileref1_Number.j0 k a0 true) else (turnstileref1_Number.j0 k a0 (decide ((a0.size : Int) > 18)))
theorem turnstileref1_Number.mono_l : ∀ k, (∀ y0 y1, LeO (turnstileref1_Number.j0 k y0 y1) (turnstileref1_Number.j0 (k + 1) y0 y1)) ∧ (∀ y0 y1 y2, LeO (turnstileref1_Number.l0 k y0 y1 y2) (turnstileref1_Number.l0 (k + 1) y0 y1 y2))
  | 0 => ⟨fun _ _ r h => by simp [turnstileref1_Number.j0] at h, fun _ _ _ r h => by simp [turnstileref1_Number.l0] at h⟩
  | k + 1 => by
    obtain ⟨ih0, ih1⟩ := turnstileref1_Number.mono_l k
    refine ⟨?_, ?_⟩
    · intro y0 y1
      unfold turnstileref1_Number.j0
      repeat' first
      | (with_reducible exact ih0 _ _)
      | (with_reducible exact ih1 _ _ _)
      | (with_reducible exact LeO.refl _)
      | (with_reducible exact LeO.none _)
      | (with_reducible refine LeO.ite ?_ ?_)
      | (with_reducible refine LeO.bind ?_ (fun _ => ?_))
      | exact ih0 _ _
      | exact ih1 _ _ _
      | exact LeO.none _
      | refine LeO.ite ?_ ?_
      | refine LeO.bind ?_ (fun _ => ?_)
    · intro y0 y1 y2
      unfold turnstileref1_Number.l0
      repeat' first
      | (with_reducible exact ih0 _ _)
      | (with_reducible exact ih1 _ _ _)
      | (with_reducible exact LeO.refl _)
      | (with_reducible exact LeO.none _)
      | (with_reducible refine LeO.ite ?_ ?_)
      | (with_reducible refine LeO.bind ?_ (fun _ => ?_))
      | exact ih0 _ _
      | exact ih1 _ _ _
      | exact LeO.none _
      | refine LeO.ite ?_ ?_
      | refine LeO.bind ?_ (fun _ => ?_)
theorem turnstileref1_Number.mono : ∀ a0 k, LeO (turnstileref1_Number.f k a0) (turnstileref1_Number.f (k + 1) a0) := by
  intro a0 k
  obtain ⟨ih0, ih1⟩ := turnstileref1_Number.mono_l k
  unfold turnstileref1_Number.f
  repeat' first
      | (with_reducible exact ih0 _ _)
      | (with_reducible exact ih1 _ _ _)
      | (with_reducible exact LeO.refl _)
      | (with_reducible exact LeO.none _)
      | (with_reducible refine LeO.ite ?_ ?_)
      | (with_reducible refine LeO.bind ?_ (fun _ => ?_))
      | exact ih0 _ _
      | exact ih1 _ _ _
      | exact LeO.none _
      | refine LeO.ite ?_ ?_
      | refine LeO.bind ?_ (fun _ => ?_)
set_option maxHeartbeats 8000000 in
set_option maxRecDepth 100000 in
theorem turnstileref1_Number.calls (k : Nat) (a0 : ByteArray) (r1 : Int) (r2 : Int) (w : World) (h : turnstileref1_Number.f k a0 = some (r1, r2)) :
    Calls Try.prog 23 #[.string a0] w fun e w' => e = .returned (.tuple #[.int .i64 r1, .int .i64 r2]) ∧ Drawn0 w w' := by
  have H : (if (a0.size : Int) < 1 then (turnstileref1_Number.j0 k a0 true) else (turnstileref1_Number.j0 k a0 (decide ((a0.size : Int) > 18)))) = some (r1, r2) := h
  clear h
  have HC2 := Aside0.mk H
  clear H
  go_enter Try.func23, Try.ntmps23
  go_upto_region 1 with (fail)
  go_cut [14] (fun v14 wc => ∃ (kq : Nat) (x14_1 : Bool), v14 = .bool x14_1 ∧ Aside0 (turnstileref1_Number.j0 kq a0 x14_1 = some (r1, r2)) ∧ Aside0 (kq ≤ k) ∧ Drawn0 w wc)
  case first =>
    have H := HC2.out
    clear HC2
    by_cases c3 : (a0.size : Int) < 1
    · rw [if_pos c3] at H
      have c3b0 : decide ((a0.size : Int) < 1) = true := decide_eq_true c3
      have c3b1 : decide (a0.size < 1) = true := decide_eq_true (by omega)
      clear c3
      (first | rw [c3b0] | (simp only [i64_w, i32_w]; rw [c3b0]) | skip)
      have H' := Aside0.mk H
      clear H
      go_wp2
      go_meet
      case rel => exact ⟨_, (true), (by first | rfl | (simp; done) | (simp [*]; done)), H', ⟨by first | omega | exact Nat.le_refl _⟩, by repeat (first | exact Drawn0.refl _ | apply Drawn0.step)⟩
    · rw [if_neg c3] at H
      have c3b0 : decide ((a0.size : Int) < 1) = false := decide_eq_false c3
      have c3b1 : decide (a0.size < 1) = false := decide_eq_false (by omega)
      clear c3
      (first | rw [c3b0] | (simp only [i64_w, i32_w]; rw [c3b0]) | skip)
      have H' := Aside0.mk H
      clear H
      go_wp2
      go_meet
      case rel => exact ⟨_, (decide ((a0.size : Int) > 18)), (by first | rfl | (simp; done) | (simp [*]; done)), H', ⟨by first | omega | exact Nat.le_refl _⟩, by repeat (first | exact Drawn0.refl _ | apply Drawn0.step)⟩
  case rest =>
    clear HC2
    try clear c2
    try clear p2
    try clear c3
    try clear c3b0
    try clear c3b1
    obtain ⟨kq, x14_1, rfl, HA, HJ1, ⟨mc1, rfl⟩⟩ := hcut
    cases kq with
    | zero => exact absurd HA.out (by simp [turnstileref1_Number.j0])
    | succ kj1 =>
      have H := HA.out
      clear HA
      simp only [turnstileref1_Number.j0] at H
      by_cases c4 : x14_1 = true
      · subst c4
        have H1 : (some (0, 1)) = some (r1, r2) := by rw [if_pos rfl] at H; exact H
        clear H
        have H := H1
        clear H1
        simp only [Option.some.injEq, Prod.mk.injEq] at H
        obtain ⟨rfl, rfl⟩ := H
        go_wp2
        go_ret2
        exact ⟨by first | rfl | (simp; done) | (simp [*]; done), by repeat (first | exact Drawn0.refl _ | apply Drawn0.step)⟩
      · replace c4 := Bool.eq_false_iff.mpr c4
        subst c4
        have H1 : (turnstileref1_Number.l0 kj1 a0 0 0) = some (r1, r2) := by rw [if_neg (show ¬ (false = true) by decide)] at H; exact H
        clear H
        have H := H1
        clear H1
        have H' := Aside0.mk H
        clear H
        go_wp2
        go_loopg [4, 5] kj1 (fun kq v4 v5 w' => ∃ (x4_2 : Int) (x5_2 : Int), v4 = .int .i64 x4_2 ∧ v5 = .int .i64 x5_2 ∧ Aside0 (turnstileref1_Number.l0 kq a0 x4_2 x5_2 = some (r1, r2)) ∧ Aside0 (kq ≤ kj1) ∧ Drawn0 w w')
        case atStart => exact ⟨(0), (0), (by first | rfl | (simp; done) | (simp [*]; done)), (by first | rfl | (simp; done) | (simp [*]; done)), H', ⟨Nat.le_refl _⟩, by repeat (first | exact Drawn0.refl _ | apply Drawn0.step)⟩
        case round =>
          clear H'
          try clear c1
          try clear c2
          try clear p2
          try clear c3
          try clear c3b0
          try clear c3b1
          try clear c4
          try clear p2
          obtain ⟨x4_2, x5_2, rfl, rfl, HA, HK2, ⟨m2, rfl⟩⟩ := hrel
          cases gk with
          | zero => exact absurd HA.out (by simp [turnstileref1_Number.l0])
          | succ k2 =>
            have H := HA.out
            clear HA
            simp only [turnstileref1_Number.l0] at H
            by_cases c5 : x5_2 < (a0.size : Int)
            · rw [if_pos c5] at H
              have c5b0 : decide (x5_2 < (a0.size : Int)) = true := decide_eq_true c5
              clear c5
              by_cases c6 : 0 ≤ x5_2
              · rw [if_pos c6] at H
                have c6b0 : decide (0 ≤ x5_2) = true := decide_eq_true c6
                clear c6
                replace H := Option.bind_eq_some_iff.mp H
                obtain ⟨t115, A80, H⟩ := H
                replace H : (if t115 = true then (turnstileref1_Number.l0 k2 a0 (wrap64 ((wrap64 (10 * x4_2)) + (((bt a0 x5_2) - 48) % 256))) (wrap64 (x5_2 + 1))) else (some (0, 11))) = some (r1, r2) := H
                have A8 := Aside0.mk A80
                clear A80
                by_cases c9 : t115 = true
                · subst c9
                  have H1 : (turnstileref1_Number.l0 k2 a0 (wrap64 ((wrap64 (10 * x4_2)) + (((bt a0 x5_2) - 48) % 256))) (wrap64 (x5_2 + 1))) = some (r1, r2) := by rw [if_pos rfl] at H; exact H
                  clear H
                  have H := H1
                  clear H1
                  have H' := Aside0.mk H
                  clear H
                  have p7 : 0 ≤ (x5_2 : Int) := of_decide_eq_true (by first | (with_reducible assumption) | assumption)
                  have q7 : x5_2 < (a0.size : Int) := of_decide_eq_true (by first | (with_reducible assumption) | assumption)
                  have hx7 := bt_at a0 x5_2
                  replace p7 := eq_true p7
                  replace q7 := eq_true q7
                  go_wp2_with (first | ((with_reducible refine gate_callee (f := 42) rfl ?_); refine goesL_ (some 24) rfl rfl Try.func42 (by kernel_rfl) rfl #[.int .u8 (bt a0 x5_2)] rfl (by (try simp only [List.map_toArray, List.map_cons, List.map_nil]); first | done | rfl | (simp only [List.length_drop, List.length_take]; rfl)) ?_; (with_reducible refine (turnstileref1_digit.calls (bt a0 x5_2) true _ A8.out).mono ?_); rintro e w' ⟨rfl, ⟨nd, rfl⟩⟩; refine ⟨_, rfl, ?_⟩; have p10 : 0 ≤ (x5_2 : Int) := of_decide_eq_true (by first | (with_reducible assumption) | assumption); have q10 : x5_2 < (a0.size : Int) := of_decide_eq_true (by first | (with_reducible assumption) | assumption); have hx10 := bt_at a0 x5_2; replace p10 := eq_true p10; replace q10 := eq_true q10))
                  go_roundg k2
                  case measure => have := HJ1.out; have := HK2.out; omega
                  case rel => exact ⟨(wrap64 ((wrap64 (10 * x4_2)) + (((bt a0 x5_2) - 48) % 256))), (wrap64 (x5_2 + 1)), (by first | rfl | (simp; done) | (simp [*]; done)), (by first | rfl | (simp; done) | (simp [*]; done)), H', ⟨by have := HJ1.out; have := HK2.out; omega⟩, by repeat (first | exact Drawn0.refl _ | apply Drawn0.step)⟩
                · replace c9 := Bool.eq_false_iff.mpr c9
                  subst c9
                  have H1 : (some (0, 11)) = some (r1, r2) := by rw [if_neg (show ¬ (false = true) by decide)] at H; exact H
                  clear H
                  have H := H1
                  clear H1
                  simp only [Option.some.injEq, Prod.mk.injEq] at H
                  obtain ⟨rfl, rfl⟩ := H
                  have p7 : 0 ≤ (x5_2 : Int) := of_decide_eq_true (by first | (with_reducible assumption) | assumption)
                  have q7 : x5_2 < (a0.size : Int) := of_decide_eq_true (by first | (with_reducible assumption) | assumption)
                  have hx7 := bt_at a0 x5_2
                  replace p7 := eq_true p7
                  replace q7 := eq_true q7
                  go_wp2_with (first | ((with_reducible refine gate_callee (f := 42) rfl ?_); refine goesL_ (some 24) rfl rfl Try.func42 (by kernel_rfl) rfl #[.int .u8 (bt a0 x5_2)] rfl (by (try simp only [List.map_toArray, List.map_cons, List.map_nil]); first | done | rfl | (simp only [List.length_drop, List.length_take]; rfl)) ?_; (with_reducible refine (turnstileref1_digit.calls (bt a0 x5_2) false _ A8.out).mono ?_); rintro e w' ⟨rfl, ⟨nd, rfl⟩⟩; refine ⟨_, rfl, ?_⟩))
                  go_ret2
                  exact ⟨by first | rfl | (simp; done) | (simp [*]; done), by repeat (first | exact Drawn0.refl _ | apply Drawn0.step)⟩
              · rw [if_neg c6] at H
                exact absurd H (by simp)
            · rw [if_neg c5] at H
              have c5b0 : decide (x5_2 < (a0.size : Int)) = false := decide_eq_false c5
              clear c5
              simp only [Option.some.injEq, Prod.mk.injEq] at H
              obtain ⟨rfl, rfl⟩ := H
              go_wp2
              go_ret2
              exact ⟨by first | rfl | (simp; done) | (simp [*]; done), by repeat (first | exact Drawn0.refl _ | apply Drawn0.step)⟩

end Go.Proofs.Ytlpamhffpgoebaa.All

-- WRITTEN BY this session's own drv.py over the kit's print. Not trusted: Lean checks it.
namespace Go.Proofs.Ytlpamhffpgoebaa.All
open Go.RowKit Go.Proofs.YtlpamhffpgoebaaW.PrintWords Go.Proofs.YtlpamhffpgoebaaW.PrintLast Go.Proofs.YtlpamhffpgoebaaW.PrintMore
attribute [local go_sem] max2_int min2_int max_two min_two max_three min_three max_four min_four   -- for this text's walks alone
set_option linter.unusedVariables false
set_option linter.unusedSimpArgs false

/-! ### turnstileref1_Write: function 25 -/
mutual
def turnstileref1_Write.j0 : Nat → Int → Int → Bool → Option (ByteArray × Int)
  | 0, _, _, _ => none
  | k + 1, x0, x1, x17 => if x17 = true then (some ((⟨#[]⟩ : ByteArray), 1)) else ((turnstileref1_power.f k x1).bind fun t120 => (if x0 ≥ t120 then (some ((⟨#[]⟩ : ByteArray), 13)) else (turnstileref1_Write.l0 k x0 x1 (⟨#[]⟩ : ByteArray) 0)))
def turnstileref1_Write.l0 : Nat → Int → Int → ByteArray → Int → Option (ByteArray × Int)
  | 0, _, _, _, _ => none
  | k + 1, x0, x1, x6, x7 => if x7 < x1 then (if 0 ≤ (Int.tmod x0 10) then (if (Int.tmod x0 10) ≤ (wrap64 ((Int.tmod x0 10) + 1)) then (if (wrap64 ((Int.tmod x0 10) + 1)) ≤ 16 then (if ((⟨#[48, 49, 50, 51, 52, 53, 54, 55, 56, 57, 65, 66, 67, 68, 69, 70]⟩ : ByteArray).extract ((Int.tmod x0 10) : Int).toNat ((wrap64 ((Int.tmod x0 10) + 1)) : Int).toNat).size + x6.size ≤ 9223372036854775807 then (turnstileref1_Write.l0 k (wrap64 (Int.tdiv x0 10)) x1 (((⟨#[48, 49, 50, 51, 52, 53, 54, 55, 56, 57, 65, 66, 67, 68, 69, 70]⟩ : ByteArray).extract ((Int.tmod x0 10) : Int).toNat ((wrap64 ((Int.tmod x0 10) + 1)) : Int).toNat) ++ x6) (wrap64 (x7 + 1))) else (none)) else (none)) else (none)) else (none)) else (some (x6, 0))
end
def turnstileref1_Write.f (k : Nat) (a0 : Int) (a1 : Int) : Option (ByteArray × Int) := if a0 < 0 then (turnstileref1_Write.j0 k a0 a1 true) else (if a1 < 1 then (turnstileref1_Write.j0 k a0 a1 true) else (turnstileref1_Write.j0 k a0 a1 (decide (a1 > 18))))
theorem turnstileref1_Write.mono_l : ∀ k, (∀ y0 y1 y2, LeO (turnstileref1_Write.j0 k y0 y1 y2) (turnstileref1_Write.j0 (k + 1) y0 y1 y2)) ∧ (∀ y0 y1 y2 y3, LeO (turnstileref1_Write.l0 k y0 y1 y2 y3) (turnstileref1_Write.l0 (k + 1) y0 y1 y2 y3))
  | 0 => ⟨fun _ _ _ r h => by simp [turnstileref1_Write.j0] at h, fun _ _ _ _ r h => by simp [turnstileref1_Write.l0] at h⟩
  | k + 1 => by
    obtain ⟨ih0, ih1⟩ := turnstileref1_Write.mono_l k
    refine ⟨?_, ?_⟩
    · intro y0 y1 y2
      unfold turnstileref1_Write.j0
      repeat' first
      | (with_reducible exact ih0 _ _ _)
      | (with_reducible exact ih1 _ _ _ _)
      | (with_reducible exact turnstileref1_power.mono _ _)
      | (with_reducible exact LeO.refl _)
      | (with_reducible exact LeO.none _)
      | (with_reducible refine LeO.ite ?_ ?_)
      | (with_reducible refine LeO.bind ?_ (fun _ => ?_))
      | exact ih0 _ _ _
      | exact ih1 _ _ _ _
      | exact turnstileref1_power.mono _ _
      | exact LeO.none _
      | refine LeO.ite ?_ ?_
      | refine LeO.bind ?_ (fun _ => ?_)
    · intro y0 y1 y2 y3
      unfold turnstileref1_Write.l0
      repeat' first
      | (with_reducible exact ih0 _ _ _)
      | (with_reducible exact ih1 _ _ _ _)
      | (with_reducible exact turnstileref1_power.mono _ _)
      | (with_reducible exact LeO.refl _)
      | (with_reducible exact LeO.none _)
      | (with_reducible refine LeO.ite ?_ ?_)
      | (with_reducible refine LeO.bind ?_ (fun _ => ?_))
      | exact ih0 _ _ _
      | exact ih1 _ _ _ _
      | exact turnstileref1_power.mono _ _
      | exact LeO.none _
      | refine LeO.ite ?_ ?_
      | refine LeO.bind ?_ (fun _ => ?_)
theorem turnstileref1_Write.mono : ∀ a0 a1 k, LeO (turnstileref1_Write.f k a0 a1) (turnstileref1_Write.f (k + 1) a0 a1) := by
  intro a0 a1 k
  obtain ⟨ih0, ih1⟩ := turnstileref1_Write.mono_l k
  unfold turnstileref1_Write.f
  repeat' first
      | (with_reducible exact ih0 _ _ _)
      | (with_reducible exact ih1 _ _ _ _)
      | (with_reducible exact turnstileref1_power.mono _ _)
      | (with_reducible exact LeO.refl _)
      | (with_reducible exact LeO.none _)
      | (with_reducible refine LeO.ite ?_ ?_)
      | (with_reducible refine LeO.bind ?_ (fun _ => ?_))
      | exact ih0 _ _ _
      | exact ih1 _ _ _ _
      | exact turnstileref1_power.mono _ _
      | exact LeO.none _
      | refine LeO.ite ?_ ?_
      | refine LeO.bind ?_ (fun _ => ?_)
set_option maxHeartbeats 8000000 in
set_option maxRecDepth 100000 in
theorem turnstileref1_Write.calls (k : Nat) (a0 : Int) (a1 : Int) (r1 : ByteArray) (r2 : Int) (w : World) (h : turnstileref1_Write.f k a0 a1 = some (r1, r2)) :
    Calls Try.prog 25 #[.int .i64 a0, .int .i64 a1] w fun e w' => e = .returned (.tuple #[.string r1, .int .i64 r2]) ∧ Drawn0 w w' := by
  have H : (if a0 < 0 then (turnstileref1_Write.j0 k a0 a1 true) else (if a1 < 1 then (turnstileref1_Write.j0 k a0 a1 true) else (turnstileref1_Write.j0 k a0 a1 (decide (a1 > 18))))) = some (r1, r2) := h
  clear h
  have HC3 := Aside0.mk H
  clear H
  go_enter Try.func25, Try.ntmps25
  go_upto_region 1 with (fail)
  go_cut [17] (fun v17 wc => ∃ (kq : Nat) (x17_2 : Bool), v17 = .bool x17_2 ∧ Aside0 (turnstileref1_Write.j0 kq a0 a1 x17_2 = some (r1, r2)) ∧ Aside0 (kq ≤ k) ∧ Drawn0 w wc)
  case first =>
    have H := HC3.out
    clear HC3
    by_cases c4 : a0 < 0
    · rw [if_pos c4] at H
      have c4b0 : decide (a0 < 0) = true := decide_eq_true c4
      clear c4
      (first | rw [c4b0] | (simp only [i64_w, i32_w]; rw [c4b0]) | skip)
      have H' := Aside0.mk H
      clear H
      go_wp2
      go_meet
      case rel => exact ⟨_, (true), (by first | rfl | (simp; done) | (simp [*]; done)), H', ⟨by first | omega | exact Nat.le_refl _⟩, by repeat (first | exact Drawn0.refl _ | apply Drawn0.step)⟩
    · rw [if_neg c4] at H
      have c4b0 : decide (a0 < 0) = false := decide_eq_false c4
      clear c4
      (first | rw [c4b0] | (simp only [i64_w, i32_w]; rw [c4b0]) | skip)
      by_cases c5 : a1 < 1
      · rw [if_pos c5] at H
        have c5b0 : decide (a1 < 1) = true := decide_eq_true c5
        clear c5
        have H' := Aside0.mk H
        clear H
        go_wp2
        go_meet
        case rel => exact ⟨_, (true), (by first | rfl | (simp; done) | (simp [*]; done)), H', ⟨by first | omega | exact Nat.le_refl _⟩, by repeat (first | exact Drawn0.refl _ | apply Drawn0.step)⟩
      · rw [if_neg c5] at H
        have c5b0 : decide (a1 < 1) = false := decide_eq_false c5
        clear c5
        have H' := Aside0.mk H
        clear H
        go_wp2
        go_meet
        case rel => exact ⟨_, (decide (a1 > 18)), (by first | rfl | (simp; done) | (simp [*]; done)), H', ⟨by first | omega | exact Nat.le_refl _⟩, by repeat (first | exact Drawn0.refl _ | apply Drawn0.step)⟩
  case rest =>
    clear HC3
    try clear c2
    try clear p2
    try clear c4
    try clear c4b0
    try clear c5
    try clear c5b0
    obtain ⟨kq, x17_2, rfl, HA, HJ2, ⟨mc2, rfl⟩⟩ := hcut
    cases kq with
    | zero => exact absurd HA.out (by simp [turnstileref1_Write.j0])
    | succ kj2 =>
      have H := HA.out
      clear HA
      simp only [turnstileref1_Write.j0] at H
      by_cases c6 : x17_2 = true
      · subst c6
        have H1 : (some ((⟨#[]⟩ : ByteArray), 1)) = some (r1, r2) := by rw [if_pos rfl] at H; exact H
        clear H
        have H := H1
        clear H1
        simp only [Option.some.injEq, Prod.mk.injEq] at H
        obtain ⟨rfl, rfl⟩ := H
        go_wp2
        go_ret2
        exact ⟨by first | rfl | (simp; done) | (simp [*]; done), by repeat (first | exact Drawn0.refl _ | apply Drawn0.step)⟩
      · replace c6 := Bool.eq_false_iff.mpr c6
        subst c6
        have H1 : ((turnstileref1_power.f kj2 a1).bind fun t120 => (if a0 ≥ t120 then (some ((⟨#[]⟩ : ByteArray), 13)) else (turnstileref1_Write.l0 kj2 a0 a1 (⟨#[]⟩ : ByteArray) 0))) = some (r1, r2) := by rw [if_neg (show ¬ (false = true) by decide)] at H; exact H
        clear H
        have H := H1
        clear H1
        replace H := Option.bind_eq_some_iff.mp H
        obtain ⟨t120, A70, H⟩ := H
        replace H : (if a0 ≥ t120 then (some ((⟨#[]⟩ : ByteArray), 13)) else (turnstileref1_Write.l0 kj2 a0 a1 (⟨#[]⟩ : ByteArray) 0)) = some (r1, r2) := H
        have A7 := Aside0.mk A70
        clear A70
        by_cases c8 : a0 ≥ t120
        · rw [if_pos c8] at H
          have c8b0 : decide (t120 ≤ a0) = true := decide_eq_true c8
          clear c8
          simp only [Option.some.injEq, Prod.mk.injEq] at H
          obtain ⟨rfl, rfl⟩ := H
          go_wp2_with (first | ((with_reducible refine gate_callee (f := 43) rfl ?_); refine goesL_ (some 20) rfl rfl Try.func43 (by kernel_rfl) rfl #[.int .i64 a1] rfl (by (try simp only [List.map_toArray, List.map_cons, List.map_nil]); first | done | rfl | (simp only [List.length_drop, List.length_take]; rfl)) ?_; (with_reducible refine (turnstileref1_power.calls kj2 a1 t120 _ A7.out).mono ?_); rintro e w' ⟨rfl, ⟨nd, rfl⟩⟩; refine ⟨_, rfl, ?_⟩))
          go_ret2
          exact ⟨by first | rfl | (simp; done) | (simp [*]; done), by repeat (first | exact Drawn0.refl _ | apply Drawn0.step)⟩
        · rw [if_neg c8] at H
          have c8b0 : decide (t120 ≤ a0) = false := decide_eq_false c8
          clear c8
          have H' := Aside0.mk H
          clear H
          go_wp2_with (first | ((with_reducible refine gate_callee (f := 43) rfl ?_); refine goesL_ (some 20) rfl rfl Try.func43 (by kernel_rfl) rfl #[.int .i64 a1] rfl (by (try simp only [List.map_toArray, List.map_cons, List.map_nil]); first | done | rfl | (simp only [List.length_drop, List.length_take]; rfl)) ?_; (with_reducible refine (turnstileref1_power.calls kj2 a1 t120 _ A7.out).mono ?_); rintro e w' ⟨rfl, ⟨nd, rfl⟩⟩; refine ⟨_, rfl, ?_⟩))
          go_loopg [0, 6, 7] kj2 (fun kq v0 v6 v7 w' => ∃ (x0_2 : Int) (x6_2 : ByteArray) (x7_2 : Int), v0 = .int .i64 x0_2 ∧ v6 = .string x6_2 ∧ v7 = .int .i64 x7_2 ∧ Aside0 (turnstileref1_Write.l0 kq x0_2 a1 x6_2 x7_2 = some (r1, r2)) ∧ Aside0 (kq ≤ kj2) ∧ Drawn0 w w')
          case atStart => exact ⟨(a0), ((⟨#[]⟩ : ByteArray)), (0), (by first | rfl | (simp; done) | (simp [*]; done)), (by first | rfl | (simp; done) | (simp [*]; done)), (by first | rfl | (simp; done) | (simp [*]; done)), H', ⟨Nat.le_refl _⟩, by repeat (first | exact Drawn0.refl _ | apply Drawn0.step)⟩
          case round =>
            clear H'
            try clear c2
            try clear p2
            try clear c4
            try clear c4b0
            try clear c5
            try clear c5b0
            try clear c6
            try clear c8
            try clear c8b0
            try clear p2
            obtain ⟨x0_2, x6_2, x7_2, rfl, rfl, rfl, HA, HK2, ⟨m2, rfl⟩⟩ := hrel
            cases gk with
            | zero => exact absurd HA.out (by simp [turnstileref1_Write.l0])
            | succ k2 =>
              have H := HA.out
              clear HA
              simp only [turnstileref1_Write.l0] at H
              by_cases c9 : x7_2 < a1
              · rw [if_pos c9] at H
                have c9b0 : decide (x7_2 < a1) = true := decide_eq_true c9
                clear c9
                obtain ⟨ji10, hji10⟩ : ∃ j_ : Int, (Int.tmod x0_2 10) = j_ := ⟨_, rfl⟩
                replace H : (if 0 ≤ (ji10) then (if (ji10) ≤ (wrap64 ((ji10) + 1)) then (if (wrap64 ((ji10) + 1)) ≤ 16 then (if ((⟨#[48, 49, 50, 51, 52, 53, 54, 55, 56, 57, 65, 66, 67, 68, 69, 70]⟩ : ByteArray).extract ((ji10) : Int).toNat ((wrap64 ((ji10) + 1)) : Int).toNat).size + x6_2.size ≤ 9223372036854775807 then (turnstileref1_Write.l0 k2 (wrap64 (Int.tdiv x0_2 10)) a1 (((⟨#[48, 49, 50, 51, 52, 53, 54, 55, 56, 57, 65, 66, 67, 68, 69, 70]⟩ : ByteArray).extract ((ji10) : Int).toNat ((wrap64 ((ji10) + 1)) : Int).toNat) ++ x6_2) (wrap64 (x7_2 + 1))) else (none)) else (none)) else (none)) else (none)) = some (r1, r2) := by first | (rw [hji10] at H; exact H) | (simp only [hji10] at H ⊢; exact H)
                by_cases c11 : 0 ≤ (ji10)
                · rw [if_pos c11] at H
                  have c11b0 := eq_true c11
                  have c11b1 : decide (0 ≤ (ji10)) = true := decide_eq_true c11
                  clear c11
                  by_cases c12 : (ji10) ≤ (wrap64 ((ji10) + 1))
                  · rw [if_pos c12] at H
                    have c12b0 := eq_true c12
                    have c12b1 : decide ((ji10) ≤ (wrap64 ((ji10) + 1))) = true := decide_eq_true c12
                    by_cases c13 : (wrap64 ((ji10) + 1)) ≤ 16
                    · rw [if_pos c13] at H
                      have c13b0 := eq_true c13
                      have c13b1 : decide ((wrap64 ((ji10) + 1)) ≤ 16) = true := decide_eq_true c13
                      by_cases c14 : ((⟨#[48, 49, 50, 51, 52, 53, 54, 55, 56, 57, 65, 66, 67, 68, 69, 70]⟩ : ByteArray).extract ((ji10) : Int).toNat ((wrap64 ((ji10) + 1)) : Int).toNat).size + x6_2.size ≤ 9223372036854775807
                      · rw [if_pos c14] at H
                        have c14b0 := eq_true c14
                        have c14b1 : decide (((⟨#[48, 49, 50, 51, 52, 53, 54, 55, 56, 57, 65, 66, 67, 68, 69, 70]⟩ : ByteArray).extract ((ji10) : Int).toNat ((wrap64 ((ji10) + 1)) : Int).toNat).size + x6_2.size ≤ 9223372036854775807) = true := decide_eq_true c14
                        try have c14b2 : (9223372036854775807 < ((⟨#[48, 49, 50, 51, 52, 53, 54, 55, 56, 57, 65, 66, 67, 68, 69, 70]⟩ : ByteArray).extract ((ji10) : Int).toNat ((wrap64 ((ji10) + 1)) : Int).toNat).size + x6_2.size) = False := eq_false (Nat.not_lt.2 c14)
                        have H' := Aside0.mk H
                        clear H
                        go_wp2
                        go_roundg k2
                        case measure => have := HJ2.out; have := HK2.out; omega
                        case rel => exact ⟨(wrap64 (Int.tdiv x0_2 10)), (((⟨#[48, 49, 50, 51, 52, 53, 54, 55, 56, 57, 65, 66, 67, 68, 69, 70]⟩ : ByteArray).extract ((ji10) : Int).toNat ((wrap64 ((ji10) + 1)) : Int).toNat) ++ x6_2), (wrap64 (x7_2 + 1)), (by first | rfl | (simp; done) | (simp [*]; done)), (by first | rfl | (simp; done) | (simp only [← hji10] <;> (first | rfl | simp)) | (simp [*]; done)), (by first | rfl | (simp; done) | (simp [*]; done)), H', ⟨by have := HJ2.out; have := HK2.out; omega⟩, by repeat (first | exact Drawn0.refl _ | apply Drawn0.step)⟩
                      · rw [if_neg c14] at H
                        exact absurd H (by simp)
                    · rw [if_neg c13] at H
                      exact absurd H (by simp)
                  · rw [if_neg c12] at H
                    exact absurd H (by simp)
                · rw [if_neg c11] at H
                  exact absurd H (by simp)
              · rw [if_neg c9] at H
                have c9b0 : decide (x7_2 < a1) = false := decide_eq_false c9
                clear c9
                simp only [Option.some.injEq, Prod.mk.injEq] at H
                obtain ⟨rfl, rfl⟩ := H
                go_wp2
                go_ret2
                exact ⟨by first | rfl | (simp; done) | (simp [*]; done), by repeat (first | exact Drawn0.refl _ | apply Drawn0.step)⟩

end Go.Proofs.Ytlpamhffpgoebaa.All

/- Number and Write of digits and of the reference, told with enough rounds. Conditions: numbers of 64 bits; strings as long as an int tells. -/
namespace Go.Proofs.Ytlpamhffpgoebaa.Pure
open Go.RowKit Go.Proofs.Ytlpamhffpgoebaa.All Go.Proofs.YtlpamhffpgoebaaW.PrintWords Go.Proofs.YtlpamhffpgoebaaW.PrintLast Go.Proofs.YtlpamhffpgoebaaW.PrintMore

/-! ### Number -/
theorem number_l0_same (s : ByteArray) (hs : s.size ≤ 9223372036854775806) : ∀ (d : Nat) (n i : Int), 0 ≤ i → (s.size : Int) - i = d →
    Same (fun k => digits_Number.l0 k s n (s.size : Int) i) (fun k => turnstileref1_Number.l0 k s n i) := by
  intro d
  induction d with
  | zero =>
    intro n i h0 hd
    refine Same.step (g' := fun _ => some (n, 0)) (f' := fun _ => some (n, 0)) (fun k => ?_) (fun k => ?_) (Same.of (Ev.now _) (Ev.now _))
    · simp only [digits_Number.l0]; rw [if_neg (by omega)]
    · simp only [turnstileref1_Number.l0]; rw [if_neg (by omega)]
  | succ d ih =>
    intro n i h0 hd
    have hlt : i < (s.size : Int) := by omega
    by_cases c1 : bt s i < 48
    · refine Same.step (g' := fun _ => some (0, 11)) (f' := fun _ => some (0, 11)) (fun k => ?_) (fun k => ?_) (Same.of (Ev.now _) (Ev.now _))
      · simp only [digits_Number.l0]; rw [if_pos hlt, if_pos h0, if_pos hlt, if_pos c1]
      · simp only [turnstileref1_Number.l0, turnstileref1_digit.f]; rw [if_pos hlt, if_pos h0, if_neg (by omega)]; rfl
    · by_cases c2 : bt s i > 57
      · refine Same.step (g' := fun _ => some (0, 11)) (f' := fun _ => some (0, 11)) (fun k => ?_) (fun k => ?_) (Same.of (Ev.now _) (Ev.now _))
        · simp only [digits_Number.l0]; rw [if_pos hlt, if_pos h0, if_pos hlt, if_neg c1, if_pos c2]
        · simp only [turnstileref1_Number.l0, turnstileref1_digit.f]; rw [if_pos hlt, if_pos h0, if_pos (by omega), decide_eq_false (by omega)]; rfl
      · refine Same.step (fun k => ?_) (fun k => ?_) (ih (wrap64 ((wrap64 (10 * n)) + (((bt s i) - 48) % 256))) (i + 1) (by omega) (by omega))
        · simp only [digits_Number.l0]; rw [if_pos hlt, if_pos h0, if_pos hlt, if_neg c1, if_neg c2, w64 (by omega : -9223372036854775808 ≤ i + 1 ∧ i + 1 ≤ 9223372036854775807)]
        · simp only [turnstileref1_Number.l0, turnstileref1_digit.f]; rw [if_pos hlt, if_pos h0, if_pos (by omega), decide_eq_true (by omega), Option.bind_some, if_pos rfl, w64 (by omega : -9223372036854775808 ≤ i + 1 ∧ i + 1 ≤ 9223372036854775807)]

theorem toList_nil (s : ByteArray) : s.toList = ([] : List UInt8) ↔ s.size = 0 := by
  have e : s.toList.length = s.size := by
    rw [ByteArray.toList_eq]; exact data_length s
  constructor
  · intro h; rw [h] at e; simpa using e.symm
  · intro h; rw [h] at e; exact List.eq_nil_of_length_eq_zero e

theorem number_same (s : ByteArray) (hs : s.size ≤ 9223372036854775806) : Same (fun k => digits_Number.f k s) (fun k => turnstileref1_Number.f k s) := by
  by_cases h0 : s.size = 0
  · refine Same.of (r := (0, 1)) ?_ ?_
    · refine Ev.step (f := fun _ => some (0, 1)) (fun k => ?_) (Ev.now _)
      unfold digits_Number.f
      rw [if_pos ((toList_nil s).2 h0)]
      simp only [digits_Number.j0]; rfl
    · refine Ev.step (f := fun _ => some (0, 1)) (fun k => ?_) (Ev.now _)
      unfold turnstileref1_Number.f
      rw [if_pos (by omega)]
      simp only [turnstileref1_Number.j0]; rfl
  · by_cases h18 : (s.size : Int) > 18
    · refine Same.of (r := (0, 1)) ?_ ?_
      · refine Ev.step (f := fun _ => some (0, 1)) (fun k => ?_) (Ev.now _)
        unfold digits_Number.f
        rw [if_neg (fun h => h0 ((toList_nil s).1 h)), decide_eq_true h18]
        simp only [digits_Number.j0]; rfl
      · refine Ev.step (f := fun _ => some (0, 1)) (fun k => ?_) (Ev.now _)
        unfold turnstileref1_Number.f
        rw [if_neg (by omega), decide_eq_true h18]
        simp only [turnstileref1_Number.j0]; rfl
    · refine Same.step (fun k => ?_) (fun k => ?_) (number_l0_same s hs s.size 0 0 (by omega) (by omega))
      · unfold digits_Number.f
        rw [if_neg (fun h => h0 ((toList_nil s).1 h)), decide_eq_false h18]
        simp only [digits_Number.j0]; rfl
      · unfold turnstileref1_Number.f
        rw [if_neg (by omega), decide_eq_false h18]
        simp only [turnstileref1_Number.j0]; rfl

/-! ### Write -/
/-- the w last digits of n, as bytes -/
def decL : Nat → Int → List Int
  | 0, _ => []
  | w + 1, n => decL w (n / 10) ++ [48 + n % 10]
theorem decL_length : ∀ (w : Nat) (n : Int), (decL w n).length = w
  | 0, _ => rfl
  | w + 1, n => by simp [decL, decL_length w (n / 10)]
theorem strOfNums_append (a b : List Int) : strOfNums (a ++ b) = strOfNums a ++ strOfNums b := by
  apply ByteArray.ext
  simp [strOfNums]

theorem div_pow (n : Int) (m : Nat) : n / 10 / 10 ^ m = n / 10 ^ (m + 1) := by
  rw [Int.ediv_ediv_of_nonneg (by decide), Int.pow_succ, Int.mul_comm]

/-- what Write tells behind its loop -/
def writeR (m : Nat) (n : Int) (suf : List Int) : ByteArray × Int := if n / 10 ^ m > 0 then ((⟨#[]⟩ : ByteArray), 13) else (strOfNums (decL m n ++ suf), 0)
theorem writeR_succ (m : Nat) (n : Int) (suf : List Int) : writeR (m + 1) n suf = writeR m (n / 10) ((48 + n % 10) :: suf) := by
  unfold writeR
  rw [div_pow, decL]
  simp

theorem write_l0 : ∀ (m : Nat) (zs suf : List Int) (n : Int), 0 ≤ n → n ≤ 9223372036854775807 → zs.length = m → m ≤ 18 →
    Ev (fun k => digits_Write.l0 k n (zs ++ suf) ((m : Int) - 1)) (writeR m n suf) := by
  intro m
  induction m with
  | zero =>
    intro zs suf n h0 h1 hz hm
    obtain rfl := List.eq_nil_of_length_eq_zero hz
    refine Ev.step (f := fun _ => some (writeR 0 n suf)) (fun k => ?_) (Ev.now _)
    simp only [digits_Write.l0]
    rw [if_neg (by decide)]
    unfold writeR
    simp only [Int.pow_zero, Int.ediv_one, decL, List.nil_append]
    split <;> rfl
  | succ m ih =>
    intro zs suf n h0 h1 hz hm
    obtain ⟨ys, z, rfl⟩ : ∃ ys z, zs = ys ++ [z] := ⟨zs.dropLast, zs.getLast (by intro h; rw [h] at hz; simp at hz), (List.dropLast_concat_getLast _).symm⟩
    have hy : ys.length = m := by simpa using hz
    rw [writeR_succ]
    refine Ev.step (fun k => ?_) (ih ys ((48 + n % 10) :: suf) (n / 10) (by omega) (by omega) hy (by omega))
    simp only [digits_Write.l0]
    rw [if_pos (by omega), if_pos (by omega), if_pos (by simp; omega)]
    have e1 : wrap64 (Int.tdiv n 10) = n / 10 := by rw [Int.tdiv_eq_ediv_of_nonneg h0, w64 (by omega)]
    have e2 : (wrap64 (48 + Int.tmod n 10)) % 256 = 48 + n % 10 := by rw [Int.tmod_eq_emod_of_nonneg h0, w64 (by omega)]; omega
    have e3 : wrap64 (((m + 1 : Nat) : Int) - 1 - 1) = (m : Int) - 1 := by rw [w64 (by omega)]; omega
    have e4 : ((((m + 1 : Nat) : Int) - 1) : Int).toNat = m := by omega
    rw [e1, e2, e3, e4]
    congr 1
    rw [List.append_assoc, List.set_append_right _ _ (by omega), hy, Nat.sub_self]
    rfl

theorem write_is (n : Int) (w : Nat) (h0 : 0 ≤ n) (h1 : n ≤ 9223372036854775807) (hw0 : 1 ≤ w) (hw : w ≤ 18) : Ev (fun k => digits_Write.f k n (w : Int)) (writeR w n []) := by
  refine Ev.step (fun k => ?_) (write_l0 w (List.replicate w 0) [] n h0 h1 (by simp) hw)
  unfold digits_Write.f
  rw [if_neg (by omega), if_neg (by omega), decide_eq_false (by omega)]
  simp only [digits_Write.j0]
  rw [if_neg (by decide), if_pos (by omega), if_pos (by omega), w64 (by omega)]
  simp
theorem write_arg (n w : Int) (h : n < 0 ∨ w < 1 ∨ w > 18) : Ev (fun k => digits_Write.f k n w) ((⟨#[]⟩ : ByteArray), 1) := by
  refine Ev.step (f := fun _ => some ((⟨#[]⟩ : ByteArray), 1)) (fun k => ?_) (Ev.now _)
  unfold digits_Write.f
  by_cases c1 : n < 0
  · rw [if_pos c1]; simp only [digits_Write.j0]; rfl
  · rw [if_neg c1]
    by_cases c2 : w < 1
    · rw [if_pos c2]; simp only [digits_Write.j0]; rfl
    · rw [if_neg c2, decide_eq_true (by omega)]; simp only [digits_Write.j0]; rfl

/-! ### the reference's -/
theorem pow_le18 (i : Nat) (h : i ≤ 18) : (10 : Int) ^ i ≤ 1000000000000000000 := by
  have := Nat.pow_le_pow_right (show 0 < 10 by decide) h
  have e : ((10 ^ i : Nat) : Int) = (10 : Int) ^ i := by simp
  rw [← e]
  omega
theorem pow_pos10 (i : Nat) : (0 : Int) < 10 ^ i := by
  have : 0 < 10 ^ i := Nat.pow_pos (by decide)
  have e : ((10 ^ i : Nat) : Int) = (10 : Int) ^ i := by simp
  rw [← e]
  omega
theorem power_l0 (w : Nat) (hw : w ≤ 18) : ∀ (d i : Nat), i + d = w → Ev (fun k => turnstileref1_power.l0 k (w : Int) (10 ^ i) (i : Int)) (10 ^ w) := by
  intro d
  induction d with
  | zero =>
    intro i hi
    obtain rfl : i = w := by omega
    refine Ev.step (f := fun _ => some (10 ^ i)) (fun k => ?_) (Ev.now _)
    simp only [turnstileref1_power.l0]
    rw [if_neg (by omega)]
  | succ d ih =>
    intro i hi
    refine Ev.step (fun k => ?_) (ih (i + 1) (by omega))
    simp only [turnstileref1_power.l0]
    rw [if_pos (by omega), w64 (by omega : -9223372036854775808 ≤ (i : Int) + 1 ∧ (i : Int) + 1 ≤ 9223372036854775807)]
    have hp := pow_le18 (i + 1) (by omega)
    have hq := pow_pos10 (i + 1)
    have e : (10 : Int) * 10 ^ i = 10 ^ (i + 1) := by rw [Int.pow_succ, Int.mul_comm]
    rw [e, w64 (by omega)]
    rfl
theorem power_is (w : Nat) (hw : w ≤ 18) : Ev (fun k => turnstileref1_power.f k (w : Int)) (10 ^ w) := by
  have := power_l0 w hw w 0 (by omega)
  simpa [turnstileref1_power.f] using this

def hexs : ByteArray := ⟨#[48, 49, 50, 51, 52, 53, 54, 55, 56, 57, 65, 66, 67, 68, 69, 70]⟩
theorem hexs_digit (d : Nat) (h : d < 10) : hexs.extract d (d + 1) = strOfNums [48 + (d : Int)] := by
  have : ∀ e : Fin 10, hexs.extract e.val (e.val + 1) = strOfNums [48 + (e.val : Int)] := by decide +kernel
  exact this ⟨d, h⟩

theorem rwrite_l0 (w : Nat) (hw : w ≤ 18) : ∀ (d i : Nat) (n : Int) (s : List Int), i + d = w → 0 ≤ n → n ≤ 9223372036854775807 → s.length = i →
    Ev (fun k => turnstileref1_Write.l0 k n (w : Int) (strOfNums s) (i : Int)) (strOfNums (decL d n ++ s), 0) := by
  intro d
  induction d with
  | zero =>
    intro i n s hi h0 h1 hs
    refine Ev.step (f := fun _ => some (strOfNums (decL 0 n ++ s), 0)) (fun k => ?_) (Ev.now _)
    simp only [turnstileref1_Write.l0]
    rw [if_neg (by omega)]
    rfl
  | succ d ih =>
    intro i n s hi h0 h1 hs
    have e0 : Int.tmod n 10 = n % 10 := Int.tmod_eq_emod_of_nonneg h0
    have ih' := ih (i + 1) (n / 10) ((48 + n % 10) :: s) (by omega) (by omega) (by omega) (by simp [hs])
    have er : decL (d + 1) n ++ s = decL d (n / 10) ++ ((48 + n % 10) :: s) := by simp [decL]
    rw [er]
    refine Ev.step (fun k => ?_) ih'
    simp only [turnstileref1_Write.l0]
    have e1 : wrap64 (n % 10 + 1) = n % 10 + 1 := w64 (by omega)
    have e2 : (n % 10 + 1 : Int).toNat = (n % 10).toNat + 1 := by omega
    have e3 : (⟨#[48, 49, 50, 51, 52, 53, 54, 55, 56, 57, 65, 66, 67, 68, 69, 70]⟩ : ByteArray).extract (n % 10 : Int).toNat ((n % 10).toNat + 1) = strOfNums [48 + n % 10] := by
      have := hexs_digit (n % 10).toNat (by omega)
      rw [show (((n % 10).toNat : Nat) : Int) = n % 10 by omega] at this
      exact this
    rw [if_pos (by omega), e0, if_pos (by omega), e1, if_pos (by omega), if_pos (by omega), e2, e3, if_pos (by rw [strOfNums_size, strOfNums_size]; simp; omega), ← strOfNums_append, Int.tdiv_eq_ediv_of_nonneg h0, w64 (by omega), w64 (by omega)]
    rfl
theorem rwrite_is (n : Int) (w : Nat) (h0 : 0 ≤ n) (h1 : n ≤ 9223372036854775807) (hw0 : 1 ≤ w) (hw : w ≤ 18) : Ev (fun k => turnstileref1_Write.f k n (w : Int)) (writeR w n []) := by
  have hp := pow_pos10 w
  have hc : n ≥ 10 ^ w ↔ n / 10 ^ w > 0 := by
    constructor
    · intro h
      have := Int.ediv_le_ediv hp h
      rw [Int.ediv_self (by omega)] at this
      omega
    · intro h
      have := Int.ediv_mul_le n (show (10 : Int) ^ w ≠ 0 by omega)
      have h3 : (1 : Int) * 10 ^ w ≤ n / 10 ^ w * 10 ^ w := Int.mul_le_mul_of_nonneg_right (by omega) (by omega)
      omega
  by_cases hb : n ≥ 10 ^ w
  · have e : writeR w n [] = ((⟨#[]⟩ : ByteArray), 13) := by unfold writeR; rw [if_pos (hc.1 hb)]
    rw [e]
    refine Ev.step (f := fun k => (turnstileref1_power.f k (w : Int)).bind fun t => if n ≥ t then some ((⟨#[]⟩ : ByteArray), 13) else turnstileref1_Write.l0 k n (w : Int) (⟨#[]⟩ : ByteArray) 0) (fun k => ?_) (Ev.bind (f := fun k t => if n ≥ t then some ((⟨#[]⟩ : ByteArray), 13) else turnstileref1_Write.l0 k n (w : Int) (⟨#[]⟩ : ByteArray) 0) (power_is w hw) ?_)
    · unfold turnstileref1_Write.f
      rw [if_neg (by omega), if_neg (by omega), decide_eq_false (by omega)]
      simp only [turnstileref1_Write.j0]
      rfl
    · exact ev_some fun k => if_pos hb
  · have e : writeR w n [] = (strOfNums (decL w n ++ []), 0) := by unfold writeR; rw [if_neg (fun h => hb (hc.2 h))]
    rw [e]
    refine Ev.step (f := fun k => (turnstileref1_power.f k (w : Int)).bind fun t => if n ≥ t then some ((⟨#[]⟩ : ByteArray), 13) else turnstileref1_Write.l0 k n (w : Int) (⟨#[]⟩ : ByteArray) 0) (fun k => ?_) (Ev.bind (f := fun k t => if n ≥ t then some ((⟨#[]⟩ : ByteArray), 13) else turnstileref1_Write.l0 k n (w : Int) (⟨#[]⟩ : ByteArray) 0) (power_is w hw) ?_)
    · unfold turnstileref1_Write.f
      rw [if_neg (by omega), if_neg (by omega), decide_eq_false (by omega)]
      simp only [turnstileref1_Write.j0]
      rfl
    · refine Ev.congr (fun k => if_neg hb) ?_
      have := rwrite_l0 w hw w 0 n [] (by omega) h0 h1 rfl
      exact this
theorem rwrite_arg (n w : Int) (h : n < 0 ∨ w < 1 ∨ w > 18) : Ev (fun k => turnstileref1_Write.f k n w) ((⟨#[]⟩ : ByteArray), 1) := by
  refine Ev.step (f := fun _ => some ((⟨#[]⟩ : ByteArray), 1)) (fun k => ?_) (Ev.now _)
  unfold turnstileref1_Write.f
  by_cases c1 : n < 0
  · rw [if_pos c1]; simp only [turnstileref1_Write.j0]; rfl
  · rw [if_neg c1]
    by_cases c2 : w < 1
    · rw [if_pos c2]; simp only [turnstileref1_Write.j0]; rfl
    · rw [if_neg c2, decide_eq_true (by omega)]; simp only [turnstileref1_Write.j0]; rfl
theorem write_same (n w : Int) (hn : -9223372036854775808 ≤ n ∧ n ≤ 9223372036854775807) : Same (fun k => digits_Write.f k n w) (fun k => turnstileref1_Write.f k n w) := by
  by_cases h : n < 0 ∨ w < 1 ∨ w > 18
  · exact Same.of (write_arg n w h) (rwrite_arg n w h)
  · obtain ⟨m, rfl⟩ := Int.eq_ofNat_of_zero_le (show 0 ≤ w by omega)
    exact Same.of (write_is n m (by omega) hn.2 (by omega) (by omega)) (rwrite_is n m (by omega) hn.2 (by omega) (by omega))
end Go.Proofs.Ytlpamhffpgoebaa.Pure

/- Prefix of digits and of the reference, told with enough rounds as one plain function. Condition: numbers of 64 bits. -/
namespace Go.Proofs.Ytlpamhffpgoebaa.Pure
open Go.RowKit Go.Proofs.Ytlpamhffpgoebaa.All Go.Proofs.YtlpamhffpgoebaaW.PrintWords Go.Proofs.YtlpamhffpgoebaaW.PrintLast Go.Proofs.YtlpamhffpgoebaaW.PrintMore

/-- may a length be so? -/
def okLen (enc d : Int) : Prop := (enc = 1 ∨ enc = 2 ∨ enc = 4 ∨ enc = 5) ∧ 1 ≤ d ∧ d ≤ 4
instance (enc d : Int) : Decidable (okLen enc d) := by unfold okLen; infer_instance
/-- how many bytes a length has -/
def wideS (enc d : Int) : Int := if okLen enc d then (if enc = 5 ∨ enc = 2 then (d + 1) / 2 else d) else 0
theorem wide_half (enc d : Int) (h : okLen enc d) (h2 : enc = 5 ∨ enc = 2) : wideS enc d = (d + 1) / 2 := by unfold wideS; rw [if_pos h, if_pos h2]
theorem wide_full (enc d : Int) (h : okLen enc d) (h2 : ¬ (enc = 5 ∨ enc = 2)) : wideS enc d = d := by unfold wideS; rw [if_pos h, if_neg h2]
theorem wide_none (enc d : Int) (h : ¬ okLen enc d) : wideS enc d = 0 := by unfold wideS; rw [if_neg h]
theorem wide_is (enc d : Int) : Ev (fun k => digits_wide.f k enc d) (wideS enc d) := by
  by_cases hd : 1 ≤ d ∧ d ≤ 4
  · refine Ev.step (f := fun k => if enc = 5 then (digits_wide.j1 k d enc (enc == 5)) else (digits_wide.j1 k d enc (enc == 2))) (fun k => ?_) (Ev.step (f := fun _ => some (wideS enc d)) (fun k => ?_) (Ev.now _))
    · unfold digits_wide.f
      rw [if_neg (by omega), decide_eq_false (by omega)]
      simp only [digits_wide.j0]; rfl
    · by_cases c5 : enc = 5
      · rw [if_pos c5, wide_half enc d ⟨by simp [c5], hd⟩ (.inl c5), beq_iff_eq.mpr c5]; simp only [digits_wide.j1]
        rw [if_pos trivial, w64 (by omega : -9223372036854775808 ≤ d + 1 ∧ d + 1 ≤ 9223372036854775807), Int.tdiv_eq_ediv_of_nonneg (by omega), w64 (by omega)]
      · rw [if_neg c5]
        by_cases c2 : enc = 2
        · rw [wide_half enc d ⟨by simp [c2], hd⟩ (.inr c2), beq_iff_eq.mpr c2]; simp only [digits_wide.j1]
          rw [if_pos trivial, w64 (by omega : -9223372036854775808 ≤ d + 1 ∧ d + 1 ≤ 9223372036854775807), Int.tdiv_eq_ediv_of_nonneg (by omega), w64 (by omega)]
        · have e : (enc == 2) = false := beq_eq_false_iff_ne.mpr c2
          rw [e]; simp only [digits_wide.j1]
          rw [if_neg (by decide)]
          by_cases c1 : enc = 1
          · rw [if_pos c1, wide_full enc d ⟨by simp [c1], hd⟩ (by simp [c2, c5])]
          · rw [if_neg c1]
            by_cases c4 : enc = 4
            · rw [if_pos c4, wide_full enc d ⟨by simp [c4], hd⟩ (by simp [c2, c5])]
            · rw [if_neg c4, wide_none enc d (by simp [okLen, c1, c2, c4, c5])]
  · have e : wideS enc d = 0 := wide_none enc d (fun h => hd h.2)
    rw [e]
    refine Ev.step (f := fun _ => some 0) (fun k => ?_) (Ev.now _)
    unfold digits_wide.f
    by_cases c1 : d < 1
    · rw [if_pos c1]; simp only [digits_wide.j0]; rfl
    · rw [if_neg c1, decide_eq_true (by omega)]; simp only [digits_wide.j0]; rfl

theorem ten_l0 (w : Nat) (hw : w ≤ 4) : ∀ (d i : Nat), i + d = w → Ev (fun k => digits_ten.l0 k (10 ^ i) (w : Int) (i : Int)) (10 ^ w) := by
  intro d
  induction d with
  | zero =>
    intro i hi
    obtain rfl : i = w := by omega
    refine Ev.step (f := fun _ => some (10 ^ i)) (fun k => ?_) (Ev.now _)
    simp only [digits_ten.l0]
    rw [if_neg (by omega)]
  | succ d ih =>
    intro i hi
    refine Ev.step (fun k => ?_) (ih (i + 1) (by omega))
    simp only [digits_ten.l0]
    rw [if_pos (by omega), w64 (by omega : -9223372036854775808 ≤ (i : Int) + 1 ∧ (i : Int) + 1 ≤ 9223372036854775807)]
    have hp := pow_le18 (i + 1) (by omega)
    have hq := pow_pos10 (i + 1)
    have e : (10 : Int) ^ i * 10 = 10 ^ (i + 1) := by rw [Int.pow_succ]
    rw [e, w64 (by omega)]
    rfl
theorem ten_is (w : Nat) (hw : w ≤ 4) : Ev (fun k => digits_ten.f k (w : Int)) (10 ^ w) := by
  have := ten_l0 w hw w 0 (by omega)
  simpa [digits_ten.f] using this

/-- a length in front of what has it -/
def prefS (enc d n : Int) : ByteArray × Int :=
  if ¬ okLen enc d ∨ n < 0 then ((⟨#[]⟩ : ByteArray), 1) else if n ≥ 10 ^ d.toNat then ((⟨#[]⟩ : ByteArray), 13)
  else if enc = 5 then (if d ≤ 2 then (strOfNums [n % 256], 0) else (strOfNums [(n / 256) % 256, n % 256], 0))
  else packS enc (bytesOf (strOfNums (decL d.toNat n)))

theorem prefS_ok (enc d n : Int) (ho : okLen enc d) (h0 : ¬ n < 0) : prefS enc d n = if n ≥ 10 ^ d.toNat then ((⟨#[]⟩ : ByteArray), 13)
    else if enc = 5 then (if d ≤ 2 then (strOfNums [n % 256], 0) else (strOfNums [(n / 256) % 256, n % 256], 0)) else packS enc (bytesOf (strOfNums (decL d.toNat n))) := by
  unfold prefS
  rw [if_neg (by intro h; rcases h with h | h; exact h ho; exact h0 h)]

theorem prefix_is (enc d n : Int) (hn : -9223372036854775808 ≤ n ∧ n ≤ 9223372036854775807) : Ev (fun k => digits_Prefix.f k enc d n) (prefS enc d n) := by
  by_cases ho : okLen enc d
  · have hw : 1 ≤ wideS enc d ∧ wideS enc d ≤ 4 := by
      obtain ⟨_, h1, h4⟩ := ho
      unfold wideS; rw [if_pos ⟨by assumption, h1, h4⟩]; split <;> omega
    by_cases h0 : n < 0
    · have e : prefS enc d n = ((⟨#[]⟩ : ByteArray), 1) := by unfold prefS; rw [if_pos (.inr h0)]
      rw [e]
      refine Ev.bind (f := fun k t => if t = 0 then digits_Prefix.j0 k enc d n t true else digits_Prefix.j0 k enc d n t (decide (n < 0))) (wide_is enc d) (Ev.step (f := fun _ => some ((⟨#[]⟩ : ByteArray), 1)) (fun k => ?_) (Ev.now _))
      rw [if_neg (by omega), decide_eq_true h0]; simp only [digits_Prefix.j0]; rfl
    · obtain ⟨he, h1, h4⟩ := ho
      obtain ⟨m, rfl⟩ := Int.eq_ofNat_of_zero_le (show 0 ≤ d by omega)
      have hm : m ≤ 4 := by omega
      have hp := pow_pos10 m
      refine Ev.bind (f := fun k t => if t = 0 then digits_Prefix.j0 k enc m n t true else digits_Prefix.j0 k enc m n t (decide (n < 0))) (wide_is enc m) ?_
      refine Ev.step (f := fun k => (digits_ten.f k (m : Int)).bind fun t => (if n ≥ t then (some ((⟨#[]⟩ : ByteArray), 13)) else (if enc = 5 then ((some (([(n / 256) % 256, n % 256] : List Int) : List Int)).bind fun y => (if 0 ≤ (wrap64 (2 - wideS enc m)) then (if (wrap64 (2 - wideS enc m)) ≤ (y.length : Int) then (some (strOfNums (y.drop ((wrap64 (2 - wideS enc m)) : Int).toNat), 0)) else (none)) else (none))) else ((digits_Write.f k n m).bind fun b => (if b.2 = 0 then ((digits_Pack.f k enc b.1).bind fun c => (some (c.1, c.2))) else (some ((⟨#[]⟩ : ByteArray), b.2))))))) (fun k => ?_) ?_
      · rw [if_neg (by omega), decide_eq_false h0]; simp only [digits_Prefix.j0]; rfl
      · refine evb (ten_is m hm) ?_
        unfold prefS
        rw [if_neg (by intro h; rcases h with h | h; exact h ⟨he, h1, h4⟩; exact h0 h), Int.toNat_natCast]
        by_cases hb : n ≥ 10 ^ m
        · rw [if_pos hb]; exact ev_some fun k => if_pos hb
        · rw [if_neg hb]
          refine Ev.congr (fun k => if_neg hb) ?_
          by_cases c5 : enc = 5
          · rw [if_pos c5]
            refine ev_some fun k => (if_pos c5).trans ?_
            have ew : wideS enc m = ((m : Int) + 1) / 2 := by unfold wideS; rw [if_pos ⟨he, h1, h4⟩, if_pos (.inl c5)]
            rw [ew, Option.bind_some]
            by_cases h2 : (m : Int) ≤ 2
            · rw [if_pos h2, w64 (by omega), if_pos (by omega), if_pos (by simp; omega)]
              have : (2 - ((m : Int) + 1) / 2 : Int).toNat = 1 := by omega
              rw [this]; rfl
            · rw [if_neg h2, w64 (by omega), if_pos (by omega), if_pos (by simp; omega)]
              have : (2 - ((m : Int) + 1) / 2 : Int).toNat = 0 := by omega
              rw [this]; rfl
          · rw [if_neg c5]
            refine Ev.congr (fun k => if_neg c5) ?_
            have hw := write_is n m (by omega) hn.2 (by omega) (by omega)
            have ew : writeR m n [] = (strOfNums (decL m n), 0) := by
              unfold writeR
              have : n / 10 ^ m = 0 := Int.ediv_eq_zero_of_lt (by omega) (by omega)
              rw [this, if_neg (by decide), List.append_nil]
            rw [ew] at hw
            refine evb hw ?_
            refine Ev.congr (f := fun k => (digits_Pack.f k enc (strOfNums (decL m n))).bind fun c => some (c.1, c.2)) (fun k => if_pos rfl) ?_
            refine evb (pack_is enc _ (by rw [strOfNums_size, decL_length]; omega)) (Ev.now _)
  · have e : prefS enc d n = ((⟨#[]⟩ : ByteArray), 1) := by unfold prefS; rw [if_pos (.inl ho)]
    rw [e]
    have ew : wideS enc d = 0 := by unfold wideS; rw [if_neg ho]
    refine Ev.bind (f := fun k t => if t = 0 then digits_Prefix.j0 k enc d n t true else digits_Prefix.j0 k enc d n t (decide (n < 0))) (wide_is enc d) (Ev.step (f := fun _ => some ((⟨#[]⟩ : ByteArray), 1)) (fun k => ?_) (Ev.now _))
    rw [if_pos ew]; simp only [digits_Prefix.j0]; rfl
end Go.Proofs.Ytlpamhffpgoebaa.Pure

/- Length of digits, told with enough rounds as a plain function on lists of numbers. Condition: a text whose places an int tells. -/
namespace Go.Proofs.Ytlpamhffpgoebaa.Pure
open Go.RowKit Go.Proofs.Ytlpamhffpgoebaa.All Go.Proofs.YtlpamhffpgoebaaW.PrintWords Go.Proofs.YtlpamhffpgoebaaW.PrintLast Go.Proofs.YtlpamhffpgoebaaW.PrintMore

/-! ### BINARY -/
theorem i64_or_nat (a b : Nat) (ha : a < 9223372036854775808) (hb : b < 9223372036854775808) : Go.bits .or .i64 (a : Int) (b : Int) = ((a ||| b : Nat) : Int) := by
  have hx : a ||| b < 2 ^ 63 := Nat.or_lt_two_pow (by omega) (by omega)
  show IntKind.i64.wrap ((BitVec.ofInt 64 (a : Int) ||| BitVec.ofInt 64 (b : Int)).toNat : Int) = _
  have e : ∀ x : Nat, x < 9223372036854775808 → (BitVec.ofInt 64 (x : Int)).toNat = x := by
    intro x hx
    rw [BitVec.ofInt_natCast, BitVec.toNat_ofNat]; exact Nat.mod_eq_of_lt (by omega)
  rw [BitVec.toNat_or, e a ha, e b hb, IntKind.wrap_i64]
  omega
theorem or256 (a b : Int) (ha : 0 ≤ a ∧ a < 65536) (hb : 0 ≤ b ∧ b < 256) : Go.bits .or .i64 (wrap64 (a * 256)) (wrap64 b) = 256 * a + b := by
  rw [w64 (by omega : -9223372036854775808 ≤ a * 256 ∧ a * 256 ≤ 9223372036854775807), w64 (by omega)]
  obtain ⟨m, rfl⟩ := Int.eq_ofNat_of_zero_le ha.1
  obtain ⟨n, rfl⟩ := Int.eq_ofNat_of_zero_le hb.1
  have h := i64_or_nat (m * 256) n (by omega) (by omega)
  have e : ((m * 256 : Nat) : Int) = (m : Int) * 256 := by omega
  rw [e] at h
  rw [h]
  have h3 : m * 256 ||| n = m * 256 + n := by
    have h2 := Nat.shiftLeft_add_eq_or_of_lt (i := 8) (b := n) (by omega) m
    rw [Nat.shiftLeft_eq] at h2
    exact h2.symm
  rw [h3, Int.natCast_add, Int.natCast_mul, Int.mul_comm]
  rfl
/-- the number that bytes say -/
def binS : List Int → Int → Int
  | [], n => n
  | b :: r, n => binS r (256 * n + b)
def binR (d : Int) (bs : List Int) : Int × Int × Int := if binS bs 0 ≥ 10 ^ d.toNat then (0, 13, 0) else (binS bs 0, 0, bs.length)
theorem len_bin (d : Nat) (hd : d ≤ 4) (s : ByteArray) (w : Nat) (hw : w ≤ s.size) (hw2 : w ≤ 2) : ∀ (m i : Nat) (n : Int), i + m = w → 0 ≤ n → n < 256 ^ i → ∀ (R : Int × Int × Int),
    (binS ((((bytesOf s).take w).drop i)) n ≥ 10 ^ d → R = (0, 13, 0)) → (¬ binS ((((bytesOf s).take w).drop i)) n ≥ 10 ^ d → R = (binS ((((bytesOf s).take w).drop i)) n, 0, (w : Int))) →
    Ev (fun k => digits_Length.l0 k (d : Int) s (w : Int) n (w : Int) (i : Int)) R := by
  have hlen : ((bytesOf s).take w).length = w := by rw [List.length_take, bytesOf_length]; omega
  intro m
  induction m with
  | zero =>
    intro i n hi h0 h1 R hb hg
    rw [List.drop_eq_nil_iff.2 (by omega)] at hb hg
    refine Ev.step (f := fun k => (digits_ten.f k (d : Int)).bind fun t => (if n ≥ t then (some (0, 13, 0)) else (some (n, 0, (w : Int))))) (fun k => ?_) (evb (ten_is d hd) ?_)
    · simp only [digits_Length.l0]; rw [if_neg (by omega)]
    · by_cases h : n ≥ 10 ^ d
      · rw [hb h]; exact ev_some fun k => if_pos h
      · rw [hg h]; exact ev_some fun k => if_neg h
  | succ m ih =>
    intro i n hi h0 h1 R hb hg
    have hc : ((bytesOf s).take w).drop i = bt s (i : Int) :: ((bytesOf s).take w).drop (i + 1) := by
      rw [List.drop_take, List.drop_take, dropBt s i (by omega), show w - i = (w - (i + 1)) + 1 by omega, List.take_succ_cons]
    rw [hc] at hb hg
    have b0 := bt_lo s i
    have b1 := bt_hi s i
    have n1 : n < 65536 := by
      have : i = 0 ∨ i = 1 := by omega
      rcases this with e | e <;> subst e <;> simp at h1 <;> omega
    have n2' : ∀ b : Int, b ≤ 255 → 256 * n + b < 256 ^ (i + 1) := by
      intro b hb
      have : i = 0 ∨ i = 1 := by omega
      rcases this with e | e <;> subst e <;> simp at h1 ⊢ <;> omega
    have n2 := n2' _ b1
    refine Ev.step (fun k => ?_) (ih (i + 1) (256 * n + bt s i) (by omega) (by omega) n2 R hb hg)
    simp only [digits_Length.l0]
    rw [if_pos (by omega), if_pos (by omega), if_pos (by omega), or256 n _ ⟨h0, n1⟩ ⟨b0, by omega⟩, w64 (by omega)]
    rfl

/-! ### the others -/
/-- the digits of the i-th byte of a length of d digits, and what is wrong with it -/
def ldF (p : List Int × Int) : List Int × Int := if p.2 = 11 then ([], 11) else if p.1.all (fun c => decide (48 ≤ c) && decide (c ≤ 57)) then (if p.2 = 0 then (p.1, 0) else ([], p.2)) else ([], 11)
def ldS (enc b i d : Int) : List Int × Int := ldF (byteS enc b i d)
theorem digitsOf2_odd : ∀ e : Fin 256, digits_digitsOf.f 3 2 (e.val : Int) true = some (strOfNums (ldS 2 (e.val : Int) 0 1).1, (ldS 2 (e.val : Int) 0 1).2) := by decide +kernel
theorem digitsOf2_even : ∀ e : Fin 256, digits_digitsOf.f 3 2 (e.val : Int) false = some (strOfNums (ldS 2 (e.val : Int) 0 2).1, (ldS 2 (e.val : Int) 0 2).2) := by decide +kernel
theorem digitsOf_is (enc b i d : Int) (he : enc = 1 ∨ enc = 2 ∨ enc = 4) (h0 : 0 ≤ b) (h1 : b ≤ 255) : Ev (fun k => digits_digitsOf.f k enc b (decide (i = 0 ∧ Int.tmod d 2 = 1))) (strOfNums (ldS enc b i d).1, (ldS enc b i d).2) := by
  by_cases h2 : enc = 2
  · subst h2
    have e : ((b.toNat : Nat) : Int) = b := by omega
    by_cases ho : i = 0 ∧ Int.tmod d 2 = 1
    · rw [decide_eq_true ho]
      have hf : ldS 2 b i d = ldS 2 b 0 1 := by
        have e1 : fillS 2 i d = 0 := by unfold fillS; rw [if_pos ⟨ho.2, rfl, ho.1⟩]
        have e2 : fillS 2 0 1 = 0 := by decide
        unfold ldS byteS
        rw [e1, e2]
      rw [hf]
      have h := digitsOf2_odd ⟨b.toNat, by omega⟩
      simp only [e] at h
      exact Ev.of (fun k => digits_digitsOf.mono _ _ _ k) h
    · rw [decide_eq_false ho]
      have hf : ldS 2 b i d = ldS 2 b 0 2 := by
        have e1 : fillS 2 i d = -1 := by unfold fillS; rw [if_neg (fun h => ho ⟨h.2.2, h.1⟩), if_neg (by omega)]
        have e2 : fillS 2 0 2 = -1 := by decide
        unfold ldS byteS
        rw [e1, e2]
      rw [hf]
      have h := digitsOf2_even ⟨b.toNat, by omega⟩
      simp only [e] at h
      exact Ev.of (fun k => digits_digitsOf.mono _ _ _ k) h
  · have h23 : ¬ (enc = 2 ∨ enc = 3) := by omega
    refine ev_some fun k => ?_
    unfold digits_digitsOf.f
    rw [if_neg h2]
    obtain ⟨u, hu⟩ := read_is enc b
    have hl : ldS enc b i d = ldF (match rdS enc b with | none => ([], 11) | some c => ([c], 0)) := by unfold ldS; rw [byteS_one _ _ _ _ h23]; try (cases rdS enc b <;> rfl)
    rw [hl, hu]
    cases rdS enc b with
    | none => rfl
    | some c =>
      simp only [Option.bind_some, if_true]
      by_cases c1 : c < 48
      · rw [if_pos c1]
        have : ldF ([c], 0) = ([], 11) := by unfold ldF; simp; omega
        rw [this]; rfl
      · rw [if_neg c1]
        by_cases c2 : c > 57
        · rw [if_pos c2]
          have : ldF ([c], 0) = ([], 11) := by unfold ldF; simp; omega
          rw [this]; rfl
        · rw [if_neg c2]
          have : ldF ([c], 0) = ([c], 0) := by unfold ldF; simp; omega
          rw [this]
theorem ldF_range (p : List Int × Int) : ∀ x ∈ (ldF p).1, 48 ≤ x ∧ x ≤ 57 := by
  intro x hx
  unfold ldF at hx
  split at hx
  · cases hx
  · split at hx
    · rename_i h
      split at hx
      · have := List.all_eq_true.1 h x hx
        simpa using this
      · cases hx
    · cases hx

/-- digits behind a number -/
def addD (n : Int) (l : List Int) : Int := l.foldl (fun n c => wrap64 ((wrap64 (10 * n)) + ((c - 48) % 256))) n
/-- what Length tells of the bytes from place i on -/
def lenR (enc d w : Int) : List Int → Int → Int → Int × Int × Int
  | [], _, n => (n, 0, w)
  | b :: r, i, n => if (ldS enc b i d).2 = 0 then lenR enc d w r (i + 1) (addD n (ldS enc b i d).1) else (0, (ldS enc b i d).2, i)

section
variable (enc d : Int) (s : ByteArray) (w S i : Int) (hi : wrap64 (i + 1) = i + 1) (R : Int × Int × Int)
theorem len_inner (hi : wrap64 (i + 1) = i + 1) (t : ByteArray) (ht : t.size ≤ 100) : ∀ (m j : Nat) (n : Int), j + m = t.size → Ev (fun k => digits_Length.l1 k enc d s w (addD n ((bytesOf t).drop j)) S (i + 1)) R →
    Ev (fun k => digits_Length.l2 k enc d s w n S i t (t.size : Int) (j : Int)) R := by
  intro m
  induction m with
  | zero =>
    intro j n hj h
    rw [dropAll t j (by omega)] at h
    refine Ev.step (fun k => ?_) h
    simp only [digits_Length.l2]; rw [if_neg (by omega), hi]; rfl
  | succ m ih =>
    intro j n hj h
    rw [dropBt t j (by omega)] at h
    refine Ev.step (fun k => ?_) (ih (j + 1) (wrap64 ((wrap64 (10 * n)) + (((bt t j) - 48) % 256))) (by omega) h)
    simp only [digits_Length.l2]; rw [if_pos (by omega), if_pos (by omega), if_pos (by omega), w64 (by omega : -9223372036854775808 ≤ (j : Int) + 1 ∧ (j : Int) + 1 ≤ 9223372036854775807)]; rfl
end

theorem bytesOf_nums (l : List Int) (h : ∀ x ∈ l, 0 ≤ x ∧ x ≤ 255) : bytesOf (strOfNums l) = l := by
  unfold bytesOf
  rw [strOfNums_data, List.map_map]
  have : ∀ x ∈ l, ((fun b : UInt8 => (b.toNat : Int)) ∘ fun n : Int => UInt8.ofNat n.toNat) x = id x := by
    intro x hx
    have := h x hx
    simp
    omega
  rw [List.map_congr_left this, List.map_id]
theorem ldF_len (p : List Int × Int) (h : p.1.length ≤ 2) : (ldF p).1.length ≤ 2 := by
  unfold ldF
  split
  · simp
  · split
    · split
      · exact h
      · simp
    · simp

theorem len_l1 (enc d : Int) (he : enc = 1 ∨ enc = 2 ∨ enc = 4) (s : ByteArray) (w : Nat) (hw : w ≤ s.size) (hw2 : w ≤ 4) : ∀ (m i : Nat) (n : Int), i + m = w →
    Ev (fun k => digits_Length.l1 k enc d s (w : Int) n (w : Int) (i : Int)) (lenR enc d w (((bytesOf s).take w).drop i) i n) := by
  have hlen : ((bytesOf s).take w).length = w := by rw [List.length_take, bytesOf_length]; omega
  intro m
  induction m with
  | zero =>
    intro i n hi
    rw [List.drop_eq_nil_iff.2 (by omega)]
    refine Ev.step (f := fun _ => some (n, 0, (w : Int))) (fun k => ?_) (Ev.now _)
    simp only [digits_Length.l1]; rw [if_neg (by omega)]
  | succ m ih =>
    intro i n hi
    have hc : ((bytesOf s).take w).drop i = bt s (i : Int) :: ((bytesOf s).take w).drop (i + 1) := by
      rw [List.drop_take, List.drop_take, dropBt s i (by omega), show w - i = (w - (i + 1)) + 1 by omega, List.take_succ_cons]
    rw [hc]
    simp only [lenR]
    have hd := digitsOf_is enc (bt s i) i d he (bt_lo _ _) (bt_hi _ _)
    have hr : ∀ x ∈ (ldS enc (bt s i) i d).1, 0 ≤ x ∧ x ≤ 255 := fun x hx => by have := ldF_range _ x hx; omega
    have hl : (ldS enc (bt s i) i d).1.length ≤ 2 := ldF_len _ (byteS_len _ _ _ _)
    refine Ev.step (f := fun k => (digits_digitsOf.f k enc (bt s i) (decide ((i : Int) = 0 ∧ Int.tmod d 2 = 1))).bind fun b => digits_Length.j2 k enc d s (w : Int) n (i : Int) b.1 b.2 (w : Int) (i : Int)) (fun k => ?_) (evb hd ?_)
    · simp only [digits_Length.l1]; rw [if_pos (by omega), if_pos (by omega), if_pos (by omega)]
      by_cases c0 : (i : Int) = 0
      · rw [if_pos c0]
        by_cases c1 : Int.tmod d 2 = 1
        · rw [beq_iff_eq.mpr c1, decide_eq_true ⟨c0, c1⟩]
        · rw [beq_eq_false_iff_ne.mpr c1, decide_eq_false (fun h => c1 h.2)]
      · rw [if_neg c0, decide_eq_false (fun h => c0 h.1)]
    · by_cases h : (ldS enc (bt s i) i d).2 = 0
      · rw [if_pos h]
        refine Ev.step (f := fun k => digits_Length.l2 k enc d s w n w i (strOfNums (ldS enc (bt s i) i d).1) ((strOfNums (ldS enc (bt s i) i d).1).size : Int) ((0 : Nat) : Int)) (fun k => ?_) ?_
        · simp only [digits_Length.j2]; rw [if_pos h]; rfl
        · refine len_inner enc d s w w i _ (w64 (by omega)) _ (by rw [strOfNums_size]; omega) _ 0 n (Nat.zero_add _) ?_
          rw [bytesOf_nums _ hr]
          exact ih (i + 1) (addD n (ldS enc (bt s i) i d).1) (by omega)
      · rw [if_neg h]
        refine Ev.step (f := fun _ => some (0, (ldS enc (bt s i) i d).2, (i : Int))) (fun k => ?_) (Ev.now _)
        simp only [digits_Length.j2]; rw [if_neg h]

/-- what Length tells -/
def lengthS (enc d : Int) (s : ByteArray) : Int × Int × Int :=
  if ¬ okLen enc d then (0, 1, 0) else if (s.size : Int) < wideS enc d then (0, 10, (s.size : Int))
  else if enc = 5 then binR d ((bytesOf s).take (wideS enc d).toNat) else lenR enc d (wideS enc d) ((bytesOf s).take (wideS enc d).toNat) 0 0
theorem wide_range (enc d : Int) (h : okLen enc d) : 1 ≤ wideS enc d ∧ wideS enc d ≤ 4 ∧ (enc = 5 → wideS enc d ≤ 2) := by
  have h1 := h.2.1
  have h4 := h.2.2
  unfold wideS
  rw [if_pos h]
  split <;> omega
theorem dlength_is (enc d : Int) (s : ByteArray) : Ev (fun k => digits_Length.f k enc d s) (lengthS enc d s) := by
  unfold digits_Length.f
  refine evb (wide_is enc d) ?_
  unfold lengthS
  by_cases ho : okLen enc d
  · have hw := wide_range enc d ho
    rw [if_neg (fun h => h ho)]
    refine Ev.congr (fun k => if_neg (show ¬ wideS enc d = 0 by omega)) ?_
    by_cases hs2 : (s.size : Int) < wideS enc d
    · rw [if_pos hs2]; exact ev_some fun k => if_pos hs2
    · rw [if_neg hs2]
      refine Ev.congr (fun k => if_neg hs2) ?_
      have ew : (((wideS enc d).toNat : Nat) : Int) = wideS enc d := by omega
      by_cases c5 : enc = 5
      · rw [if_pos c5]
        refine Ev.congr (fun k => if_pos c5) ?_
        have ed : ((d.toNat : Nat) : Int) = d := by have := ho.2.1; omega
        have h := len_bin d.toNat (by have := ho.2.2; omega) s (wideS enc d).toNat (by omega) (by have := hw.2.2 c5; omega) (wideS enc d).toNat 0 0 (by omega) (by omega) (by simp) (binR d ((bytesOf s).take (wideS enc d).toNat)) (fun h => by unfold binR; rw [if_pos (by simpa using h)]) (fun h => by
          unfold binR; rw [if_neg (by simpa using h)]
          simp only [List.drop_zero, List.length_take, bytesOf_length]
          congr 2
          omega)
        rw [ew, ed] at h
        exact h
      · rw [if_neg c5]
        refine Ev.congr (fun k => if_neg c5) ?_
        have he : enc = 1 ∨ enc = 2 ∨ enc = 4 := by have := ho.1; omega
        have h := len_l1 enc d he s (wideS enc d).toNat (by omega) (by omega) (wideS enc d).toNat 0 0 (by omega)
        rw [ew] at h
        exact h
  · rw [if_pos ho]
    exact ev_some fun k => if_pos (wide_none enc d ho)
end Go.Proofs.Ytlpamhffpgoebaa.Pure
