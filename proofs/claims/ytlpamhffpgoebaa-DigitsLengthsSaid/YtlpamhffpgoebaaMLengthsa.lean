/- DigitsLengths of the package turnstilelaw1: of every two integers and every text digits.Length tells what the reference's does, its place too; of BINARY, 4 and the bytes 04 d2 it tells 1234 in 2 bytes. No condition. Texts of this claim laid together by merge.py: Ax0, Ax23, Ax24, Ax20, Ax26, Ax27, Ax28, Ax12, Ax15, Ax8, Ax35, Ax42, Ax48, Ax49, Ax50, Ax53, Ax7, Ax9, Ax54, Ax55 -/
import Derived.Test.YtlpamhffpgoebaaProg
import Derived.Below
import Derived.Deep.Draws
import Derived.Deep.AppendLies
import Derived.Maps.AppendAt
import Derived.OwnWalk
import Derived.Laws.BytesArg
import Derived.Laws.MakeOwn
import Derived.Laws.OwnMore
import Derived.Deep.OwnRows
import Derived.Tactics
import Derived.Lib.ConvBytes
import Derived.Laws.Slices
import Derived.WalkKit
import Derived.KernelRfl
import Derived.RowKit3
import Derived.Deep.LoopGhost
import Derived.Deep.QuietTactic
import Derived.BigQuiet
import Derived.WideLaws
import Derived.Deep.DeepCutAuto
import Derived.Deep.CutBlock
import Derived.Deep.RegionHeld3
import Derived.Laws.Rows
import Derived.Lib.AppendStr
import Derived.ArgAppend
import Derived.Laws.IdiomCopy
import Derived.OrdersHeld
import Derived.Laws.BitsLemmas
import Derived.RowKit
import Derived.Lib.Strings
import Derived.Lib.Slices
import Derived.Lib.Walk
import Derived.Lib.Bytealg
import Derived.Deep.WholeRow
import Derived.Deep.DeepMust
import Derived.Lib.Hide
import Derived.Outline
import Derived.Test.YtlpamhffpgoebaaWWords
import Derived.Test.YtlpamhffpgoebaaWLast
import Derived.Test.YtlpamhffpgoebaaWTab
import Derived.Test.YtlpamhffpgoebaaWFour
import Derived.Test.YtlpamhffpgoebaaWQPut
import Derived.Test.YtlpamhffpgoebaaWApart
import Derived.Test.YtlpamhffpgoebaaWArr
import Derived.Test.YtlpamhffpgoebaaWZeros
import Derived.Test.YtlpamhffpgoebaaWFoot
import Derived.Test.YtlpamhffpgoebaaWKept
import Derived.Test.YtlpamhffpgoebaaWShare
import Derived.Test.YtlpamhffpgoebaaWN
import Derived.Test.YtlpamhffpgoebaaWFootNe
import Derived.Test.YtlpamhffpgoebaaWAt
import Derived.Test.YtlpamhffpgoebaaWEqStruct
import Derived.Test.YtlpamhffpgoebaaWRepsOne
import Derived.Test.YtlpamhffpgoebaaWInv
import Derived.Test.YtlpamhffpgoebaaWInvWords
import Derived.Test.YtlpamhffpgoebaaWGuard
import Derived.Test.YtlpamhffpgoebaaWNEv
import Derived.Test.YtlpamhffpgoebaaWMore
-- WRITTEN BY this session's own drv.py over the kit's print. Not trusted: Lean checks it.
namespace Go.Proofs.Ytlpamhffpgoebaa.All
open Go.RowKit Go.Proofs.YtlpamhffpgoebaaW.PrintWords Go.Proofs.YtlpamhffpgoebaaW.PrintLast Go.Proofs.YtlpamhffpgoebaaW.PrintMore
attribute [local go_sem] max2_int min2_int max_two min_two max_three min_three max_four min_four   -- for this text's walks alone
set_option linter.unusedVariables false
set_option linter.unusedSimpArgs false



def errW : Option Int → Value
  | none => .nilIface
  | some c => .iface 0 (.int .i64 c)
theorem errW_none : errW none = .nilIface := rfl
theorem errW_some (c : Int) : errW (some c) = .iface 0 (.int .i64 c) := rfl

theorem info3 : (Try.prog.info? 3).map (fun i => (i.zero, i.size, i.bytes)) = some (some (.int .i64 0), 1, 8) := by kernel_rfl
theorem info5 : (Try.prog.info? 5).map (fun i => (i.zero, i.size, i.bytes)) = some (some (.int .u8 0), 1, 1) := by kernel_rfl
-- the values' own types

theorem _root_.Go.Proofs.YtlpamhffpgoebaaW.PrintWords.Kd.R_makecap {P : Program} {ops : Array Oper} {rest : List Oper} {o : Oper} {a : Act} {Q : Exit → Act → World → Prop} {α : Type} (d : Kd α) {w0 W : World} (base e : Nat) (hgd : o.guard = none) {N : Tmp} (hd : o.dst = some N) (t : TypeId) (x y : Operand) (ho : o.op = .makeSlice t x y) (n : Int) (hx : a.eval x = .int .i64 0) (hy : a.eval y = .int .i64 n)
    (ht : P.underlying t = some (.slice e)) (z : Value) (bytes : Nat) (hinfo : (P.info? e).map (fun i => (i.zero, i.size, i.bytes)) = some (some z, d.sz, bytes)) (hz : z.cells.size = d.sz) (hs0 : 0 < d.sz) (hb0 : 0 < bytes)
    {ok : Nat → Prop} (hfresh : ok W.heap.size) (h0 : 0 ≤ n) (hl : n.toNat * bytes ≤ 281474976710656) (HB : Below base w0 W) (hbase : base ≤ W.heap.size)
    (h : ∀ v1 w1, d.R e w1 base ok v1 [] → Below base w0 w1 → W.grownBy w1 none → (∃ b, v1.ownBlock = some b ∧ W.heap.size ≤ b) → wpList P ops Q rest (a.put o.dst v1) w1) : wpList P ops Q (o :: rest) a W := by
  obtain ⟨m, rfl⟩ := Int.eq_ofNat_of_zero_le h0
  simp only [Int.toNat_natCast] at hl h
  obtain ⟨i0, hi, hzz⟩ := Option.map_eq_some_iff.1 hinfo
  simp only [Prod.mk.injEq] at hzz
  obtain ⟨hz0, hz1, hz2⟩ := hzz
  have hm : m ≤ 281474976710656 := Nat.le_trans (Nat.le_mul_of_pos_right _ hb0) hl
  have hmax : m ≤ maxLen := by simp [maxLen]; omega
  have hb' : i0.bytes * m ≤ 281474976710656 := by rw [hz2, Nat.mul_comm]; exact hl
  obtain ⟨w', hrun, hown, hgrow⟩ := run_make_own (P := P) W base t e i0 z d.sz ht hi hz0 hz1 .i64 .i64 m hb' hmax hbase
  refine Kd.event_run hgd (v := .slice (some ⟨W.heap.size, 0, none⟩) 0 m) (w1 := w') ?_ (h _ _ ⟨fun k hk => ?_, [], by simpa using hown, ?_⟩ (HB.grown hgrow hbase (fun k hk => by cases hk)) hgrow ⟨W.heap.size, by simp [Value.ownBlock], Nat.le_refl _⟩)
  · simp [execOp, ho, hx, hy, hrun]
  · have : W.heap.size = k := by simpa [Value.ownBlock] using hk
    subst this
    exact hfresh
  · exact Reps.none _ _

end Go.Proofs.Ytlpamhffpgoebaa.All

-- WRITTEN BY this session's own drv.py over the kit's print. Not trusted: Lean checks it.
namespace Go.Proofs.Ytlpamhffpgoebaa.All
open Go.RowKit Go.Proofs.YtlpamhffpgoebaaW.PrintWords Go.Proofs.YtlpamhffpgoebaaW.PrintLast Go.Proofs.YtlpamhffpgoebaaW.PrintMore
attribute [local go_sem] max2_int min2_int max_two min_two max_three min_three max_four min_four   -- for this text's walks alone
set_option linter.unusedVariables false
set_option linter.unusedSimpArgs false

/-! ### digits_wide: function 44 -/
mutual
def digits_wide.j0 : Nat → Int → Int → Bool → Option (Int)
  | 0, _, _, _ => none
  | k + 1, x0, x1, x10 => if x10 = true then (some 0) else (if x0 = 5 then (digits_wide.j1 k x1 x0 (x0 == 5)) else (digits_wide.j1 k x1 x0 (x0 == 2)))
def digits_wide.j1 : Nat → Int → Int → Bool → Option (Int)
  | 0, _, _, _ => none
  | k + 1, x1, x11, x12 => if x12 = true then (some (wrap64 (Int.tdiv (wrap64 (x1 + 1)) 2))) else (if x11 = 1 then (some x1) else (if x11 = 4 then (some x1) else (some 0)))
end
def digits_wide.f (k : Nat) (a0 : Int) (a1 : Int) : Option (Int) := if a1 < 1 then (digits_wide.j0 k a0 a1 true) else (digits_wide.j0 k a0 a1 (decide (a1 > 4)))
theorem digits_wide.mono_l : ∀ k, (∀ y0 y1 y2, LeO (digits_wide.j0 k y0 y1 y2) (digits_wide.j0 (k + 1) y0 y1 y2)) ∧ (∀ y0 y1 y2, LeO (digits_wide.j1 k y0 y1 y2) (digits_wide.j1 (k + 1) y0 y1 y2))
  | 0 => ⟨fun _ _ _ r h => by simp [digits_wide.j0] at h, fun _ _ _ r h => by simp [digits_wide.j1] at h⟩
  | k + 1 => by
    obtain ⟨ih0, ih1⟩ := digits_wide.mono_l k
    refine ⟨?_, ?_⟩
    · intro y0 y1 y2
      unfold digits_wide.j0
      repeat' first
      | (with_reducible exact ih0 _ _ _)
      | (with_reducible exact ih1 _ _ _)
      | (with_reducible exact LeO.refl _)
      | (with_reducible exact LeO.none _)
      | (with_reducible refine LeO.ite ?_ ?_)
      | (with_reducible refine LeO.bind ?_ (fun _ => ?_))
      | exact ih0 _ _ _
      | exact ih1 _ _ _
      | exact LeO.none _
      | refine LeO.ite ?_ ?_
      | refine LeO.bind ?_ (fun _ => ?_)
    · intro y0 y1 y2
      unfold digits_wide.j1
      repeat' first
      | (with_reducible exact ih0 _ _ _)
      | (with_reducible exact ih1 _ _ _)
      | (with_reducible exact LeO.refl _)
      | (with_reducible exact LeO.none _)
      | (with_reducible refine LeO.ite ?_ ?_)
      | (with_reducible refine LeO.bind ?_ (fun _ => ?_))
      | exact ih0 _ _ _
      | exact ih1 _ _ _
      | exact LeO.none _
      | refine LeO.ite ?_ ?_
      | refine LeO.bind ?_ (fun _ => ?_)
theorem digits_wide.mono : ∀ a0 a1 k, LeO (digits_wide.f k a0 a1) (digits_wide.f (k + 1) a0 a1) := by
  intro a0 a1 k
  obtain ⟨ih0, ih1⟩ := digits_wide.mono_l k
  unfold digits_wide.f
  repeat' first
      | (with_reducible exact ih0 _ _ _)
      | (with_reducible exact ih1 _ _ _)
      | (with_reducible exact LeO.refl _)
      | (with_reducible exact LeO.none _)
      | (with_reducible refine LeO.ite ?_ ?_)
      | (with_reducible refine LeO.bind ?_ (fun _ => ?_))
      | exact ih0 _ _ _
      | exact ih1 _ _ _
      | exact LeO.none _
      | refine LeO.ite ?_ ?_
      | refine LeO.bind ?_ (fun _ => ?_)
set_option maxHeartbeats 8000000 in
set_option maxRecDepth 100000 in
theorem digits_wide.calls (k : Nat) (a0 : Int) (a1 : Int) (r : Int) (w : World) (h : digits_wide.f k a0 a1 = some r) :
    Calls Try.prog 44 #[.int .i64 a0, .int .i64 a1] w fun e w' => e = .returned (.int .i64 r) ∧ Drawn0 w w' := by
  have H : (if a1 < 1 then (digits_wide.j0 k a0 a1 true) else (digits_wide.j0 k a0 a1 (decide (a1 > 4)))) = some r := h
  clear h
  have HC3 := Aside0.mk H
  clear H
  go_enter Try.func44, Try.ntmps44
  go_upto_region 1 with (fail)
  go_cut [10] (fun v10 wc => ∃ (kq : Nat) (x10_2 : Bool), v10 = .bool x10_2 ∧ Aside0 (digits_wide.j0 kq a0 a1 x10_2 = some r) ∧ Aside0 (kq ≤ k) ∧ Drawn0 w wc)
  case first =>
    have H := HC3.out
    clear HC3
    by_cases c4 : a1 < 1
    · rw [if_pos c4] at H
      have c4b0 : decide (a1 < 1) = true := decide_eq_true c4
      clear c4
      (first | rw [c4b0] | (simp only [i64_w, i32_w]; rw [c4b0]) | skip)
      have H' := Aside0.mk H
      clear H
      go_wp2
      go_meet
      case rel => exact ⟨_, (true), (by first | rfl | (simp; done) | (simp [*]; done)), H', ⟨by first | omega | exact Nat.le_refl _⟩, by repeat (first | exact Drawn0.refl _ | apply Drawn0.step)⟩
    · rw [if_neg c4] at H
      have c4b0 : decide (a1 < 1) = false := decide_eq_false c4
      clear c4
      (first | rw [c4b0] | (simp only [i64_w, i32_w]; rw [c4b0]) | skip)
      have H' := Aside0.mk H
      clear H
      go_wp2
      go_meet
      case rel => exact ⟨_, (decide (a1 > 4)), (by first | rfl | (simp; done) | (simp [*]; done)), H', ⟨by first | omega | exact Nat.le_refl _⟩, by repeat (first | exact Drawn0.refl _ | apply Drawn0.step)⟩
  case rest =>
    clear HC3
    try clear p2
    try clear c4
    try clear c4b0
    obtain ⟨kq, x10_2, rfl, HA, HJ2, ⟨mc2, rfl⟩⟩ := hcut
    cases kq with
    | zero => exact absurd HA.out (by simp [digits_wide.j0])
    | succ kj2 =>
      have H := HA.out
      clear HA
      simp only [digits_wide.j0] at H
      by_cases c5 : x10_2 = true
      · subst c5
        have H1 : (some 0) = some r := by rw [if_pos rfl] at H; exact H
        clear H
        have H := H1
        clear H1
        obtain rfl := Option.some.inj H
        go_wp2
        go_ret
        exact ⟨by first | rfl | (simp; done) | (simp [*]; done), by repeat (first | exact Drawn0.refl _ | apply Drawn0.step)⟩
      · replace c5 := Bool.eq_false_iff.mpr c5
        subst c5
        have H1 : (if a0 = 5 then (digits_wide.j1 kj2 a1 a0 (a0 == 5)) else (digits_wide.j1 kj2 a1 a0 (a0 == 2))) = some r := by rw [if_neg (show ¬ (false = true) by decide)] at H; exact H
        clear H
        have H := H1
        clear H1
        have HC6 := Aside0.mk H
        clear H
        go_upto_if 12 with (fail)
        go_cut [12] (fun v12 wc => ∃ (kq : Nat) (x12_5 : Bool), v12 = .bool x12_5 ∧ Aside0 (digits_wide.j1 kq a1 a0 x12_5 = some r) ∧ Aside0 (kq ≤ kj2) ∧ Drawn0 w wc)
        case first =>
          have H := HC6.out
          clear HC6
          by_cases c7 : a0 = 5
          · rw [if_pos c7] at H
            have c7b0 : (a0 == 5) = true := beq_iff_eq.mpr c7
            have c7b1 : (a0 != 5) = false := bne_eq_false_iff_eq.mpr c7
            clear c7
            (first | rw [c7b0] | (simp only [i64_w, i32_w]; rw [c7b0]) | skip)
            have H' := Aside0.mk H
            clear H
            go_wp2
            go_meet
            case rel => exact ⟨_, ((a0 == 5)), (by first | rfl | (simp; done) | (simp [*]; done)), H', ⟨by have := HJ2.out; first | omega | exact Nat.le_refl _⟩, by repeat (first | exact Drawn0.refl _ | apply Drawn0.step)⟩
          · rw [if_neg c7] at H
            have c7b0 : (a0 == 5) = false := beq_eq_false_iff_ne.mpr c7
            have c7b1 : (a0 != 5) = true := bne_iff_ne.mpr c7
            (first | rw [c7b0] | (simp only [i64_w, i32_w]; rw [c7b0]) | skip)
            have H' := Aside0.mk H
            clear H
            go_wp2
            go_meet
            case rel => exact ⟨_, ((a0 == 2)), (by first | rfl | (simp; done) | (simp [*]; done)), H', ⟨by have := HJ2.out; first | omega | exact Nat.le_refl _⟩, by repeat (first | exact Drawn0.refl _ | apply Drawn0.step)⟩
        case rest =>
          clear HC6
          try clear c2
          try clear p2
          try clear c4
          try clear c4b0
          try clear c5
          try clear c7
          try clear c7b0
          try clear c7b1
          try clear p2
          obtain ⟨kq, x12_5, rfl, HA, HJ5, ⟨mc5, rfl⟩⟩ := hcut
          cases kq with
          | zero => exact absurd HA.out (by simp [digits_wide.j1])
          | succ kj5 =>
            have H := HA.out
            clear HA
            simp only [digits_wide.j1] at H
            by_cases c8 : x12_5 = true
            · subst c8
              have H1 : (some (wrap64 (Int.tdiv (wrap64 (a1 + 1)) 2))) = some r := by rw [if_pos rfl] at H; exact H
              clear H
              have H := H1
              clear H1
              obtain rfl := Option.some.inj H
              go_wp2
              go_ret
              exact ⟨by first | rfl | (simp; done) | (simp [*]; done), by repeat (first | exact Drawn0.refl _ | apply Drawn0.step)⟩
            · replace c8 := Bool.eq_false_iff.mpr c8
              subst c8
              have H1 : (if a0 = 1 then (some a1) else (if a0 = 4 then (some a1) else (some 0))) = some r := by rw [if_neg (show ¬ (false = true) by decide)] at H; exact H
              clear H
              have H := H1
              clear H1
              by_cases c9 : a0 = 1
              · rw [if_pos c9] at H
                have c9b0 : (a0 == 1) = true := beq_iff_eq.mpr c9
                have c9b1 : (a0 != 1) = false := bne_eq_false_iff_eq.mpr c9
                clear c9
                obtain rfl := Option.some.inj H
                go_wp2
                go_ret
                exact ⟨by first | rfl | (simp; done) | (simp [*]; done), by repeat (first | exact Drawn0.refl _ | apply Drawn0.step)⟩
              · rw [if_neg c9] at H
                have c9b0 : (a0 == 1) = false := beq_eq_false_iff_ne.mpr c9
                have c9b1 : (a0 != 1) = true := bne_iff_ne.mpr c9
                by_cases c10 : a0 = 4
                · rw [if_pos c10] at H
                  have c10b0 : (a0 == 4) = true := beq_iff_eq.mpr c10
                  have c10b1 : (a0 != 4) = false := bne_eq_false_iff_eq.mpr c10
                  clear c10
                  obtain rfl := Option.some.inj H
                  go_wp2
                  go_ret
                  exact ⟨by first | rfl | (simp; done) | (simp [*]; done), by repeat (first | exact Drawn0.refl _ | apply Drawn0.step)⟩
                · rw [if_neg c10] at H
                  have c10b0 : (a0 == 4) = false := beq_eq_false_iff_ne.mpr c10
                  have c10b1 : (a0 != 4) = true := bne_iff_ne.mpr c10
                  obtain rfl := Option.some.inj H
                  go_wp2
                  go_ret
                  exact ⟨by first | rfl | (simp; done) | (simp [*]; done), by repeat (first | exact Drawn0.refl _ | apply Drawn0.step)⟩

end Go.Proofs.Ytlpamhffpgoebaa.All

-- WRITTEN BY this session's own drv.py over the kit's print. Not trusted: Lean checks it.
namespace Go.Proofs.Ytlpamhffpgoebaa.All
open Go.RowKit Go.Proofs.YtlpamhffpgoebaaW.PrintWords Go.Proofs.YtlpamhffpgoebaaW.PrintLast Go.Proofs.YtlpamhffpgoebaaW.PrintMore
attribute [local go_sem] max2_int min2_int max_two min_two max_three min_three max_four min_four   -- for this text's walks alone
set_option linter.unusedVariables false
set_option linter.unusedSimpArgs false

/-! ### digits_ten: function 45 -/
def digits_ten.l0 : Nat → Int → Int → Int → Option (Int)
  | 0, _, _, _ => none
  | k + 1, x3, x4, x5 => if x5 < x4 then (digits_ten.l0 k (wrap64 (x3 * 10)) x4 (wrap64 (x5 + 1))) else (some x3)
def digits_ten.f (k : Nat) (a0 : Int) : Option (Int) := digits_ten.l0 k 1 a0 0
theorem digits_ten.mono_l : ∀ k, (∀ y0 y1 y2, LeO (digits_ten.l0 k y0 y1 y2) (digits_ten.l0 (k + 1) y0 y1 y2))
  | 0 => fun _ _ _ r h => by simp [digits_ten.l0] at h
  | k + 1 => by
    have ih0 := digits_ten.mono_l k
    · intro y0 y1 y2
      unfold digits_ten.l0
      repeat' first
      | (with_reducible exact ih0 _ _ _)
      | (with_reducible exact LeO.refl _)
      | (with_reducible exact LeO.none _)
      | (with_reducible refine LeO.ite ?_ ?_)
      | (with_reducible refine LeO.bind ?_ (fun _ => ?_))
      | exact ih0 _ _ _
      | exact LeO.none _
      | refine LeO.ite ?_ ?_
      | refine LeO.bind ?_ (fun _ => ?_)
theorem digits_ten.mono : ∀ a0 k, LeO (digits_ten.f k a0) (digits_ten.f (k + 1) a0) := by
  intro a0 k
  have ih0 := digits_ten.mono_l k
  unfold digits_ten.f
  repeat' first
      | (with_reducible exact ih0 _ _ _)
      | (with_reducible exact LeO.refl _)
      | (with_reducible exact LeO.none _)
      | (with_reducible refine LeO.ite ?_ ?_)
      | (with_reducible refine LeO.bind ?_ (fun _ => ?_))
      | exact ih0 _ _ _
      | exact LeO.none _
      | refine LeO.ite ?_ ?_
      | refine LeO.bind ?_ (fun _ => ?_)
set_option maxHeartbeats 8000000 in
set_option maxRecDepth 100000 in
theorem digits_ten.calls (k : Nat) (a0 : Int) (r : Int) (w : World) (h : digits_ten.f k a0 = some r) :
    Calls Try.prog 45 #[.int .i64 a0] w fun e w' => e = .returned (.int .i64 r) ∧ Drawn0 w w' := by
  have H : (digits_ten.l0 k 1 a0 0) = some r := h
  clear h
  have H' := Aside0.mk H
  clear H
  go_enter Try.func45, Try.ntmps45
  go_wp2
  go_loopg [3, 5] k (fun kq v3 v5 w' => ∃ (x3_1 : Int) (x5_1 : Int), v3 = .int .i64 x3_1 ∧ v5 = .int .i64 x5_1 ∧ Aside0 (digits_ten.l0 kq x3_1 a0 x5_1 = some r) ∧ Aside0 (kq ≤ k) ∧ Drawn0 w w')
  case atStart => exact ⟨(1), (0), (by first | rfl | (simp; done) | (simp [*]; done)), (by first | rfl | (simp; done) | (simp [*]; done)), H', ⟨Nat.le_refl _⟩, by repeat (first | exact Drawn0.refl _ | apply Drawn0.step)⟩
  case round =>
    clear H'
    obtain ⟨x3_1, x5_1, rfl, rfl, HA, HK1, ⟨m1, rfl⟩⟩ := hrel
    cases gk with
    | zero => exact absurd HA.out (by simp [digits_ten.l0])
    | succ k1 =>
      have H := HA.out
      clear HA
      simp only [digits_ten.l0] at H
      by_cases c2 : x5_1 < a0
      · rw [if_pos c2] at H
        have c2b0 : decide (x5_1 < a0) = true := decide_eq_true c2
        clear c2
        have H' := Aside0.mk H
        clear H
        go_wp2
        go_roundg k1
        case measure => have := HK1.out; omega
        case rel => exact ⟨(wrap64 (x3_1 * 10)), (wrap64 (x5_1 + 1)), (by first | rfl | (simp; done) | (simp [*]; done)), (by first | rfl | (simp; done) | (simp [*]; done)), H', ⟨by have := HK1.out; omega⟩, by repeat (first | exact Drawn0.refl _ | apply Drawn0.step)⟩
      · rw [if_neg c2] at H
        have c2b0 : decide (x5_1 < a0) = false := decide_eq_false c2
        clear c2
        obtain rfl := Option.some.inj H
        go_wp2
        go_ret
        exact ⟨by first | rfl | (simp; done) | (simp [*]; done), by repeat (first | exact Drawn0.refl _ | apply Drawn0.step)⟩

end Go.Proofs.Ytlpamhffpgoebaa.All

-- WRITTEN BY this session's own drv.py over the kit's print. Not trusted: Lean checks it.
namespace Go.Proofs.Ytlpamhffpgoebaa.All
open Go.RowKit Go.Proofs.YtlpamhffpgoebaaW.PrintWords Go.Proofs.YtlpamhffpgoebaaW.PrintLast Go.Proofs.YtlpamhffpgoebaaW.PrintMore
attribute [local go_sem] max2_int min2_int max_two min_two max_three min_three max_four min_four   -- for this text's walks alone
set_option linter.unusedVariables false
set_option linter.unusedSimpArgs false

/-- the table's bytes, in order -/
def ebL : List Int := [64, 90, 127, 123, 91, 108, 80, 125, 77, 93, 92, 78, 107, 96, 75, 97, 240, 241, 242, 243, 244, 245, 246, 247, 248, 249, 122, 94, 76, 126, 110, 111, 124, 193, 194, 195, 196, 197, 198, 199, 200, 201, 209, 210, 211, 212, 213, 214, 215, 216, 217, 226, 227, 228, 229, 230, 231, 232, 233, 186, 224, 187, 176, 109, 121, 129, 130, 131, 132, 133, 134, 135, 136, 137, 145, 146, 147, 148, 149, 150, 151, 152, 153, 162, 163, 164, 165, 166, 167, 168, 169, 192, 79, 208, 161]
def ebV : Array Value := (ebL.map (Value.int .u8)).toArray
theorem info62 : (Try.prog.info? 62).map (·.size) = some ebV.size := by kernel_rfl
theorem ebV_cells : ebV.all (·.oneCell') = true := by kernel_rfl
set_option maxHeartbeats 4000000 in
set_option maxRecDepth 100000 in
theorem digits_ebcdic.calls (w : World) :
    Calls Try.prog 60 #[] w fun e w' => e = .returned (.agg ebV) ∧ Below w.heap.size w w' := by
  go_enter Try.func60, Try.ntmps60
  go_wp2_with (first
    | ((with_reducible refine gate_dst (N := 1) rfl ?_); go_must (refine Kd.event_run (v := .agg ebV) (w1 := w.alloc (.cells Try.zeroCells62 62)) rfl ?hr ?_; (case hr => kernel_rfl)))
    | ((with_reducible refine gate_store (t := 62) (p := 0) rfl ?_); go_must (refine wpList_store_row rfl 62 _ _ rfl w.heap.size ebV rfl rfl 62 _ (heap_alloc_last _ _) info62 ?hq ebV_cells ?_; (case hq => kernel_rfl); rw [World.setRow_alloc_new])))
  exact bodyPost_ret (v := .agg ebV) (results_cell_row (p := 0) (ty := 62) (by kernel_rfl) _ _ w.heap.size 62 ebV (0, 0) _ rfl (heap_alloc_last _ _) Try.underlying62 rfl info62) rfl ⟨rfl, below_alloc (Below.refl _ _) _⟩

theorem ebV_at (i : Nat) (h : i < 95) : ebV[i]? = some (.int .u8 (rd ebL i)) := by
  have e : ebV[i]? = (ebL.map (Value.int .u8))[i]? := by simp [ebV]
  have hl : i < ebL.length := h
  rw [e, List.getElem?_map, List.getElem?_eq_getElem hl]
  simp [rd, List.getD, List.getElem?_eq_getElem hl]

theorem index_eb (k : IntKind) (i : Int) (h0 : 0 ≤ i) (h1 : i < 95) (W : World) : (Instr.index 62 (.agg ebV) (.int k i)).run Try.prog W = .ok (.int .u8 (rd ebL i)) W := by
  obtain ⟨n, rfl⟩ := Int.eq_ofNat_of_zero_le h0
  have hs : (Try.prog.info? 5).map (·.size) = some 1 := by kernel_rfl
  have ha := ebV_at n (by omega)
  have hu := run_underlying (P := Try.prog) Try.underlying5
  simp [Instr.index, run_underlying Try.underlying62, asIntOf, sizeOf, typeInfo, part, isAgg]
  obtain ⟨i5, hi5, h5⟩ := Option.map_eq_some_iff.1 hs
  rw [if_pos (by omega : n < 95), hi5]
  simp [h5, ha]

end Go.Proofs.Ytlpamhffpgoebaa.All

-- WRITTEN BY this session's own drv.py over the kit's print. Not trusted: Lean checks it.
namespace Go.Proofs.Ytlpamhffpgoebaa.All
open Go.RowKit Go.Proofs.YtlpamhffpgoebaaW.PrintWords Go.Proofs.YtlpamhffpgoebaaW.PrintLast Go.Proofs.YtlpamhffpgoebaaW.PrintMore
attribute [local go_sem] max2_int min2_int max_two min_two max_three min_three max_four min_four   -- for this text's walks alone
set_option linter.unusedVariables false
set_option linter.unusedSimpArgs false

/-! ### digits_read: function 54 -/
/-- the first place at which the table holds b -/
def ebFind (b : Int) : Option Nat := ebL.findIdx? (· == b)
theorem ebL_len : ebL.length = 95 := rfl
theorem rd_get (j : Nat) (h : j < ebL.length) : rd ebL j = ebL[j] := by
  simp [rd, List.getD, List.getElem?_eq_getElem h]
theorem eb_first (k : Nat) (b : Int) (hk : k < 95) (he : rd ebL k = b) (hj : ∀ j : Nat, j < k → rd ebL j ≠ b) : ebFind b = some k := by
  unfold ebFind
  have hl : k < ebL.length := hk
  rw [List.findIdx?_eq_some_iff_getElem]
  refine ⟨hl, ?_, ?_⟩
  · rw [← rd_get k hl]; simpa using he
  · intro j h2
    have := hj j h2
    rw [rd_get j (by omega)] at this
    simpa using this
theorem eb_none (b : Int) (hj : ∀ j : Nat, j < 95 → rd ebL j ≠ b) : ebFind b = none := by
  unfold ebFind
  rw [List.findIdx?_eq_none_iff]
  intro x hx
  obtain ⟨j, h2, rfl⟩ := List.mem_iff_getElem.1 hx
  have := hj j h2
  rw [rd_get j h2] at this
  simpa using this
def digits_read.f (a0 : Int) (a1 : Int) : Option (Int × Bool) :=
  if a0 = 4 then (match ebFind a1 with | some i => some (32 + (i : Int), true) | none => some (0, false))
  else if a0 = 5 then some (a1, true) else some (a1, decide (32 ≤ a1) && decide (a1 ≤ 126))
set_option maxHeartbeats 4000000 in
set_option maxRecDepth 100000 in
theorem digits_read.calls (a0 : Int) (a1 : Int) (r1 : Int) (r2 : Bool) (w : World) (h : digits_read.f a0 a1 = some (r1, r2)) :
    Calls Try.prog 54 #[.int .i64 a0, .int .u8 a1] w fun e w' => e = .returned (.tuple #[.int .u8 r1, .bool r2]) ∧ Below w.heap.size w w' := by
  unfold digits_read.f at h
  by_cases c1 : a0 = 4
  · rw [if_pos c1] at h
    subst c1
    go_enter Try.func54, Try.ntmps54
    go_wp2_with (first | (go_at_call 60; refine (digits_ebcdic.calls _).mono ?_; rintro e w' ⟨rfl, hb⟩))
    have Hh := Lib.hid h
    clear h
    go_loop [22] (fun v => ∃ k : Nat, v = .int .i64 k ∧ k ≤ 95 ∧ Aside0 (∀ j : Nat, j < k → rd ebL j ≠ a1)) (fun v => 95 - (intOf v).toNat)
    case atStart => exact ⟨0, rfl, by omega, ⟨fun j hj => by omega⟩⟩
    case round =>
      obtain ⟨k, rfl, hk, hj⟩ := hrel
      by_cases hlt : k < 95
      · have hx := fun W => index_eb .i64 (k : Int) (by omega) (by omega) W
        by_cases he : rd ebL k = a1
        · have be : (rd ebL k == a1) = true := beq_iff_eq.mpr he
          have hf : ebFind a1 = some k := eb_first k a1 hlt he hj.out
          have hr := Hh.out
          rw [hf] at hr
          obtain ⟨hr1, rfl⟩ := Prod.mk.inj (Option.some.inj hr)
          have Hr := Lib.hid hr1
          clear hr hr1 hf he
          go_wp2
          go_ret2
          exact ⟨by rw [← Hr.out]; rfl, hb⟩
        · have be : (rd ebL k == a1) = false := beq_eq_false_iff_ne.mpr he
          have hj2 : Aside0 (∀ j : Nat, j < k + 1 → rd ebL j ≠ a1) := ⟨fun j h2 => by
            by_cases e : j = k
            · subst e; exact he
            · exact hj.out j (by omega)⟩
          clear he hj
          go_wp2
          go_round
          case rel => exact ⟨k + 1, by go_num, by omega, hj2⟩
          case measure => simp [intOf]; omega
      · obtain rfl : k = 95 := by omega
        have hr := Hh.out
        rw [eb_none a1 hj.out] at hr
        obtain ⟨rfl, rfl⟩ := Prod.mk.inj (Option.some.inj hr)
        clear hr hj
        go_wp2
        go_ret2
        exact ⟨rfl, hb⟩
  · rw [if_neg c1] at h
    have b1 : (a0 != 4) = true := bne_iff_ne.mpr c1
    by_cases c2 : a0 = 5
    · rw [if_pos c2] at h
      obtain ⟨rfl, rfl⟩ := Prod.mk.inj (Option.some.inj h)
      subst c2
      clear c1 h b1
      go_enter Try.func54, Try.ntmps54
      go_wp2
      go_ret2
      exact ⟨rfl, Below.refl _ _⟩
    · rw [if_neg c2] at h
      have b2 : (a0 == 5) = false := beq_eq_false_iff_ne.mpr c2
      obtain ⟨rfl, hr⟩ := Prod.mk.inj (Option.some.inj h)
      have Hr := Lib.hid hr
      clear hr h c2 c1
      by_cases c3 : 32 ≤ a1
      · have b3 : decide (32 ≤ a1) = true := decide_eq_true c3
        clear c3
        go_enter Try.func54, Try.ntmps54
        go_wp2
        go_ret2
        exact ⟨by rw [← Hr.out, b3]; simp, Below.refl _ _⟩
      · have b3 : decide (32 ≤ a1) = false := decide_eq_false c3
        clear c3
        go_enter Try.func54, Try.ntmps54
        go_wp2
        go_ret2
        exact ⟨by rw [← Hr.out, b3]; simp, Below.refl _ _⟩

end Go.Proofs.Ytlpamhffpgoebaa.All

-- WRITTEN BY this session's own drv.py over the kit's print. Not trusted: Lean checks it.
namespace Go.Proofs.Ytlpamhffpgoebaa.All
open Go.RowKit Go.Proofs.YtlpamhffpgoebaaW.PrintWords Go.Proofs.YtlpamhffpgoebaaW.PrintLast Go.Proofs.YtlpamhffpgoebaaW.PrintMore
attribute [local go_sem] max2_int min2_int max_two min_two max_three min_three max_four min_four   -- for this text's walks alone
set_option linter.unusedVariables false
set_option linter.unusedSimpArgs false

/-! ### digits_digitsOf: function 46 -/
mutual
def digits_digitsOf.j0 : Nat → Bool → Int → Int → Bool → Option (ByteArray × Int)
  | 0, _, _, _, _ => none
  | k + 1, x2, x10, x11, x37 => if x37 = true then (some ((⟨#[]⟩ : ByteArray), 11)) else (if x2 = true then (digits_digitsOf.j1 k x2 x10 x11 (x10 != 0)) else (digits_digitsOf.j1 k x2 x10 x11 false))
def digits_digitsOf.j1 : Nat → Bool → Int → Int → Bool → Option (ByteArray × Int)
  | 0, _, _, _, _ => none
  | k + 1, x2, x10, x11, x48 => if x48 = true then (some ((⟨#[]⟩ : ByteArray), 12)) else (if x2 = true then (some (strOfNums (([(48 + x11) % 256] : List Int)), 0)) else (some (strOfNums (([(48 + x10) % 256, (48 + x11) % 256] : List Int)), 0)))
end
def digits_digitsOf.f (k : Nat) (a0 : Int) (a1 : Int) (a2 : Bool) : Option (ByteArray × Int) := if a0 = 2 then (if (Go.bits .and .u8 a1 15) > 9 then (digits_digitsOf.j0 k a2 (a1 / 16) (Go.bits .and .u8 a1 15) true) else (if a2 = true then (digits_digitsOf.j0 k a2 (a1 / 16) (Go.bits .and .u8 a1 15) false) else (digits_digitsOf.j0 k a2 (a1 / 16) (Go.bits .and .u8 a1 15) (decide ((a1 / 16) > 9))))) else ((digits_read.f a0 a1).bind fun bt170 => (if bt170.2 = true then (if bt170.1 < 48 then (some ((⟨#[]⟩ : ByteArray), 11)) else (if bt170.1 > 57 then (some ((⟨#[]⟩ : ByteArray), 11)) else (some (strOfNums (([bt170.1] : List Int)), 0)))) else (some ((⟨#[]⟩ : ByteArray), 11))))
theorem digits_digitsOf.mono_l : ∀ k, (∀ y0 y1 y2 y3, LeO (digits_digitsOf.j0 k y0 y1 y2 y3) (digits_digitsOf.j0 (k + 1) y0 y1 y2 y3)) ∧ (∀ y0 y1 y2 y3, LeO (digits_digitsOf.j1 k y0 y1 y2 y3) (digits_digitsOf.j1 (k + 1) y0 y1 y2 y3))
  | 0 => ⟨fun _ _ _ _ r h => by simp [digits_digitsOf.j0] at h, fun _ _ _ _ r h => by simp [digits_digitsOf.j1] at h⟩
  | k + 1 => by
    obtain ⟨ih0, ih1⟩ := digits_digitsOf.mono_l k
    refine ⟨?_, ?_⟩
    · intro y0 y1 y2 y3
      unfold digits_digitsOf.j0
      repeat' first
      | (with_reducible exact ih0 _ _ _ _)
      | (with_reducible exact ih1 _ _ _ _)
      | (with_reducible exact LeO.refl _)
      | (with_reducible exact LeO.none _)
      | (with_reducible refine LeO.ite ?_ ?_)
      | (with_reducible refine LeO.bind ?_ (fun _ => ?_))
      | exact ih0 _ _ _ _
      | exact ih1 _ _ _ _
      | exact LeO.none _
      | refine LeO.ite ?_ ?_
      | refine LeO.bind ?_ (fun _ => ?_)
    · intro y0 y1 y2 y3
      unfold digits_digitsOf.j1
      repeat' first
      | (with_reducible exact ih0 _ _ _ _)
      | (with_reducible exact ih1 _ _ _ _)
      | (with_reducible exact LeO.refl _)
      | (with_reducible exact LeO.none _)
      | (with_reducible refine LeO.ite ?_ ?_)
      | (with_reducible refine LeO.bind ?_ (fun _ => ?_))
      | exact ih0 _ _ _ _
      | exact ih1 _ _ _ _
      | exact LeO.none _
      | refine LeO.ite ?_ ?_
      | refine LeO.bind ?_ (fun _ => ?_)
theorem digits_digitsOf.mono : ∀ a0 a1 a2 k, LeO (digits_digitsOf.f k a0 a1 a2) (digits_digitsOf.f (k + 1) a0 a1 a2) := by
  intro a0 a1 a2 k
  obtain ⟨ih0, ih1⟩ := digits_digitsOf.mono_l k
  unfold digits_digitsOf.f
  repeat' first
      | (with_reducible exact ih0 _ _ _ _)
      | (with_reducible exact ih1 _ _ _ _)
      | (with_reducible exact LeO.refl _)
      | (with_reducible exact LeO.none _)
      | (with_reducible refine LeO.ite ?_ ?_)
      | (with_reducible refine LeO.bind ?_ (fun _ => ?_))
      | exact ih0 _ _ _ _
      | exact ih1 _ _ _ _
      | exact LeO.none _
      | refine LeO.ite ?_ ?_
      | refine LeO.bind ?_ (fun _ => ?_)
set_option maxHeartbeats 8000000 in
set_option maxRecDepth 100000 in
theorem digits_digitsOf.calls (k : Nat) (a0 : Int) (a1 : Int) (a2 : Bool) (r1 : ByteArray) (r2 : Int) (w : World) (h : digits_digitsOf.f k a0 a1 a2 = some (r1, r2)) :
    Calls Try.prog 46 #[.int .i64 a0, .int .u8 a1, .bool a2] w fun e w' => e = .returned (.tuple #[.string r1, .int .i64 r2]) ∧ Below w.heap.size w w' := by
  have HB := Aside0.mk (Below.refl w.heap.size w)
  have H : (if a0 = 2 then (if (Go.bits .and .u8 a1 15) > 9 then (digits_digitsOf.j0 k a2 (a1 / 16) (Go.bits .and .u8 a1 15) true) else (if a2 = true then (digits_digitsOf.j0 k a2 (a1 / 16) (Go.bits .and .u8 a1 15) false) else (digits_digitsOf.j0 k a2 (a1 / 16) (Go.bits .and .u8 a1 15) (decide ((a1 / 16) > 9))))) else ((digits_read.f a0 a1).bind fun bt170 => (if bt170.2 = true then (if bt170.1 < 48 then (some ((⟨#[]⟩ : ByteArray), 11)) else (if bt170.1 > 57 then (some ((⟨#[]⟩ : ByteArray), 11)) else (some (strOfNums (([bt170.1] : List Int)), 0)))) else (some ((⟨#[]⟩ : ByteArray), 11))))) = some (r1, r2) := h
  clear h
  by_cases c4 : a0 = 2
  · rw [if_pos c4] at H
    have c4b0 : (a0 == 2) = true := beq_iff_eq.mpr c4
    have c4b1 : (a0 != 2) = false := bne_eq_false_iff_eq.mpr c4
    clear c4
    have HC5 := Aside0.mk H
    clear H
    go_enter Try.func46, Try.ntmps46
    go_upto_region 7 with (fail)
    go_cut [37] (fun v37 wc => ∃ (kq : Nat) (x37_4 : Bool), v37 = .bool x37_4 ∧ Aside0 (digits_digitsOf.j0 kq a2 (a1 / 16) (Go.bits .and .u8 a1 15) x37_4 = some (r1, r2)) ∧ Aside0 (kq ≤ k) ∧ Aside0 (Below w.heap.size w wc))
    case first =>
      have H := HC5.out
      clear HC5
      by_cases c6 : (Go.bits .and .u8 a1 15) > 9
      · rw [if_pos c6] at H
        have c6b0 : decide (9 < (Go.bits .and .u8 a1 15)) = true := decide_eq_true c6
        clear c6
        (first | rw [c6b0] | (simp only [i64_w, i32_w]; rw [c6b0]) | skip)
        have H' := Aside0.mk H
        clear H
        go_wp2
        go_meet
        case rel => exact ⟨_, (true), (by first | rfl | (simp; done) | (simp [*]; done)), H', ⟨by first | omega | exact Nat.le_refl _⟩, ⟨by repeat (first | (with_reducible first | exact HB.out | apply below_alloc | apply pw_below_drewN | apply below_drew1) | exact HB.out)⟩⟩
      · rw [if_neg c6] at H
        have c6b0 : decide (9 < (Go.bits .and .u8 a1 15)) = false := decide_eq_false c6
        clear c6
        (first | rw [c6b0] | (simp only [i64_w, i32_w]; rw [c6b0]) | skip)
        by_cases c7 : a2 = true
        · subst c7
          have H1 : (digits_digitsOf.j0 k true (a1 / 16) (Go.bits .and .u8 a1 15) false) = some (r1, r2) := by rw [if_pos rfl] at H; exact H
          clear H
          have H := H1
          clear H1
          have H' := Aside0.mk H
          clear H
          go_wp2
          go_meet
          case rel => exact ⟨_, (false), (by first | rfl | (simp; done) | (simp [*]; done)), H', ⟨by first | omega | exact Nat.le_refl _⟩, ⟨by repeat (first | (with_reducible first | exact HB.out | apply below_alloc | apply pw_below_drewN | apply below_drew1) | exact HB.out)⟩⟩
        · replace c7 := Bool.eq_false_iff.mpr c7
          subst c7
          have H1 : (digits_digitsOf.j0 k false (a1 / 16) (Go.bits .and .u8 a1 15) (decide ((a1 / 16) > 9))) = some (r1, r2) := by rw [if_neg (show ¬ (false = true) by decide)] at H; exact H
          clear H
          have H := H1
          clear H1
          have H' := Aside0.mk H
          clear H
          go_wp2
          go_meet
          case rel => exact ⟨_, (decide ((a1 / 16) > 9)), (by first | rfl | (simp; done) | (simp [*]; done)), H', ⟨by first | omega | exact Nat.le_refl _⟩, ⟨by repeat (first | (with_reducible first | exact HB.out | apply below_alloc | apply pw_below_drewN | apply below_drew1) | exact HB.out)⟩⟩
    case rest =>
      clear HC5
      try clear p2
      try clear c4
      try clear c4b0
      try clear c4b1
      try clear c6
      try clear c6b0
      try clear c7
      obtain ⟨kq, x37_4, rfl, HA, HJ4, HB⟩ := hcut
      cases kq with
      | zero => exact absurd HA.out (by simp [digits_digitsOf.j0])
      | succ kj4 =>
        have H := HA.out
        clear HA
        simp only [digits_digitsOf.j0] at H
        by_cases c8 : x37_4 = true
        · subst c8
          have H1 : (some ((⟨#[]⟩ : ByteArray), 11)) = some (r1, r2) := by rw [if_pos rfl] at H; exact H
          clear H
          have H := H1
          clear H1
          simp only [Option.some.injEq, Prod.mk.injEq] at H
          obtain ⟨rfl, rfl⟩ := H
          go_wp2
          go_ret2
          exact ⟨by first | rfl | (simp [errW_none, errW_some] <;> rfl) | (simp [*, errW_none, errW_some] <;> rfl), by repeat (first | (with_reducible first | exact HB.out | apply below_alloc | apply pw_below_drewN | apply below_drew1) | exact HB.out)⟩
        · replace c8 := Bool.eq_false_iff.mpr c8
          subst c8
          have H1 : (if a2 = true then (digits_digitsOf.j1 kj4 a2 (a1 / 16) (Go.bits .and .u8 a1 15) ((a1 / 16) != 0)) else (digits_digitsOf.j1 kj4 a2 (a1 / 16) (Go.bits .and .u8 a1 15) false)) = some (r1, r2) := by rw [if_neg (show ¬ (false = true) by decide)] at H; exact H
          clear H
          have H := H1
          clear H1
          have HC9 := Aside0.mk H
          clear H
          go_upto_region 9 with (fail)
          go_cut [48] (fun v48 wc => ∃ (kq : Nat) (x48_8 : Bool), v48 = .bool x48_8 ∧ Aside0 (digits_digitsOf.j1 kq a2 (a1 / 16) (Go.bits .and .u8 a1 15) x48_8 = some (r1, r2)) ∧ Aside0 (kq ≤ kj4) ∧ Aside0 (Below w.heap.size w wc))
          case first =>
            have H := HC9.out
            clear HC9
            by_cases c10 : a2 = true
            · subst c10
              have H1 : (digits_digitsOf.j1 kj4 true (a1 / 16) (Go.bits .and .u8 a1 15) ((a1 / 16) != 0)) = some (r1, r2) := by rw [if_pos rfl] at H; exact H
              clear H
              have H := H1
              clear H1
              have H' := Aside0.mk H
              clear H
              go_wp2
              go_meet
              case rel => exact ⟨_, (((a1 / 16) != 0)), (by first | rfl | (simp; done) | (simp [*]; done)), H', ⟨by have := HJ4.out; first | omega | exact Nat.le_refl _⟩, ⟨by repeat (first | (with_reducible first | exact HB.out | apply below_alloc | apply pw_below_drewN | apply below_drew1) | exact HB.out)⟩⟩
            · replace c10 := Bool.eq_false_iff.mpr c10
              subst c10
              have H1 : (digits_digitsOf.j1 kj4 false (a1 / 16) (Go.bits .and .u8 a1 15) false) = some (r1, r2) := by rw [if_neg (show ¬ (false = true) by decide)] at H; exact H
              clear H
              have H := H1
              clear H1
              have H' := Aside0.mk H
              clear H
              go_wp2
              go_meet
              case rel => exact ⟨_, (false), (by first | rfl | (simp; done) | (simp [*]; done)), H', ⟨by have := HJ4.out; first | omega | exact Nat.le_refl _⟩, ⟨by repeat (first | (with_reducible first | exact HB.out | apply below_alloc | apply pw_below_drewN | apply below_drew1) | exact HB.out)⟩⟩
          case rest =>
            clear HC9
            try clear c1
            try clear p2
            try clear c4
            try clear c4b0
            try clear c4b1
            try clear c6
            try clear c6b0
            try clear c7
            try clear c8
            try clear c10
            try clear p2
            obtain ⟨kq, x48_8, rfl, HA, HJ8, HB⟩ := hcut
            cases kq with
            | zero => exact absurd HA.out (by simp [digits_digitsOf.j1])
            | succ kj8 =>
              have H := HA.out
              clear HA
              simp only [digits_digitsOf.j1] at H
              by_cases c11 : x48_8 = true
              · subst c11
                have H1 : (some ((⟨#[]⟩ : ByteArray), 12)) = some (r1, r2) := by rw [if_pos rfl] at H; exact H
                clear H
                have H := H1
                clear H1
                simp only [Option.some.injEq, Prod.mk.injEq] at H
                obtain ⟨rfl, rfl⟩ := H
                go_wp2
                go_ret2
                exact ⟨by first | rfl | (simp [errW_none, errW_some] <;> rfl) | (simp [*, errW_none, errW_some] <;> rfl), by repeat (first | (with_reducible first | exact HB.out | apply below_alloc | apply pw_below_drewN | apply below_drew1) | exact HB.out)⟩
              · replace c11 := Bool.eq_false_iff.mpr c11
                subst c11
                have H1 : (if a2 = true then (some (strOfNums (([(48 + (Go.bits .and .u8 a1 15)) % 256] : List Int)), 0)) else (some (strOfNums (([(48 + (a1 / 16)) % 256, (48 + (Go.bits .and .u8 a1 15)) % 256] : List Int)), 0))) = some (r1, r2) := by rw [if_neg (show ¬ (false = true) by decide)] at H; exact H
                clear H
                have H := H1
                clear H1
                by_cases c12 : a2 = true
                · subst c12
                  have H1 : (some (strOfNums (([(48 + (Go.bits .and .u8 a1 15)) % 256] : List Int)), 0)) = some (r1, r2) := by rw [if_pos rfl] at H; exact H
                  clear H
                  have H := H1
                  clear H1
                  obtain ⟨y175, hy175⟩ : ∃ y_ : List Int, y_ = (([(48 + (Go.bits .and .u8 a1 15)) % 256] : List Int)) := ⟨_, rfl⟩
                  replace H : (some (strOfNums y175, 0)) = some (r1, r2) := by first | (rw [hy175]; with_reducible exact H) | (have H2_ := (Option.bind_some _ _).symm.trans H; rw [hy175]; with_reducible exact H2_) | (have H2_ := (Option.bind_some _ _).symm.trans H; with_reducible exact H2_) | with_reducible exact H | (rw [hy175]; exact H) | exact H
                  have Ny175 := Aside0.mk hy175
                  clear hy175
                  simp only [Option.some.injEq, Prod.mk.injEq] at H
                  obtain ⟨rfl, rfl⟩ := H
                  go_wp2_with (first | ((with_reducible refine gate_dst (N := 58) rfl ?_); refine Kd.R_lit (Kd.int .u8) _ 5 ?hg (N := 58) ?hd (xs := ([(48 + (Go.bits .and .u8 a1 15)) % 256] : List Int)) (inner := [.int .u8 ((48 + (Go.bits .and .u8 a1 15)) % 256)]) (ok := fun _ => True) (okp := fun _ => True) ?hr ?hp (fun _ hk => hk) trivial (Below.refl _ _) (Nat.le_refl _) (by simp) ?_; (case hd => rfl); (case hg => rfl); (case hr => first | (go_simp; done) | (go_simp; rfl)); (case hp => exact (Reps.one (show Kd.M (Kd.int .u8) _ _ _ ((48 + (Go.bits .and .u8 a1 15)) % 256) [.int .u8 ((48 + (Go.bits .and .u8 a1 15)) % 256)] from rfl) (Reps.none _ _))); intro v176 w13 ho14 hb hg_ hnew_; clear hg_ hnew_; (first | rw [← Ny175.out] at ho14 | (simp only [Int.reduceToNat] at ho14; rw [← Ny175.out] at ho14)); have n0_ := Aside0.mk (Kd.R_lower ho14 (below_size (by repeat (first | (with_reducible first | exact HB.out | apply below_alloc | apply pw_below_drewN | apply below_drew1) | exact HB.out)))); have n1_ := Aside0.mk (below_step (by repeat (first | (with_reducible first | exact HB.out | apply below_alloc | apply pw_below_drewN | apply below_drew1) | exact HB.out)) hb); clear HB; have HO177 := n0_; have HB := n1_; clear n0_ n1_; clear hb ho14; have hcv15 := own_string (P := Try.prog) Try.underlying51 Try.underlying5 Try.underlying9 (Kd.own_of_R HO177.out)))
                  go_ret2
                  exact ⟨by first | rfl | (simp [errW_none, errW_some] <;> rfl) | (simp [*, errW_none, errW_some] <;> rfl), by repeat (first | (with_reducible first | exact HB.out | apply below_alloc | apply pw_below_drewN | apply below_drew1) | exact HB.out)⟩
                · replace c12 := Bool.eq_false_iff.mpr c12
                  subst c12
                  have H1 : (some (strOfNums (([(48 + (a1 / 16)) % 256, (48 + (Go.bits .and .u8 a1 15)) % 256] : List Int)), 0)) = some (r1, r2) := by rw [if_neg (show ¬ (false = true) by decide)] at H; exact H
                  clear H
                  have H := H1
                  clear H1
                  obtain ⟨y178, hy178⟩ : ∃ y_ : List Int, y_ = (([(48 + (a1 / 16)) % 256, (48 + (Go.bits .and .u8 a1 15)) % 256] : List Int)) := ⟨_, rfl⟩
                  replace H : (some (strOfNums y178, 0)) = some (r1, r2) := by first | (rw [hy178]; with_reducible exact H) | (have H2_ := (Option.bind_some _ _).symm.trans H; rw [hy178]; with_reducible exact H2_) | (have H2_ := (Option.bind_some _ _).symm.trans H; with_reducible exact H2_) | with_reducible exact H | (rw [hy178]; exact H) | exact H
                  have Ny178 := Aside0.mk hy178
                  clear hy178
                  simp only [Option.some.injEq, Prod.mk.injEq] at H
                  obtain ⟨rfl, rfl⟩ := H
                  go_wp2_with (first | ((with_reducible refine gate_dst (N := 64) rfl ?_); refine Kd.R_lit (Kd.int .u8) _ 5 ?hg (N := 64) ?hd (xs := ([(48 + (a1 / 16)) % 256, (48 + (Go.bits .and .u8 a1 15)) % 256] : List Int)) (inner := [.int .u8 ((48 + (a1 / 16)) % 256), .int .u8 ((48 + (Go.bits .and .u8 a1 15)) % 256)]) (ok := fun _ => True) (okp := fun _ => True) ?hr ?hp (fun _ hk => hk) trivial (Below.refl _ _) (Nat.le_refl _) (by simp) ?_; (case hd => rfl); (case hg => rfl); (case hr => first | (go_simp; done) | (go_simp; rfl)); (case hp => exact (Reps.one (show Kd.M (Kd.int .u8) _ _ _ ((48 + (a1 / 16)) % 256) [.int .u8 ((48 + (a1 / 16)) % 256)] from rfl) (Reps.one (show Kd.M (Kd.int .u8) _ _ _ ((48 + (Go.bits .and .u8 a1 15)) % 256) [.int .u8 ((48 + (Go.bits .and .u8 a1 15)) % 256)] from rfl) (Reps.none _ _)))); intro v179 w16 ho17 hb hg_ hnew_; clear hg_ hnew_; (first | rw [← Ny178.out] at ho17 | (simp only [Int.reduceToNat] at ho17; rw [← Ny178.out] at ho17)); have n0_ := Aside0.mk (Kd.R_lower ho17 (below_size (by repeat (first | (with_reducible first | exact HB.out | apply below_alloc | apply pw_below_drewN | apply below_drew1) | exact HB.out)))); have n1_ := Aside0.mk (below_step (by repeat (first | (with_reducible first | exact HB.out | apply below_alloc | apply pw_below_drewN | apply below_drew1) | exact HB.out)) hb); clear HB; have HO180 := n0_; have HB := n1_; clear n0_ n1_; clear hb ho17; have hcv18 := own_string (P := Try.prog) Try.underlying51 Try.underlying5 Try.underlying9 (Kd.own_of_R HO180.out)))
                  go_ret2
                  exact ⟨by first | rfl | (simp [errW_none, errW_some] <;> rfl) | (simp [*, errW_none, errW_some] <;> rfl), by repeat (first | (with_reducible first | exact HB.out | apply below_alloc | apply pw_below_drewN | apply below_drew1) | exact HB.out)⟩
  · rw [if_neg c4] at H
    have c4b0 : (a0 == 2) = false := beq_eq_false_iff_ne.mpr c4
    have c4b1 : (a0 != 2) = true := bne_iff_ne.mpr c4
    replace H := Option.bind_eq_some_iff.mp H
    obtain ⟨⟨t170, t171⟩, A190, H⟩ := H
    replace H : (if t171 = true then (if t170 < 48 then (some ((⟨#[]⟩ : ByteArray), 11)) else (if t170 > 57 then (some ((⟨#[]⟩ : ByteArray), 11)) else (some (strOfNums (([t170] : List Int)), 0)))) else (some ((⟨#[]⟩ : ByteArray), 11))) = some (r1, r2) := H
    have A19 := Aside0.mk A190
    clear A190
    by_cases c20 : t171 = true
    · subst c20
      have H1 : (if t170 < 48 then (some ((⟨#[]⟩ : ByteArray), 11)) else (if t170 > 57 then (some ((⟨#[]⟩ : ByteArray), 11)) else (some (strOfNums (([t170] : List Int)), 0)))) = some (r1, r2) := by rw [if_pos rfl] at H; exact H
      clear H
      have H := H1
      clear H1
      by_cases c21 : t170 < 48
      · rw [if_pos c21] at H
        have c21b0 : decide (t170 < 48) = true := decide_eq_true c21
        clear c21
        simp only [Option.some.injEq, Prod.mk.injEq] at H
        obtain ⟨rfl, rfl⟩ := H
        go_enter Try.func46, Try.ntmps46
        go_wp2_with (first | ((with_reducible refine gate_callee (f := 54) rfl ?_); refine goesL_ (some 17) rfl rfl Try.func54 (by kernel_rfl) rfl #[.int .i64 a0, .int .u8 a1] rfl (by (try simp only [List.map_toArray, List.map_cons, List.map_nil]); first | done | rfl | (simp only [List.length_drop, List.length_take]; rfl)) ?_; (with_reducible refine (digits_read.calls a0 a1 t170 true _ A19.out).mono ?_); rintro e w22 ⟨rfl, hb⟩; refine ⟨_, rfl, ?_⟩; have n0_ := Aside0.mk (below_step (by repeat (first | (with_reducible first | exact HB.out | apply below_alloc | apply pw_below_drewN | apply below_drew1) | exact HB.out)) hb); clear HB; have HB := n0_; clear n0_; (try clear hb); (try clear hb2); (try clear hk); (try clear hi)))
        go_ret2
        exact ⟨by first | rfl | (simp [errW_none, errW_some] <;> rfl) | (simp [*, errW_none, errW_some] <;> rfl), by repeat (first | (with_reducible first | exact HB.out | apply below_alloc | apply pw_below_drewN | apply below_drew1) | exact HB.out)⟩
      · rw [if_neg c21] at H
        have c21b0 : decide (t170 < 48) = false := decide_eq_false c21
        clear c21
        by_cases c23 : t170 > 57
        · rw [if_pos c23] at H
          have c23b0 : decide (57 < t170) = true := decide_eq_true c23
          clear c23
          simp only [Option.some.injEq, Prod.mk.injEq] at H
          obtain ⟨rfl, rfl⟩ := H
          go_enter Try.func46, Try.ntmps46
          go_wp2_with (first | ((with_reducible refine gate_callee (f := 54) rfl ?_); refine goesL_ (some 17) rfl rfl Try.func54 (by kernel_rfl) rfl #[.int .i64 a0, .int .u8 a1] rfl (by (try simp only [List.map_toArray, List.map_cons, List.map_nil]); first | done | rfl | (simp only [List.length_drop, List.length_take]; rfl)) ?_; (with_reducible refine (digits_read.calls a0 a1 t170 true _ A19.out).mono ?_); rintro e w24 ⟨rfl, hb⟩; refine ⟨_, rfl, ?_⟩; have n0_ := Aside0.mk (below_step (by repeat (first | (with_reducible first | exact HB.out | apply below_alloc | apply pw_below_drewN | apply below_drew1) | exact HB.out)) hb); clear HB; have HB := n0_; clear n0_; (try clear hb); (try clear hb2); (try clear hk); (try clear hi)))
          go_ret2
          exact ⟨by first | rfl | (simp [errW_none, errW_some] <;> rfl) | (simp [*, errW_none, errW_some] <;> rfl), by repeat (first | (with_reducible first | exact HB.out | apply below_alloc | apply pw_below_drewN | apply below_drew1) | exact HB.out)⟩
        · rw [if_neg c23] at H
          have c23b0 : decide (57 < t170) = false := decide_eq_false c23
          clear c23
          obtain ⟨y172, hy172⟩ : ∃ y_ : List Int, y_ = (([t170] : List Int)) := ⟨_, rfl⟩
          replace H : (some (strOfNums y172, 0)) = some (r1, r2) := by first | (rw [hy172]; with_reducible exact H) | (have H2_ := (Option.bind_some _ _).symm.trans H; rw [hy172]; with_reducible exact H2_) | (have H2_ := (Option.bind_some _ _).symm.trans H; with_reducible exact H2_) | with_reducible exact H | (rw [hy172]; exact H) | exact H
          have Ny172 := Aside0.mk hy172
          clear hy172
          simp only [Option.some.injEq, Prod.mk.injEq] at H
          obtain ⟨rfl, rfl⟩ := H
          go_enter Try.func46, Try.ntmps46
          go_wp2_with (first | ((with_reducible refine gate_callee (f := 54) rfl ?_); refine goesL_ (some 17) rfl rfl Try.func54 (by kernel_rfl) rfl #[.int .i64 a0, .int .u8 a1] rfl (by (try simp only [List.map_toArray, List.map_cons, List.map_nil]); first | done | rfl | (simp only [List.length_drop, List.length_take]; rfl)) ?_; (with_reducible refine (digits_read.calls a0 a1 t170 true _ A19.out).mono ?_); rintro e w25 ⟨rfl, hb⟩; refine ⟨_, rfl, ?_⟩; have n0_ := Aside0.mk (below_step (by repeat (first | (with_reducible first | exact HB.out | apply below_alloc | apply pw_below_drewN | apply below_drew1) | exact HB.out)) hb); clear HB; have HB := n0_; clear n0_; (try clear hb); (try clear hb2); (try clear hk); (try clear hi)) | ((with_reducible refine gate_dst (N := 31) rfl ?_); refine Kd.R_lit (Kd.int .u8) _ 5 ?hg (N := 31) ?hd (xs := ([t170] : List Int)) (inner := [.int .u8 t170]) (ok := fun _ => True) (okp := fun _ => True) ?hr ?hp (fun _ hk => hk) trivial (Below.refl _ _) (Nat.le_refl _) (by simp) ?_; (case hd => rfl); (case hg => rfl); (case hr => first | (go_simp; done) | (go_simp; rfl)); (case hp => exact (Reps.one (show Kd.M (Kd.int .u8) _ _ _ t170 [.int .u8 t170] from rfl) (Reps.none _ _))); intro v173 w26 ho27 hb hg_ hnew_; clear hg_ hnew_; (first | rw [← Ny172.out] at ho27 | (simp only [Int.reduceToNat] at ho27; rw [← Ny172.out] at ho27)); have n0_ := Aside0.mk (Kd.R_lower ho27 (below_size (by repeat (first | (with_reducible first | exact HB.out | apply below_alloc | apply pw_below_drewN | apply below_drew1) | exact HB.out)))); have n1_ := Aside0.mk (below_step (by repeat (first | (with_reducible first | exact HB.out | apply below_alloc | apply pw_below_drewN | apply below_drew1) | exact HB.out)) hb); clear HB; have HO174 := n0_; have HB := n1_; clear n0_ n1_; clear hb ho27; have hcv28 := own_string (P := Try.prog) Try.underlying51 Try.underlying5 Try.underlying9 (Kd.own_of_R HO174.out)))
          go_ret2
          exact ⟨by first | rfl | (simp [errW_none, errW_some] <;> rfl) | (simp [*, errW_none, errW_some] <;> rfl), by repeat (first | (with_reducible first | exact HB.out | apply below_alloc | apply pw_below_drewN | apply below_drew1) | exact HB.out)⟩
    · replace c20 := Bool.eq_false_iff.mpr c20
      subst c20
      have H1 : (some ((⟨#[]⟩ : ByteArray), 11)) = some (r1, r2) := by rw [if_neg (show ¬ (false = true) by decide)] at H; exact H
      clear H
      have H := H1
      clear H1
      simp only [Option.some.injEq, Prod.mk.injEq] at H
      obtain ⟨rfl, rfl⟩ := H
      go_enter Try.func46, Try.ntmps46
      go_wp2_with (first | ((with_reducible refine gate_callee (f := 54) rfl ?_); refine goesL_ (some 17) rfl rfl Try.func54 (by kernel_rfl) rfl #[.int .i64 a0, .int .u8 a1] rfl (by (try simp only [List.map_toArray, List.map_cons, List.map_nil]); first | done | rfl | (simp only [List.length_drop, List.length_take]; rfl)) ?_; (with_reducible refine (digits_read.calls a0 a1 t170 false _ A19.out).mono ?_); rintro e w29 ⟨rfl, hb⟩; refine ⟨_, rfl, ?_⟩; have n0_ := Aside0.mk (below_step (by repeat (first | (with_reducible first | exact HB.out | apply below_alloc | apply pw_below_drewN | apply below_drew1) | exact HB.out)) hb); clear HB; have HB := n0_; clear n0_; (try clear hb); (try clear hb2); (try clear hk); (try clear hi)))
      go_ret2
      exact ⟨by first | rfl | (simp [errW_none, errW_some] <;> rfl) | (simp [*, errW_none, errW_some] <;> rfl), by repeat (first | (with_reducible first | exact HB.out | apply below_alloc | apply pw_below_drewN | apply below_drew1) | exact HB.out)⟩

end Go.Proofs.Ytlpamhffpgoebaa.All

-- WRITTEN BY this session's own drv.py over the kit's print. Not trusted: Lean checks it.
namespace Go.Proofs.Ytlpamhffpgoebaa.All
open Go.RowKit Go.Proofs.YtlpamhffpgoebaaW.PrintWords Go.Proofs.YtlpamhffpgoebaaW.PrintLast Go.Proofs.YtlpamhffpgoebaaW.PrintMore
attribute [local go_sem] max2_int min2_int max_two min_two max_three min_three max_four min_four   -- for this text's walks alone
set_option linter.unusedVariables false
set_option linter.unusedSimpArgs false

theorem bytes_cell (W : World) (s : ByteArray) : ∀ i : Int, 0 ≤ i → i < (s.size : Int) → (Lib.bytesWorld W 5 s).cell? ⟨W.heap.size, i.toNat, none⟩ = some (.int .u8 (bt s i)) := by
  intro i h0 h1
  have hj : i.toNat < s.size := by omega
  rw [Lib.bytesWorld_cell W 5 s i.toNat hj, ← bt_at s i hj]
  have h' : i.toNat < s.data.toList.length := by rw [data_length]; exact hj
  simp [List.getD_eq_getElem?_getD, List.getElem?_eq_getElem h']
  rfl
/-! ### digits_Length: function 27 -/
mutual
def digits_Length.l0 : Nat → Int → ByteArray → Int → Int → Int → Int → Option (Int × Int × Int)
  | 0, _, _, _, _, _, _ => none
  | k + 1, x1, x2, x9, x10, x30, x31 => if x31 < x30 then (if 0 ≤ x31 then (if x31 < (x2.size : Int) then (digits_Length.l0 k x1 x2 x9 (Go.bits .or .i64 (wrap64 (x10 * 256)) (wrap64 (bt x2 x31))) x30 (wrap64 (x31 + 1))) else (none)) else (none)) else ((digits_ten.f k x1).bind fun t182 => (if x10 ≥ t182 then (some (0, 13, 0)) else (some (x10, 0, x9))))
def digits_Length.l1 : Nat → Int → Int → ByteArray → Int → Int → Int → Int → Option (Int × Int × Int)
  | 0, _, _, _, _, _, _, _ => none
  | k + 1, x0, x1, x2, x9, x10, x48, x49 => if x49 < x48 then (if 0 ≤ x49 then (if x49 < (x2.size : Int) then (if x49 = 0 then ((digits_digitsOf.f k x0 (bt x2 x49) ((Int.tmod x1 2) == 1)).bind fun bt183 => (digits_Length.j2 k x0 x1 x2 x9 x10 x49 bt183.1 bt183.2 x48 x49)) else ((digits_digitsOf.f k x0 (bt x2 x49) false).bind fun bt185 => (digits_Length.j2 k x0 x1 x2 x9 x10 x49 bt185.1 bt185.2 x48 x49))) else (none)) else (none)) else (some (x10, 0, x9))
def digits_Length.j2 : Nat → Int → Int → ByteArray → Int → Int → Int → ByteArray → Int → Int → Int → Option (Int × Int × Int)
  | 0, _, _, _, _, _, _, _, _, _, _ => none
  | k + 1, x0, x1, x2, x9, x10, x12, x13, x14, x48, x49 => if x14 = 0 then (digits_Length.l2 k x0 x1 x2 x9 x10 x48 x49 x13 (x13.size : Int) 0) else (some (0, x14, x12))
def digits_Length.l2 : Nat → Int → Int → ByteArray → Int → Int → Int → Int → ByteArray → Int → Int → Option (Int × Int × Int)
  | 0, _, _, _, _, _, _, _, _, _, _ => none
  | k + 1, x0, x1, x2, x9, x10, x48, x49, x72, x73, x74 => if x74 < x73 then (if 0 ≤ x74 then (if x74 < (x72.size : Int) then (digits_Length.l2 k x0 x1 x2 x9 (wrap64 ((wrap64 (10 * x10)) + (((bt x72 x74) - 48) % 256))) x48 x49 x72 x73 (wrap64 (x74 + 1))) else (none)) else (none)) else (digits_Length.l1 k x0 x1 x2 x9 x10 x48 (wrap64 (x49 + 1)))
end
def digits_Length.f (k : Nat) (a0 : Int) (a1 : Int) (a2 : ByteArray) : Option (Int × Int × Int) := (digits_wide.f k a0 a1).bind fun t181 => (if t181 = 0 then (some (0, 1, 0)) else (if (a2.size : Int) < t181 then (some (0, 10, (a2.size : Int))) else (if a0 = 5 then (digits_Length.l0 k a1 a2 t181 0 t181 0) else (digits_Length.l1 k a0 a1 a2 t181 0 t181 0))))
theorem digits_Length.mono_l : ∀ k, (∀ y0 y1 y2 y3 y4 y5, LeO (digits_Length.l0 k y0 y1 y2 y3 y4 y5) (digits_Length.l0 (k + 1) y0 y1 y2 y3 y4 y5)) ∧ (∀ y0 y1 y2 y3 y4 y5 y6, LeO (digits_Length.l1 k y0 y1 y2 y3 y4 y5 y6) (digits_Length.l1 (k + 1) y0 y1 y2 y3 y4 y5 y6)) ∧ (∀ y0 y1 y2 y3 y4 y5 y6 y7 y8 y9, LeO (digits_Length.j2 k y0 y1 y2 y3 y4 y5 y6 y7 y8 y9) (digits_Length.j2 (k + 1) y0 y1 y2 y3 y4 y5 y6 y7 y8 y9)) ∧ (∀ y0 y1 y2 y3 y4 y5 y6 y7 y8 y9, LeO (digits_Length.l2 k y0 y1 y2 y3 y4 y5 y6 y7 y8 y9) (digits_Length.l2 (k + 1) y0 y1 y2 y3 y4 y5 y6 y7 y8 y9))
  | 0 => ⟨fun _ _ _ _ _ _ r h => by simp [digits_Length.l0] at h, fun _ _ _ _ _ _ _ r h => by simp [digits_Length.l1] at h, fun _ _ _ _ _ _ _ _ _ _ r h => by simp [digits_Length.j2] at h, fun _ _ _ _ _ _ _ _ _ _ r h => by simp [digits_Length.l2] at h⟩
  | k + 1 => by
    obtain ⟨ih0, ih1, ih2, ih3⟩ := digits_Length.mono_l k
    refine ⟨?_, ?_, ?_, ?_⟩
    · intro y0 y1 y2 y3 y4 y5
      unfold digits_Length.l0
      repeat' first
      | (with_reducible exact ih0 _ _ _ _ _ _)
      | (with_reducible exact ih1 _ _ _ _ _ _ _)
      | (with_reducible exact ih2 _ _ _ _ _ _ _ _ _ _)
      | (with_reducible exact ih3 _ _ _ _ _ _ _ _ _ _)
      | (with_reducible exact digits_digitsOf.mono _ _ _ _)
      | (with_reducible exact digits_ten.mono _ _)
      | (with_reducible exact digits_wide.mono _ _ _)
      | (with_reducible exact LeO.refl _)
      | (with_reducible exact LeO.none _)
      | (with_reducible refine LeO.ite ?_ ?_)
      | (with_reducible refine LeO.bind ?_ (fun _ => ?_))
      | exact ih0 _ _ _ _ _ _
      | exact ih1 _ _ _ _ _ _ _
      | exact ih2 _ _ _ _ _ _ _ _ _ _
      | exact ih3 _ _ _ _ _ _ _ _ _ _
      | exact digits_digitsOf.mono _ _ _ _
      | exact digits_ten.mono _ _
      | exact digits_wide.mono _ _ _
      | exact LeO.none _
      | refine LeO.ite ?_ ?_
      | refine LeO.bind ?_ (fun _ => ?_)
    · intro y0 y1 y2 y3 y4 y5 y6
      unfold digits_Length.l1
      repeat' first
      | (with_reducible exact ih0 _ _ _ _ _ _)
      | (with_reducible exact ih1 _ _ _ _ _ _ _)
      | (with_reducible exact ih2 _ _ _ _ _ _ _ _ _ _)
      | (with_reducible exact ih3 _ _ _ _ _ _ _ _ _ _)
      | (with_reducible exact digits_digitsOf.mono _ _ _ _)
      | (with_reducible exact digits_ten.mono _ _)
      | (with_reducible exact digits_wide.mono _ _ _)
      | (with_reducible exact LeO.refl _)
      | (with_reducible exact LeO.none _)
      | (with_reducible refine LeO.ite ?_ ?_)
      | (with_reducible refine LeO.bind ?_ (fun _ => ?_))
      | exact ih0 _ _ _ _ _ _
      | exact ih1 _ _ _ _ _ _ _
      | exact ih2 _ _ _ _ _ _ _ _ _ _
      | exact ih3 _ _ _ _ _ _ _ _ _ _
      | exact digits_digitsOf.mono _ _ _ _
      | exact digits_ten.mono _ _
      | exact digits_wide.mono _ _ _
      | exact LeO.none _
      | refine LeO.ite ?_ ?_
      | refine LeO.bind ?_ (fun _ => ?_)
    · intro y0 y1 y2 y3 y4 y5 y6 y7 y8 y9
      unfold digits_Length.j2
      repeat' first
      | (with_reducible exact ih0 _ _ _ _ _ _)
      | (with_reducible exact ih1 _ _ _ _ _ _ _)
      | (with_reducible exact ih2 _ _ _ _ _ _ _ _ _ _)
      | (with_reducible exact ih3 _ _ _ _ _ _ _ _ _ _)
      | (with_reducible exact digits_digitsOf.mono _ _ _ _)
      | (with_reducible exact digits_ten.mono _ _)
      | (with_reducible exact digits_wide.mono _ _ _)
      | (with_reducible exact LeO.refl _)
      | (with_reducible exact LeO.none _)
      | (with_reducible refine LeO.ite ?_ ?_)
      | (with_reducible refine LeO.bind ?_ (fun _ => ?_))
      | exact ih0 _ _ _ _ _ _
      | exact ih1 _ _ _ _ _ _ _
      | exact ih2 _ _ _ _ _ _ _ _ _ _
      | exact ih3 _ _ _ _ _ _ _ _ _ _
      | exact digits_digitsOf.mono _ _ _ _
      | exact digits_ten.mono _ _
      | exact digits_wide.mono _ _ _
      | exact LeO.none _
      | refine LeO.ite ?_ ?_
      | refine LeO.bind ?_ (fun _ => ?_)
    · intro y0 y1 y2 y3 y4 y5 y6 y7 y8 y9
      unfold digits_Length.l2
      repeat' first
      | (with_reducible exact ih0 _ _ _ _ _ _)
      | (with_reducible exact ih1 _ _ _ _ _ _ _)
      | (with_reducible exact ih2 _ _ _ _ _ _ _ _ _ _)
      | (with_reducible exact ih3 _ _ _ _ _ _ _ _ _ _)
      | (with_reducible exact digits_digitsOf.mono _ _ _ _)
      | (with_reducible exact digits_ten.mono _ _)
      | (with_reducible exact digits_wide.mono _ _ _)
      | (with_reducible exact LeO.refl _)
      | (with_reducible exact LeO.none _)
      | (with_reducible refine LeO.ite ?_ ?_)
      | (with_reducible refine LeO.bind ?_ (fun _ => ?_))
      | exact ih0 _ _ _ _ _ _
      | exact ih1 _ _ _ _ _ _ _
      | exact ih2 _ _ _ _ _ _ _ _ _ _
      | exact ih3 _ _ _ _ _ _ _ _ _ _
      | exact digits_digitsOf.mono _ _ _ _
      | exact digits_ten.mono _ _
      | exact digits_wide.mono _ _ _
      | exact LeO.none _
      | refine LeO.ite ?_ ?_
      | refine LeO.bind ?_ (fun _ => ?_)
theorem digits_Length.mono : ∀ a0 a1 a2 k, LeO (digits_Length.f k a0 a1 a2) (digits_Length.f (k + 1) a0 a1 a2) := by
  intro a0 a1 a2 k
  obtain ⟨ih0, ih1, ih2, ih3⟩ := digits_Length.mono_l k
  unfold digits_Length.f
  repeat' first
      | (with_reducible exact ih0 _ _ _ _ _ _)
      | (with_reducible exact ih1 _ _ _ _ _ _ _)
      | (with_reducible exact ih2 _ _ _ _ _ _ _ _ _ _)
      | (with_reducible exact ih3 _ _ _ _ _ _ _ _ _ _)
      | (with_reducible exact digits_digitsOf.mono _ _ _ _)
      | (with_reducible exact digits_ten.mono _ _)
      | (with_reducible exact digits_wide.mono _ _ _)
      | (with_reducible exact LeO.refl _)
      | (with_reducible exact LeO.none _)
      | (with_reducible refine LeO.ite ?_ ?_)
      | (with_reducible refine LeO.bind ?_ (fun _ => ?_))
      | exact ih0 _ _ _ _ _ _
      | exact ih1 _ _ _ _ _ _ _
      | exact ih2 _ _ _ _ _ _ _ _ _ _
      | exact ih3 _ _ _ _ _ _ _ _ _ _
      | exact digits_digitsOf.mono _ _ _ _
      | exact digits_ten.mono _ _
      | exact digits_wide.mono _ _ _
      | exact LeO.none _
      | refine LeO.ite ?_ ?_
      | refine LeO.bind ?_ (fun _ => ?_)
set_option maxHeartbeats 8000000 in
set_option maxRecDepth 100000 in
theorem digits_Length.calls (k : Nat) (a0 : Int) (a1 : Int) (a2 : ByteArray) (r1 : Int) (r2 : Int) (r3 : Int) (w : World) (h : digits_Length.f k a0 a1 a2 = some (r1, r2, r3)) :
    Calls Try.prog 27 #[.int .i64 a0, .int .i64 a1, .string a2] w fun e w' => e = .returned (.tuple #[.int .i64 r1, .int .i64 r2, .int .i64 r3]) ∧ Below w.heap.size w w' := by
  have HB := Aside0.mk (Below.refl w.heap.size w)
  have H : ((digits_wide.f k a0 a1).bind fun t181 => (if t181 = 0 then (some (0, 1, 0)) else (if (a2.size : Int) < t181 then (some (0, 10, (a2.size : Int))) else (if a0 = 5 then (digits_Length.l0 k a1 a2 t181 0 t181 0) else (digits_Length.l1 k a0 a1 a2 t181 0 t181 0))))) = some (r1, r2, r3) := h
  clear h
  replace H := Option.bind_eq_some_iff.mp H
  obtain ⟨t181, A40, H⟩ := H
  replace H : (if t181 = 0 then (some (0, 1, 0)) else (if (a2.size : Int) < t181 then (some (0, 10, (a2.size : Int))) else (if a0 = 5 then (digits_Length.l0 k a1 a2 t181 0 t181 0) else (digits_Length.l1 k a0 a1 a2 t181 0 t181 0)))) = some (r1, r2, r3) := H
  have A4 := Aside0.mk A40
  clear A40
  by_cases c5 : t181 = 0
  · rw [if_pos c5] at H
    have c5b0 : (t181 == 0) = true := beq_iff_eq.mpr c5
    have c5b1 : (t181 != 0) = false := bne_eq_false_iff_eq.mpr c5
    clear c5
    simp only [Option.some.injEq, Prod.mk.injEq] at H
    obtain ⟨rfl, rfl, rfl⟩ := H
    go_enter Try.func27, Try.ntmps27
    go_wp2_with (first | ((with_reducible refine gate_callee (f := 44) rfl ?_); refine goesL_ (some 19) rfl rfl Try.func44 (by kernel_rfl) rfl #[.int .i64 a0, .int .i64 a1] rfl (by (try simp only [List.map_toArray, List.map_cons, List.map_nil]); first | done | rfl | (simp only [List.length_drop, List.length_take]; rfl)) ?_; (with_reducible refine (digits_wide.calls k a0 a1 t181 _ A4.out).mono ?_); rintro e w' ⟨rfl, ⟨nd, rfl⟩⟩; refine ⟨_, rfl, ?_⟩))
    go_ret3
    exact ⟨by first | rfl | (simp [errW_none, errW_some] <;> rfl) | (simp [*, errW_none, errW_some] <;> rfl), by repeat (first | (with_reducible first | exact HB.out | apply below_alloc | apply pw_below_drewN | apply below_drew1) | exact HB.out)⟩
  · rw [if_neg c5] at H
    have c5b0 : (t181 == 0) = false := beq_eq_false_iff_ne.mpr c5
    have c5b1 : (t181 != 0) = true := bne_iff_ne.mpr c5
    by_cases c6 : (a2.size : Int) < t181
    · rw [if_pos c6] at H
      have c6b0 : decide ((a2.size : Int) < t181) = true := decide_eq_true c6
      clear c6
      simp only [Option.some.injEq, Prod.mk.injEq] at H
      obtain ⟨rfl, rfl, rfl⟩ := H
      go_enter Try.func27, Try.ntmps27
      go_wp2_with (first | ((with_reducible refine gate_callee (f := 44) rfl ?_); refine goesL_ (some 19) rfl rfl Try.func44 (by kernel_rfl) rfl #[.int .i64 a0, .int .i64 a1] rfl (by (try simp only [List.map_toArray, List.map_cons, List.map_nil]); first | done | rfl | (simp only [List.length_drop, List.length_take]; rfl)) ?_; (with_reducible refine (digits_wide.calls k a0 a1 t181 _ A4.out).mono ?_); rintro e w' ⟨rfl, ⟨nd, rfl⟩⟩; refine ⟨_, rfl, ?_⟩))
      go_ret3
      exact ⟨by first | rfl | (simp [errW_none, errW_some] <;> rfl) | (simp [*, errW_none, errW_some] <;> rfl), by repeat (first | (with_reducible first | exact HB.out | apply below_alloc | apply pw_below_drewN | apply below_drew1) | exact HB.out)⟩
    · rw [if_neg c6] at H
      have c6b0 : decide ((a2.size : Int) < t181) = false := decide_eq_false c6
      clear c6
      by_cases c7 : a0 = 5
      · rw [if_pos c7] at H
        have c7b0 : (a0 == 5) = true := beq_iff_eq.mpr c7
        have c7b1 : (a0 != 5) = false := bne_eq_false_iff_eq.mpr c7
        clear c7
        have H' := Aside0.mk H
        clear H
        go_enter Try.func27, Try.ntmps27
        go_wp2_with (first | ((with_reducible refine gate_callee (f := 44) rfl ?_); refine goesL_ (some 19) rfl rfl Try.func44 (by kernel_rfl) rfl #[.int .i64 a0, .int .i64 a1] rfl (by (try simp only [List.map_toArray, List.map_cons, List.map_nil]); first | done | rfl | (simp only [List.length_drop, List.length_take]; rfl)) ?_; (with_reducible refine (digits_wide.calls k a0 a1 t181 _ A4.out).mono ?_); rintro e w' ⟨rfl, ⟨nd, rfl⟩⟩; refine ⟨_, rfl, ?_⟩))
        go_loopg [10, 31] k (fun kq v10 v31 w' => ∃ (x10_1 : Int) (x31_1 : Int), v10 = .int .i64 x10_1 ∧ v31 = .int .i64 x31_1 ∧ Aside0 (digits_Length.l0 kq a1 a2 t181 x10_1 t181 x31_1 = some (r1, r2, r3)) ∧ Aside0 (kq ≤ k) ∧ Aside0 (Below w.heap.size w w'))
        case atStart => exact ⟨(0), (0), (by first | rfl | (simp; done) | (simp [*]; done)), (by first | rfl | (simp; done) | (simp [*]; done)), H', ⟨Nat.le_refl _⟩, ⟨by repeat (first | (with_reducible first | exact HB.out | apply below_alloc | apply pw_below_drewN | apply below_drew1) | exact HB.out)⟩⟩
        case round =>
          clear H'
          try clear c2
          try clear p2
          try clear c4
          try clear c5
          try clear c5b0
          try clear c5b1
          try clear c6
          try clear c6b0
          try clear c7
          try clear c7b0
          try clear c7b1
          obtain ⟨x10_1, x31_1, rfl, rfl, HA, HK1, HB⟩ := hrel
          cases gk with
          | zero => exact absurd HA.out (by simp [digits_Length.l0])
          | succ k1 =>
            have H := HA.out
            clear HA
            simp only [digits_Length.l0] at H
            by_cases c8 : x31_1 < t181
            · rw [if_pos c8] at H
              have c8b0 : decide (x31_1 < t181) = true := decide_eq_true c8
              clear c8
              by_cases c9 : 0 ≤ x31_1
              · rw [if_pos c9] at H
                have c9b0 : decide (0 ≤ x31_1) = true := decide_eq_true c9
                clear c9
                by_cases c10 : x31_1 < (a2.size : Int)
                · rw [if_pos c10] at H
                  have c10b0 : decide (x31_1 < (a2.size : Int)) = true := decide_eq_true c10
                  clear c10
                  have H' := Aside0.mk H
                  clear H
                  have p11 : 0 ≤ (x31_1 : Int) := of_decide_eq_true (by first | (with_reducible assumption) | assumption)
                  have q11 : x31_1 < (a2.size : Int) := of_decide_eq_true (by first | (with_reducible assumption) | assumption)
                  have hx11 := bt_at a2 x31_1
                  replace p11 := eq_true p11
                  replace q11 := eq_true q11
                  go_wp2
                  go_roundg k1
                  case measure => have := HK1.out; omega
                  case rel => exact ⟨(Go.bits .or .i64 (wrap64 (x10_1 * 256)) (wrap64 (bt a2 x31_1))), (wrap64 (x31_1 + 1)), (by first | rfl | (simp; done) | (simp [*]; done)), (by first | rfl | (simp; done) | (simp [*]; done)), H', ⟨by have := HK1.out; omega⟩, ⟨by repeat (first | (with_reducible first | exact HB.out | apply below_alloc | apply pw_below_drewN | apply below_drew1) | exact HB.out)⟩⟩
                · rw [if_neg c10] at H
                  exact absurd H (by simp)
              · rw [if_neg c9] at H
                exact absurd H (by simp)
            · rw [if_neg c8] at H
              have c8b0 : decide (x31_1 < t181) = false := decide_eq_false c8
              clear c8
              replace H := Option.bind_eq_some_iff.mp H
              obtain ⟨t182, A120, H⟩ := H
              replace H : (if x10_1 ≥ t182 then (some (0, 13, 0)) else (some (x10_1, 0, t181))) = some (r1, r2, r3) := H
              have A12 := Aside0.mk A120
              clear A120
              by_cases c13 : x10_1 ≥ t182
              · rw [if_pos c13] at H
                have c13b0 : decide (t182 ≤ x10_1) = true := decide_eq_true c13
                clear c13
                simp only [Option.some.injEq, Prod.mk.injEq] at H
                obtain ⟨rfl, rfl, rfl⟩ := H
                go_wp2_with (first | ((with_reducible refine gate_callee (f := 45) rfl ?_); refine goesL_ (some 44) rfl rfl Try.func45 (by kernel_rfl) rfl #[.int .i64 a1] rfl (by (try simp only [List.map_toArray, List.map_cons, List.map_nil]); first | done | rfl | (simp only [List.length_drop, List.length_take]; rfl)) ?_; (with_reducible refine (digits_ten.calls k1 a1 t182 _ A12.out).mono ?_); rintro e w' ⟨rfl, ⟨nd, rfl⟩⟩; refine ⟨_, rfl, ?_⟩))
                go_ret3
                exact ⟨by first | rfl | (simp [errW_none, errW_some] <;> rfl) | (simp [*, errW_none, errW_some] <;> rfl), by repeat (first | (with_reducible first | exact HB.out | apply below_alloc | apply pw_below_drewN | apply below_drew1) | exact HB.out)⟩
              · rw [if_neg c13] at H
                have c13b0 : decide (t182 ≤ x10_1) = false := decide_eq_false c13
                clear c13
                simp only [Option.some.injEq, Prod.mk.injEq] at H
                obtain ⟨rfl, rfl, rfl⟩ := H
                go_wp2_with (first | ((with_reducible refine gate_callee (f := 45) rfl ?_); refine goesL_ (some 44) rfl rfl Try.func45 (by kernel_rfl) rfl #[.int .i64 a1] rfl (by (try simp only [List.map_toArray, List.map_cons, List.map_nil]); first | done | rfl | (simp only [List.length_drop, List.length_take]; rfl)) ?_; (with_reducible refine (digits_ten.calls k1 a1 t182 _ A12.out).mono ?_); rintro e w' ⟨rfl, ⟨nd, rfl⟩⟩; refine ⟨_, rfl, ?_⟩))
                go_ret3
                exact ⟨by first | rfl | (simp [errW_none, errW_some] <;> rfl) | (simp [*, errW_none, errW_some] <;> rfl), by repeat (first | (with_reducible first | exact HB.out | apply below_alloc | apply pw_below_drewN | apply below_drew1) | exact HB.out)⟩
      · rw [if_neg c7] at H
        have c7b0 : (a0 == 5) = false := beq_eq_false_iff_ne.mpr c7
        have c7b1 : (a0 != 5) = true := bne_iff_ne.mpr c7
        have H' := Aside0.mk H
        clear H
        go_enter Try.func27, Try.ntmps27
        go_wp2_with (first | ((with_reducible refine gate_callee (f := 44) rfl ?_); refine goesL_ (some 19) rfl rfl Try.func44 (by kernel_rfl) rfl #[.int .i64 a0, .int .i64 a1] rfl (by (try simp only [List.map_toArray, List.map_cons, List.map_nil]); first | done | rfl | (simp only [List.length_drop, List.length_take]; rfl)) ?_; (with_reducible refine (digits_wide.calls k a0 a1 t181 _ A4.out).mono ?_); rintro e w' ⟨rfl, ⟨nd, rfl⟩⟩; refine ⟨_, rfl, ?_⟩))
        go_loopg [10, 49] k (fun kq v10 v49 w' => ∃ (x10_1 : Int) (x49_1 : Int), v10 = .int .i64 x10_1 ∧ v49 = .int .i64 x49_1 ∧ Aside0 (digits_Length.l1 kq a0 a1 a2 t181 x10_1 t181 x49_1 = some (r1, r2, r3)) ∧ Aside0 (kq ≤ k) ∧ Aside0 (Below w.heap.size w w'))
        case atStart => exact ⟨(0), (0), (by first | rfl | (simp; done) | (simp [*]; done)), (by first | rfl | (simp; done) | (simp [*]; done)), H', ⟨Nat.le_refl _⟩, ⟨by repeat (first | (with_reducible first | exact HB.out | apply below_alloc | apply pw_below_drewN | apply below_drew1) | exact HB.out)⟩⟩
        case round =>
          clear H'
          try clear c1
          try clear p1
          try clear q1
          try clear hx1
          try clear c2
          try clear p2
          try clear c4
          try clear c5
          try clear c5b0
          try clear c5b1
          try clear c6
          try clear c6b0
          try clear p6
          try clear c7
          try clear c7b0
          try clear c7b1
          try clear c8
          try clear c8b0
          try clear c9
          try clear c9b0
          try clear c10
          try clear c10b0
          try clear p11
          try clear q11
          try clear hx11
          try clear c13
          try clear c13b0
          try clear p11
          try clear p2
          try clear q11
          obtain ⟨x10_1, x49_1, rfl, rfl, HA, HK1, HB⟩ := hrel
          cases gk with
          | zero => exact absurd HA.out (by simp [digits_Length.l1])
          | succ k1 =>
            have H := HA.out
            clear HA
            simp only [digits_Length.l1] at H
            by_cases c14 : x49_1 < t181
            · rw [if_pos c14] at H
              have c14b0 : decide (x49_1 < t181) = true := decide_eq_true c14
              clear c14
              have HC15 := Aside0.mk H
              clear H
              go_upto_region 19 with (fail)
              go_cut [13, 14] (fun v13 v14 wc => ∃ (kq : Nat) (x13_14 : ByteArray) (x14_14 : Int), v13 = .string x13_14 ∧ v14 = .int .i64 x14_14 ∧ Aside0 (digits_Length.j2 kq a0 a1 a2 t181 x10_1 x49_1 x13_14 x14_14 t181 x49_1 = some (r1, r2, r3)) ∧ Aside0 (kq ≤ k1) ∧ Aside0 (Below w.heap.size w wc))
              case first =>
                have H := HC15.out
                clear HC15
                by_cases c16 : 0 ≤ x49_1
                · rw [if_pos c16] at H
                  have c16b0 : decide (0 ≤ x49_1) = true := decide_eq_true c16
                  clear c16
                  (first | rw [c16b0] | (simp only [i64_w, i32_w]; rw [c16b0]) | skip)
                  by_cases c17 : x49_1 < (a2.size : Int)
                  · rw [if_pos c17] at H
                    have c17b0 : decide (x49_1 < (a2.size : Int)) = true := decide_eq_true c17
                    clear c17
                    by_cases c19 : x49_1 = 0
                    · rw [if_pos c19] at H
                      have c19b0 : (x49_1 == 0) = true := beq_iff_eq.mpr c19
                      have c19b1 : (x49_1 != 0) = false := bne_eq_false_iff_eq.mpr c19
                      clear c19
                      replace H := Option.bind_eq_some_iff.mp H
                      obtain ⟨⟨t183, t184⟩, A200, H⟩ := H
                      replace H : (digits_Length.j2 k1 a0 a1 a2 t181 x10_1 x49_1 t183 t184 t181 x49_1) = some (r1, r2, r3) := H
                      have A20 := Aside0.mk A200
                      clear A200
                      have H' := Aside0.mk H
                      clear H
                      have p18 : 0 ≤ (x49_1 : Int) := of_decide_eq_true (by first | (with_reducible assumption) | assumption)
                      have q18 : x49_1 < (a2.size : Int) := of_decide_eq_true (by first | (with_reducible assumption) | assumption)
                      have hx18 := bt_at a2 x49_1
                      replace p18 := eq_true p18
                      replace q18 := eq_true q18
                      go_wp2_with (first | ((with_reducible refine gate_callee (f := 46) rfl ?_); refine goesL_ (some 64) rfl rfl Try.func46 (by kernel_rfl) rfl #[.int .i64 a0, .int .u8 (bt a2 x49_1), .bool ((Int.tmod a1 2) == 1)] rfl (by (try simp only [List.map_toArray, List.map_cons, List.map_nil]); first | done | rfl | (simp only [List.length_drop, List.length_take]; rfl)) ?_; (with_reducible refine (digits_digitsOf.calls k1 a0 (bt a2 x49_1) ((Int.tmod a1 2) == 1) t183 t184 _ A20.out).mono ?_); rintro e w21 ⟨rfl, hb⟩; refine ⟨_, rfl, ?_⟩; have n0_ := Aside0.mk (below_step (by repeat (first | (with_reducible first | exact HB.out | apply below_alloc | apply pw_below_drewN | apply below_drew1) | exact HB.out)) hb); clear HB; have HB := n0_; clear n0_; (try clear hb); (try clear hb2); (try clear hk); (try clear hi)))
                      go_meet
                      case rel => exact ⟨_, (t183), (t184), (by first | rfl | (simp; done) | (simp [*]; done)), (by first | rfl | (simp; done) | (simp [*]; done)), H', ⟨by have := HK1.out; first | omega | exact Nat.le_refl _⟩, ⟨by repeat (first | (with_reducible first | exact HB.out | apply below_alloc | apply pw_below_drewN | apply below_drew1) | exact HB.out)⟩⟩
                    · rw [if_neg c19] at H
                      have c19b0 : (x49_1 == 0) = false := beq_eq_false_iff_ne.mpr c19
                      have c19b1 : (x49_1 != 0) = true := bne_iff_ne.mpr c19
                      replace H := Option.bind_eq_some_iff.mp H
                      obtain ⟨⟨t185, t186⟩, A220, H⟩ := H
                      replace H : (digits_Length.j2 k1 a0 a1 a2 t181 x10_1 x49_1 t185 t186 t181 x49_1) = some (r1, r2, r3) := H
                      have A22 := Aside0.mk A220
                      clear A220
                      have H' := Aside0.mk H
                      clear H
                      have p18 : 0 ≤ (x49_1 : Int) := of_decide_eq_true (by first | (with_reducible assumption) | assumption)
                      have q18 : x49_1 < (a2.size : Int) := of_decide_eq_true (by first | (with_reducible assumption) | assumption)
                      have hx18 := bt_at a2 x49_1
                      replace p18 := eq_true p18
                      replace q18 := eq_true q18
                      go_wp2_with (first | ((with_reducible refine gate_callee (f := 46) rfl ?_); refine goesL_ (some 64) rfl rfl Try.func46 (by kernel_rfl) rfl #[.int .i64 a0, .int .u8 (bt a2 x49_1), .bool false] rfl (by (try simp only [List.map_toArray, List.map_cons, List.map_nil]); first | done | rfl | (simp only [List.length_drop, List.length_take]; rfl)) ?_; (with_reducible refine (digits_digitsOf.calls k1 a0 (bt a2 x49_1) false t185 t186 _ A22.out).mono ?_); rintro e w23 ⟨rfl, hb⟩; refine ⟨_, rfl, ?_⟩; have n0_ := Aside0.mk (below_step (by repeat (first | (with_reducible first | exact HB.out | apply below_alloc | apply pw_below_drewN | apply below_drew1) | exact HB.out)) hb); clear HB; have HB := n0_; clear n0_; (try clear hb); (try clear hb2); (try clear hk); (try clear hi)))
                      go_meet
                      case rel => exact ⟨_, (t185), (t186), (by first | rfl | (simp; done) | (simp [*]; done)), (by first | rfl | (simp; done) | (simp [*]; done)), H', ⟨by have := HK1.out; first | omega | exact Nat.le_refl _⟩, ⟨by repeat (first | (with_reducible first | exact HB.out | apply below_alloc | apply pw_below_drewN | apply below_drew1) | exact HB.out)⟩⟩
                  · rw [if_neg c17] at H
                    exact absurd H (by simp)
                · rw [if_neg c16] at H
                  exact absurd H (by simp)
              case rest =>
                clear HC15
                try clear c1
                try clear p1
                try clear q1
                try clear hx1
                try clear c2
                try clear p2
                try clear c4
                try clear c5
                try clear c5b0
                try clear c5b1
                try clear c6
                try clear c6b0
                try clear p6
                try clear c7
                try clear c7b0
                try clear c7b1
                try clear c8
                try clear c8b0
                try clear c9
                try clear c9b0
                try clear c10
                try clear c10b0
                try clear p11
                try clear q11
                try clear hx11
                try clear c13
                try clear c13b0
                try clear c14
                try clear c14b0
                try clear c16
                try clear c16b0
                try clear c17
                try clear c17b0
                try clear p18
                try clear q18
                try clear hx18
                try clear c19
                try clear c19b0
                try clear c19b1
                try clear p1
                try clear p11
                try clear p18
                try clear p2
                try clear p6
                try clear q1
                try clear q11
                try clear q18
                obtain ⟨kq, x13_14, x14_14, rfl, rfl, HA, HJ14, HB⟩ := hcut
                cases kq with
                | zero => exact absurd HA.out (by simp [digits_Length.j2])
                | succ kj14 =>
                  have H := HA.out
                  clear HA
                  simp only [digits_Length.j2] at H
                  by_cases c24 : x14_14 = 0
                  · rw [if_pos c24] at H
                    have c24b0 : (x14_14 == 0) = true := beq_iff_eq.mpr c24
                    have c24b1 : (x14_14 != 0) = false := bne_eq_false_iff_eq.mpr c24
                    clear c24
                    have H' := Aside0.mk H
                    clear H
                    have kb_ := fun W => print_bytes (P := Try.prog) 9 51 5 Try.underlying9 Try.underlying51 Try.underlying5 x13_14 W
                    go_wp2
                    have hce_ : ∀ i : Int, 0 ≤ i → i < (x13_14.size : Int) → (Lib.bytesWorld wc 5 x13_14).cell? ⟨wc.heap.size, i.toNat, none⟩ = some (.int .u8 (bt x13_14 i)) := bytes_cell wc x13_14
                    have hbw_ : Below w.heap.size w (Lib.bytesWorld wc 5 x13_14) := bytes_below HB.out HB.out.size 5 x13_14
                    clear HB
                    obtain ⟨wb, hwb_⟩ : ∃ W_, W_ = Lib.bytesWorld wc 5 x13_14 := ⟨_, rfl⟩
                    rw [← hwb_] at hce_ hbw_ ⊢
                    have HCE := Aside0.mk hce_
                    have HB := Aside0.mk hbw_
                    clear hce_ hbw_ hwb_ kb_
                    go_loopg [10, 74] kj14 (fun kq v10 v74 w' => ∃ (x10_3 : Int) (x74_3 : Int), v10 = .int .i64 x10_3 ∧ v74 = .int .i64 x74_3 ∧ Aside0 (digits_Length.l2 kq a0 a1 a2 t181 x10_3 t181 x49_1 x13_14 (x13_14.size : Int) x74_3 = some (r1, r2, r3)) ∧ Aside0 (kq ≤ kj14) ∧ Aside0 (Below w.heap.size w w') ∧ Aside0 (∀ i : Int, 0 ≤ i → i < (x13_14.size : Int) → w'.cell? ⟨wc.heap.size, i.toNat, none⟩ = some (.int .u8 (bt x13_14 i))))
                    case atStart => exact ⟨(x10_1), (0), (by first | rfl | (simp; done) | (simp [*]; done)), (by first | rfl | (simp; done) | (simp [*]; done)), H', ⟨Nat.le_refl _⟩, ⟨by repeat (first | (with_reducible first | exact HB.out | apply below_alloc | apply pw_below_drewN | apply below_drew1) | exact HB.out)⟩, HCE⟩
                    case round =>
                      clear H'
                      try clear c1
                      try clear p1
                      try clear q1
                      try clear hx1
                      try clear c2
                      try clear p2
                      try clear c4
                      try clear c5
                      try clear c5b0
                      try clear c5b1
                      try clear c6
                      try clear c6b0
                      try clear p6
                      try clear c7
                      try clear c7b0
                      try clear c7b1
                      try clear c8
                      try clear c8b0
                      try clear c9
                      try clear c9b0
                      try clear c10
                      try clear c10b0
                      try clear p11
                      try clear q11
                      try clear hx11
                      try clear c13
                      try clear c13b0
                      try clear c14
                      try clear c14b0
                      try clear c16
                      try clear c16b0
                      try clear c17
                      try clear c17b0
                      try clear p18
                      try clear q18
                      try clear hx18
                      try clear c19
                      try clear c19b0
                      try clear c19b1
                      try clear c24
                      try clear c24b0
                      try clear c24b1
                      try clear p1
                      try clear p11
                      try clear p18
                      try clear p2
                      try clear p6
                      try clear q1
                      try clear q11
                      try clear q18
                      obtain ⟨x10_3, x74_3, rfl, rfl, HA, HK3, HB, HCE⟩ := hrel
                      cases gk with
                      | zero => exact absurd HA.out (by simp [digits_Length.l2])
                      | succ k3 =>
                        have H := HA.out
                        clear HA
                        simp only [digits_Length.l2] at H
                        by_cases c25 : x74_3 < (x13_14.size : Int)
                        · rw [if_pos c25] at H
                          have c25b0 : decide (x74_3 < (x13_14.size : Int)) = true := decide_eq_true c25
                          clear c25
                          by_cases c26 : 0 ≤ x74_3
                          · rw [if_pos c26] at H
                            have c26b0 : decide (0 ≤ x74_3) = true := decide_eq_true c26
                            clear c26
                            by_cases c27 : x74_3 < (x13_14.size : Int)
                            · rw [if_pos c27] at H
                              have c27b0 : decide (x74_3 < (x13_14.size : Int)) = true := decide_eq_true c27
                              clear c27
                              have H' := Aside0.mk H
                              clear H
                              have p28 : 0 ≤ (x74_3 : Int) := of_decide_eq_true (by first | (with_reducible assumption) | assumption)
                              have q28 : x74_3 < (x13_14.size : Int) := of_decide_eq_true (by first | (with_reducible assumption) | assumption)
                              have hx28 := HCE.out x74_3 p28 q28
                              replace p28 := eq_true p28
                              replace q28 := eq_true q28
                              go_wp2
                              go_roundg k3
                              case measure => have := HK1.out; have := HJ14.out; have := HK3.out; omega
                              case rel => exact ⟨(wrap64 ((wrap64 (10 * x10_3)) + (((bt x13_14 x74_3) - 48) % 256))), (wrap64 (x74_3 + 1)), (by first | rfl | (simp; done) | (simp [*]; done)), (by first | rfl | (simp; done) | (simp [*]; done)), H', ⟨by have := HK1.out; have := HJ14.out; have := HK3.out; omega⟩, ⟨by repeat (first | (with_reducible first | exact HB.out | apply below_alloc | apply pw_below_drewN | apply below_drew1) | exact HB.out)⟩, HCE⟩
                            · rw [if_neg c27] at H
                              exact absurd H (by simp)
                          · rw [if_neg c26] at H
                            exact absurd H (by simp)
                        · rw [if_neg c25] at H
                          have c25b0 : decide (x74_3 < (x13_14.size : Int)) = false := decide_eq_false c25
                          clear c25
                          have H' := Aside0.mk H
                          clear H
                          go_wp2
                          go_roundg k3
                          case measure => have := HK1.out; have := HJ14.out; have := HK3.out; omega
                          case rel => exact ⟨(x10_3), (wrap64 (x49_1 + 1)), (by first | rfl | (simp; done) | (simp [*]; done)), (by first | rfl | (simp; done) | (simp [*]; done)), H', ⟨by have := HK1.out; have := HJ14.out; have := HK3.out; omega⟩, ⟨by repeat (first | (with_reducible first | exact HB.out | apply below_alloc | apply pw_below_drewN | apply below_drew1) | exact HB.out)⟩⟩
                  · rw [if_neg c24] at H
                    have c24b0 : (x14_14 == 0) = false := beq_eq_false_iff_ne.mpr c24
                    have c24b1 : (x14_14 != 0) = true := bne_iff_ne.mpr c24
                    simp only [Option.some.injEq, Prod.mk.injEq] at H
                    obtain ⟨rfl, rfl, rfl⟩ := H
                    go_wp2
                    go_ret3
                    exact ⟨by first | rfl | (simp [errW_none, errW_some] <;> rfl) | (simp [*, errW_none, errW_some] <;> rfl), by repeat (first | (with_reducible first | exact HB.out | apply below_alloc | apply pw_below_drewN | apply below_drew1) | exact HB.out)⟩
            · rw [if_neg c14] at H
              have c14b0 : decide (x49_1 < t181) = false := decide_eq_false c14
              clear c14
              simp only [Option.some.injEq, Prod.mk.injEq] at H
              obtain ⟨rfl, rfl, rfl⟩ := H
              go_wp2
              go_ret3
              exact ⟨by first | rfl | (simp [errW_none, errW_some] <;> rfl) | (simp [*, errW_none, errW_some] <;> rfl), by repeat (first | (with_reducible first | exact HB.out | apply below_alloc | apply pw_below_drewN | apply below_drew1) | exact HB.out)⟩

end Go.Proofs.Ytlpamhffpgoebaa.All

-- WRITTEN BY this session's own drv.py over the kit's print. Not trusted: Lean checks it.
namespace Go.Proofs.Ytlpamhffpgoebaa.All
open Go.RowKit Go.Proofs.YtlpamhffpgoebaaW.PrintWords Go.Proofs.YtlpamhffpgoebaaW.PrintLast Go.Proofs.YtlpamhffpgoebaaW.PrintMore
attribute [local go_sem] max2_int min2_int max_two min_two max_three min_three max_four min_four   -- for this text's walks alone
set_option linter.unusedVariables false
set_option linter.unusedSimpArgs false

/-! ### turnstileref1_digit: function 42 -/
def turnstileref1_digit.f (a0 : Int) : Option (Bool) := if a0 ≥ 48 then (some (decide (a0 ≤ 57))) else (some false)
set_option maxHeartbeats 8000000 in
set_option maxRecDepth 100000 in
theorem turnstileref1_digit.calls (a0 : Int) (r : Bool) (w : World) (h : turnstileref1_digit.f a0 = some r) :
    Calls Try.prog 42 #[.int .u8 a0] w fun e w' => e = .returned (.bool r) ∧ Drawn0 w w' := by
  have H : (if a0 ≥ 48 then (some (decide (a0 ≤ 57))) else (some false)) = some r := h
  clear h
  by_cases c2 : a0 ≥ 48
  · rw [if_pos c2] at H
    have c2b0 : decide (48 ≤ a0) = true := decide_eq_true c2
    clear c2
    obtain rfl := Option.some.inj H
    go_enter Try.func42, Try.ntmps42
    go_wp2
    go_ret
    exact ⟨by first | rfl | (simp; done) | (simp [*]; done), by repeat (first | exact Drawn0.refl _ | apply Drawn0.step)⟩
  · rw [if_neg c2] at H
    have c2b0 : decide (48 ≤ a0) = false := decide_eq_false c2
    clear c2
    obtain rfl := Option.some.inj H
    go_enter Try.func42, Try.ntmps42
    go_wp2
    go_ret
    exact ⟨by first | rfl | (simp; done) | (simp [*]; done), by repeat (first | exact Drawn0.refl _ | apply Drawn0.step)⟩

end Go.Proofs.Ytlpamhffpgoebaa.All

-- WRITTEN BY this session's own drv.py over the kit's print. Not trusted: Lean checks it.
namespace Go.Proofs.Ytlpamhffpgoebaa.All
open Go.RowKit Go.Proofs.YtlpamhffpgoebaaW.PrintWords Go.Proofs.YtlpamhffpgoebaaW.PrintLast Go.Proofs.YtlpamhffpgoebaaW.PrintMore
attribute [local go_sem] max2_int min2_int max_two min_two max_three min_three max_four min_four   -- for this text's walks alone
set_option linter.unusedVariables false
set_option linter.unusedSimpArgs false

/-! ### turnstileref1_power: function 43 -/
def turnstileref1_power.l0 : Nat → Int → Int → Int → Option (Int)
  | 0, _, _, _ => none
  | k + 1, x0, x3, x4 => if x4 < x0 then (turnstileref1_power.l0 k x0 (wrap64 (10 * x3)) (wrap64 (x4 + 1))) else (some x3)
def turnstileref1_power.f (k : Nat) (a0 : Int) : Option (Int) := turnstileref1_power.l0 k a0 1 0
theorem turnstileref1_power.mono_l : ∀ k, (∀ y0 y1 y2, LeO (turnstileref1_power.l0 k y0 y1 y2) (turnstileref1_power.l0 (k + 1) y0 y1 y2))
  | 0 => fun _ _ _ r h => by simp [turnstileref1_power.l0] at h
  | k + 1 => by
    have ih0 := turnstileref1_power.mono_l k
    · intro y0 y1 y2
      unfold turnstileref1_power.l0
      repeat' first
      | (with_reducible exact ih0 _ _ _)
      | (with_reducible exact LeO.refl _)
      | (with_reducible exact LeO.none _)
      | (with_reducible refine LeO.ite ?_ ?_)
      | (with_reducible refine LeO.bind ?_ (fun _ => ?_))
      | exact ih0 _ _ _
      | exact LeO.none _
      | refine LeO.ite ?_ ?_
      | refine LeO.bind ?_ (fun _ => ?_)
theorem turnstileref1_power.mono : ∀ a0 k, LeO (turnstileref1_power.f k a0) (turnstileref1_power.f (k + 1) a0) := by
  intro a0 k
  have ih0 := turnstileref1_power.mono_l k
  unfold turnstileref1_power.f
  repeat' first
      | (with_reducible exact ih0 _ _ _)
      | (with_reducible exact LeO.refl _)
      | (with_reducible exact LeO.none _)
      | (with_reducible refine LeO.ite ?_ ?_)
      | (with_reducible refine LeO.bind ?_ (fun _ => ?_))
      | exact ih0 _ _ _
      | exact LeO.none _
      | refine LeO.ite ?_ ?_
      | refine LeO.bind ?_ (fun _ => ?_)
set_option maxHeartbeats 8000000 in
set_option maxRecDepth 100000 in
theorem turnstileref1_power.calls (k : Nat) (a0 : Int) (r : Int) (w : World) (h : turnstileref1_power.f k a0 = some r) :
    Calls Try.prog 43 #[.int .i64 a0] w fun e w' => e = .returned (.int .i64 r) ∧ Drawn0 w w' := by
  have H : (turnstileref1_power.l0 k a0 1 0) = some r := h
  clear h
  have H' := Aside0.mk H
  clear H
  go_enter Try.func43, Try.ntmps43
  go_wp2
  go_loopg [3, 4] k (fun kq v3 v4 w' => ∃ (x3_1 : Int) (x4_1 : Int), v3 = .int .i64 x3_1 ∧ v4 = .int .i64 x4_1 ∧ Aside0 (turnstileref1_power.l0 kq a0 x3_1 x4_1 = some r) ∧ Aside0 (kq ≤ k) ∧ Drawn0 w w')
  case atStart => exact ⟨(1), (0), (by first | rfl | (simp; done) | (simp [*]; done)), (by first | rfl | (simp; done) | (simp [*]; done)), H', ⟨Nat.le_refl _⟩, by repeat (first | exact Drawn0.refl _ | apply Drawn0.step)⟩
  case round =>
    clear H'
    obtain ⟨x3_1, x4_1, rfl, rfl, HA, HK1, ⟨m1, rfl⟩⟩ := hrel
    cases gk with
    | zero => exact absurd HA.out (by simp [turnstileref1_power.l0])
    | succ k1 =>
      have H := HA.out
      clear HA
      simp only [turnstileref1_power.l0] at H
      by_cases c2 : x4_1 < a0
      · rw [if_pos c2] at H
        have c2b0 : decide (x4_1 < a0) = true := decide_eq_true c2
        clear c2
        have H' := Aside0.mk H
        clear H
        go_wp2
        go_roundg k1
        case measure => have := HK1.out; omega
        case rel => exact ⟨(wrap64 (10 * x3_1)), (wrap64 (x4_1 + 1)), (by first | rfl | (simp; done) | (simp [*]; done)), (by first | rfl | (simp; done) | (simp [*]; done)), H', ⟨by have := HK1.out; omega⟩, by repeat (first | exact Drawn0.refl _ | apply Drawn0.step)⟩
      · rw [if_neg c2] at H
        have c2b0 : decide (x4_1 < a0) = false := decide_eq_false c2
        clear c2
        obtain rfl := Option.some.inj H
        go_wp2
        go_ret
        exact ⟨by first | rfl | (simp; done) | (simp [*]; done), by repeat (first | exact Drawn0.refl _ | apply Drawn0.step)⟩

end Go.Proofs.Ytlpamhffpgoebaa.All

-- WRITTEN BY this session's own drv.py over the kit's print. Not trusted: Lean checks it.
namespace Go.Proofs.Ytlpamhffpgoebaa.All
open Go.RowKit Go.Proofs.YtlpamhffpgoebaaW.PrintWords Go.Proofs.YtlpamhffpgoebaaW.PrintLast Go.Proofs.YtlpamhffpgoebaaW.PrintMore
attribute [local go_sem] max2_int min2_int max_two min_two max_three min_three max_four min_four   -- for this text's walks alone
set_option linter.unusedVariables false
set_option linter.unusedSimpArgs false

/-! ### turnstileref1_Packed: function 41 -/
def turnstileref1_Packed.f (a0 : Int) : Option (Bool) := if a0 = 2 then (some true) else (some (a0 == 3))
set_option maxHeartbeats 8000000 in
set_option maxRecDepth 100000 in
theorem turnstileref1_Packed.calls (a0 : Int) (r : Bool) (w : World) (h : turnstileref1_Packed.f a0 = some r) :
    Calls Try.prog 41 #[.int .i64 a0] w fun e w' => e = .returned (.bool r) ∧ Drawn0 w w' := by
  have H : (if a0 = 2 then (some true) else (some (a0 == 3))) = some r := h
  clear h
  by_cases c2 : a0 = 2
  · rw [if_pos c2] at H
    have c2b0 : (a0 == 2) = true := beq_iff_eq.mpr c2
    have c2b1 : (a0 != 2) = false := bne_eq_false_iff_eq.mpr c2
    clear c2
    obtain rfl := Option.some.inj H
    go_enter Try.func41, Try.ntmps41
    go_wp2
    go_ret
    exact ⟨by first | rfl | (simp; done) | (simp [*]; done), by repeat (first | exact Drawn0.refl _ | apply Drawn0.step)⟩
  · rw [if_neg c2] at H
    have c2b0 : (a0 == 2) = false := beq_eq_false_iff_ne.mpr c2
    have c2b1 : (a0 != 2) = true := bne_iff_ne.mpr c2
    obtain rfl := Option.some.inj H
    go_enter Try.func41, Try.ntmps41
    go_wp2
    go_ret
    exact ⟨by first | rfl | (simp; done) | (simp [*]; done), by repeat (first | exact Drawn0.refl _ | apply Drawn0.step)⟩

end Go.Proofs.Ytlpamhffpgoebaa.All

-- WRITTEN BY this session's own drv.py over the kit's print. Not trusted: Lean checks it.
namespace Go.Proofs.Ytlpamhffpgoebaa.All
open Go.RowKit Go.Proofs.YtlpamhffpgoebaaW.PrintWords Go.Proofs.YtlpamhffpgoebaaW.PrintLast Go.Proofs.YtlpamhffpgoebaaW.PrintMore
attribute [local go_sem] max2_int min2_int max_two min_two max_three min_three max_four min_four   -- for this text's walks alone
set_option linter.unusedVariables false
set_option linter.unusedSimpArgs false

/-! ### turnstileref1_at: function 48 -/
def turnstileref1_at.l0 : Nat → ByteArray → Int → Int → Option (Int)
  | 0, _, _, _ => none
  | k + 1, x0, x1, x5 => if x5 < (x0.size : Int) then (if 0 ≤ x5 then (if (bt x0 x5) = x1 then (some x5) else (turnstileref1_at.l0 k x0 x1 (wrap64 (x5 + 1)))) else (none)) else (some (-1))
def turnstileref1_at.f (k : Nat) (a0 : ByteArray) (a1 : Int) : Option (Int) := turnstileref1_at.l0 k a0 a1 0
theorem turnstileref1_at.mono_l : ∀ k, (∀ y0 y1 y2, LeO (turnstileref1_at.l0 k y0 y1 y2) (turnstileref1_at.l0 (k + 1) y0 y1 y2))
  | 0 => fun _ _ _ r h => by simp [turnstileref1_at.l0] at h
  | k + 1 => by
    have ih0 := turnstileref1_at.mono_l k
    · intro y0 y1 y2
      unfold turnstileref1_at.l0
      repeat' first
      | (with_reducible exact ih0 _ _ _)
      | (with_reducible exact LeO.refl _)
      | (with_reducible exact LeO.none _)
      | (with_reducible refine LeO.ite ?_ ?_)
      | (with_reducible refine LeO.bind ?_ (fun _ => ?_))
      | exact ih0 _ _ _
      | exact LeO.none _
      | refine LeO.ite ?_ ?_
      | refine LeO.bind ?_ (fun _ => ?_)
theorem turnstileref1_at.mono : ∀ a0 a1 k, LeO (turnstileref1_at.f k a0 a1) (turnstileref1_at.f (k + 1) a0 a1) := by
  intro a0 a1 k
  have ih0 := turnstileref1_at.mono_l k
  unfold turnstileref1_at.f
  repeat' first
      | (with_reducible exact ih0 _ _ _)
      | (with_reducible exact LeO.refl _)
      | (with_reducible exact LeO.none _)
      | (with_reducible refine LeO.ite ?_ ?_)
      | (with_reducible refine LeO.bind ?_ (fun _ => ?_))
      | exact ih0 _ _ _
      | exact LeO.none _
      | refine LeO.ite ?_ ?_
      | refine LeO.bind ?_ (fun _ => ?_)
set_option maxHeartbeats 8000000 in
set_option maxRecDepth 100000 in
theorem turnstileref1_at.calls (k : Nat) (a0 : ByteArray) (a1 : Int) (r : Int) (w : World) (h : turnstileref1_at.f k a0 a1 = some r) :
    Calls Try.prog 48 #[.string a0, .int .u8 a1] w fun e w' => e = .returned (.int .i64 r) ∧ Drawn0 w w' := by
  have H : (turnstileref1_at.l0 k a0 a1 0) = some r := h
  clear h
  have H' := Aside0.mk H
  clear H
  go_enter Try.func48, Try.ntmps48
  go_wp2
  go_loopg [5] k (fun kq v5 w' => ∃ (x5_1 : Int), v5 = .int .i64 x5_1 ∧ Aside0 (turnstileref1_at.l0 kq a0 a1 x5_1 = some r) ∧ Aside0 (kq ≤ k) ∧ Drawn0 w w')
  case atStart => exact ⟨(0), (by first | rfl | (simp; done) | (simp [*]; done)), H', ⟨Nat.le_refl _⟩, by repeat (first | exact Drawn0.refl _ | apply Drawn0.step)⟩
  case round =>
    clear H'
    try clear p2
    obtain ⟨x5_1, rfl, HA, HK1, ⟨m1, rfl⟩⟩ := hrel
    cases gk with
    | zero => exact absurd HA.out (by simp [turnstileref1_at.l0])
    | succ k1 =>
      have H := HA.out
      clear HA
      simp only [turnstileref1_at.l0] at H
      by_cases c3 : x5_1 < (a0.size : Int)
      · rw [if_pos c3] at H
        have c3b0 : decide (x5_1 < (a0.size : Int)) = true := decide_eq_true c3
        clear c3
        by_cases c4 : 0 ≤ x5_1
        · rw [if_pos c4] at H
          have c4b0 : decide (0 ≤ x5_1) = true := decide_eq_true c4
          clear c4
          by_cases c6 : (bt a0 x5_1) = a1
          · rw [if_pos c6] at H
            have c6b0 : ((bt a0 x5_1) == a1) = true := beq_iff_eq.mpr c6
            have c6b1 : ((bt a0 x5_1) != a1) = false := bne_eq_false_iff_eq.mpr c6
            clear c6
            obtain rfl := Option.some.inj H
            have p5 : 0 ≤ (x5_1 : Int) := of_decide_eq_true (by first | (with_reducible assumption) | assumption)
            have q5 : x5_1 < (a0.size : Int) := of_decide_eq_true (by first | (with_reducible assumption) | assumption)
            have hx5 := bt_at a0 x5_1
            replace p5 := eq_true p5
            replace q5 := eq_true q5
            go_wp2
            go_ret
            exact ⟨by first | rfl | (simp; done) | (simp [*]; done), by repeat (first | exact Drawn0.refl _ | apply Drawn0.step)⟩
          · rw [if_neg c6] at H
            have c6b0 : ((bt a0 x5_1) == a1) = false := beq_eq_false_iff_ne.mpr c6
            have c6b1 : ((bt a0 x5_1) != a1) = true := bne_iff_ne.mpr c6
            have H' := Aside0.mk H
            clear H
            have p5 : 0 ≤ (x5_1 : Int) := of_decide_eq_true (by first | (with_reducible assumption) | assumption)
            have q5 : x5_1 < (a0.size : Int) := of_decide_eq_true (by first | (with_reducible assumption) | assumption)
            have hx5 := bt_at a0 x5_1
            replace p5 := eq_true p5
            replace q5 := eq_true q5
            go_wp2
            go_roundg k1
            case measure => have := HK1.out; omega
            case rel => exact ⟨(wrap64 (x5_1 + 1)), (by first | rfl | (simp; done) | (simp [*]; done)), H', ⟨by have := HK1.out; omega⟩, by repeat (first | exact Drawn0.refl _ | apply Drawn0.step)⟩
        · rw [if_neg c4] at H
          exact absurd H (by simp)
      · rw [if_neg c3] at H
        have c3b0 : decide (x5_1 < (a0.size : Int)) = false := decide_eq_false c3
        clear c3
        obtain rfl := Option.some.inj H
        go_wp2
        go_ret
        exact ⟨by first | rfl | (simp; done) | (simp [*]; done), by repeat (first | exact Drawn0.refl _ | apply Drawn0.step)⟩

end Go.Proofs.Ytlpamhffpgoebaa.All

-- WRITTEN BY this session's own drv.py over the kit's print. Not trusted: Lean checks it.
namespace Go.Proofs.Ytlpamhffpgoebaa.All
open Go.RowKit Go.Proofs.YtlpamhffpgoebaaW.PrintWords Go.Proofs.YtlpamhffpgoebaaW.PrintLast Go.Proofs.YtlpamhffpgoebaaW.PrintMore
attribute [local go_sem] max2_int min2_int max_two min_two max_three min_three max_four min_four   -- for this text's walks alone
set_option linter.unusedVariables false
set_option linter.unusedSimpArgs false

/-! ### turnstileref1_Code: function 52 -/
def turnstileref1_Code.f (k : Nat) (a0 : Int) (a1 : Int) : Option (Int × Bool) := if a0 = 1 then (if a1 ≥ 32 then (some (a1, decide (a1 ≤ 126))) else (some (a1, false))) else (if a0 = 4 then ((turnstileref1_at.f k (⟨#[32, 33, 34, 35, 36, 37, 38, 39, 40, 41, 42, 43, 44, 45, 46, 47, 48, 49, 50, 51, 52, 53, 54, 55, 56, 57, 58, 59, 60, 61, 62, 63, 64, 65, 66, 67, 68, 69, 70, 71, 72, 73, 74, 75, 76, 77, 78, 79, 80, 81, 82, 83, 84, 85, 86, 87, 88, 89, 90, 91, 92, 93, 94, 95, 96, 97, 98, 99, 100, 101, 102, 103, 104, 105, 106, 107, 108, 109, 110, 111, 112, 113, 114, 115, 116, 117, 118, 119, 120, 121, 122, 123, 124, 125, 126]⟩ : ByteArray) a1).bind fun t279 => (if t279 < 0 then (some (0, false)) else (if 0 ≤ (wrap64 (2 * t279)) then (if (wrap64 (2 * t279)) < 190 then ((turnstileref1_at.f k (⟨#[48, 49, 50, 51, 52, 53, 54, 55, 56, 57, 65, 66, 67, 68, 69, 70]⟩ : ByteArray) (bt (⟨#[52, 48, 53, 65, 55, 70, 55, 66, 53, 66, 54, 67, 53, 48, 55, 68, 52, 68, 53, 68, 53, 67, 52, 69, 54, 66, 54, 48, 52, 66, 54, 49, 70, 48, 70, 49, 70, 50, 70, 51, 70, 52, 70, 53, 70, 54, 70, 55, 70, 56, 70, 57, 55, 65, 53, 69, 52, 67, 55, 69, 54, 69, 54, 70, 55, 67, 67, 49, 67, 50, 67, 51, 67, 52, 67, 53, 67, 54, 67, 55, 67, 56, 67, 57, 68, 49, 68, 50, 68, 51, 68, 52, 68, 53, 68, 54, 68, 55, 68, 56, 68, 57, 69, 50, 69, 51, 69, 52, 69, 53, 69, 54, 69, 55, 69, 56, 69, 57, 66, 65, 69, 48, 66, 66, 66, 48, 54, 68, 55, 57, 56, 49, 56, 50, 56, 51, 56, 52, 56, 53, 56, 54, 56, 55, 56, 56, 56, 57, 57, 49, 57, 50, 57, 51, 57, 52, 57, 53, 57, 54, 57, 55, 57, 56, 57, 57, 65, 50, 65, 51, 65, 52, 65, 53, 65, 54, 65, 55, 65, 56, 65, 57, 67, 48, 52, 70, 68, 48, 65, 49]⟩ : ByteArray) (wrap64 (2 * t279)))).bind fun t280 => (if 0 ≤ (wrap64 ((wrap64 (2 * t279)) + 1)) then (if (wrap64 ((wrap64 (2 * t279)) + 1)) < 190 then ((turnstileref1_at.f k (⟨#[48, 49, 50, 51, 52, 53, 54, 55, 56, 57, 65, 66, 67, 68, 69, 70]⟩ : ByteArray) (bt (⟨#[52, 48, 53, 65, 55, 70, 55, 66, 53, 66, 54, 67, 53, 48, 55, 68, 52, 68, 53, 68, 53, 67, 52, 69, 54, 66, 54, 48, 52, 66, 54, 49, 70, 48, 70, 49, 70, 50, 70, 51, 70, 52, 70, 53, 70, 54, 70, 55, 70, 56, 70, 57, 55, 65, 53, 69, 52, 67, 55, 69, 54, 69, 54, 70, 55, 67, 67, 49, 67, 50, 67, 51, 67, 52, 67, 53, 67, 54, 67, 55, 67, 56, 67, 57, 68, 49, 68, 50, 68, 51, 68, 52, 68, 53, 68, 54, 68, 55, 68, 56, 68, 57, 69, 50, 69, 51, 69, 52, 69, 53, 69, 54, 69, 55, 69, 56, 69, 57, 66, 65, 69, 48, 66, 66, 66, 48, 54, 68, 55, 57, 56, 49, 56, 50, 56, 51, 56, 52, 56, 53, 56, 54, 56, 55, 56, 56, 56, 57, 57, 49, 57, 50, 57, 51, 57, 52, 57, 53, 57, 54, 57, 55, 57, 56, 57, 57, 65, 50, 65, 51, 65, 52, 65, 53, 65, 54, 65, 55, 65, 56, 65, 57, 67, 48, 52, 70, 68, 48, 65, 49]⟩ : ByteArray) (wrap64 ((wrap64 (2 * t279)) + 1)))).bind fun t281 => (some ((wrap64 ((wrap64 (16 * t280)) + t281)) % 256, true))) else (none)) else (none))) else (none)) else (none)))) else (some (a1, (a0 == 5))))
theorem turnstileref1_Code.mono : ∀ a0 a1 k, LeO (turnstileref1_Code.f k a0 a1) (turnstileref1_Code.f (k + 1) a0 a1) := by
  intro a0 a1 k
  unfold turnstileref1_Code.f
  repeat' first
      | (with_reducible exact turnstileref1_at.mono _ _ _)
      | (with_reducible exact LeO.refl _)
      | (with_reducible exact LeO.none _)
      | (with_reducible refine LeO.ite ?_ ?_)
      | (with_reducible refine LeO.bind ?_ (fun _ => ?_))
      | exact turnstileref1_at.mono _ _ _
      | exact LeO.none _
      | refine LeO.ite ?_ ?_
      | refine LeO.bind ?_ (fun _ => ?_)
set_option maxHeartbeats 8000000 in
set_option maxRecDepth 100000 in
theorem turnstileref1_Code.calls (k : Nat) (a0 : Int) (a1 : Int) (r1 : Int) (r2 : Bool) (w : World) (h : turnstileref1_Code.f k a0 a1 = some (r1, r2)) :
    Calls Try.prog 52 #[.int .i64 a0, .int .u8 a1] w fun e w' => e = .returned (.tuple #[.int .u8 r1, .bool r2]) ∧ Drawn0 w w' := by
  have H : (if a0 = 1 then (if a1 ≥ 32 then (some (a1, decide (a1 ≤ 126))) else (some (a1, false))) else (if a0 = 4 then ((turnstileref1_at.f k (⟨#[32, 33, 34, 35, 36, 37, 38, 39, 40, 41, 42, 43, 44, 45, 46, 47, 48, 49, 50, 51, 52, 53, 54, 55, 56, 57, 58, 59, 60, 61, 62, 63, 64, 65, 66, 67, 68, 69, 70, 71, 72, 73, 74, 75, 76, 77, 78, 79, 80, 81, 82, 83, 84, 85, 86, 87, 88, 89, 90, 91, 92, 93, 94, 95, 96, 97, 98, 99, 100, 101, 102, 103, 104, 105, 106, 107, 108, 109, 110, 111, 112, 113, 114, 115, 116, 117, 118, 119, 120, 121, 122, 123, 124, 125, 126]⟩ : ByteArray) a1).bind fun t279 => (if t279 < 0 then (some (0, false)) else (if 0 ≤ (wrap64 (2 * t279)) then (if (wrap64 (2 * t279)) < 190 then ((turnstileref1_at.f k (⟨#[48, 49, 50, 51, 52, 53, 54, 55, 56, 57, 65, 66, 67, 68, 69, 70]⟩ : ByteArray) (bt (⟨#[52, 48, 53, 65, 55, 70, 55, 66, 53, 66, 54, 67, 53, 48, 55, 68, 52, 68, 53, 68, 53, 67, 52, 69, 54, 66, 54, 48, 52, 66, 54, 49, 70, 48, 70, 49, 70, 50, 70, 51, 70, 52, 70, 53, 70, 54, 70, 55, 70, 56, 70, 57, 55, 65, 53, 69, 52, 67, 55, 69, 54, 69, 54, 70, 55, 67, 67, 49, 67, 50, 67, 51, 67, 52, 67, 53, 67, 54, 67, 55, 67, 56, 67, 57, 68, 49, 68, 50, 68, 51, 68, 52, 68, 53, 68, 54, 68, 55, 68, 56, 68, 57, 69, 50, 69, 51, 69, 52, 69, 53, 69, 54, 69, 55, 69, 56, 69, 57, 66, 65, 69, 48, 66, 66, 66, 48, 54, 68, 55, 57, 56, 49, 56, 50, 56, 51, 56, 52, 56, 53, 56, 54, 56, 55, 56, 56, 56, 57, 57, 49, 57, 50, 57, 51, 57, 52, 57, 53, 57, 54, 57, 55, 57, 56, 57, 57, 65, 50, 65, 51, 65, 52, 65, 53, 65, 54, 65, 55, 65, 56, 65, 57, 67, 48, 52, 70, 68, 48, 65, 49]⟩ : ByteArray) (wrap64 (2 * t279)))).bind fun t280 => (if 0 ≤ (wrap64 ((wrap64 (2 * t279)) + 1)) then (if (wrap64 ((wrap64 (2 * t279)) + 1)) < 190 then ((turnstileref1_at.f k (⟨#[48, 49, 50, 51, 52, 53, 54, 55, 56, 57, 65, 66, 67, 68, 69, 70]⟩ : ByteArray) (bt (⟨#[52, 48, 53, 65, 55, 70, 55, 66, 53, 66, 54, 67, 53, 48, 55, 68, 52, 68, 53, 68, 53, 67, 52, 69, 54, 66, 54, 48, 52, 66, 54, 49, 70, 48, 70, 49, 70, 50, 70, 51, 70, 52, 70, 53, 70, 54, 70, 55, 70, 56, 70, 57, 55, 65, 53, 69, 52, 67, 55, 69, 54, 69, 54, 70, 55, 67, 67, 49, 67, 50, 67, 51, 67, 52, 67, 53, 67, 54, 67, 55, 67, 56, 67, 57, 68, 49, 68, 50, 68, 51, 68, 52, 68, 53, 68, 54, 68, 55, 68, 56, 68, 57, 69, 50, 69, 51, 69, 52, 69, 53, 69, 54, 69, 55, 69, 56, 69, 57, 66, 65, 69, 48, 66, 66, 66, 48, 54, 68, 55, 57, 56, 49, 56, 50, 56, 51, 56, 52, 56, 53, 56, 54, 56, 55, 56, 56, 56, 57, 57, 49, 57, 50, 57, 51, 57, 52, 57, 53, 57, 54, 57, 55, 57, 56, 57, 57, 65, 50, 65, 51, 65, 52, 65, 53, 65, 54, 65, 55, 65, 56, 65, 57, 67, 48, 52, 70, 68, 48, 65, 49]⟩ : ByteArray) (wrap64 ((wrap64 (2 * t279)) + 1)))).bind fun t281 => (some ((wrap64 ((wrap64 (16 * t280)) + t281)) % 256, true))) else (none)) else (none))) else (none)) else (none)))) else (some (a1, (a0 == 5))))) = some (r1, r2) := h
  clear h
  by_cases c3 : a0 = 1
  · rw [if_pos c3] at H
    have c3b0 : (a0 == 1) = true := beq_iff_eq.mpr c3
    have c3b1 : (a0 != 1) = false := bne_eq_false_iff_eq.mpr c3
    clear c3
    by_cases c4 : a1 ≥ 32
    · rw [if_pos c4] at H
      have c4b0 : decide (32 ≤ a1) = true := decide_eq_true c4
      clear c4
      simp only [Option.some.injEq, Prod.mk.injEq] at H
      obtain ⟨rfl, rfl⟩ := H
      go_enter Try.func52, Try.ntmps52
      go_wp2
      repeat (go_quiet (fail); try go_wp2)
      go_ret2
      exact ⟨by first | rfl | (simp; rw [IntKind.wrap_u8, i64_w, i64_w]; done) | (simp; done) | (simp [*]; done), by repeat (first | exact Drawn0.refl _ | apply Drawn0.step)⟩
    · rw [if_neg c4] at H
      have c4b0 : decide (32 ≤ a1) = false := decide_eq_false c4
      clear c4
      simp only [Option.some.injEq, Prod.mk.injEq] at H
      obtain ⟨rfl, rfl⟩ := H
      go_enter Try.func52, Try.ntmps52
      go_wp2
      repeat (go_quiet (fail); try go_wp2)
      go_ret2
      exact ⟨by first | rfl | (simp; rw [IntKind.wrap_u8, i64_w, i64_w]; done) | (simp; done) | (simp [*]; done), by repeat (first | exact Drawn0.refl _ | apply Drawn0.step)⟩
  · rw [if_neg c3] at H
    have c3b0 : (a0 == 1) = false := beq_eq_false_iff_ne.mpr c3
    have c3b1 : (a0 != 1) = true := bne_iff_ne.mpr c3
    by_cases c5 : a0 = 4
    · rw [if_pos c5] at H
      have c5b0 : (a0 == 4) = true := beq_iff_eq.mpr c5
      have c5b1 : (a0 != 4) = false := bne_eq_false_iff_eq.mpr c5
      clear c5
      replace H := Option.bind_eq_some_iff.mp H
      obtain ⟨t279, A60, H⟩ := H
      replace H : (if t279 < 0 then (some (0, false)) else (if 0 ≤ (wrap64 (2 * t279)) then (if (wrap64 (2 * t279)) < 190 then ((turnstileref1_at.f k (⟨#[48, 49, 50, 51, 52, 53, 54, 55, 56, 57, 65, 66, 67, 68, 69, 70]⟩ : ByteArray) (bt (⟨#[52, 48, 53, 65, 55, 70, 55, 66, 53, 66, 54, 67, 53, 48, 55, 68, 52, 68, 53, 68, 53, 67, 52, 69, 54, 66, 54, 48, 52, 66, 54, 49, 70, 48, 70, 49, 70, 50, 70, 51, 70, 52, 70, 53, 70, 54, 70, 55, 70, 56, 70, 57, 55, 65, 53, 69, 52, 67, 55, 69, 54, 69, 54, 70, 55, 67, 67, 49, 67, 50, 67, 51, 67, 52, 67, 53, 67, 54, 67, 55, 67, 56, 67, 57, 68, 49, 68, 50, 68, 51, 68, 52, 68, 53, 68, 54, 68, 55, 68, 56, 68, 57, 69, 50, 69, 51, 69, 52, 69, 53, 69, 54, 69, 55, 69, 56, 69, 57, 66, 65, 69, 48, 66, 66, 66, 48, 54, 68, 55, 57, 56, 49, 56, 50, 56, 51, 56, 52, 56, 53, 56, 54, 56, 55, 56, 56, 56, 57, 57, 49, 57, 50, 57, 51, 57, 52, 57, 53, 57, 54, 57, 55, 57, 56, 57, 57, 65, 50, 65, 51, 65, 52, 65, 53, 65, 54, 65, 55, 65, 56, 65, 57, 67, 48, 52, 70, 68, 48, 65, 49]⟩ : ByteArray) (wrap64 (2 * t279)))).bind fun t280 => (if 0 ≤ (wrap64 ((wrap64 (2 * t279)) + 1)) then (if (wrap64 ((wrap64 (2 * t279)) + 1)) < 190 then ((turnstileref1_at.f k (⟨#[48, 49, 50, 51, 52, 53, 54, 55, 56, 57, 65, 66, 67, 68, 69, 70]⟩ : ByteArray) (bt (⟨#[52, 48, 53, 65, 55, 70, 55, 66, 53, 66, 54, 67, 53, 48, 55, 68, 52, 68, 53, 68, 53, 67, 52, 69, 54, 66, 54, 48, 52, 66, 54, 49, 70, 48, 70, 49, 70, 50, 70, 51, 70, 52, 70, 53, 70, 54, 70, 55, 70, 56, 70, 57, 55, 65, 53, 69, 52, 67, 55, 69, 54, 69, 54, 70, 55, 67, 67, 49, 67, 50, 67, 51, 67, 52, 67, 53, 67, 54, 67, 55, 67, 56, 67, 57, 68, 49, 68, 50, 68, 51, 68, 52, 68, 53, 68, 54, 68, 55, 68, 56, 68, 57, 69, 50, 69, 51, 69, 52, 69, 53, 69, 54, 69, 55, 69, 56, 69, 57, 66, 65, 69, 48, 66, 66, 66, 48, 54, 68, 55, 57, 56, 49, 56, 50, 56, 51, 56, 52, 56, 53, 56, 54, 56, 55, 56, 56, 56, 57, 57, 49, 57, 50, 57, 51, 57, 52, 57, 53, 57, 54, 57, 55, 57, 56, 57, 57, 65, 50, 65, 51, 65, 52, 65, 53, 65, 54, 65, 55, 65, 56, 65, 57, 67, 48, 52, 70, 68, 48, 65, 49]⟩ : ByteArray) (wrap64 ((wrap64 (2 * t279)) + 1)))).bind fun t281 => (some ((wrap64 ((wrap64 (16 * t280)) + t281)) % 256, true))) else (none)) else (none))) else (none)) else (none))) = some (r1, r2) := H
      have A6 := Aside0.mk A60
      clear A60
      by_cases c7 : t279 < 0
      · rw [if_pos c7] at H
        have c7b0 : decide (t279 < 0) = true := decide_eq_true c7
        clear c7
        simp only [Option.some.injEq, Prod.mk.injEq] at H
        obtain ⟨rfl, rfl⟩ := H
        go_enter Try.func52, Try.ntmps52
        go_wp2_with (first | (go_at_call 48; (with_reducible refine (turnstileref1_at.calls k (⟨#[32, 33, 34, 35, 36, 37, 38, 39, 40, 41, 42, 43, 44, 45, 46, 47, 48, 49, 50, 51, 52, 53, 54, 55, 56, 57, 58, 59, 60, 61, 62, 63, 64, 65, 66, 67, 68, 69, 70, 71, 72, 73, 74, 75, 76, 77, 78, 79, 80, 81, 82, 83, 84, 85, 86, 87, 88, 89, 90, 91, 92, 93, 94, 95, 96, 97, 98, 99, 100, 101, 102, 103, 104, 105, 106, 107, 108, 109, 110, 111, 112, 113, 114, 115, 116, 117, 118, 119, 120, 121, 122, 123, 124, 125, 126]⟩ : ByteArray) a1 t279 _ A6.out).mono ?_); rintro e w' ⟨rfl, ⟨nd, rfl⟩⟩; (try first | exact ⟨rfl, _, World.drewN_drewN _ _ _⟩ | exact ⟨rfl, _, Eq.trans (World.drewN_drewN _ _ _) (congrArg (World.drewN _) (Nat.add_assoc _ _ _))⟩)))
        repeat (go_quiet (first | (go_at_call 48; (with_reducible refine (turnstileref1_at.calls k (⟨#[32, 33, 34, 35, 36, 37, 38, 39, 40, 41, 42, 43, 44, 45, 46, 47, 48, 49, 50, 51, 52, 53, 54, 55, 56, 57, 58, 59, 60, 61, 62, 63, 64, 65, 66, 67, 68, 69, 70, 71, 72, 73, 74, 75, 76, 77, 78, 79, 80, 81, 82, 83, 84, 85, 86, 87, 88, 89, 90, 91, 92, 93, 94, 95, 96, 97, 98, 99, 100, 101, 102, 103, 104, 105, 106, 107, 108, 109, 110, 111, 112, 113, 114, 115, 116, 117, 118, 119, 120, 121, 122, 123, 124, 125, 126]⟩ : ByteArray) a1 t279 _ A6.out).mono ?_); rintro e w' ⟨rfl, ⟨nd, rfl⟩⟩; (try first | exact ⟨rfl, _, World.drewN_drewN _ _ _⟩ | exact ⟨rfl, _, Eq.trans (World.drewN_drewN _ _ _) (congrArg (World.drewN _) (Nat.add_assoc _ _ _))⟩))); try go_wp2_with (first | (go_at_call 48; (with_reducible refine (turnstileref1_at.calls k (⟨#[32, 33, 34, 35, 36, 37, 38, 39, 40, 41, 42, 43, 44, 45, 46, 47, 48, 49, 50, 51, 52, 53, 54, 55, 56, 57, 58, 59, 60, 61, 62, 63, 64, 65, 66, 67, 68, 69, 70, 71, 72, 73, 74, 75, 76, 77, 78, 79, 80, 81, 82, 83, 84, 85, 86, 87, 88, 89, 90, 91, 92, 93, 94, 95, 96, 97, 98, 99, 100, 101, 102, 103, 104, 105, 106, 107, 108, 109, 110, 111, 112, 113, 114, 115, 116, 117, 118, 119, 120, 121, 122, 123, 124, 125, 126]⟩ : ByteArray) a1 t279 _ A6.out).mono ?_); rintro e w' ⟨rfl, ⟨nd, rfl⟩⟩; (try first | exact ⟨rfl, _, World.drewN_drewN _ _ _⟩ | exact ⟨rfl, _, Eq.trans (World.drewN_drewN _ _ _) (congrArg (World.drewN _) (Nat.add_assoc _ _ _))⟩))))
        go_ret2
        exact ⟨by first | rfl | (simp; rw [IntKind.wrap_u8, i64_w, i64_w]; done) | (simp; done) | (simp [*]; done), by repeat (first | exact Drawn0.refl _ | apply Drawn0.step)⟩
      · rw [if_neg c7] at H
        have c7b0 : decide (t279 < 0) = false := decide_eq_false c7
        clear c7
        obtain ⟨ji8, hji8⟩ : ∃ j_ : Int, (wrap64 (2 * t279)) = j_ := ⟨_, rfl⟩
        replace H : (if 0 ≤ (ji8) then (if (ji8) < 190 then ((turnstileref1_at.f k (⟨#[48, 49, 50, 51, 52, 53, 54, 55, 56, 57, 65, 66, 67, 68, 69, 70]⟩ : ByteArray) (bt (⟨#[52, 48, 53, 65, 55, 70, 55, 66, 53, 66, 54, 67, 53, 48, 55, 68, 52, 68, 53, 68, 53, 67, 52, 69, 54, 66, 54, 48, 52, 66, 54, 49, 70, 48, 70, 49, 70, 50, 70, 51, 70, 52, 70, 53, 70, 54, 70, 55, 70, 56, 70, 57, 55, 65, 53, 69, 52, 67, 55, 69, 54, 69, 54, 70, 55, 67, 67, 49, 67, 50, 67, 51, 67, 52, 67, 53, 67, 54, 67, 55, 67, 56, 67, 57, 68, 49, 68, 50, 68, 51, 68, 52, 68, 53, 68, 54, 68, 55, 68, 56, 68, 57, 69, 50, 69, 51, 69, 52, 69, 53, 69, 54, 69, 55, 69, 56, 69, 57, 66, 65, 69, 48, 66, 66, 66, 48, 54, 68, 55, 57, 56, 49, 56, 50, 56, 51, 56, 52, 56, 53, 56, 54, 56, 55, 56, 56, 56, 57, 57, 49, 57, 50, 57, 51, 57, 52, 57, 53, 57, 54, 57, 55, 57, 56, 57, 57, 65, 50, 65, 51, 65, 52, 65, 53, 65, 54, 65, 55, 65, 56, 65, 57, 67, 48, 52, 70, 68, 48, 65, 49]⟩ : ByteArray) (ji8))).bind fun t280 => (if 0 ≤ (wrap64 ((ji8) + 1)) then (if (wrap64 ((ji8) + 1)) < 190 then ((turnstileref1_at.f k (⟨#[48, 49, 50, 51, 52, 53, 54, 55, 56, 57, 65, 66, 67, 68, 69, 70]⟩ : ByteArray) (bt (⟨#[52, 48, 53, 65, 55, 70, 55, 66, 53, 66, 54, 67, 53, 48, 55, 68, 52, 68, 53, 68, 53, 67, 52, 69, 54, 66, 54, 48, 52, 66, 54, 49, 70, 48, 70, 49, 70, 50, 70, 51, 70, 52, 70, 53, 70, 54, 70, 55, 70, 56, 70, 57, 55, 65, 53, 69, 52, 67, 55, 69, 54, 69, 54, 70, 55, 67, 67, 49, 67, 50, 67, 51, 67, 52, 67, 53, 67, 54, 67, 55, 67, 56, 67, 57, 68, 49, 68, 50, 68, 51, 68, 52, 68, 53, 68, 54, 68, 55, 68, 56, 68, 57, 69, 50, 69, 51, 69, 52, 69, 53, 69, 54, 69, 55, 69, 56, 69, 57, 66, 65, 69, 48, 66, 66, 66, 48, 54, 68, 55, 57, 56, 49, 56, 50, 56, 51, 56, 52, 56, 53, 56, 54, 56, 55, 56, 56, 56, 57, 57, 49, 57, 50, 57, 51, 57, 52, 57, 53, 57, 54, 57, 55, 57, 56, 57, 57, 65, 50, 65, 51, 65, 52, 65, 53, 65, 54, 65, 55, 65, 56, 65, 57, 67, 48, 52, 70, 68, 48, 65, 49]⟩ : ByteArray) (wrap64 ((ji8) + 1)))).bind fun t281 => (some ((wrap64 ((wrap64 (16 * t280)) + t281)) % 256, true))) else (none)) else (none))) else (none)) else (none)) = some (r1, r2) := by first | (rw [hji8] at H; exact H) | (simp only [hji8] at H ⊢; exact H)
        (try rw [hji8] at A6)
        have hji8w : (IntKind.i64.wrap (2 * t279)) = ji8 := (i64_w _).trans hji8
        by_cases c9 : 0 ≤ (ji8)
        · rw [if_pos c9] at H
          have c9b0 : decide (0 ≤ (ji8)) = true := decide_eq_true c9
          clear c9
          by_cases c10 : (ji8) < 190
          · rw [if_pos c10] at H
            have c10b0 : decide ((ji8) < 190) = true := decide_eq_true c10
            clear c10
            replace H := Option.bind_eq_some_iff.mp H
            obtain ⟨t280, A120, H⟩ := H
            replace H : (if 0 ≤ (wrap64 ((ji8) + 1)) then (if (wrap64 ((ji8) + 1)) < 190 then ((turnstileref1_at.f k (⟨#[48, 49, 50, 51, 52, 53, 54, 55, 56, 57, 65, 66, 67, 68, 69, 70]⟩ : ByteArray) (bt (⟨#[52, 48, 53, 65, 55, 70, 55, 66, 53, 66, 54, 67, 53, 48, 55, 68, 52, 68, 53, 68, 53, 67, 52, 69, 54, 66, 54, 48, 52, 66, 54, 49, 70, 48, 70, 49, 70, 50, 70, 51, 70, 52, 70, 53, 70, 54, 70, 55, 70, 56, 70, 57, 55, 65, 53, 69, 52, 67, 55, 69, 54, 69, 54, 70, 55, 67, 67, 49, 67, 50, 67, 51, 67, 52, 67, 53, 67, 54, 67, 55, 67, 56, 67, 57, 68, 49, 68, 50, 68, 51, 68, 52, 68, 53, 68, 54, 68, 55, 68, 56, 68, 57, 69, 50, 69, 51, 69, 52, 69, 53, 69, 54, 69, 55, 69, 56, 69, 57, 66, 65, 69, 48, 66, 66, 66, 48, 54, 68, 55, 57, 56, 49, 56, 50, 56, 51, 56, 52, 56, 53, 56, 54, 56, 55, 56, 56, 56, 57, 57, 49, 57, 50, 57, 51, 57, 52, 57, 53, 57, 54, 57, 55, 57, 56, 57, 57, 65, 50, 65, 51, 65, 52, 65, 53, 65, 54, 65, 55, 65, 56, 65, 57, 67, 48, 52, 70, 68, 48, 65, 49]⟩ : ByteArray) (wrap64 ((ji8) + 1)))).bind fun t281 => (some ((wrap64 ((wrap64 (16 * t280)) + t281)) % 256, true))) else (none)) else (none)) = some (r1, r2) := H
            have A12 := Aside0.mk A120
            clear A120
            obtain ⟨ji13, hji13⟩ : ∃ j_ : Int, (wrap64 ((ji8) + 1)) = j_ := ⟨_, rfl⟩
            replace H : (if 0 ≤ (ji13) then (if (ji13) < 190 then ((turnstileref1_at.f k (⟨#[48, 49, 50, 51, 52, 53, 54, 55, 56, 57, 65, 66, 67, 68, 69, 70]⟩ : ByteArray) (bt (⟨#[52, 48, 53, 65, 55, 70, 55, 66, 53, 66, 54, 67, 53, 48, 55, 68, 52, 68, 53, 68, 53, 67, 52, 69, 54, 66, 54, 48, 52, 66, 54, 49, 70, 48, 70, 49, 70, 50, 70, 51, 70, 52, 70, 53, 70, 54, 70, 55, 70, 56, 70, 57, 55, 65, 53, 69, 52, 67, 55, 69, 54, 69, 54, 70, 55, 67, 67, 49, 67, 50, 67, 51, 67, 52, 67, 53, 67, 54, 67, 55, 67, 56, 67, 57, 68, 49, 68, 50, 68, 51, 68, 52, 68, 53, 68, 54, 68, 55, 68, 56, 68, 57, 69, 50, 69, 51, 69, 52, 69, 53, 69, 54, 69, 55, 69, 56, 69, 57, 66, 65, 69, 48, 66, 66, 66, 48, 54, 68, 55, 57, 56, 49, 56, 50, 56, 51, 56, 52, 56, 53, 56, 54, 56, 55, 56, 56, 56, 57, 57, 49, 57, 50, 57, 51, 57, 52, 57, 53, 57, 54, 57, 55, 57, 56, 57, 57, 65, 50, 65, 51, 65, 52, 65, 53, 65, 54, 65, 55, 65, 56, 65, 57, 67, 48, 52, 70, 68, 48, 65, 49]⟩ : ByteArray) (ji13))).bind fun t281 => (some ((wrap64 ((wrap64 (16 * t280)) + t281)) % 256, true))) else (none)) else (none)) = some (r1, r2) := by first | (rw [hji13] at H; exact H) | (simp only [hji13] at H ⊢; exact H)
            (try rw [hji13] at A6)
            (try rw [hji13] at A12)
            have hji13w : (IntKind.i64.wrap ((ji8) + 1)) = ji13 := (i64_w _).trans hji13
            by_cases c14 : 0 ≤ (ji13)
            · rw [if_pos c14] at H
              have c14b0 : decide (0 ≤ (ji13)) = true := decide_eq_true c14
              clear c14
              by_cases c15 : (ji13) < 190
              · rw [if_pos c15] at H
                have c15b0 : decide ((ji13) < 190) = true := decide_eq_true c15
                clear c15
                replace H := Option.bind_eq_some_iff.mp H
                obtain ⟨t281, A170, H⟩ := H
                replace H : (some ((wrap64 ((wrap64 (16 * t280)) + t281)) % 256, true)) = some (r1, r2) := H
                have A17 := Aside0.mk A170
                clear A170
                simp only [Option.some.injEq, Prod.mk.injEq] at H
                obtain ⟨rfl, rfl⟩ := H
                go_enter Try.func52, Try.ntmps52
                go_wp2_with (first | (go_at_call 48; (with_reducible refine (turnstileref1_at.calls k (⟨#[32, 33, 34, 35, 36, 37, 38, 39, 40, 41, 42, 43, 44, 45, 46, 47, 48, 49, 50, 51, 52, 53, 54, 55, 56, 57, 58, 59, 60, 61, 62, 63, 64, 65, 66, 67, 68, 69, 70, 71, 72, 73, 74, 75, 76, 77, 78, 79, 80, 81, 82, 83, 84, 85, 86, 87, 88, 89, 90, 91, 92, 93, 94, 95, 96, 97, 98, 99, 100, 101, 102, 103, 104, 105, 106, 107, 108, 109, 110, 111, 112, 113, 114, 115, 116, 117, 118, 119, 120, 121, 122, 123, 124, 125, 126]⟩ : ByteArray) a1 t279 _ A6.out).mono ?_); rintro e w' ⟨rfl, ⟨nd, rfl⟩⟩; (try first | exact ⟨rfl, _, World.drewN_drewN _ _ _⟩ | exact ⟨rfl, _, Eq.trans (World.drewN_drewN _ _ _) (congrArg (World.drewN _) (Nat.add_assoc _ _ _))⟩); have p11 : 0 ≤ ((ji8) : Int) := of_decide_eq_true (by first | (with_reducible assumption) | assumption); have q11 : (ji8) < (190 : Int) := of_decide_eq_true (by first | (with_reducible assumption) | assumption); have hx11 := bt_at (⟨#[52, 48, 53, 65, 55, 70, 55, 66, 53, 66, 54, 67, 53, 48, 55, 68, 52, 68, 53, 68, 53, 67, 52, 69, 54, 66, 54, 48, 52, 66, 54, 49, 70, 48, 70, 49, 70, 50, 70, 51, 70, 52, 70, 53, 70, 54, 70, 55, 70, 56, 70, 57, 55, 65, 53, 69, 52, 67, 55, 69, 54, 69, 54, 70, 55, 67, 67, 49, 67, 50, 67, 51, 67, 52, 67, 53, 67, 54, 67, 55, 67, 56, 67, 57, 68, 49, 68, 50, 68, 51, 68, 52, 68, 53, 68, 54, 68, 55, 68, 56, 68, 57, 69, 50, 69, 51, 69, 52, 69, 53, 69, 54, 69, 55, 69, 56, 69, 57, 66, 65, 69, 48, 66, 66, 66, 48, 54, 68, 55, 57, 56, 49, 56, 50, 56, 51, 56, 52, 56, 53, 56, 54, 56, 55, 56, 56, 56, 57, 57, 49, 57, 50, 57, 51, 57, 52, 57, 53, 57, 54, 57, 55, 57, 56, 57, 57, 65, 50, 65, 51, 65, 52, 65, 53, 65, 54, 65, 55, 65, 56, 65, 57, 67, 48, 52, 70, 68, 48, 65, 49]⟩ : ByteArray) (ji8); replace p11 := eq_true p11; replace q11 := eq_true q11) | (go_at_call 48; (with_reducible refine (turnstileref1_at.calls k (⟨#[48, 49, 50, 51, 52, 53, 54, 55, 56, 57, 65, 66, 67, 68, 69, 70]⟩ : ByteArray) (bt (⟨#[52, 48, 53, 65, 55, 70, 55, 66, 53, 66, 54, 67, 53, 48, 55, 68, 52, 68, 53, 68, 53, 67, 52, 69, 54, 66, 54, 48, 52, 66, 54, 49, 70, 48, 70, 49, 70, 50, 70, 51, 70, 52, 70, 53, 70, 54, 70, 55, 70, 56, 70, 57, 55, 65, 53, 69, 52, 67, 55, 69, 54, 69, 54, 70, 55, 67, 67, 49, 67, 50, 67, 51, 67, 52, 67, 53, 67, 54, 67, 55, 67, 56, 67, 57, 68, 49, 68, 50, 68, 51, 68, 52, 68, 53, 68, 54, 68, 55, 68, 56, 68, 57, 69, 50, 69, 51, 69, 52, 69, 53, 69, 54, 69, 55, 69, 56, 69, 57, 66, 65, 69, 48, 66, 66, 66, 48, 54, 68, 55, 57, 56, 49, 56, 50, 56, 51, 56, 52, 56, 53, 56, 54, 56, 55, 56, 56, 56, 57, 57, 49, 57, 50, 57, 51, 57, 52, 57, 53, 57, 54, 57, 55, 57, 56, 57, 57, 65, 50, 65, 51, 65, 52, 65, 53, 65, 54, 65, 55, 65, 56, 65, 57, 67, 48, 52, 70, 68, 48, 65, 49]⟩ : ByteArray) (ji8)) t280 _ A12.out).mono ?_); rintro e w' ⟨rfl, ⟨nd, rfl⟩⟩; (try first | exact ⟨rfl, _, World.drewN_drewN _ _ _⟩ | exact ⟨rfl, _, Eq.trans (World.drewN_drewN _ _ _) (congrArg (World.drewN _) (Nat.add_assoc _ _ _))⟩); have p16 : 0 ≤ ((ji13) : Int) := of_decide_eq_true (by first | (with_reducible assumption) | assumption); have q16 : (ji13) < (190 : Int) := of_decide_eq_true (by first | (with_reducible assumption) | assumption); have hx16 := bt_at (⟨#[52, 48, 53, 65, 55, 70, 55, 66, 53, 66, 54, 67, 53, 48, 55, 68, 52, 68, 53, 68, 53, 67, 52, 69, 54, 66, 54, 48, 52, 66, 54, 49, 70, 48, 70, 49, 70, 50, 70, 51, 70, 52, 70, 53, 70, 54, 70, 55, 70, 56, 70, 57, 55, 65, 53, 69, 52, 67, 55, 69, 54, 69, 54, 70, 55, 67, 67, 49, 67, 50, 67, 51, 67, 52, 67, 53, 67, 54, 67, 55, 67, 56, 67, 57, 68, 49, 68, 50, 68, 51, 68, 52, 68, 53, 68, 54, 68, 55, 68, 56, 68, 57, 69, 50, 69, 51, 69, 52, 69, 53, 69, 54, 69, 55, 69, 56, 69, 57, 66, 65, 69, 48, 66, 66, 66, 48, 54, 68, 55, 57, 56, 49, 56, 50, 56, 51, 56, 52, 56, 53, 56, 54, 56, 55, 56, 56, 56, 57, 57, 49, 57, 50, 57, 51, 57, 52, 57, 53, 57, 54, 57, 55, 57, 56, 57, 57, 65, 50, 65, 51, 65, 52, 65, 53, 65, 54, 65, 55, 65, 56, 65, 57, 67, 48, 52, 70, 68, 48, 65, 49]⟩ : ByteArray) (ji13); replace p16 := eq_true p16; replace q16 := eq_true q16) | (go_at_call 48; (with_reducible refine (turnstileref1_at.calls k (⟨#[48, 49, 50, 51, 52, 53, 54, 55, 56, 57, 65, 66, 67, 68, 69, 70]⟩ : ByteArray) (bt (⟨#[52, 48, 53, 65, 55, 70, 55, 66, 53, 66, 54, 67, 53, 48, 55, 68, 52, 68, 53, 68, 53, 67, 52, 69, 54, 66, 54, 48, 52, 66, 54, 49, 70, 48, 70, 49, 70, 50, 70, 51, 70, 52, 70, 53, 70, 54, 70, 55, 70, 56, 70, 57, 55, 65, 53, 69, 52, 67, 55, 69, 54, 69, 54, 70, 55, 67, 67, 49, 67, 50, 67, 51, 67, 52, 67, 53, 67, 54, 67, 55, 67, 56, 67, 57, 68, 49, 68, 50, 68, 51, 68, 52, 68, 53, 68, 54, 68, 55, 68, 56, 68, 57, 69, 50, 69, 51, 69, 52, 69, 53, 69, 54, 69, 55, 69, 56, 69, 57, 66, 65, 69, 48, 66, 66, 66, 48, 54, 68, 55, 57, 56, 49, 56, 50, 56, 51, 56, 52, 56, 53, 56, 54, 56, 55, 56, 56, 56, 57, 57, 49, 57, 50, 57, 51, 57, 52, 57, 53, 57, 54, 57, 55, 57, 56, 57, 57, 65, 50, 65, 51, 65, 52, 65, 53, 65, 54, 65, 55, 65, 56, 65, 57, 67, 48, 52, 70, 68, 48, 65, 49]⟩ : ByteArray) (ji13)) t281 _ A17.out).mono ?_); rintro e w' ⟨rfl, ⟨nd, rfl⟩⟩; (try first | exact ⟨rfl, _, World.drewN_drewN _ _ _⟩ | exact ⟨rfl, _, Eq.trans (World.drewN_drewN _ _ _) (congrArg (World.drewN _) (Nat.add_assoc _ _ _))⟩)))
                repeat (go_quiet (first | (go_at_call 48; (with_reducible refine (turnstileref1_at.calls k (⟨#[32, 33, 34, 35, 36, 37, 38, 39, 40, 41, 42, 43, 44, 45, 46, 47, 48, 49, 50, 51, 52, 53, 54, 55, 56, 57, 58, 59, 60, 61, 62, 63, 64, 65, 66, 67, 68, 69, 70, 71, 72, 73, 74, 75, 76, 77, 78, 79, 80, 81, 82, 83, 84, 85, 86, 87, 88, 89, 90, 91, 92, 93, 94, 95, 96, 97, 98, 99, 100, 101, 102, 103, 104, 105, 106, 107, 108, 109, 110, 111, 112, 113, 114, 115, 116, 117, 118, 119, 120, 121, 122, 123, 124, 125, 126]⟩ : ByteArray) a1 t279 _ A6.out).mono ?_); rintro e w' ⟨rfl, ⟨nd, rfl⟩⟩; (try first | exact ⟨rfl, _, World.drewN_drewN _ _ _⟩ | exact ⟨rfl, _, Eq.trans (World.drewN_drewN _ _ _) (congrArg (World.drewN _) (Nat.add_assoc _ _ _))⟩); have p11 : 0 ≤ ((ji8) : Int) := of_decide_eq_true (by first | (with_reducible assumption) | assumption); have q11 : (ji8) < (190 : Int) := of_decide_eq_true (by first | (with_reducible assumption) | assumption); have hx11 := bt_at (⟨#[52, 48, 53, 65, 55, 70, 55, 66, 53, 66, 54, 67, 53, 48, 55, 68, 52, 68, 53, 68, 53, 67, 52, 69, 54, 66, 54, 48, 52, 66, 54, 49, 70, 48, 70, 49, 70, 50, 70, 51, 70, 52, 70, 53, 70, 54, 70, 55, 70, 56, 70, 57, 55, 65, 53, 69, 52, 67, 55, 69, 54, 69, 54, 70, 55, 67, 67, 49, 67, 50, 67, 51, 67, 52, 67, 53, 67, 54, 67, 55, 67, 56, 67, 57, 68, 49, 68, 50, 68, 51, 68, 52, 68, 53, 68, 54, 68, 55, 68, 56, 68, 57, 69, 50, 69, 51, 69, 52, 69, 53, 69, 54, 69, 55, 69, 56, 69, 57, 66, 65, 69, 48, 66, 66, 66, 48, 54, 68, 55, 57, 56, 49, 56, 50, 56, 51, 56, 52, 56, 53, 56, 54, 56, 55, 56, 56, 56, 57, 57, 49, 57, 50, 57, 51, 57, 52, 57, 53, 57, 54, 57, 55, 57, 56, 57, 57, 65, 50, 65, 51, 65, 52, 65, 53, 65, 54, 65, 55, 65, 56, 65, 57, 67, 48, 52, 70, 68, 48, 65, 49]⟩ : ByteArray) (ji8); replace p11 := eq_true p11; replace q11 := eq_true q11) | (go_at_call 48; (with_reducible refine (turnstileref1_at.calls k (⟨#[48, 49, 50, 51, 52, 53, 54, 55, 56, 57, 65, 66, 67, 68, 69, 70]⟩ : ByteArray) (bt (⟨#[52, 48, 53, 65, 55, 70, 55, 66, 53, 66, 54, 67, 53, 48, 55, 68, 52, 68, 53, 68, 53, 67, 52, 69, 54, 66, 54, 48, 52, 66, 54, 49, 70, 48, 70, 49, 70, 50, 70, 51, 70, 52, 70, 53, 70, 54, 70, 55, 70, 56, 70, 57, 55, 65, 53, 69, 52, 67, 55, 69, 54, 69, 54, 70, 55, 67, 67, 49, 67, 50, 67, 51, 67, 52, 67, 53, 67, 54, 67, 55, 67, 56, 67, 57, 68, 49, 68, 50, 68, 51, 68, 52, 68, 53, 68, 54, 68, 55, 68, 56, 68, 57, 69, 50, 69, 51, 69, 52, 69, 53, 69, 54, 69, 55, 69, 56, 69, 57, 66, 65, 69, 48, 66, 66, 66, 48, 54, 68, 55, 57, 56, 49, 56, 50, 56, 51, 56, 52, 56, 53, 56, 54, 56, 55, 56, 56, 56, 57, 57, 49, 57, 50, 57, 51, 57, 52, 57, 53, 57, 54, 57, 55, 57, 56, 57, 57, 65, 50, 65, 51, 65, 52, 65, 53, 65, 54, 65, 55, 65, 56, 65, 57, 67, 48, 52, 70, 68, 48, 65, 49]⟩ : ByteArray) (ji8)) t280 _ A12.out).mono ?_); rintro e w' ⟨rfl, ⟨nd, rfl⟩⟩; (try first | exact ⟨rfl, _, World.drewN_drewN _ _ _⟩ | exact ⟨rfl, _, Eq.trans (World.drewN_drewN _ _ _) (congrArg (World.drewN _) (Nat.add_assoc _ _ _))⟩); have p16 : 0 ≤ ((ji13) : Int) := of_decide_eq_true (by first | (with_reducible assumption) | assumption); have q16 : (ji13) < (190 : Int) := of_decide_eq_true (by first | (with_reducible assumption) | assumption); have hx16 := bt_at (⟨#[52, 48, 53, 65, 55, 70, 55, 66, 53, 66, 54, 67, 53, 48, 55, 68, 52, 68, 53, 68, 53, 67, 52, 69, 54, 66, 54, 48, 52, 66, 54, 49, 70, 48, 70, 49, 70, 50, 70, 51, 70, 52, 70, 53, 70, 54, 70, 55, 70, 56, 70, 57, 55, 65, 53, 69, 52, 67, 55, 69, 54, 69, 54, 70, 55, 67, 67, 49, 67, 50, 67, 51, 67, 52, 67, 53, 67, 54, 67, 55, 67, 56, 67, 57, 68, 49, 68, 50, 68, 51, 68, 52, 68, 53, 68, 54, 68, 55, 68, 56, 68, 57, 69, 50, 69, 51, 69, 52, 69, 53, 69, 54, 69, 55, 69, 56, 69, 57, 66, 65, 69, 48, 66, 66, 66, 48, 54, 68, 55, 57, 56, 49, 56, 50, 56, 51, 56, 52, 56, 53, 56, 54, 56, 55, 56, 56, 56, 57, 57, 49, 57, 50, 57, 51, 57, 52, 57, 53, 57, 54, 57, 55, 57, 56, 57, 57, 65, 50, 65, 51, 65, 52, 65, 53, 65, 54, 65, 55, 65, 56, 65, 57, 67, 48, 52, 70, 68, 48, 65, 49]⟩ : ByteArray) (ji13); replace p16 := eq_true p16; replace q16 := eq_true q16) | (go_at_call 48; (with_reducible refine (turnstileref1_at.calls k (⟨#[48, 49, 50, 51, 52, 53, 54, 55, 56, 57, 65, 66, 67, 68, 69, 70]⟩ : ByteArray) (bt (⟨#[52, 48, 53, 65, 55, 70, 55, 66, 53, 66, 54, 67, 53, 48, 55, 68, 52, 68, 53, 68, 53, 67, 52, 69, 54, 66, 54, 48, 52, 66, 54, 49, 70, 48, 70, 49, 70, 50, 70, 51, 70, 52, 70, 53, 70, 54, 70, 55, 70, 56, 70, 57, 55, 65, 53, 69, 52, 67, 55, 69, 54, 69, 54, 70, 55, 67, 67, 49, 67, 50, 67, 51, 67, 52, 67, 53, 67, 54, 67, 55, 67, 56, 67, 57, 68, 49, 68, 50, 68, 51, 68, 52, 68, 53, 68, 54, 68, 55, 68, 56, 68, 57, 69, 50, 69, 51, 69, 52, 69, 53, 69, 54, 69, 55, 69, 56, 69, 57, 66, 65, 69, 48, 66, 66, 66, 48, 54, 68, 55, 57, 56, 49, 56, 50, 56, 51, 56, 52, 56, 53, 56, 54, 56, 55, 56, 56, 56, 57, 57, 49, 57, 50, 57, 51, 57, 52, 57, 53, 57, 54, 57, 55, 57, 56, 57, 57, 65, 50, 65, 51, 65, 52, 65, 53, 65, 54, 65, 55, 65, 56, 65, 57, 67, 48, 52, 70, 68, 48, 65, 49]⟩ : ByteArray) (ji13)) t281 _ A17.out).mono ?_); rintro e w' ⟨rfl, ⟨nd, rfl⟩⟩; (try first | exact ⟨rfl, _, World.drewN_drewN _ _ _⟩ | exact ⟨rfl, _, Eq.trans (World.drewN_drewN _ _ _) (congrArg (World.drewN _) (Nat.add_assoc _ _ _))⟩))); try go_wp2_with (first | (go_at_call 48; (with_reducible refine (turnstileref1_at.calls k (⟨#[32, 33, 34, 35, 36, 37, 38, 39, 40, 41, 42, 43, 44, 45, 46, 47, 48, 49, 50, 51, 52, 53, 54, 55, 56, 57, 58, 59, 60, 61, 62, 63, 64, 65, 66, 67, 68, 69, 70, 71, 72, 73, 74, 75, 76, 77, 78, 79, 80, 81, 82, 83, 84, 85, 86, 87, 88, 89, 90, 91, 92, 93, 94, 95, 96, 97, 98, 99, 100, 101, 102, 103, 104, 105, 106, 107, 108, 109, 110, 111, 112, 113, 114, 115, 116, 117, 118, 119, 120, 121, 122, 123, 124, 125, 126]⟩ : ByteArray) a1 t279 _ A6.out).mono ?_); rintro e w' ⟨rfl, ⟨nd, rfl⟩⟩; (try first | exact ⟨rfl, _, World.drewN_drewN _ _ _⟩ | exact ⟨rfl, _, Eq.trans (World.drewN_drewN _ _ _) (congrArg (World.drewN _) (Nat.add_assoc _ _ _))⟩); have p11 : 0 ≤ ((ji8) : Int) := of_decide_eq_true (by first | (with_reducible assumption) | assumption); have q11 : (ji8) < (190 : Int) := of_decide_eq_true (by first | (with_reducible assumption) | assumption); have hx11 := bt_at (⟨#[52, 48, 53, 65, 55, 70, 55, 66, 53, 66, 54, 67, 53, 48, 55, 68, 52, 68, 53, 68, 53, 67, 52, 69, 54, 66, 54, 48, 52, 66, 54, 49, 70, 48, 70, 49, 70, 50, 70, 51, 70, 52, 70, 53, 70, 54, 70, 55, 70, 56, 70, 57, 55, 65, 53, 69, 52, 67, 55, 69, 54, 69, 54, 70, 55, 67, 67, 49, 67, 50, 67, 51, 67, 52, 67, 53, 67, 54, 67, 55, 67, 56, 67, 57, 68, 49, 68, 50, 68, 51, 68, 52, 68, 53, 68, 54, 68, 55, 68, 56, 68, 57, 69, 50, 69, 51, 69, 52, 69, 53, 69, 54, 69, 55, 69, 56, 69, 57, 66, 65, 69, 48, 66, 66, 66, 48, 54, 68, 55, 57, 56, 49, 56, 50, 56, 51, 56, 52, 56, 53, 56, 54, 56, 55, 56, 56, 56, 57, 57, 49, 57, 50, 57, 51, 57, 52, 57, 53, 57, 54, 57, 55, 57, 56, 57, 57, 65, 50, 65, 51, 65, 52, 65, 53, 65, 54, 65, 55, 65, 56, 65, 57, 67, 48, 52, 70, 68, 48, 65, 49]⟩ : ByteArray) (ji8); replace p11 := eq_true p11; replace q11 := eq_true q11) | (go_at_call 48; (with_reducible refine (turnstileref1_at.calls k (⟨#[48, 49, 50, 51, 52, 53, 54, 55, 56, 57, 65, 66, 67, 68, 69, 70]⟩ : ByteArray) (bt (⟨#[52, 48, 53, 65, 55, 70, 55, 66, 53, 66, 54, 67, 53, 48, 55, 68, 52, 68, 53, 68, 53, 67, 52, 69, 54, 66, 54, 48, 52, 66, 54, 49, 70, 48, 70, 49, 70, 50, 70, 51, 70, 52, 70, 53, 70, 54, 70, 55, 70, 56, 70, 57, 55, 65, 53, 69, 52, 67, 55, 69, 54, 69, 54, 70, 55, 67, 67, 49, 67, 50, 67, 51, 67, 52, 67, 53, 67, 54, 67, 55, 67, 56, 67, 57, 68, 49, 68, 50, 68, 51, 68, 52, 68, 53, 68, 54, 68, 55, 68, 56, 68, 57, 69, 50, 69, 51, 69, 52, 69, 53, 69, 54, 69, 55, 69, 56, 69, 57, 66, 65, 69, 48, 66, 66, 66, 48, 54, 68, 55, 57, 56, 49, 56, 50, 56, 51, 56, 52, 56, 53, 56, 54, 56, 55, 56, 56, 56, 57, 57, 49, 57, 50, 57, 51, 57, 52, 57, 53, 57, 54, 57, 55, 57, 56, 57, 57, 65, 50, 65, 51, 65, 52, 65, 53, 65, 54, 65, 55, 65, 56, 65, 57, 67, 48, 52, 70, 68, 48, 65, 49]⟩ : ByteArray) (ji8)) t280 _ A12.out).mono ?_); rintro e w' ⟨rfl, ⟨nd, rfl⟩⟩; (try first | exact ⟨rfl, _, World.drewN_drewN _ _ _⟩ | exact ⟨rfl, _, Eq.trans (World.drewN_drewN _ _ _) (congrArg (World.drewN _) (Nat.add_assoc _ _ _))⟩); have p16 : 0 ≤ ((ji13) : Int) := of_decide_eq_true (by first | (with_reducible assumption) | assumption); have q16 : (ji13) < (190 : Int) := of_decide_eq_true (by first | (with_reducible assumption) | assumption); have hx16 := bt_at (⟨#[52, 48, 53, 65, 55, 70, 55, 66, 53, 66, 54, 67, 53, 48, 55, 68, 52, 68, 53, 68, 53, 67, 52, 69, 54, 66, 54, 48, 52, 66, 54, 49, 70, 48, 70, 49, 70, 50, 70, 51, 70, 52, 70, 53, 70, 54, 70, 55, 70, 56, 70, 57, 55, 65, 53, 69, 52, 67, 55, 69, 54, 69, 54, 70, 55, 67, 67, 49, 67, 50, 67, 51, 67, 52, 67, 53, 67, 54, 67, 55, 67, 56, 67, 57, 68, 49, 68, 50, 68, 51, 68, 52, 68, 53, 68, 54, 68, 55, 68, 56, 68, 57, 69, 50, 69, 51, 69, 52, 69, 53, 69, 54, 69, 55, 69, 56, 69, 57, 66, 65, 69, 48, 66, 66, 66, 48, 54, 68, 55, 57, 56, 49, 56, 50, 56, 51, 56, 52, 56, 53, 56, 54, 56, 55, 56, 56, 56, 57, 57, 49, 57, 50, 57, 51, 57, 52, 57, 53, 57, 54, 57, 55, 57, 56, 57, 57, 65, 50, 65, 51, 65, 52, 65, 53, 65, 54, 65, 55, 65, 56, 65, 57, 67, 48, 52, 70, 68, 48, 65, 49]⟩ : ByteArray) (ji13); replace p16 := eq_true p16; replace q16 := eq_true q16) | (go_at_call 48; (with_reducible refine (turnstileref1_at.calls k (⟨#[48, 49, 50, 51, 52, 53, 54, 55, 56, 57, 65, 66, 67, 68, 69, 70]⟩ : ByteArray) (bt (⟨#[52, 48, 53, 65, 55, 70, 55, 66, 53, 66, 54, 67, 53, 48, 55, 68, 52, 68, 53, 68, 53, 67, 52, 69, 54, 66, 54, 48, 52, 66, 54, 49, 70, 48, 70, 49, 70, 50, 70, 51, 70, 52, 70, 53, 70, 54, 70, 55, 70, 56, 70, 57, 55, 65, 53, 69, 52, 67, 55, 69, 54, 69, 54, 70, 55, 67, 67, 49, 67, 50, 67, 51, 67, 52, 67, 53, 67, 54, 67, 55, 67, 56, 67, 57, 68, 49, 68, 50, 68, 51, 68, 52, 68, 53, 68, 54, 68, 55, 68, 56, 68, 57, 69, 50, 69, 51, 69, 52, 69, 53, 69, 54, 69, 55, 69, 56, 69, 57, 66, 65, 69, 48, 66, 66, 66, 48, 54, 68, 55, 57, 56, 49, 56, 50, 56, 51, 56, 52, 56, 53, 56, 54, 56, 55, 56, 56, 56, 57, 57, 49, 57, 50, 57, 51, 57, 52, 57, 53, 57, 54, 57, 55, 57, 56, 57, 57, 65, 50, 65, 51, 65, 52, 65, 53, 65, 54, 65, 55, 65, 56, 65, 57, 67, 48, 52, 70, 68, 48, 65, 49]⟩ : ByteArray) (ji13)) t281 _ A17.out).mono ?_); rintro e w' ⟨rfl, ⟨nd, rfl⟩⟩; (try first | exact ⟨rfl, _, World.drewN_drewN _ _ _⟩ | exact ⟨rfl, _, Eq.trans (World.drewN_drewN _ _ _) (congrArg (World.drewN _) (Nat.add_assoc _ _ _))⟩))))
                go_ret2
                exact ⟨by first | rfl | (simp; rw [IntKind.wrap_u8, i64_w, i64_w]; done) | (simp; done) | (simp only [← hji8, ← hji13] <;> (first | rfl | simp)) | (simp [*]; done), by repeat (first | exact Drawn0.refl _ | apply Drawn0.step)⟩
              · rw [if_neg c15] at H
                exact absurd H (by simp)
            · rw [if_neg c14] at H
              exact absurd H (by simp)
          · rw [if_neg c10] at H
            exact absurd H (by simp)
        · rw [if_neg c9] at H
          exact absurd H (by simp)
    · rw [if_neg c5] at H
      have c5b0 : (a0 == 4) = false := beq_eq_false_iff_ne.mpr c5
      have c5b1 : (a0 != 4) = true := bne_iff_ne.mpr c5
      simp only [Option.some.injEq, Prod.mk.injEq] at H
      obtain ⟨rfl, rfl⟩ := H
      go_enter Try.func52, Try.ntmps52
      go_wp2
      repeat (go_quiet (fail); try go_wp2)
      go_ret2
      exact ⟨by first | rfl | (simp; rw [IntKind.wrap_u8, i64_w, i64_w]; done) | (simp; done) | (simp [*]; done), by repeat (first | exact Drawn0.refl _ | apply Drawn0.step)⟩

end Go.Proofs.Ytlpamhffpgoebaa.All

-- WRITTEN BY this session's own drv.py over the kit's print. Not trusted: Lean checks it.
namespace Go.Proofs.Ytlpamhffpgoebaa.All
open Go.RowKit Go.Proofs.YtlpamhffpgoebaaW.PrintWords Go.Proofs.YtlpamhffpgoebaaW.PrintLast Go.Proofs.YtlpamhffpgoebaaW.PrintMore
attribute [local go_sem] max2_int min2_int max_two min_two max_three min_three max_four min_four   -- for this text's walks alone
set_option linter.unusedVariables false
set_option linter.unusedSimpArgs false

/-! ### turnstileref1_Char: function 63 -/
def turnstileref1_Char.l0 : Nat → Int → Int → Int → Option (Int × Bool)
  | 0, _, _, _ => none
  | k + 1, x0, x1, x6 => if x6 < 256 then ((turnstileref1_Code.f k x0 ((x6) % 256)).bind fun bt326 => (if bt326.2 = true then (if bt326.1 = x1 then (some ((x6) % 256, true)) else (turnstileref1_Char.l0 k x0 x1 (wrap64 (x6 + 1)))) else (turnstileref1_Char.l0 k x0 x1 (wrap64 (x6 + 1))))) else (some (0, false))
def turnstileref1_Char.f (k : Nat) (a0 : Int) (a1 : Int) : Option (Int × Bool) := turnstileref1_Char.l0 k a0 a1 0
theorem turnstileref1_Char.mono_l : ∀ k, (∀ y0 y1 y2, LeO (turnstileref1_Char.l0 k y0 y1 y2) (turnstileref1_Char.l0 (k + 1) y0 y1 y2))
  | 0 => fun _ _ _ r h => by simp [turnstileref1_Char.l0] at h
  | k + 1 => by
    have ih0 := turnstileref1_Char.mono_l k
    · intro y0 y1 y2
      unfold turnstileref1_Char.l0
      repeat' first
      | (with_reducible exact ih0 _ _ _)
      | (with_reducible exact turnstileref1_Code.mono _ _ _)
      | (with_reducible exact LeO.refl _)
      | (with_reducible exact LeO.none _)
      | (with_reducible refine LeO.ite ?_ ?_)
      | (with_reducible refine LeO.bind ?_ (fun _ => ?_))
      | exact ih0 _ _ _
      | exact turnstileref1_Code.mono _ _ _
      | exact LeO.none _
      | refine LeO.ite ?_ ?_
      | refine LeO.bind ?_ (fun _ => ?_)
theorem turnstileref1_Char.mono : ∀ a0 a1 k, LeO (turnstileref1_Char.f k a0 a1) (turnstileref1_Char.f (k + 1) a0 a1) := by
  intro a0 a1 k
  have ih0 := turnstileref1_Char.mono_l k
  unfold turnstileref1_Char.f
  repeat' first
      | (with_reducible exact ih0 _ _ _)
      | (with_reducible exact turnstileref1_Code.mono _ _ _)
      | (with_reducible exact LeO.refl _)
      | (with_reducible exact LeO.none _)
      | (with_reducible refine LeO.ite ?_ ?_)
      | (with_reducible refine LeO.bind ?_ (fun _ => ?_))
      | exact ih0 _ _ _
      | exact turnstileref1_Code.mono _ _ _
      | exact LeO.none _
      | refine LeO.ite ?_ ?_
      | refine LeO.bind ?_ (fun _ => ?_)
set_option maxHeartbeats 8000000 in
set_option maxRecDepth 100000 in
theorem turnstileref1_Char.calls (k : Nat) (a0 : Int) (a1 : Int) (r1 : Int) (r2 : Bool) (w : World) (h : turnstileref1_Char.f k a0 a1 = some (r1, r2)) :
    Calls Try.prog 63 #[.int .i64 a0, .int .u8 a1] w fun e w' => e = .returned (.tuple #[.int .u8 r1, .bool r2]) ∧ Drawn0 w w' := by
  have H : (turnstileref1_Char.l0 k a0 a1 0) = some (r1, r2) := h
  clear h
  have H' := Aside0.mk H
  clear H
  go_enter Try.func63, Try.ntmps63
  go_wp2
  go_loopg [6] k (fun kq v6 w' => ∃ (x6_1 : Int), v6 = .int .i64 x6_1 ∧ Aside0 (turnstileref1_Char.l0 kq a0 a1 x6_1 = some (r1, r2)) ∧ Aside0 (kq ≤ k) ∧ Drawn0 w w')
  case atStart => exact ⟨(0), (by first | rfl | (simp; done) | (simp [*]; done)), H', ⟨Nat.le_refl _⟩, by repeat (first | exact Drawn0.refl _ | apply Drawn0.step)⟩
  case round =>
    clear H'
    try clear p2
    obtain ⟨x6_1, rfl, HA, HK1, ⟨m1, rfl⟩⟩ := hrel
    cases gk with
    | zero => exact absurd HA.out (by simp [turnstileref1_Char.l0])
    | succ k1 =>
      have H := HA.out
      clear HA
      simp only [turnstileref1_Char.l0] at H
      by_cases c3 : x6_1 < 256
      · rw [if_pos c3] at H
        have c3b0 : decide (x6_1 < 256) = true := decide_eq_true c3
        clear c3
        replace H := Option.bind_eq_some_iff.mp H
        obtain ⟨⟨t326, t327⟩, A40, H⟩ := H
        replace H : (if t327 = true then (if t326 = a1 then (some ((x6_1) % 256, true)) else (turnstileref1_Char.l0 k1 a0 a1 (wrap64 (x6_1 + 1)))) else (turnstileref1_Char.l0 k1 a0 a1 (wrap64 (x6_1 + 1)))) = some (r1, r2) := H
        have A4 := Aside0.mk A40
        clear A40
        by_cases c5 : t327 = true
        · subst c5
          have H1 : (if t326 = a1 then (some ((x6_1) % 256, true)) else (turnstileref1_Char.l0 k1 a0 a1 (wrap64 (x6_1 + 1)))) = some (r1, r2) := by rw [if_pos rfl] at H; exact H
          clear H
          have H := H1
          clear H1
          by_cases c6 : t326 = a1
          · rw [if_pos c6] at H
            have c6b0 : (t326 == a1) = true := beq_iff_eq.mpr c6
            have c6b1 : (t326 != a1) = false := bne_eq_false_iff_eq.mpr c6
            clear c6
            simp only [Option.some.injEq, Prod.mk.injEq] at H
            obtain ⟨rfl, rfl⟩ := H
            go_wp2_with (first | ((with_reducible refine gate_callee (f := 52) rfl ?_); refine goesL_ (some 17) rfl rfl Try.func52 (by kernel_rfl) rfl #[.int .i64 a0, .int .u8 ((x6_1) % 256)] rfl (by (try simp only [List.map_toArray, List.map_cons, List.map_nil]); first | done | rfl | (simp only [List.length_drop, List.length_take]; rfl)) ?_; (with_reducible refine (turnstileref1_Code.calls k1 a0 ((x6_1) % 256) t326 true _ A4.out).mono ?_); rintro e w' ⟨rfl, ⟨nd, rfl⟩⟩; refine ⟨_, rfl, ?_⟩))
            go_ret2
            exact ⟨by first | rfl | (simp; done) | (simp [*]; done), by repeat (first | exact Drawn0.refl _ | apply Drawn0.step)⟩
          · rw [if_neg c6] at H
            have c6b0 : (t326 == a1) = false := beq_eq_false_iff_ne.mpr c6
            have c6b1 : (t326 != a1) = true := bne_iff_ne.mpr c6
            have H' := Aside0.mk H
            clear H
            go_wp2_with (first | ((with_reducible refine gate_callee (f := 52) rfl ?_); refine goesL_ (some 17) rfl rfl Try.func52 (by kernel_rfl) rfl #[.int .i64 a0, .int .u8 ((x6_1) % 256)] rfl (by (try simp only [List.map_toArray, List.map_cons, List.map_nil]); first | done | rfl | (simp only [List.length_drop, List.length_take]; rfl)) ?_; (with_reducible refine (turnstileref1_Code.calls k1 a0 ((x6_1) % 256) t326 true _ A4.out).mono ?_); rintro e w' ⟨rfl, ⟨nd, rfl⟩⟩; refine ⟨_, rfl, ?_⟩))
            go_roundg k1
            case measure => have := HK1.out; omega
            case rel => exact ⟨(wrap64 (x6_1 + 1)), (by first | rfl | (simp; done) | (simp [*]; done)), H', ⟨by have := HK1.out; omega⟩, by repeat (first | exact Drawn0.refl _ | apply Drawn0.step)⟩
        · replace c5 := Bool.eq_false_iff.mpr c5
          subst c5
          have H1 : (turnstileref1_Char.l0 k1 a0 a1 (wrap64 (x6_1 + 1))) = some (r1, r2) := by rw [if_neg (show ¬ (false = true) by decide)] at H; exact H
          clear H
          have H := H1
          clear H1
          have H' := Aside0.mk H
          clear H
          go_wp2_with (first | ((with_reducible refine gate_callee (f := 52) rfl ?_); refine goesL_ (some 17) rfl rfl Try.func52 (by kernel_rfl) rfl #[.int .i64 a0, .int .u8 ((x6_1) % 256)] rfl (by (try simp only [List.map_toArray, List.map_cons, List.map_nil]); first | done | rfl | (simp only [List.length_drop, List.length_take]; rfl)) ?_; (with_reducible refine (turnstileref1_Code.calls k1 a0 ((x6_1) % 256) t326 false _ A4.out).mono ?_); rintro e w' ⟨rfl, ⟨nd, rfl⟩⟩; refine ⟨_, rfl, ?_⟩))
          go_roundg k1
          case measure => have := HK1.out; omega
          case rel => exact ⟨(wrap64 (x6_1 + 1)), (by first | rfl | (simp; done) | (simp [*]; done)), H', ⟨by have := HK1.out; omega⟩, by repeat (first | exact Drawn0.refl _ | apply Drawn0.step)⟩
      · rw [if_neg c3] at H
        have c3b0 : decide (x6_1 < 256) = false := decide_eq_false c3
        clear c3
        simp only [Option.some.injEq, Prod.mk.injEq] at H
        obtain ⟨rfl, rfl⟩ := H
        go_wp2
        go_ret2
        exact ⟨by first | rfl | (simp; done) | (simp [*]; done), by repeat (first | exact Drawn0.refl _ | apply Drawn0.step)⟩

end Go.Proofs.Ytlpamhffpgoebaa.All

-- WRITTEN BY this session's own drv.py over the kit's print. Not trusted: Lean checks it.
namespace Go.Proofs.Ytlpamhffpgoebaa.All
open Go.RowKit Go.Proofs.YtlpamhffpgoebaaW.PrintWords Go.Proofs.YtlpamhffpgoebaaW.PrintLast Go.Proofs.YtlpamhffpgoebaaW.PrintMore
attribute [local go_sem] max2_int min2_int max_two min_two max_three min_three max_four min_four   -- for this text's walks alone
set_option linter.unusedVariables false
set_option linter.unusedSimpArgs false

/-! ### turnstileref1_char: function 64 -/
def turnstileref1_char.f (a0 : Int) : Option (Int) := if a0 = 13 then (some 61) else (if a0 > 9 then (some 0) else (some ((wrap64 (48 + a0)) % 256)))
set_option maxHeartbeats 8000000 in
set_option maxRecDepth 100000 in
theorem turnstileref1_char.calls (a0 : Int) (r : Int) (w : World) (h : turnstileref1_char.f a0 = some r) :
    Calls Try.prog 64 #[.int .i64 a0] w fun e w' => e = .returned (.int .u8 r) ∧ Drawn0 w w' := by
  have H : (if a0 = 13 then (some 61) else (if a0 > 9 then (some 0) else (some ((wrap64 (48 + a0)) % 256)))) = some r := h
  clear h
  by_cases c2 : a0 = 13
  · rw [if_pos c2] at H
    have c2b0 : (a0 == 13) = true := beq_iff_eq.mpr c2
    have c2b1 : (a0 != 13) = false := bne_eq_false_iff_eq.mpr c2
    clear c2
    obtain rfl := Option.some.inj H
    go_enter Try.func64, Try.ntmps64
    go_wp2
    go_ret
    exact ⟨by first | rfl | (simp; done) | (simp [*]; done), by repeat (first | exact Drawn0.refl _ | apply Drawn0.step)⟩
  · rw [if_neg c2] at H
    have c2b0 : (a0 == 13) = false := beq_eq_false_iff_ne.mpr c2
    have c2b1 : (a0 != 13) = true := bne_iff_ne.mpr c2
    by_cases c3 : a0 > 9
    · rw [if_pos c3] at H
      have c3b0 : decide (9 < a0) = true := decide_eq_true c3
      clear c3
      obtain rfl := Option.some.inj H
      go_enter Try.func64, Try.ntmps64
      go_wp2
      go_ret
      exact ⟨by first | rfl | (simp; done) | (simp [*]; done), by repeat (first | exact Drawn0.refl _ | apply Drawn0.step)⟩
    · rw [if_neg c3] at H
      have c3b0 : decide (9 < a0) = false := decide_eq_false c3
      clear c3
      obtain rfl := Option.some.inj H
      go_enter Try.func64, Try.ntmps64
      go_wp2
      go_ret
      exact ⟨by first | rfl | (simp; done) | (simp [*]; done), by repeat (first | exact Drawn0.refl _ | apply Drawn0.step)⟩

end Go.Proofs.Ytlpamhffpgoebaa.All

-- WRITTEN BY this session's own drv.py over the kit's print. Not trusted: Lean checks it.
namespace Go.Proofs.Ytlpamhffpgoebaa.All
open Go.RowKit Go.Proofs.YtlpamhffpgoebaaW.PrintWords Go.Proofs.YtlpamhffpgoebaaW.PrintLast Go.Proofs.YtlpamhffpgoebaaW.PrintMore
attribute [local go_sem] max2_int min2_int max_two min_two max_three min_three max_four min_four   -- for this text's walks alone
set_option linter.unusedVariables false
set_option linter.unusedSimpArgs false

/-! ### turnstileref1_Byte: function 55 -/
mutual
def turnstileref1_Byte.j0 : Nat → Int → Int → Int → List Int → Int → Bool → Option (ByteArray × Int)
  | 0, _, _, _, _, _, _ => none
  | k + 1, x0, x2, x3, x13, x14, x50 => if x50 = true then (turnstileref1_Byte.j1 k x0 x2 x3 x13 0) else (turnstileref1_Byte.j1 k x0 x2 x3 x13 x14)
def turnstileref1_Byte.j1 : Nat → Int → Int → Int → List Int → Int → Option (ByteArray × Int)
  | 0, _, _, _, _, _ => none
  | k + 1, x0, x2, x3, x13, x14 => if (Int.tmod x3 2) = 1 then (if x0 = 3 then (turnstileref1_Byte.j2 k x13 x14 (x2 == (wrap64 (Int.tdiv x3 2)))) else (turnstileref1_Byte.j2 k x13 x14 false)) else (turnstileref1_Byte.j2 k x13 x14 false)
def turnstileref1_Byte.j2 : Nat → List Int → Int → Bool → Option (ByteArray × Int)
  | 0, _, _, _ => none
  | k + 1, x13, x14, x63 => if x63 = true then (turnstileref1_Byte.j3 k x13 1) else (turnstileref1_Byte.j3 k x13 x14)
def turnstileref1_Byte.j3 : Nat → List Int → Int → Option (ByteArray × Int)
  | 0, _, _ => none
  | k + 1, x13, x14 => turnstileref1_Byte.l0 k x13 x14 ([] : List Int) 0
def turnstileref1_Byte.l0 : Nat → List Int → Int → List Int → Int → Option (ByteArray × Int)
  | 0, _, _, _, _ => none
  | k + 1, x13, x14, x15, x16 => if x16 < 2 then (if x16 = x14 then (turnstileref1_Byte.l0 k x13 x14 x15 (wrap64 (x16 + 1))) else (if 0 ≤ x16 then (if x16 < (x13.length : Int) then ((turnstileref1_char.f (rd x13 x16)).bind fun t341 => (if t341 = 0 then (some ((⟨#[]⟩ : ByteArray), 11)) else (if x15.length < 140737488355328 then (turnstileref1_Byte.l0 k x13 x14 (x15 ++ [t341]) (wrap64 (x16 + 1))) else (none)))) else (none)) else (none))) else (if x14 = 0 then (if 0 < (x13.length : Int) then (if (rd x13 0) = 0 then (if x14 = 1 then (if 1 < (x13.length : Int) then (if (rd x13 1) = 15 then (some (strOfNums x15, 0)) else (some (strOfNums x15, 12))) else (none)) else (some (strOfNums x15, 0))) else (some (strOfNums x15, 12))) else (none)) else (if x14 = 1 then (if 1 < (x13.length : Int) then (if (rd x13 1) = 15 then (some (strOfNums x15, 0)) else (some (strOfNums x15, 12))) else (none)) else (some (strOfNums x15, 0))))
end
def turnstileref1_Byte.f (k : Nat) (a0 : Int) (a1 : Int) (a2 : Int) (a3 : Int) : Option (ByteArray × Int) := (turnstileref1_Packed.f a0).bind fun t328 => (if t328 = true then ((some (([wrap64 (Int.tdiv (wrap64 (a1)) 16), Int.tmod (wrap64 (a1)) 16] : List Int) : List Int)).bind fun y334 => (if (Int.tmod a3 2) = 1 then (if a0 = 2 then (turnstileref1_Byte.j0 k a0 a2 a3 y334 (-1) (a2 == 0)) else (turnstileref1_Byte.j0 k a0 a2 a3 y334 (-1) false)) else (turnstileref1_Byte.j0 k a0 a2 a3 y334 (-1) false))) else ((turnstileref1_Char.f k a0 a1).bind fun bt329 => (if bt329.2 = true then (some (strOfNums (([bt329.1] : List Int)), 0)) else (some ((⟨#[]⟩ : ByteArray), 11)))))
theorem turnstileref1_Byte.mono_l : ∀ k, (∀ y0 y1 y2 y3 y4 y5, LeO (turnstileref1_Byte.j0 k y0 y1 y2 y3 y4 y5) (turnstileref1_Byte.j0 (k + 1) y0 y1 y2 y3 y4 y5)) ∧ (∀ y0 y1 y2 y3 y4, LeO (turnstileref1_Byte.j1 k y0 y1 y2 y3 y4) (turnstileref1_Byte.j1 (k + 1) y0 y1 y2 y3 y4)) ∧ (∀ y0 y1 y2, LeO (turnstileref1_Byte.j2 k y0 y1 y2) (turnstileref1_Byte.j2 (k + 1) y0 y1 y2)) ∧ (∀ y0 y1, LeO (turnstileref1_Byte.j3 k y0 y1) (turnstileref1_Byte.j3 (k + 1) y0 y1)) ∧ (∀ y0 y1 y2 y3, LeO (turnstileref1_Byte.l0 k y0 y1 y2 y3) (turnstileref1_Byte.l0 (k + 1) y0 y1 y2 y3))
  | 0 => ⟨fun _ _ _ _ _ _ r h => by simp [turnstileref1_Byte.j0] at h, fun _ _ _ _ _ r h => by simp [turnstileref1_Byte.j1] at h, fun _ _ _ r h => by simp [turnstileref1_Byte.j2] at h, fun _ _ r h => by simp [turnstileref1_Byte.j3] at h, fun _ _ _ _ r h => by simp [turnstileref1_Byte.l0] at h⟩
  | k + 1 => by
    obtain ⟨ih0, ih1, ih2, ih3, ih4⟩ := turnstileref1_Byte.mono_l k
    refine ⟨?_, ?_, ?_, ?_, ?_⟩
    · intro y0 y1 y2 y3 y4 y5
      unfold turnstileref1_Byte.j0
      repeat' first
      | (with_reducible exact ih0 _ _ _ _ _ _)
      | (with_reducible exact ih1 _ _ _ _ _)
      | (with_reducible exact ih2 _ _ _)
      | (with_reducible exact ih3 _ _)
      | (with_reducible exact ih4 _ _ _ _)
      | (with_reducible exact turnstileref1_Char.mono _ _ _)
      | (with_reducible exact LeO.refl _)
      | (with_reducible exact LeO.none _)
      | (with_reducible refine LeO.ite ?_ ?_)
      | (with_reducible refine LeO.bind ?_ (fun _ => ?_))
      | exact ih0 _ _ _ _ _ _
      | exact ih1 _ _ _ _ _
      | exact ih2 _ _ _
      | exact ih3 _ _
      | exact ih4 _ _ _ _
      | exact turnstileref1_Char.mono _ _ _
      | exact LeO.none _
      | refine LeO.ite ?_ ?_
      | refine LeO.bind ?_ (fun _ => ?_)
    · intro y0 y1 y2 y3 y4
      unfold turnstileref1_Byte.j1
      repeat' first
      | (with_reducible exact ih0 _ _ _ _ _ _)
      | (with_reducible exact ih1 _ _ _ _ _)
      | (with_reducible exact ih2 _ _ _)
      | (with_reducible exact ih3 _ _)
      | (with_reducible exact ih4 _ _ _ _)
      | (with_reducible exact turnstileref1_Char.mono _ _ _)
      | (with_reducible exact LeO.refl _)
      | (with_reducible exact LeO.none _)
      | (with_reducible refine LeO.ite ?_ ?_)
      | (with_reducible refine LeO.bind ?_ (fun _ => ?_))
      | exact ih0 _ _ _ _ _ _
      | exact ih1 _ _ _ _ _
      | exact ih2 _ _ _
      | exact ih3 _ _
      | exact ih4 _ _ _ _
      | exact turnstileref1_Char.mono _ _ _
      | exact LeO.none _
      | refine LeO.ite ?_ ?_
      | refine LeO.bind ?_ (fun _ => ?_)
    · intro y0 y1 y2
      unfold turnstileref1_Byte.j2
      repeat' first
      | (with_reducible exact ih0 _ _ _ _ _ _)
      | (with_reducible exact ih1 _ _ _ _ _)
      | (with_reducible exact ih2 _ _ _)
      | (with_reducible exact ih3 _ _)
      | (with_reducible exact ih4 _ _ _ _)
      | (with_reducible exact turnstileref1_Char.mono _ _ _)
      | (with_reducible exact LeO.refl _)
      | (with_reducible exact LeO.none _)
      | (with_reducible refine LeO.ite ?_ ?_)
      | (with_reducible refine LeO.bind ?_ (fun _ => ?_))
      | exact ih0 _ _ _ _ _ _
      | exact ih1 _ _ _ _ _
      | exact ih2 _ _ _
      | exact ih3 _ _
      | exact ih4 _ _ _ _
      | exact turnstileref1_Char.mono _ _ _
      | exact LeO.none _
      | refine LeO.ite ?_ ?_
      | refine LeO.bind ?_ (fun _ => ?_)
    · intro y0 y1
      unfold turnstileref1_Byte.j3
      repeat' first
      | (with_reducible exact ih0 _ _ _ _ _ _)
      | (with_reducible exact ih1 _ _ _ _ _)
      | (with_reducible exact ih2 _ _ _)
      | (with_reducible exact ih3 _ _)
      | (with_reducible exact ih4 _ _ _ _)
      | (with_reducible exact turnstileref1_Char.mono _ _ _)
      | (with_reducible exact LeO.refl _)
      | (with_reducible exact LeO.none _)
      | (with_reducible refine LeO.ite ?_ ?_)
      | (with_reducible refine LeO.bind ?_ (fun _ => ?_))
      | exact ih0 _ _ _ _ _ _
      | exact ih1 _ _ _ _ _
      | exact ih2 _ _ _
      | exact ih3 _ _
      | exact ih4 _ _ _ _
      | exact turnstileref1_Char.mono _ _ _
      | exact LeO.none _
      | refine LeO.ite ?_ ?_
      | refine LeO.bind ?_ (fun _ => ?_)
    · intro y0 y1 y2 y3
      unfold turnstileref1_Byte.l0
      repeat' first
      | (with_reducible exact ih0 _ _ _ _ _ _)
      | (with_reducible exact ih1 _ _ _ _ _)
      | (with_reducible exact ih2 _ _ _)
      | (with_reducible exact ih3 _ _)
      | (with_reducible exact ih4 _ _ _ _)
      | (with_reducible exact turnstileref1_Char.mono _ _ _)
      | (with_reducible exact LeO.refl _)
      | (with_reducible exact LeO.none _)
      | (with_reducible refine LeO.ite ?_ ?_)
      | (with_reducible refine LeO.bind ?_ (fun _ => ?_))
      | exact ih0 _ _ _ _ _ _
      | exact ih1 _ _ _ _ _
      | exact ih2 _ _ _
      | exact ih3 _ _
      | exact ih4 _ _ _ _
      | exact turnstileref1_Char.mono _ _ _
      | exact LeO.none _
      | refine LeO.ite ?_ ?_
      | refine LeO.bind ?_ (fun _ => ?_)
theorem turnstileref1_Byte.mono : ∀ a0 a1 a2 a3 k, LeO (turnstileref1_Byte.f k a0 a1 a2 a3) (turnstileref1_Byte.f (k + 1) a0 a1 a2 a3) := by
  intro a0 a1 a2 a3 k
  obtain ⟨ih0, ih1, ih2, ih3, ih4⟩ := turnstileref1_Byte.mono_l k
  unfold turnstileref1_Byte.f
  repeat' first
      | (with_reducible exact ih0 _ _ _ _ _ _)
      | (with_reducible exact ih1 _ _ _ _ _)
      | (with_reducible exact ih2 _ _ _)
      | (with_reducible exact ih3 _ _)
      | (with_reducible exact ih4 _ _ _ _)
      | (with_reducible exact turnstileref1_Char.mono _ _ _)
      | (with_reducible exact LeO.refl _)
      | (with_reducible exact LeO.none _)
      | (with_reducible refine LeO.ite ?_ ?_)
      | (with_reducible refine LeO.bind ?_ (fun _ => ?_))
      | exact ih0 _ _ _ _ _ _
      | exact ih1 _ _ _ _ _
      | exact ih2 _ _ _
      | exact ih3 _ _
      | exact ih4 _ _ _ _
      | exact turnstileref1_Char.mono _ _ _
      | exact LeO.none _
      | refine LeO.ite ?_ ?_
      | refine LeO.bind ?_ (fun _ => ?_)
set_option maxHeartbeats 8000000 in
set_option maxRecDepth 100000 in
theorem turnstileref1_Byte.calls (k : Nat) (a0 : Int) (a1 : Int) (a2 : Int) (a3 : Int) (r1 : ByteArray) (r2 : Int) (w : World) (h : turnstileref1_Byte.f k a0 a1 a2 a3 = some (r1, r2)) :
    Calls Try.prog 55 #[.int .i64 a0, .int .u8 a1, .int .i64 a2, .int .i64 a3] w fun e w' => e = .returned (.tuple #[.string r1, .int .i64 r2]) ∧ Below w.heap.size w w' := by
  have HB := Aside0.mk (Below.refl w.heap.size w)
  have H : ((turnstileref1_Packed.f a0).bind fun t328 => (if t328 = true then ((some (([wrap64 (Int.tdiv (wrap64 (a1)) 16), Int.tmod (wrap64 (a1)) 16] : List Int) : List Int)).bind fun y334 => (if (Int.tmod a3 2) = 1 then (if a0 = 2 then (turnstileref1_Byte.j0 k a0 a2 a3 y334 (-1) (a2 == 0)) else (turnstileref1_Byte.j0 k a0 a2 a3 y334 (-1) false)) else (turnstileref1_Byte.j0 k a0 a2 a3 y334 (-1) false))) else ((turnstileref1_Char.f k a0 a1).bind fun bt329 => (if bt329.2 = true then (some (strOfNums (([bt329.1] : List Int)), 0)) else (some ((⟨#[]⟩ : ByteArray), 11)))))) = some (r1, r2) := h
  clear h
  replace H := Option.bind_eq_some_iff.mp H
  obtain ⟨t328, A50, H⟩ := H
  replace H : (if t328 = true then ((some (([wrap64 (Int.tdiv (wrap64 (a1)) 16), Int.tmod (wrap64 (a1)) 16] : List Int) : List Int)).bind fun y334 => (if (Int.tmod a3 2) = 1 then (if a0 = 2 then (turnstileref1_Byte.j0 k a0 a2 a3 y334 (-1) (a2 == 0)) else (turnstileref1_Byte.j0 k a0 a2 a3 y334 (-1) false)) else (turnstileref1_Byte.j0 k a0 a2 a3 y334 (-1) false))) else ((turnstileref1_Char.f k a0 a1).bind fun bt329 => (if bt329.2 = true then (some (strOfNums (([bt329.1] : List Int)), 0)) else (some ((⟨#[]⟩ : ByteArray), 11))))) = some (r1, r2) := H
  have A5 := Aside0.mk A50
  clear A50
  by_cases c6 : t328 = true
  · subst c6
    have H1 : ((some (([wrap64 (Int.tdiv (wrap64 (a1)) 16), Int.tmod (wrap64 (a1)) 16] : List Int) : List Int)).bind fun y334 => (if (Int.tmod a3 2) = 1 then (if a0 = 2 then (turnstileref1_Byte.j0 k a0 a2 a3 y334 (-1) (a2 == 0)) else (turnstileref1_Byte.j0 k a0 a2 a3 y334 (-1) false)) else (turnstileref1_Byte.j0 k a0 a2 a3 y334 (-1) false))) = some (r1, r2) := by rw [if_pos rfl] at H; exact H
    clear H
    have H := H1
    clear H1
    obtain ⟨y334, hy334⟩ : ∃ y_ : List Int, y_ = (([wrap64 (Int.tdiv (wrap64 (a1)) 16), Int.tmod (wrap64 (a1)) 16] : List Int)) := ⟨_, rfl⟩
    replace H : (if (Int.tmod a3 2) = 1 then (if a0 = 2 then (turnstileref1_Byte.j0 k a0 a2 a3 y334 (-1) (a2 == 0)) else (turnstileref1_Byte.j0 k a0 a2 a3 y334 (-1) false)) else (turnstileref1_Byte.j0 k a0 a2 a3 y334 (-1) false)) = some (r1, r2) := by first | (rw [hy334]; with_reducible exact H) | (have H2_ := (Option.bind_some _ _).symm.trans H; rw [hy334]; with_reducible exact H2_) | (have H2_ := (Option.bind_some _ _).symm.trans H; with_reducible exact H2_) | with_reducible exact H | (rw [hy334]; exact H) | exact H
    have Ny334 := Aside0.mk hy334
    clear hy334
    have HC7 := Aside0.mk H
    clear H
    go_enter Try.func55, Try.ntmps55
    go_upto_region 9 with (first | ((with_reducible refine gate_callee (f := 41) rfl ?_); refine goesL_ (some 19) rfl rfl Try.func41 (by kernel_rfl) rfl #[.int .i64 a0] rfl (by (try simp only [List.map_toArray, List.map_cons, List.map_nil]); first | done | rfl | (simp only [List.length_drop, List.length_take]; rfl)) ?_; (with_reducible refine (turnstileref1_Packed.calls a0 true _ A5.out).mono ?_); rintro e w' ⟨rfl, ⟨nd, rfl⟩⟩; refine ⟨_, rfl, ?_⟩) | ((with_reducible refine gate_dst (N := 39) rfl ?_); refine Kd.R_lit (Kd.int .i64) _ 3 ?hg (N := 39) ?hd (xs := ([wrap64 (Int.tdiv (wrap64 (a1)) 16), Int.tmod (wrap64 (a1)) 16] : List Int)) (inner := [.int .i64 (wrap64 (Int.tdiv (wrap64 (a1)) 16)), .int .i64 (Int.tmod (wrap64 (a1)) 16)]) (ok := fun _ => True) (okp := fun _ => True) ?hr ?hp (fun _ hk => hk) trivial (Below.refl _ _) (Nat.le_refl _) (by simp) ?_; (case hd => rfl); (case hg => rfl); (case hr => first | (go_simp; done) | (go_simp; rfl)); (case hp => exact (Reps.one (show Kd.M (Kd.int .i64) _ _ _ (wrap64 (Int.tdiv (wrap64 (a1)) 16)) [.int .i64 (wrap64 (Int.tdiv (wrap64 (a1)) 16))] from rfl) (Reps.one (show Kd.M (Kd.int .i64) _ _ _ (Int.tmod (wrap64 (a1)) 16) [.int .i64 (Int.tmod (wrap64 (a1)) 16)] from rfl) (Reps.none _ _)))); intro v335 w8 ho9 hb hg_ hnew_; clear hg_ hnew_; (first | rw [← Ny334.out] at ho9 | (simp only [Int.reduceToNat] at ho9; rw [← Ny334.out] at ho9)); have n0_ := Aside0.mk (Kd.R_lower ho9 (below_size (by repeat (first | (with_reducible first | exact HB.out | apply below_alloc | apply pw_below_drewN | apply below_drew1) | exact HB.out)))); have n1_ := Aside0.mk (below_step (by repeat (first | (with_reducible first | exact HB.out | apply below_alloc | apply pw_below_drewN | apply below_drew1) | exact HB.out)) hb); clear HB; have HO336 := n0_; have HB := n1_; clear n0_ n1_; clear hb ho9))
    (try simp only [Act.put, List.setIfInBounds_toArray, List.set_cons_zero, List.set_cons_succ])
    go_cut [50] (fun v50 wc => ∃ (kq : Nat) (x50_6 : Bool), v50 = .bool x50_6 ∧ Aside0 (turnstileref1_Byte.j0 kq a0 a2 a3 y334 (-1) x50_6 = some (r1, r2)) ∧ Aside0 (kq ≤ k) ∧ Aside0 (Kd.R (Kd.int .i64) 3 wc w.heap.size (fun _ => True) v335 y334) ∧ Aside0 (Below w.heap.size w wc))
    case first =>
      have H := HC7.out
      clear HC7
      by_cases c10 : (Int.tmod a3 2) = 1
      · rw [if_pos c10] at H
        have c10b0 : ((Int.tmod a3 2) == 1) = true := beq_iff_eq.mpr c10
        have c10b1 : ((Int.tmod a3 2) != 1) = false := bne_eq_false_iff_eq.mpr c10
        clear c10
        (first | rw [c10b0] | (simp only [i64_w, i32_w]; rw [c10b0]) | skip)
        by_cases c11 : a0 = 2
        · rw [if_pos c11] at H
          have c11b0 : (a0 == 2) = true := beq_iff_eq.mpr c11
          have c11b1 : (a0 != 2) = false := bne_eq_false_iff_eq.mpr c11
          clear c11
          have H' := Aside0.mk H
          clear H
          go_wp2
          go_meet
          case rel => exact ⟨_, ((a2 == 0)), (by first | rfl | (simp; done) | (simp [*]; done)), H', ⟨by first | omega | exact Nat.le_refl _⟩, ⟨by (with_reducible repeat (first | apply Kd.R_alloc | apply Kd.R_drewN | apply Kd.R_drew)); exact HO336.out⟩, ⟨by repeat (first | (with_reducible first | exact HB.out | apply below_alloc | apply pw_below_drewN | apply below_drew1) | exact HB.out)⟩⟩
        · rw [if_neg c11] at H
          have c11b0 : (a0 == 2) = false := beq_eq_false_iff_ne.mpr c11
          have c11b1 : (a0 != 2) = true := bne_iff_ne.mpr c11
          have H' := Aside0.mk H
          clear H
          go_wp2
          go_meet
          case rel => exact ⟨_, (false), (by first | rfl | (simp; done) | (simp [*]; done)), H', ⟨by first | omega | exact Nat.le_refl _⟩, ⟨by (with_reducible repeat (first | apply Kd.R_alloc | apply Kd.R_drewN | apply Kd.R_drew)); exact HO336.out⟩, ⟨by repeat (first | (with_reducible first | exact HB.out | apply below_alloc | apply pw_below_drewN | apply below_drew1) | exact HB.out)⟩⟩
      · rw [if_neg c10] at H
        have c10b0 : ((Int.tmod a3 2) == 1) = false := beq_eq_false_iff_ne.mpr c10
        have c10b1 : ((Int.tmod a3 2) != 1) = true := bne_iff_ne.mpr c10
        (first | rw [c10b0] | (simp only [i64_w, i32_w]; rw [c10b0]) | skip)
        have H' := Aside0.mk H
        clear H
        go_wp2
        go_meet
        case rel => exact ⟨_, (false), (by first | rfl | (simp; done) | (simp [*]; done)), H', ⟨by first | omega | exact Nat.le_refl _⟩, ⟨by (with_reducible repeat (first | apply Kd.R_alloc | apply Kd.R_drewN | apply Kd.R_drew)); exact HO336.out⟩, ⟨by repeat (first | (with_reducible first | exact HB.out | apply below_alloc | apply pw_below_drewN | apply below_drew1) | exact HB.out)⟩⟩
    case rest =>
      clear HC7
      try clear c1
      try clear p2
      try clear c4
      try clear c5
      try clear c6
      try clear p6
      try clear c10
      try clear c10b0
      try clear c10b1
      try clear c11
      try clear c11b0
      try clear c11b1
      obtain ⟨kq, x50_6, rfl, HA, HJ6, HO_13, HB⟩ := hcut
      cases kq with
      | zero => exact absurd HA.out (by simp [turnstileref1_Byte.j0])
      | succ kj6 =>
        have H := HA.out
        clear HA
        simp only [turnstileref1_Byte.j0] at H
        have HC12 := Aside0.mk H
        clear H
        go_upto_if 50 with (fail)
        go_cut [14] (fun v14 wc => ∃ (kq : Nat) (x14_11 : Int), v14 = .int .i64 x14_11 ∧ Aside0 (turnstileref1_Byte.j1 kq a0 a2 a3 y334 x14_11 = some (r1, r2)) ∧ Aside0 (kq ≤ kj6) ∧ Aside0 (Kd.R (Kd.int .i64) 3 wc w.heap.size (fun _ => True) v335 y334) ∧ Aside0 (Below w.heap.size w wc))
        case first =>
          have H := HC12.out
          clear HC12
          by_cases c13 : x50_6 = true
          · subst c13
            have H1 : (turnstileref1_Byte.j1 kj6 a0 a2 a3 y334 0) = some (r1, r2) := by rw [if_pos rfl] at H; exact H
            clear H
            have H := H1
            clear H1
            have H' := Aside0.mk H
            clear H
            go_wp2
            go_meet
            case rel => exact ⟨_, (0), (by first | rfl | (simp; done) | (simp [*]; done)), H', ⟨by have := HJ6.out; first | omega | exact Nat.le_refl _⟩, ⟨by (with_reducible repeat (first | apply Kd.R_alloc | apply Kd.R_drewN | apply Kd.R_drew)); exact HO_13.out⟩, ⟨by repeat (first | (with_reducible first | exact HB.out | apply below_alloc | apply pw_below_drewN | apply below_drew1) | exact HB.out)⟩⟩
          · replace c13 := Bool.eq_false_iff.mpr c13
            subst c13
            have H1 : (turnstileref1_Byte.j1 kj6 a0 a2 a3 y334 (-1)) = some (r1, r2) := by rw [if_neg (show ¬ (false = true) by decide)] at H; exact H
            clear H
            have H := H1
            clear H1
            have H' := Aside0.mk H
            clear H
            go_wp2
            go_meet
            case rel => exact ⟨_, ((-1)), (by first | rfl | (simp; done) | (simp [*]; done)), H', ⟨by have := HJ6.out; first | omega | exact Nat.le_refl _⟩, ⟨by (with_reducible repeat (first | apply Kd.R_alloc | apply Kd.R_drewN | apply Kd.R_drew)); exact HO_13.out⟩, ⟨by repeat (first | (with_reducible first | exact HB.out | apply below_alloc | apply pw_below_drewN | apply below_drew1) | exact HB.out)⟩⟩
        case rest =>
          clear HC12
          try clear c1
          try clear p2
          try clear c4
          try clear c5
          try clear c6
          try clear p6
          try clear c10
          try clear c10b0
          try clear c10b1
          try clear c11
          try clear c11b0
          try clear c11b1
          try clear c13
          try clear p2
          try clear p6
          obtain ⟨kq, x14_11, rfl, HA, HJ11, HO_13, HB⟩ := hcut
          cases kq with
          | zero => exact absurd HA.out (by simp [turnstileref1_Byte.j1])
          | succ kj11 =>
            have H := HA.out
            clear HA
            simp only [turnstileref1_Byte.j1] at H
            have HC14 := Aside0.mk H
            clear H
            go_upto_region 11 with (fail)
            go_cut [63] (fun v63 wc => ∃ (kq : Nat) (x63_13 : Bool), v63 = .bool x63_13 ∧ Aside0 (turnstileref1_Byte.j2 kq y334 x14_11 x63_13 = some (r1, r2)) ∧ Aside0 (kq ≤ kj11) ∧ Aside0 (Kd.R (Kd.int .i64) 3 wc w.heap.size (fun _ => True) v335 y334) ∧ Aside0 (Below w.heap.size w wc))
            case first =>
              have H := HC14.out
              clear HC14
              by_cases c15 : (Int.tmod a3 2) = 1
              · rw [if_pos c15] at H
                have c15b0 : ((Int.tmod a3 2) == 1) = true := beq_iff_eq.mpr c15
                have c15b1 : ((Int.tmod a3 2) != 1) = false := bne_eq_false_iff_eq.mpr c15
                clear c15
                (first | rw [c15b0] | (simp only [i64_w, i32_w]; rw [c15b0]) | skip)
                by_cases c16 : a0 = 3
                · rw [if_pos c16] at H
                  have c16b0 : (a0 == 3) = true := beq_iff_eq.mpr c16
                  have c16b1 : (a0 != 3) = false := bne_eq_false_iff_eq.mpr c16
                  clear c16
                  have H' := Aside0.mk H
                  clear H
                  go_wp2
                  go_meet
                  case rel => exact ⟨_, ((a2 == (wrap64 (Int.tdiv a3 2)))), (by first | rfl | (simp; done) | (simp [*]; done)), H', ⟨by have := HJ6.out; have := HJ11.out; first | omega | exact Nat.le_refl _⟩, ⟨by (with_reducible repeat (first | apply Kd.R_alloc | apply Kd.R_drewN | apply Kd.R_drew)); exact HO_13.out⟩, ⟨by repeat (first | (with_reducible first | exact HB.out | apply below_alloc | apply pw_below_drewN | apply below_drew1) | exact HB.out)⟩⟩
                · rw [if_neg c16] at H
                  have c16b0 : (a0 == 3) = false := beq_eq_false_iff_ne.mpr c16
                  have c16b1 : (a0 != 3) = true := bne_iff_ne.mpr c16
                  have H' := Aside0.mk H
                  clear H
                  go_wp2
                  go_meet
                  case rel => exact ⟨_, (false), (by first | rfl | (simp; done) | (simp [*]; done)), H', ⟨by have := HJ6.out; have := HJ11.out; first | omega | exact Nat.le_refl _⟩, ⟨by (with_reducible repeat (first | apply Kd.R_alloc | apply Kd.R_drewN | apply Kd.R_drew)); exact HO_13.out⟩, ⟨by repeat (first | (with_reducible first | exact HB.out | apply below_alloc | apply pw_below_drewN | apply below_drew1) | exact HB.out)⟩⟩
              · rw [if_neg c15] at H
                have c15b0 : ((Int.tmod a3 2) == 1) = false := beq_eq_false_iff_ne.mpr c15
                have c15b1 : ((Int.tmod a3 2) != 1) = true := bne_iff_ne.mpr c15
                (first | rw [c15b0] | (simp only [i64_w, i32_w]; rw [c15b0]) | skip)
                have H' := Aside0.mk H
                clear H
                go_wp2
                go_meet
                case rel => exact ⟨_, (false), (by first | rfl | (simp; done) | (simp [*]; done)), H', ⟨by have := HJ6.out; have := HJ11.out; first | omega | exact Nat.le_refl _⟩, ⟨by (with_reducible repeat (first | apply Kd.R_alloc | apply Kd.R_drewN | apply Kd.R_drew)); exact HO_13.out⟩, ⟨by repeat (first | (with_reducible first | exact HB.out | apply below_alloc | apply pw_below_drewN | apply below_drew1) | exact HB.out)⟩⟩
            case rest =>
              clear HC14
              try clear c1
              try clear p2
              try clear c4
              try clear c5
              try clear c6
              try clear p6
              try clear c10
              try clear c10b0
              try clear c10b1
              try clear c11
              try clear c11b0
              try clear c11b1
              try clear c13
              try clear c15
              try clear c15b0
              try clear c15b1
              try clear c16
              try clear c16b0
              try clear c16b1
              try clear p2
              try clear p6
              obtain ⟨kq, x63_13, rfl, HA, HJ13, HO_13, HB⟩ := hcut
              cases kq with
              | zero => exact absurd HA.out (by simp [turnstileref1_Byte.j2])
              | succ kj13 =>
                have H := HA.out
                clear HA
                simp only [turnstileref1_Byte.j2] at H
                have HC17 := Aside0.mk H
                clear H
                go_upto_if 63 with (fail)
                go_cut [14] (fun v14 wc => ∃ (kq : Nat) (x14_16 : Int), v14 = .int .i64 x14_16 ∧ Aside0 (turnstileref1_Byte.j3 kq y334 x14_16 = some (r1, r2)) ∧ Aside0 (kq ≤ kj13) ∧ Aside0 (Kd.R (Kd.int .i64) 3 wc w.heap.size (fun _ => True) v335 y334) ∧ Aside0 (Below w.heap.size w wc))
                case first =>
                  have H := HC17.out
                  clear HC17
                  by_cases c18 : x63_13 = true
                  · subst c18
                    have H1 : (turnstileref1_Byte.j3 kj13 y334 1) = some (r1, r2) := by rw [if_pos rfl] at H; exact H
                    clear H
                    have H := H1
                    clear H1
                    have H' := Aside0.mk H
                    clear H
                    go_wp2
                    go_meet
                    case rel => exact ⟨_, (1), (by first | rfl | (simp; done) | (simp [*]; done)), H', ⟨by have := HJ6.out; have := HJ11.out; have := HJ13.out; first | omega | exact Nat.le_refl _⟩, ⟨by (with_reducible repeat (first | apply Kd.R_alloc | apply Kd.R_drewN | apply Kd.R_drew)); exact HO_13.out⟩, ⟨by repeat (first | (with_reducible first | exact HB.out | apply below_alloc | apply pw_below_drewN | apply below_drew1) | exact HB.out)⟩⟩
                  · replace c18 := Bool.eq_false_iff.mpr c18
                    subst c18
                    have H1 : (turnstileref1_Byte.j3 kj13 y334 x14_11) = some (r1, r2) := by rw [if_neg (show ¬ (false = true) by decide)] at H; exact H
                    clear H
                    have H := H1
                    clear H1
                    have H' := Aside0.mk H
                    clear H
                    go_wp2
                    go_meet
                    case rel => exact ⟨_, (x14_11), (by first | rfl | (simp; done) | (simp [*]; done)), H', ⟨by have := HJ6.out; have := HJ11.out; have := HJ13.out; first | omega | exact Nat.le_refl _⟩, ⟨by (with_reducible repeat (first | apply Kd.R_alloc | apply Kd.R_drewN | apply Kd.R_drew)); exact HO_13.out⟩, ⟨by repeat (first | (with_reducible first | exact HB.out | apply below_alloc | apply pw_below_drewN | apply below_drew1) | exact HB.out)⟩⟩
                case rest =>
                  clear HC17
                  try clear c1
                  try clear p2
                  try clear c4
                  try clear c5
                  try clear c6
                  try clear p6
                  try clear c10
                  try clear c10b0
                  try clear c10b1
                  try clear c11
                  try clear c11b0
                  try clear c11b1
                  try clear c13
                  try clear c15
                  try clear c15b0
                  try clear c15b1
                  try clear c16
                  try clear c16b0
                  try clear c16b1
                  try clear c18
                  try clear p2
                  try clear p6
                  obtain ⟨kq, x14_16, rfl, HA, HJ16, HO_13, HB⟩ := hcut
                  cases kq with
                  | zero => exact absurd HA.out (by simp [turnstileref1_Byte.j3])
                  | succ kj16 =>
                    have H := HA.out
                    clear HA
                    simp only [turnstileref1_Byte.j3] at H
                    have H' := Aside0.mk H
                    clear H
                    go_wp2
                    go_loopg [15, 16] kj16 (fun kq v15 v16 w' => ∃ (x15_5 : List Int) (x16_5 : Int), v16 = .int .i64 x16_5 ∧ Aside0 (turnstileref1_Byte.l0 kq y334 x14_16 x15_5 x16_5 = some (r1, r2)) ∧ Aside0 (kq ≤ kj16) ∧ Aside0 (Kd.R (Kd.int .i64) 3 w' w.heap.size (fun _ => True) v335 y334) ∧ Aside0 (Kd.R (Kd.int .u8) 5 w' w.heap.size (fun _ => True) v15 x15_5) ∧ Aside0 (Below w.heap.size w w'))
                    case atStart => exact ⟨(([] : List Int)), (0), (by first | rfl | (simp; done) | (simp [*]; done)), H', ⟨Nat.le_refl _⟩, ⟨by (with_reducible repeat (first | apply Kd.R_alloc | apply Kd.R_drewN | apply Kd.R_drew)); exact HO_13.out⟩, ⟨by first | exact Kd.R_nil _ _ _ _ _ | exact Kd.N_nil _ _ _ _ _ | exact Kd.V_nil _ _ _ _ _ | exact Kd.Q_nil _ _ _ _ _ | exact Kd.S_nil _ _ _ _ _⟩, ⟨by repeat (first | (with_reducible first | exact HB.out | apply below_alloc | apply pw_below_drewN | apply below_drew1) | exact HB.out)⟩⟩
                    case round =>
                      clear H'
                      try clear c1
                      try clear p2
                      try clear c4
                      try clear c5
                      try clear c6
                      try clear p6
                      try clear c10
                      try clear c10b0
                      try clear c10b1
                      try clear c11
                      try clear c11b0
                      try clear c11b1
                      try clear c13
                      try clear c15
                      try clear c15b0
                      try clear c15b1
                      try clear c16
                      try clear c16b0
                      try clear c16b1
                      try clear c18
                      try clear p2
                      try clear p6
                      obtain ⟨x15_5, x16_5, rfl, HA, HK5, HO_13, HO_15, HB⟩ := hrel
                      cases gk with
                      | zero => exact absurd HA.out (by simp [turnstileref1_Byte.l0])
                      | succ k5 =>
                        have H := HA.out
                        clear HA
                        simp only [turnstileref1_Byte.l0] at H
                        by_cases c19 : x16_5 < 2
                        · rw [if_pos c19] at H
                          have c19b0 : decide (x16_5 < 2) = true := decide_eq_true c19
                          clear c19
                          by_cases c20 : x16_5 = x14_16
                          · rw [if_pos c20] at H
                            have c20b0 : (x16_5 == x14_16) = true := beq_iff_eq.mpr c20
                            have c20b1 : (x16_5 != x14_16) = false := bne_eq_false_iff_eq.mpr c20
                            clear c20
                            have H' := Aside0.mk H
                            clear H
                            go_wp2
                            go_roundg k5
                            case measure => have := HJ6.out; have := HJ11.out; have := HJ13.out; have := HJ16.out; have := HK5.out; omega
                            case rel => exact ⟨(x15_5), (wrap64 (x16_5 + 1)), (by first | rfl | (simp; done) | (simp [*]; done)), H', ⟨by have := HJ6.out; have := HJ11.out; have := HJ13.out; have := HJ16.out; have := HK5.out; omega⟩, ⟨by (with_reducible repeat (first | apply Kd.R_alloc | apply Kd.R_drewN | apply Kd.R_drew)); exact HO_13.out⟩, ⟨by (with_reducible repeat (first | apply Kd.R_alloc | apply Kd.R_drewN | apply Kd.R_drew)); exact HO_15.out⟩, ⟨by repeat (first | (with_reducible first | exact HB.out | apply below_alloc | apply pw_below_drewN | apply below_drew1) | exact HB.out)⟩⟩
                          · rw [if_neg c20] at H
                            have c20b0 : (x16_5 == x14_16) = false := beq_eq_false_iff_ne.mpr c20
                            have c20b1 : (x16_5 != x14_16) = true := bne_iff_ne.mpr c20
                            by_cases c21 : 0 ≤ x16_5
                            · rw [if_pos c21] at H
                              have c21b0 : decide (0 ≤ x16_5) = true := decide_eq_true c21
                              clear c21
                              by_cases c22 : x16_5 < (y334.length : Int)
                              · rw [if_pos c22] at H
                                have c22b0 : decide (x16_5 < (y334.length : Int)) = true := decide_eq_true c22
                                clear c22
                                replace H := Option.bind_eq_some_iff.mp H
                                obtain ⟨t341, A230, H⟩ := H
                                replace H : (if t341 = 0 then (some ((⟨#[]⟩ : ByteArray), 11)) else (if x15_5.length < 140737488355328 then (turnstileref1_Byte.l0 k5 y334 x14_16 (x15_5 ++ [t341]) (wrap64 (x16_5 + 1))) else (none))) = some (r1, r2) := H
                                have A23 := Aside0.mk A230
                                clear A230
                                by_cases c24 : t341 = 0
                                · rw [if_pos c24] at H
                                  have c24b0 : (t341 == 0) = true := beq_iff_eq.mpr c24
                                  have c24b1 : (t341 != 0) = false := bne_eq_false_iff_eq.mpr c24
                                  clear c24
                                  simp only [Option.some.injEq, Prod.mk.injEq] at H
                                  obtain ⟨rfl, rfl⟩ := H
                                  obtain ⟨Ao25, co25, eo25⟩ := Kd.R_slice HO_13.out
                                  subst eo25
                                  have p340 : 0 ≤ (x16_5 : Int) := of_decide_eq_true (by first | (with_reducible assumption) | assumption)
                                  have q340 : x16_5 < (y334.length : Int) := of_decide_eq_true (by first | (with_reducible assumption) | assumption)
                                  obtain ⟨ad340, e340, hx340_0⟩ := Kd.at_int (Kd.R_reads' HO_13.out).2.2 x16_5 p340 q340
                                  cases e340
                                  replace p340 := eq_true p340
                                  replace q340 := eq_true q340
                                  go_wp2_with (first | ((with_reducible refine gate_callee (f := 64) rfl ?_); refine goesL_ (some 75) rfl rfl Try.func64 (by kernel_rfl) rfl #[.int .i64 (rd y334 x16_5)] rfl (by (try simp only [List.map_toArray, List.map_cons, List.map_nil]); first | done | rfl | (simp only [List.length_drop, List.length_take]; rfl)) ?_; (with_reducible refine (turnstileref1_char.calls (rd y334 x16_5) t341 _ A23.out).mono ?_); rintro e w' ⟨rfl, ⟨nd, rfl⟩⟩; refine ⟨_, rfl, ?_⟩))
                                  go_ret2
                                  exact ⟨by first | rfl | (simp [errW_none, errW_some] <;> rfl) | (simp [*, errW_none, errW_some] <;> rfl), by repeat (first | (with_reducible first | exact HB.out | apply below_alloc | apply pw_below_drewN | apply below_drew1) | exact HB.out)⟩
                                · rw [if_neg c24] at H
                                  have c24b0 : (t341 == 0) = false := beq_eq_false_iff_ne.mpr c24
                                  have c24b1 : (t341 != 0) = true := bne_iff_ne.mpr c24
                                  by_cases c26 : x15_5.length < 140737488355328
                                  · rw [if_pos c26] at H
                                    have LMc26 := Aside0.mk c26
                                    clear c26
                                    obtain ⟨y342, hy342⟩ : ∃ y_ : List Int, y_ = (x15_5 ++ [t341]) := ⟨_, rfl⟩
                                    replace H : (turnstileref1_Byte.l0 k5 y334 x14_16 y342 (wrap64 (x16_5 + 1))) = some (r1, r2) := by first | (rw [hy342]; with_reducible exact H) | (have H2_ := (Option.bind_some _ _).symm.trans H; rw [hy342]; with_reducible exact H2_) | (have H2_ := (Option.bind_some _ _).symm.trans H; with_reducible exact H2_) | with_reducible exact H | (rw [hy342]; exact H) | exact H
                                    have Ny342 := Aside0.mk hy342
                                    clear hy342
                                    have H' := Aside0.mk H
                                    clear H
                                    obtain ⟨Ao27, co27, eo27⟩ := Kd.R_slice HO_13.out
                                    subst eo27
                                    have p340 : 0 ≤ (x16_5 : Int) := of_decide_eq_true (by first | (with_reducible assumption) | assumption)
                                    have q340 : x16_5 < (y334.length : Int) := of_decide_eq_true (by first | (with_reducible assumption) | assumption)
                                    obtain ⟨ad340, e340, hx340_0⟩ := Kd.at_int (Kd.R_reads' HO_13.out).2.2 x16_5 p340 q340
                                    cases e340
                                    replace p340 := eq_true p340
                                    replace q340 := eq_true q340
                                    go_wp2_with (first | ((with_reducible refine gate_callee (f := 64) rfl ?_); refine goesL_ (some 75) rfl rfl Try.func64 (by kernel_rfl) rfl #[.int .i64 (rd y334 x16_5)] rfl (by (try simp only [List.map_toArray, List.map_cons, List.map_nil]); first | done | rfl | (simp only [List.length_drop, List.length_take]; rfl)) ?_; (with_reducible refine (turnstileref1_char.calls (rd y334 x16_5) t341 _ A23.out).mono ?_); rintro e w' ⟨rfl, ⟨nd, rfl⟩⟩; refine ⟨_, rfl, ?_⟩) | ((with_reducible refine gate_builtin (b := .append) (xs := #[.tmp 78, .tmp 80]) rfl ?_); at_builtin; refine Kd.R_append (Kd.int .u8) (w0 := w) w.heap.size rfl (.tmp 78) (.tmp 80) 51 5 (.int .u8 0) 1 rfl Try.underlying51 info5 rfl (by decide) (by omega) u15 x15_5 t341 [.int .u8 t341] (fun _ => True) (fun _ => False) rfl rfl ?aP (fun _ hk => hk.elim) ?aF ?aO ?aB ?aS ?aL ?_; (case aP => exact rfl); (case aB => exact (by repeat (first | (with_reducible first | exact HB.out | apply below_alloc | apply pw_below_drewN | apply below_drew1) | exact HB.out))); (case aF => exact (fun _ _ => trivial)); (case aO => exact (by (with_reducible repeat (first | apply Kd.R_alloc | apply Kd.R_drewN | apply Kd.R_drew)); exact HO_15.out)); (case aS => exact (below_size (by repeat (first | (with_reducible first | exact HB.out | apply below_alloc | apply pw_below_drewN | apply below_drew1) | exact HB.out)))); (case aL => have := LMc26.out; omega); intro v343 w28 ho hb hg hat; rw [← Ny342.out] at ho; have n0_ := Aside0.mk (Kd.R_over' (by (with_reducible repeat (first | apply Kd.R_alloc | apply Kd.R_drewN | apply Kd.R_drew)); exact HO_13.out) (Kd.R_typed (by (with_reducible repeat (first | apply Kd.R_alloc | apply Kd.R_drewN | apply Kd.R_drew)); exact HO_15.out)) (by decide) hg); have n1_ := Aside0.mk (hb); have n2_ := Aside0.mk (ho); clear HO_13; clear HB; clear HO_15; have HO_13 := n0_; have HB := n1_; have HO344 := n2_; clear n0_ n1_ n2_; clear ho hb hg hat))
                                    go_roundg k5
                                    case measure => have := HJ6.out; have := HJ11.out; have := HJ13.out; have := HJ16.out; have := HK5.out; omega
                                    case rel => exact ⟨(y342), (wrap64 (x16_5 + 1)), (by first | rfl | (simp; done) | (simp [*]; done)), H', ⟨by have := HJ6.out; have := HJ11.out; have := HJ13.out; have := HJ16.out; have := HK5.out; omega⟩, ⟨by (with_reducible repeat (first | apply Kd.R_alloc | apply Kd.R_drewN | apply Kd.R_drew)); exact HO_13.out⟩, ⟨by (with_reducible repeat (first | apply Kd.R_alloc | apply Kd.R_drewN | apply Kd.R_drew)); exact HO344.out⟩, ⟨by repeat (first | (with_reducible first | exact HB.out | apply below_alloc | apply pw_below_drewN | apply below_drew1) | exact HB.out)⟩⟩
                                  · rw [if_neg c26] at H
                                    exact absurd H (by simp)
                              · rw [if_neg c22] at H
                                exact absurd H (by simp)
                            · rw [if_neg c21] at H
                              exact absurd H (by simp)
                        · rw [if_neg c19] at H
                          have c19b0 : decide (x16_5 < 2) = false := decide_eq_false c19
                          clear c19
                          by_cases c29 : x14_16 = 0
                          · rw [if_pos c29] at H
                            have c29b0 : (x14_16 == 0) = true := beq_iff_eq.mpr c29
                            have c29b1 : (x14_16 != 0) = false := bne_eq_false_iff_eq.mpr c29
                            clear c29
                            by_cases c30 : 0 < (y334.length : Int)
                            · rw [if_pos c30] at H
                              have c30b0 : decide (0 < (y334.length : Int)) = true := decide_eq_true c30
                              have c30b1 : decide (0 < y334.length) = true := decide_eq_true (by omega)
                              clear c30
                              by_cases c31 : (rd y334 0) = 0
                              · rw [if_pos c31] at H
                                have c31b0 : ((rd y334 0) == 0) = true := beq_iff_eq.mpr c31
                                have c31b1 : ((rd y334 0) != 0) = false := bne_eq_false_iff_eq.mpr c31
                                clear c31
                                by_cases c32 : x14_16 = 1
                                · rw [if_pos c32] at H
                                  have c32b0 : (x14_16 == 1) = true := beq_iff_eq.mpr c32
                                  have c32b1 : (x14_16 != 1) = false := bne_eq_false_iff_eq.mpr c32
                                  clear c32
                                  by_cases c33 : 1 < (y334.length : Int)
                                  · rw [if_pos c33] at H
                                    have c33b0 : decide (1 < (y334.length : Int)) = true := decide_eq_true c33
                                    have c33b1 : decide (1 < y334.length) = true := decide_eq_true (by omega)
                                    clear c33
                                    by_cases c34 : (rd y334 1) = 15
                                    · rw [if_pos c34] at H
                                      have c34b0 : ((rd y334 1) == 15) = true := beq_iff_eq.mpr c34
                                      have c34b1 : ((rd y334 1) != 15) = false := bne_eq_false_iff_eq.mpr c34
                                      clear c34
                                      simp only [Option.some.injEq, Prod.mk.injEq] at H
                                      obtain ⟨rfl, rfl⟩ := H
                                      obtain ⟨Ao35, co35, eo35⟩ := Kd.R_slice HO_13.out
                                      subst eo35
                                      have p337 : 0 ≤ (0 : Int) := (by omega)
                                      have q337 : 0 < (y334.length : Int) := of_decide_eq_true (by first | (with_reducible assumption) | assumption)
                                      obtain ⟨ad337, e337, hx337_0⟩ := Kd.at_int (Kd.R_reads' HO_13.out).2.2 0 p337 q337
                                      cases e337
                                      have qi337 : (0 < y334.length) = True := eq_true (by omega)
                                      (try rw [show ((0 : Int)).toNat = 0 from rfl] at hx337_0)
                                      (try rw [Addr.add_zero'] at hx337_0)
                                      replace p337 := eq_true p337
                                      replace q337 := eq_true q337
                                      have p338 : 0 ≤ (1 : Int) := (by omega)
                                      have q338 : 1 < (y334.length : Int) := of_decide_eq_true (by first | (with_reducible assumption) | assumption)
                                      obtain ⟨ad338, e338, hx338_0⟩ := Kd.at_int (Kd.R_reads' HO_13.out).2.2 1 p338 q338
                                      obtain rfl : ad337 = ad338 := (by injection e338)
                                      (try simp only [show (1 : Int).toNat = 1 from rfl, Nat.reduceMul, Nat.reduceEqDiff, Go.Addr.add, ↓reduceIte] at hx338_0)
                                      have qi338 : (1 < y334.length) = True := eq_true (by omega)
                                      (try rw [show ((1 : Int)).toNat = 1 from rfl] at hx338_0)
                                      replace p338 := eq_true p338
                                      replace q338 := eq_true q338
                                      have hcv36 := own_string (P := Try.prog) Try.underlying51 Try.underlying5 Try.underlying9 (Kd.own_of_R HO_15.out)
                                      go_wp2
                                      go_ret2
                                      exact ⟨by first | rfl | (simp [errW_none, errW_some] <;> rfl) | (simp [*, errW_none, errW_some] <;> rfl), by repeat (first | (with_reducible first | exact HB.out | apply below_alloc | apply pw_below_drewN | apply below_drew1) | exact HB.out)⟩
                                    · rw [if_neg c34] at H
                                      have c34b0 : ((rd y334 1) == 15) = false := beq_eq_false_iff_ne.mpr c34
                                      have c34b1 : ((rd y334 1) != 15) = true := bne_iff_ne.mpr c34
                                      simp only [Option.some.injEq, Prod.mk.injEq] at H
                                      obtain ⟨rfl, rfl⟩ := H
                                      obtain ⟨Ao37, co37, eo37⟩ := Kd.R_slice HO_13.out
                                      subst eo37
                                      have p337 : 0 ≤ (0 : Int) := (by omega)
                                      have q337 : 0 < (y334.length : Int) := of_decide_eq_true (by first | (with_reducible assumption) | assumption)
                                      obtain ⟨ad337, e337, hx337_0⟩ := Kd.at_int (Kd.R_reads' HO_13.out).2.2 0 p337 q337
                                      cases e337
                                      have qi337 : (0 < y334.length) = True := eq_true (by omega)
                                      (try rw [show ((0 : Int)).toNat = 0 from rfl] at hx337_0)
                                      (try rw [Addr.add_zero'] at hx337_0)
                                      replace p337 := eq_true p337
                                      replace q337 := eq_true q337
                                      have p338 : 0 ≤ (1 : Int) := (by omega)
                                      have q338 : 1 < (y334.length : Int) := of_decide_eq_true (by first | (with_reducible assumption) | assumption)
                                      obtain ⟨ad338, e338, hx338_0⟩ := Kd.at_int (Kd.R_reads' HO_13.out).2.2 1 p338 q338
                                      obtain rfl : ad337 = ad338 := (by injection e338)
                                      (try simp only [show (1 : Int).toNat = 1 from rfl, Nat.reduceMul, Nat.reduceEqDiff, Go.Addr.add, ↓reduceIte] at hx338_0)
                                      have qi338 : (1 < y334.length) = True := eq_true (by omega)
                                      (try rw [show ((1 : Int)).toNat = 1 from rfl] at hx338_0)
                                      replace p338 := eq_true p338
                                      replace q338 := eq_true q338
                                      have hcv38 := own_string (P := Try.prog) Try.underlying51 Try.underlying5 Try.underlying9 (Kd.own_of_R HO_15.out)
                                      go_wp2
                                      go_ret2
                                      exact ⟨by first | rfl | (simp [errW_none, errW_some] <;> rfl) | (simp [*, errW_none, errW_some] <;> rfl), by repeat (first | (with_reducible first | exact HB.out | apply below_alloc | apply pw_below_drewN | apply below_drew1) | exact HB.out)⟩
                                  · rw [if_neg c33] at H
                                    exact absurd H (by simp)
                                · rw [if_neg c32] at H
                                  have c32b0 : (x14_16 == 1) = false := beq_eq_false_iff_ne.mpr c32
                                  have c32b1 : (x14_16 != 1) = true := bne_iff_ne.mpr c32
                                  simp only [Option.some.injEq, Prod.mk.injEq] at H
                                  obtain ⟨rfl, rfl⟩ := H
                                  obtain ⟨Ao39, co39, eo39⟩ := Kd.R_slice HO_13.out
                                  subst eo39
                                  have p337 : 0 ≤ (0 : Int) := (by omega)
                                  have q337 : 0 < (y334.length : Int) := of_decide_eq_true (by first | (with_reducible assumption) | assumption)
                                  obtain ⟨ad337, e337, hx337_0⟩ := Kd.at_int (Kd.R_reads' HO_13.out).2.2 0 p337 q337
                                  cases e337
                                  have qi337 : (0 < y334.length) = True := eq_true (by omega)
                                  (try rw [show ((0 : Int)).toNat = 0 from rfl] at hx337_0)
                                  (try rw [Addr.add_zero'] at hx337_0)
                                  replace p337 := eq_true p337
                                  replace q337 := eq_true q337
                                  have hcv40 := own_string (P := Try.prog) Try.underlying51 Try.underlying5 Try.underlying9 (Kd.own_of_R HO_15.out)
                                  go_wp2
                                  go_ret2
                                  exact ⟨by first | rfl | (simp [errW_none, errW_some] <;> rfl) | (simp [*, errW_none, errW_some] <;> rfl), by repeat (first | (with_reducible first | exact HB.out | apply below_alloc | apply pw_below_drewN | apply below_drew1) | exact HB.out)⟩
                              · rw [if_neg c31] at H
                                have c31b0 : ((rd y334 0) == 0) = false := beq_eq_false_iff_ne.mpr c31
                                have c31b1 : ((rd y334 0) != 0) = true := bne_iff_ne.mpr c31
                                simp only [Option.some.injEq, Prod.mk.injEq] at H
                                obtain ⟨rfl, rfl⟩ := H
                                obtain ⟨Ao41, co41, eo41⟩ := Kd.R_slice HO_13.out
                                subst eo41
                                have p337 : 0 ≤ (0 : Int) := (by omega)
                                have q337 : 0 < (y334.length : Int) := of_decide_eq_true (by first | (with_reducible assumption) | assumption)
                                obtain ⟨ad337, e337, hx337_0⟩ := Kd.at_int (Kd.R_reads' HO_13.out).2.2 0 p337 q337
                                cases e337
                                have qi337 : (0 < y334.length) = True := eq_true (by omega)
                                (try rw [show ((0 : Int)).toNat = 0 from rfl] at hx337_0)
                                (try rw [Addr.add_zero'] at hx337_0)
                                replace p337 := eq_true p337
                                replace q337 := eq_true q337
                                have hcv42 := own_string (P := Try.prog) Try.underlying51 Try.underlying5 Try.underlying9 (Kd.own_of_R HO_15.out)
                                go_wp2
                                go_ret2
                                exact ⟨by first | rfl | (simp [errW_none, errW_some] <;> rfl) | (simp [*, errW_none, errW_some] <;> rfl), by repeat (first | (with_reducible first | exact HB.out | apply below_alloc | apply pw_below_drewN | apply below_drew1) | exact HB.out)⟩
                            · rw [if_neg c30] at H
                              exact absurd H (by simp)
                          · rw [if_neg c29] at H
                            have c29b0 : (x14_16 == 0) = false := beq_eq_false_iff_ne.mpr c29
                            have c29b1 : (x14_16 != 0) = true := bne_iff_ne.mpr c29
                            by_cases c43 : x14_16 = 1
                            · rw [if_pos c43] at H
                              have c43b0 : (x14_16 == 1) = true := beq_iff_eq.mpr c43
                              have c43b1 : (x14_16 != 1) = false := bne_eq_false_iff_eq.mpr c43
                              clear c43
                              by_cases c44 : 1 < (y334.length : Int)
                              · rw [if_pos c44] at H
                                have c44b0 : decide (1 < (y334.length : Int)) = true := decide_eq_true c44
                                have c44b1 : decide (1 < y334.length) = true := decide_eq_true (by omega)
                                clear c44
                                by_cases c45 : (rd y334 1) = 15
                                · rw [if_pos c45] at H
                                  have c45b0 : ((rd y334 1) == 15) = true := beq_iff_eq.mpr c45
                                  have c45b1 : ((rd y334 1) != 15) = false := bne_eq_false_iff_eq.mpr c45
                                  clear c45
                                  simp only [Option.some.injEq, Prod.mk.injEq] at H
                                  obtain ⟨rfl, rfl⟩ := H
                                  obtain ⟨Ao46, co46, eo46⟩ := Kd.R_slice HO_13.out
                                  subst eo46
                                  have p339 : 0 ≤ (1 : Int) := (by omega)
                                  have q339 : 1 < (y334.length : Int) := of_decide_eq_true (by first | (with_reducible assumption) | assumption)
                                  obtain ⟨ad339, e339, hx339_0⟩ := Kd.at_int (Kd.R_reads' HO_13.out).2.2 1 p339 q339
                                  cases e339
                                  (try simp only [show (1 : Int).toNat = 1 from rfl, Nat.reduceMul, Nat.reduceEqDiff, Go.Addr.add, ↓reduceIte] at hx339_0)
                                  have qi339 : (1 < y334.length) = True := eq_true (by omega)
                                  (try rw [show ((1 : Int)).toNat = 1 from rfl] at hx339_0)
                                  replace p339 := eq_true p339
                                  replace q339 := eq_true q339
                                  have hcv47 := own_string (P := Try.prog) Try.underlying51 Try.underlying5 Try.underlying9 (Kd.own_of_R HO_15.out)
                                  go_wp2
                                  go_ret2
                                  exact ⟨by first | rfl | (simp [errW_none, errW_some] <;> rfl) | (simp [*, errW_none, errW_some] <;> rfl), by repeat (first | (with_reducible first | exact HB.out | apply below_alloc | apply pw_below_drewN | apply below_drew1) | exact HB.out)⟩
                                · rw [if_neg c45] at H
                                  have c45b0 : ((rd y334 1) == 15) = false := beq_eq_false_iff_ne.mpr c45
                                  have c45b1 : ((rd y334 1) != 15) = true := bne_iff_ne.mpr c45
                                  simp only [Option.some.injEq, Prod.mk.injEq] at H
                                  obtain ⟨rfl, rfl⟩ := H
                                  obtain ⟨Ao48, co48, eo48⟩ := Kd.R_slice HO_13.out
                                  subst eo48
                                  have p339 : 0 ≤ (1 : Int) := (by omega)
                                  have q339 : 1 < (y334.length : Int) := of_decide_eq_true (by first | (with_reducible assumption) | assumption)
                                  obtain ⟨ad339, e339, hx339_0⟩ := Kd.at_int (Kd.R_reads' HO_13.out).2.2 1 p339 q339
                                  cases e339
                                  (try simp only [show (1 : Int).toNat = 1 from rfl, Nat.reduceMul, Nat.reduceEqDiff, Go.Addr.add, ↓reduceIte] at hx339_0)
                                  have qi339 : (1 < y334.length) = True := eq_true (by omega)
                                  (try rw [show ((1 : Int)).toNat = 1 from rfl] at hx339_0)
                                  replace p339 := eq_true p339
                                  replace q339 := eq_true q339
                                  have hcv49 := own_string (P := Try.prog) Try.underlying51 Try.underlying5 Try.underlying9 (Kd.own_of_R HO_15.out)
                                  go_wp2
                                  go_ret2
                                  exact ⟨by first | rfl | (simp [errW_none, errW_some] <;> rfl) | (simp [*, errW_none, errW_some] <;> rfl), by repeat (first | (with_reducible first | exact HB.out | apply below_alloc | apply pw_below_drewN | apply below_drew1) | exact HB.out)⟩
                              · rw [if_neg c44] at H
                                exact absurd H (by simp)
                            · rw [if_neg c43] at H
                              have c43b0 : (x14_16 == 1) = false := beq_eq_false_iff_ne.mpr c43
                              have c43b1 : (x14_16 != 1) = true := bne_iff_ne.mpr c43
                              simp only [Option.some.injEq, Prod.mk.injEq] at H
                              obtain ⟨rfl, rfl⟩ := H
                              have hcv50 := own_string (P := Try.prog) Try.underlying51 Try.underlying5 Try.underlying9 (Kd.own_of_R HO_15.out)
                              go_wp2
                              go_ret2
                              exact ⟨by first | rfl | (simp [errW_none, errW_some] <;> rfl) | (simp [*, errW_none, errW_some] <;> rfl), by repeat (first | (with_reducible first | exact HB.out | apply below_alloc | apply pw_below_drewN | apply below_drew1) | exact HB.out)⟩
  · replace c6 := Bool.eq_false_iff.mpr c6
    subst c6
    have H1 : ((turnstileref1_Char.f k a0 a1).bind fun bt329 => (if bt329.2 = true then (some (strOfNums (([bt329.1] : List Int)), 0)) else (some ((⟨#[]⟩ : ByteArray), 11)))) = some (r1, r2) := by rw [if_neg (show ¬ (false = true) by decide)] at H; exact H
    clear H
    have H := H1
    clear H1
    replace H := Option.bind_eq_some_iff.mp H
    obtain ⟨⟨t329, t330⟩, A510, H⟩ := H
    replace H : (if t330 = true then (some (strOfNums (([t329] : List Int)), 0)) else (some ((⟨#[]⟩ : ByteArray), 11))) = some (r1, r2) := H
    have A51 := Aside0.mk A510
    clear A510
    by_cases c52 : t330 = true
    · subst c52
      have H1 : (some (strOfNums (([t329] : List Int)), 0)) = some (r1, r2) := by rw [if_pos rfl] at H; exact H
      clear H
      have H := H1
      clear H1
      obtain ⟨y331, hy331⟩ : ∃ y_ : List Int, y_ = (([t329] : List Int)) := ⟨_, rfl⟩
      replace H : (some (strOfNums y331, 0)) = some (r1, r2) := by first | (rw [hy331]; with_reducible exact H) | (have H2_ := (Option.bind_some _ _).symm.trans H; rw [hy331]; with_reducible exact H2_) | (have H2_ := (Option.bind_some _ _).symm.trans H; with_reducible exact H2_) | with_reducible exact H | (rw [hy331]; exact H) | exact H
      have Ny331 := Aside0.mk hy331
      clear hy331
      simp only [Option.some.injEq, Prod.mk.injEq] at H
      obtain ⟨rfl, rfl⟩ := H
      go_enter Try.func55, Try.ntmps55
      go_wp2_with (first | ((with_reducible refine gate_callee (f := 41) rfl ?_); refine goesL_ (some 19) rfl rfl Try.func41 (by kernel_rfl) rfl #[.int .i64 a0] rfl (by (try simp only [List.map_toArray, List.map_cons, List.map_nil]); first | done | rfl | (simp only [List.length_drop, List.length_take]; rfl)) ?_; (with_reducible refine (turnstileref1_Packed.calls a0 false _ A5.out).mono ?_); rintro e w' ⟨rfl, ⟨nd, rfl⟩⟩; refine ⟨_, rfl, ?_⟩) | ((with_reducible refine gate_callee (f := 63) rfl ?_); refine goesL_ (some 25) rfl rfl Try.func63 (by kernel_rfl) rfl #[.int .i64 a0, .int .u8 a1] rfl (by (try simp only [List.map_toArray, List.map_cons, List.map_nil]); first | done | rfl | (simp only [List.length_drop, List.length_take]; rfl)) ?_; (with_reducible refine (turnstileref1_Char.calls k a0 a1 t329 true _ A51.out).mono ?_); rintro e w' ⟨rfl, ⟨nd, rfl⟩⟩; refine ⟨_, rfl, ?_⟩) | ((with_reducible refine gate_dst (N := 31) rfl ?_); refine Kd.R_lit (Kd.int .u8) _ 5 ?hg (N := 31) ?hd (xs := ([t329] : List Int)) (inner := [.int .u8 t329]) (ok := fun _ => True) (okp := fun _ => True) ?hr ?hp (fun _ hk => hk) trivial (Below.refl _ _) (Nat.le_refl _) (by simp) ?_; (case hd => rfl); (case hg => rfl); (case hr => first | (go_simp; done) | (go_simp; rfl)); (case hp => exact (Reps.one (show Kd.M (Kd.int .u8) _ _ _ t329 [.int .u8 t329] from rfl) (Reps.none _ _))); intro v332 w53 ho54 hb hg_ hnew_; clear hg_ hnew_; (first | rw [← Ny331.out] at ho54 | (simp only [Int.reduceToNat] at ho54; rw [← Ny331.out] at ho54)); have n0_ := Aside0.mk (Kd.R_lower ho54 (below_size (by repeat (first | (with_reducible first | exact HB.out | apply below_alloc | apply pw_below_drewN | apply below_drew1) | exact HB.out)))); have n1_ := Aside0.mk (below_step (by repeat (first | (with_reducible first | exact HB.out | apply below_alloc | apply pw_below_drewN | apply below_drew1) | exact HB.out)) hb); clear HB; have HO333 := n0_; have HB := n1_; clear n0_ n1_; clear hb ho54; have hcv55 := own_string (P := Try.prog) Try.underlying51 Try.underlying5 Try.underlying9 (Kd.own_of_R HO333.out)))
      go_ret2
      exact ⟨by first | rfl | (simp [errW_none, errW_some] <;> rfl) | (simp [*, errW_none, errW_some] <;> rfl), by repeat (first | (with_reducible first | exact HB.out | apply below_alloc | apply pw_below_drewN | apply below_drew1) | exact HB.out)⟩
    · replace c52 := Bool.eq_false_iff.mpr c52
      subst c52
      have H1 : (some ((⟨#[]⟩ : ByteArray), 11)) = some (r1, r2) := by rw [if_neg (show ¬ (false = true) by decide)] at H; exact H
      clear H
      have H := H1
      clear H1
      simp only [Option.some.injEq, Prod.mk.injEq] at H
      obtain ⟨rfl, rfl⟩ := H
      go_enter Try.func55, Try.ntmps55
      go_wp2_with (first | ((with_reducible refine gate_callee (f := 41) rfl ?_); refine goesL_ (some 19) rfl rfl Try.func41 (by kernel_rfl) rfl #[.int .i64 a0] rfl (by (try simp only [List.map_toArray, List.map_cons, List.map_nil]); first | done | rfl | (simp only [List.length_drop, List.length_take]; rfl)) ?_; (with_reducible refine (turnstileref1_Packed.calls a0 false _ A5.out).mono ?_); rintro e w' ⟨rfl, ⟨nd, rfl⟩⟩; refine ⟨_, rfl, ?_⟩) | ((with_reducible refine gate_callee (f := 63) rfl ?_); refine goesL_ (some 25) rfl rfl Try.func63 (by kernel_rfl) rfl #[.int .i64 a0, .int .u8 a1] rfl (by (try simp only [List.map_toArray, List.map_cons, List.map_nil]); first | done | rfl | (simp only [List.length_drop, List.length_take]; rfl)) ?_; (with_reducible refine (turnstileref1_Char.calls k a0 a1 t329 false _ A51.out).mono ?_); rintro e w' ⟨rfl, ⟨nd, rfl⟩⟩; refine ⟨_, rfl, ?_⟩))
      go_ret2
      exact ⟨by first | rfl | (simp [errW_none, errW_some] <;> rfl) | (simp [*, errW_none, errW_some] <;> rfl), by repeat (first | (with_reducible first | exact HB.out | apply below_alloc | apply pw_below_drewN | apply below_drew1) | exact HB.out)⟩

end Go.Proofs.Ytlpamhffpgoebaa.All

-- WRITTEN BY this session's own drv.py over the kit's print. Not trusted: Lean checks it.
namespace Go.Proofs.Ytlpamhffpgoebaa.All
open Go.RowKit Go.Proofs.YtlpamhffpgoebaaW.PrintWords Go.Proofs.YtlpamhffpgoebaaW.PrintLast Go.Proofs.YtlpamhffpgoebaaW.PrintMore
attribute [local go_sem] max2_int min2_int max_two min_two max_three min_three max_four min_four   -- for this text's walks alone
set_option linter.unusedVariables false
set_option linter.unusedSimpArgs false

/-! ### turnstileref1_length: function 56 -/
def turnstileref1_length.f (a0 : Int) (a1 : Int) : Option (Bool) := if a0 = 1 then (if a1 ≥ 1 then (some (decide (a1 ≤ 4))) else (some false)) else (if a0 = 2 then (if a1 ≥ 1 then (some (decide (a1 ≤ 4))) else (some false)) else (if a0 = 4 then (if a1 ≥ 1 then (some (decide (a1 ≤ 4))) else (some false)) else (if a0 = 5 then (if a1 ≥ 1 then (some (decide (a1 ≤ 4))) else (some false)) else (some false))))
set_option maxHeartbeats 8000000 in
set_option maxRecDepth 100000 in
theorem turnstileref1_length.calls (a0 : Int) (a1 : Int) (r : Bool) (w : World) (h : turnstileref1_length.f a0 a1 = some r) :
    Calls Try.prog 56 #[.int .i64 a0, .int .i64 a1] w fun e w' => e = .returned (.bool r) ∧ Drawn0 w w' := by
  have H : (if a0 = 1 then (if a1 ≥ 1 then (some (decide (a1 ≤ 4))) else (some false)) else (if a0 = 2 then (if a1 ≥ 1 then (some (decide (a1 ≤ 4))) else (some false)) else (if a0 = 4 then (if a1 ≥ 1 then (some (decide (a1 ≤ 4))) else (some false)) else (if a0 = 5 then (if a1 ≥ 1 then (some (decide (a1 ≤ 4))) else (some false)) else (some false))))) = some r := h
  clear h
  by_cases c3 : a0 = 1
  · rw [if_pos c3] at H
    have c3b0 : (a0 == 1) = true := beq_iff_eq.mpr c3
    have c3b1 : (a0 != 1) = false := bne_eq_false_iff_eq.mpr c3
    clear c3
    by_cases c4 : a1 ≥ 1
    · rw [if_pos c4] at H
      have c4b0 : decide (1 ≤ a1) = true := decide_eq_true c4
      clear c4
      obtain rfl := Option.some.inj H
      go_enter Try.func56, Try.ntmps56
      go_wp2
      go_ret
      exact ⟨by first | rfl | (simp; done) | (simp [*]; done), by repeat (first | exact Drawn0.refl _ | apply Drawn0.step)⟩
    · rw [if_neg c4] at H
      have c4b0 : decide (1 ≤ a1) = false := decide_eq_false c4
      clear c4
      obtain rfl := Option.some.inj H
      go_enter Try.func56, Try.ntmps56
      go_wp2
      go_ret
      exact ⟨by first | rfl | (simp; done) | (simp [*]; done), by repeat (first | exact Drawn0.refl _ | apply Drawn0.step)⟩
  · rw [if_neg c3] at H
    have c3b0 : (a0 == 1) = false := beq_eq_false_iff_ne.mpr c3
    have c3b1 : (a0 != 1) = true := bne_iff_ne.mpr c3
    by_cases c5 : a0 = 2
    · rw [if_pos c5] at H
      have c5b0 : (a0 == 2) = true := beq_iff_eq.mpr c5
      have c5b1 : (a0 != 2) = false := bne_eq_false_iff_eq.mpr c5
      clear c5
      by_cases c6 : a1 ≥ 1
      · rw [if_pos c6] at H
        have c6b0 : decide (1 ≤ a1) = true := decide_eq_true c6
        clear c6
        obtain rfl := Option.some.inj H
        go_enter Try.func56, Try.ntmps56
        go_wp2
        go_ret
        exact ⟨by first | rfl | (simp; done) | (simp [*]; done), by repeat (first | exact Drawn0.refl _ | apply Drawn0.step)⟩
      · rw [if_neg c6] at H
        have c6b0 : decide (1 ≤ a1) = false := decide_eq_false c6
        clear c6
        obtain rfl := Option.some.inj H
        go_enter Try.func56, Try.ntmps56
        go_wp2
        go_ret
        exact ⟨by first | rfl | (simp; done) | (simp [*]; done), by repeat (first | exact Drawn0.refl _ | apply Drawn0.step)⟩
    · rw [if_neg c5] at H
      have c5b0 : (a0 == 2) = false := beq_eq_false_iff_ne.mpr c5
      have c5b1 : (a0 != 2) = true := bne_iff_ne.mpr c5
      by_cases c7 : a0 = 4
      · rw [if_pos c7] at H
        have c7b0 : (a0 == 4) = true := beq_iff_eq.mpr c7
        have c7b1 : (a0 != 4) = false := bne_eq_false_iff_eq.mpr c7
        clear c7
        by_cases c8 : a1 ≥ 1
        · rw [if_pos c8] at H
          have c8b0 : decide (1 ≤ a1) = true := decide_eq_true c8
          clear c8
          obtain rfl := Option.some.inj H
          go_enter Try.func56, Try.ntmps56
          go_wp2
          go_ret
          exact ⟨by first | rfl | (simp; done) | (simp [*]; done), by repeat (first | exact Drawn0.refl _ | apply Drawn0.step)⟩
        · rw [if_neg c8] at H
          have c8b0 : decide (1 ≤ a1) = false := decide_eq_false c8
          clear c8
          obtain rfl := Option.some.inj H
          go_enter Try.func56, Try.ntmps56
          go_wp2
          go_ret
          exact ⟨by first | rfl | (simp; done) | (simp [*]; done), by repeat (first | exact Drawn0.refl _ | apply Drawn0.step)⟩
      · rw [if_neg c7] at H
        have c7b0 : (a0 == 4) = false := beq_eq_false_iff_ne.mpr c7
        have c7b1 : (a0 != 4) = true := bne_iff_ne.mpr c7
        by_cases c9 : a0 = 5
        · rw [if_pos c9] at H
          have c9b0 : (a0 == 5) = true := beq_iff_eq.mpr c9
          have c9b1 : (a0 != 5) = false := bne_eq_false_iff_eq.mpr c9
          clear c9
          by_cases c10 : a1 ≥ 1
          · rw [if_pos c10] at H
            have c10b0 : decide (1 ≤ a1) = true := decide_eq_true c10
            clear c10
            obtain rfl := Option.some.inj H
            go_enter Try.func56, Try.ntmps56
            go_wp2
            go_ret
            exact ⟨by first | rfl | (simp; done) | (simp [*]; done), by repeat (first | exact Drawn0.refl _ | apply Drawn0.step)⟩
          · rw [if_neg c10] at H
            have c10b0 : decide (1 ≤ a1) = false := decide_eq_false c10
            clear c10
            obtain rfl := Option.some.inj H
            go_enter Try.func56, Try.ntmps56
            go_wp2
            go_ret
            exact ⟨by first | rfl | (simp; done) | (simp [*]; done), by repeat (first | exact Drawn0.refl _ | apply Drawn0.step)⟩
        · rw [if_neg c9] at H
          have c9b0 : (a0 == 5) = false := beq_eq_false_iff_ne.mpr c9
          have c9b1 : (a0 != 5) = true := bne_iff_ne.mpr c9
          obtain rfl := Option.some.inj H
          go_enter Try.func56, Try.ntmps56
          go_wp2
          go_ret
          exact ⟨by first | rfl | (simp; done) | (simp [*]; done), by repeat (first | exact Drawn0.refl _ | apply Drawn0.step)⟩

end Go.Proofs.Ytlpamhffpgoebaa.All

-- WRITTEN BY this session's own drv.py over the kit's print. Not trusted: Lean checks it.
namespace Go.Proofs.Ytlpamhffpgoebaa.All
open Go.RowKit Go.Proofs.YtlpamhffpgoebaaW.PrintWords Go.Proofs.YtlpamhffpgoebaaW.PrintLast Go.Proofs.YtlpamhffpgoebaaW.PrintMore
attribute [local go_sem] max2_int min2_int max_two min_two max_three min_three max_four min_four   -- for this text's walks alone
set_option linter.unusedVariables false
set_option linter.unusedSimpArgs false

/-! ### turnstileref1_known: function 40 -/
def turnstileref1_known.f (a0 : Int) : Option (Bool) := if a0 ≥ 1 then (some (decide (a0 ≤ 5))) else (some false)
set_option maxHeartbeats 8000000 in
set_option maxRecDepth 100000 in
theorem turnstileref1_known.calls (a0 : Int) (r : Bool) (w : World) (h : turnstileref1_known.f a0 = some r) :
    Calls Try.prog 40 #[.int .i64 a0] w fun e w' => e = .returned (.bool r) ∧ Drawn0 w w' := by
  have H : (if a0 ≥ 1 then (some (decide (a0 ≤ 5))) else (some false)) = some r := h
  clear h
  by_cases c2 : a0 ≥ 1
  · rw [if_pos c2] at H
    have c2b0 : decide (1 ≤ a0) = true := decide_eq_true c2
    clear c2
    obtain rfl := Option.some.inj H
    go_enter Try.func40, Try.ntmps40
    go_wp2
    go_ret
    exact ⟨by first | rfl | (simp; done) | (simp [*]; done), by repeat (first | exact Drawn0.refl _ | apply Drawn0.step)⟩
  · rw [if_neg c2] at H
    have c2b0 : decide (1 ≤ a0) = false := decide_eq_false c2
    clear c2
    obtain rfl := Option.some.inj H
    go_enter Try.func40, Try.ntmps40
    go_wp2
    go_ret
    exact ⟨by first | rfl | (simp; done) | (simp [*]; done), by repeat (first | exact Drawn0.refl _ | apply Drawn0.step)⟩

end Go.Proofs.Ytlpamhffpgoebaa.All

-- WRITTEN BY this session's own drv.py over the kit's print. Not trusted: Lean checks it.
namespace Go.Proofs.Ytlpamhffpgoebaa.All
open Go.RowKit Go.Proofs.YtlpamhffpgoebaaW.PrintWords Go.Proofs.YtlpamhffpgoebaaW.PrintLast Go.Proofs.YtlpamhffpgoebaaW.PrintMore
attribute [local go_sem] max2_int min2_int max_two min_two max_three min_three max_four min_four   -- for this text's walks alone
set_option linter.unusedVariables false
set_option linter.unusedSimpArgs false

/-! ### turnstileref1_Width: function 21 -/
def turnstileref1_Width.j0 : Nat → Int → Int → Bool → Option (Int)
  | 0, _, _, _ => none
  | k + 1, x0, x1, x14 => if x14 = true then (some 0) else ((turnstileref1_Packed.f x0).bind fun t111 => (if t111 = true then (some (wrap64 ((wrap64 (Int.tdiv x1 2)) + (Int.tmod x1 2)))) else (some x1)))
def turnstileref1_Width.f (k : Nat) (a0 : Int) (a1 : Int) : Option (Int) := (turnstileref1_known.f a0).bind fun t110 => (if t110 = true then (turnstileref1_Width.j0 k a0 a1 (decide (a1 < 0))) else (turnstileref1_Width.j0 k a0 a1 true))
theorem turnstileref1_Width.mono_l : ∀ k, (∀ y0 y1 y2, LeO (turnstileref1_Width.j0 k y0 y1 y2) (turnstileref1_Width.j0 (k + 1) y0 y1 y2))
  | 0 => fun _ _ _ r h => by simp [turnstileref1_Width.j0] at h
  | k + 1 => by
    have ih0 := turnstileref1_Width.mono_l k
    · intro y0 y1 y2
      unfold turnstileref1_Width.j0
      repeat' first
      | (with_reducible exact ih0 _ _ _)
      | (with_reducible exact LeO.refl _)
      | (with_reducible exact LeO.none _)
      | (with_reducible refine LeO.ite ?_ ?_)
      | (with_reducible refine LeO.bind ?_ (fun _ => ?_))
      | exact ih0 _ _ _
      | exact LeO.none _
      | refine LeO.ite ?_ ?_
      | refine LeO.bind ?_ (fun _ => ?_)
theorem turnstileref1_Width.mono : ∀ a0 a1 k, LeO (turnstileref1_Width.f k a0 a1) (turnstileref1_Width.f (k + 1) a0 a1) := by
  intro a0 a1 k
  have ih0 := turnstileref1_Width.mono_l k
  unfold turnstileref1_Width.f
  repeat' first
      | (with_reducible exact ih0 _ _ _)
      | (with_reducible exact LeO.refl _)
      | (with_reducible exact LeO.none _)
      | (with_reducible refine LeO.ite ?_ ?_)
      | (with_reducible refine LeO.bind ?_ (fun _ => ?_))
      | exact ih0 _ _ _
      | exact LeO.none _
      | refine LeO.ite ?_ ?_
      | refine LeO.bind ?_ (fun _ => ?_)
set_option maxHeartbeats 8000000 in
set_option maxRecDepth 100000 in
theorem turnstileref1_Width.calls (k : Nat) (a0 : Int) (a1 : Int) (r : Int) (w : World) (h : turnstileref1_Width.f k a0 a1 = some r) :
    Calls Try.prog 21 #[.int .i64 a0, .int .i64 a1] w fun e w' => e = .returned (.int .i64 r) ∧ Drawn0 w w' := by
  have H : ((turnstileref1_known.f a0).bind fun t110 => (if t110 = true then (turnstileref1_Width.j0 k a0 a1 (decide (a1 < 0))) else (turnstileref1_Width.j0 k a0 a1 true))) = some r := h
  clear h
  replace H := Option.bind_eq_some_iff.mp H
  obtain ⟨t110, A30, H⟩ := H
  replace H : (if t110 = true then (turnstileref1_Width.j0 k a0 a1 (decide (a1 < 0))) else (turnstileref1_Width.j0 k a0 a1 true)) = some r := H
  have A3 := Aside0.mk A30
  clear A30
  have HC4 := Aside0.mk H
  clear H
  go_enter Try.func21, Try.ntmps21
  go_upto_region 2 with (first | ((with_reducible refine gate_callee (f := 40) rfl ?_); refine goesL_ (some 8) rfl rfl Try.func40 (by kernel_rfl) rfl #[.int .i64 a0] rfl (by (try simp only [List.map_toArray, List.map_cons, List.map_nil]); first | done | rfl | (simp only [List.length_drop, List.length_take]; rfl)) ?_; (with_reducible refine (turnstileref1_known.calls a0 t110 _ A3.out).mono ?_); rintro e w' ⟨rfl, ⟨nd, rfl⟩⟩; refine ⟨_, rfl, ?_⟩))
  (try simp only [Act.put, List.setIfInBounds_toArray, List.set_cons_zero, List.set_cons_succ])
  go_cut [14] (fun v14 wc => ∃ (kq : Nat) (x14_3 : Bool), v14 = .bool x14_3 ∧ Aside0 (turnstileref1_Width.j0 kq a0 a1 x14_3 = some r) ∧ Aside0 (kq ≤ k) ∧ Drawn0 w wc)
  case first =>
    have H := HC4.out
    clear HC4
    by_cases c5 : t110 = true
    · subst c5
      have H1 : (turnstileref1_Width.j0 k a0 a1 (decide (a1 < 0))) = some r := by rw [if_pos rfl] at H; exact H
      clear H
      have H := H1
      clear H1
      have H' := Aside0.mk H
      clear H
      go_wp2
      go_meet
      case rel => exact ⟨_, (decide (a1 < 0)), (by first | rfl | (simp; done) | (simp [*]; done)), H', ⟨by first | omega | exact Nat.le_refl _⟩, by repeat (first | exact Drawn0.refl _ | apply Drawn0.step)⟩
    · replace c5 := Bool.eq_false_iff.mpr c5
      subst c5
      have H1 : (turnstileref1_Width.j0 k a0 a1 true) = some r := by rw [if_neg (show ¬ (false = true) by decide)] at H; exact H
      clear H
      have H := H1
      clear H1
      have H' := Aside0.mk H
      clear H
      go_wp2
      go_meet
      case rel => exact ⟨_, (true), (by first | rfl | (simp; done) | (simp [*]; done)), H', ⟨by first | omega | exact Nat.le_refl _⟩, by repeat (first | exact Drawn0.refl _ | apply Drawn0.step)⟩
  case rest =>
    clear HC4
    try clear c2
    try clear p2
    try clear c4
    try clear c5
    obtain ⟨kq, x14_3, rfl, HA, HJ3, ⟨mc3, rfl⟩⟩ := hcut
    cases kq with
    | zero => exact absurd HA.out (by simp [turnstileref1_Width.j0])
    | succ kj3 =>
      have H := HA.out
      clear HA
      simp only [turnstileref1_Width.j0] at H
      by_cases c6 : x14_3 = true
      · subst c6
        have H1 : (some 0) = some r := by rw [if_pos rfl] at H; exact H
        clear H
        have H := H1
        clear H1
        obtain rfl := Option.some.inj H
        go_wp2
        go_ret
        exact ⟨by first | rfl | (simp; done) | (simp [*]; done), by repeat (first | exact Drawn0.refl _ | apply Drawn0.step)⟩
      · replace c6 := Bool.eq_false_iff.mpr c6
        subst c6
        have H1 : ((turnstileref1_Packed.f a0).bind fun t111 => (if t111 = true then (some (wrap64 ((wrap64 (Int.tdiv a1 2)) + (Int.tmod a1 2)))) else (some a1))) = some r := by rw [if_neg (show ¬ (false = true) by decide)] at H; exact H
        clear H
        have H := H1
        clear H1
        replace H := Option.bind_eq_some_iff.mp H
        obtain ⟨t111, A70, H⟩ := H
        replace H : (if t111 = true then (some (wrap64 ((wrap64 (Int.tdiv a1 2)) + (Int.tmod a1 2)))) else (some a1)) = some r := H
        have A7 := Aside0.mk A70
        clear A70
        by_cases c8 : t111 = true
        · subst c8
          have H1 : (some (wrap64 ((wrap64 (Int.tdiv a1 2)) + (Int.tmod a1 2)))) = some r := by rw [if_pos rfl] at H; exact H
          clear H
          have H := H1
          clear H1
          obtain rfl := Option.some.inj H
          go_wp2_with (first | ((with_reducible refine gate_callee (f := 41) rfl ?_); refine goesL_ (some 16) rfl rfl Try.func41 (by kernel_rfl) rfl #[.int .i64 a0] rfl (by (try simp only [List.map_toArray, List.map_cons, List.map_nil]); first | done | rfl | (simp only [List.length_drop, List.length_take]; rfl)) ?_; (with_reducible refine (turnstileref1_Packed.calls a0 true _ A7.out).mono ?_); rintro e w' ⟨rfl, ⟨nd, rfl⟩⟩; refine ⟨_, rfl, ?_⟩))
          go_ret
          exact ⟨by first | rfl | (simp; done) | (simp [*]; done), by repeat (first | exact Drawn0.refl _ | apply Drawn0.step)⟩
        · replace c8 := Bool.eq_false_iff.mpr c8
          subst c8
          have H1 : (some a1) = some r := by rw [if_neg (show ¬ (false = true) by decide)] at H; exact H
          clear H
          have H := H1
          clear H1
          obtain rfl := Option.some.inj H
          go_wp2_with (first | ((with_reducible refine gate_callee (f := 41) rfl ?_); refine goesL_ (some 16) rfl rfl Try.func41 (by kernel_rfl) rfl #[.int .i64 a0] rfl (by (try simp only [List.map_toArray, List.map_cons, List.map_nil]); first | done | rfl | (simp only [List.length_drop, List.length_take]; rfl)) ?_; (with_reducible refine (turnstileref1_Packed.calls a0 false _ A7.out).mono ?_); rintro e w' ⟨rfl, ⟨nd, rfl⟩⟩; refine ⟨_, rfl, ?_⟩))
          go_ret
          exact ⟨by first | rfl | (simp; done) | (simp [*]; done), by repeat (first | exact Drawn0.refl _ | apply Drawn0.step)⟩

end Go.Proofs.Ytlpamhffpgoebaa.All

-- WRITTEN BY this session's own drv.py over the kit's print. Not trusted: Lean checks it.
namespace Go.Proofs.Ytlpamhffpgoebaa.All
open Go.RowKit Go.Proofs.YtlpamhffpgoebaaW.PrintWords Go.Proofs.YtlpamhffpgoebaaW.PrintLast Go.Proofs.YtlpamhffpgoebaaW.PrintMore
attribute [local go_sem] max2_int min2_int max_two min_two max_three min_three max_four min_four   -- for this text's walks alone
set_option linter.unusedVariables false
set_option linter.unusedSimpArgs false

/-! ### turnstileref1_LengthWidth: function 57 -/
def turnstileref1_LengthWidth.f (k : Nat) (a0 : Int) (a1 : Int) : Option (Int) := if a0 = 5 then (some (wrap64 (Int.tdiv (wrap64 (a1 + 1)) 2))) else ((turnstileref1_Width.f k a0 a1).bind fun t361 => (some t361))
theorem turnstileref1_LengthWidth.mono : ∀ a0 a1 k, LeO (turnstileref1_LengthWidth.f k a0 a1) (turnstileref1_LengthWidth.f (k + 1) a0 a1) := by
  intro a0 a1 k
  unfold turnstileref1_LengthWidth.f
  repeat' first
      | (with_reducible exact turnstileref1_Width.mono _ _ _)
      | (with_reducible exact LeO.refl _)
      | (with_reducible exact LeO.none _)
      | (with_reducible refine LeO.ite ?_ ?_)
      | (with_reducible refine LeO.bind ?_ (fun _ => ?_))
      | exact turnstileref1_Width.mono _ _ _
      | exact LeO.none _
      | refine LeO.ite ?_ ?_
      | refine LeO.bind ?_ (fun _ => ?_)
set_option maxHeartbeats 8000000 in
set_option maxRecDepth 100000 in
theorem turnstileref1_LengthWidth.calls (k : Nat) (a0 : Int) (a1 : Int) (r : Int) (w : World) (h : turnstileref1_LengthWidth.f k a0 a1 = some r) :
    Calls Try.prog 57 #[.int .i64 a0, .int .i64 a1] w fun e w' => e = .returned (.int .i64 r) ∧ Drawn0 w w' := by
  have H : (if a0 = 5 then (some (wrap64 (Int.tdiv (wrap64 (a1 + 1)) 2))) else ((turnstileref1_Width.f k a0 a1).bind fun t361 => (some t361))) = some r := h
  clear h
  by_cases c3 : a0 = 5
  · rw [if_pos c3] at H
    have c3b0 : (a0 == 5) = true := beq_iff_eq.mpr c3
    have c3b1 : (a0 != 5) = false := bne_eq_false_iff_eq.mpr c3
    clear c3
    obtain rfl := Option.some.inj H
    go_enter Try.func57, Try.ntmps57
    go_wp2
    go_ret
    exact ⟨by first | rfl | (simp; done) | (simp [*]; done), by repeat (first | exact Drawn0.refl _ | apply Drawn0.step)⟩
  · rw [if_neg c3] at H
    have c3b0 : (a0 == 5) = false := beq_eq_false_iff_ne.mpr c3
    have c3b1 : (a0 != 5) = true := bne_iff_ne.mpr c3
    replace H := Option.bind_eq_some_iff.mp H
    obtain ⟨t361, A40, H⟩ := H
    replace H : (some t361) = some r := H
    have A4 := Aside0.mk A40
    clear A40
    obtain rfl := Option.some.inj H
    go_enter Try.func57, Try.ntmps57
    go_wp2_with (first | ((with_reducible refine gate_callee (f := 21) rfl ?_); refine goesL_ (some 12) rfl rfl Try.func21 (by kernel_rfl) rfl #[.int .i64 a0, .int .i64 a1] rfl (by (try simp only [List.map_toArray, List.map_cons, List.map_nil]); first | done | rfl | (simp only [List.length_drop, List.length_take]; rfl)) ?_; (with_reducible refine (turnstileref1_Width.calls k a0 a1 t361 _ A4.out).mono ?_); rintro e w' ⟨rfl, ⟨nd, rfl⟩⟩; refine ⟨_, rfl, ?_⟩))
    go_ret
    exact ⟨by first | rfl | (simp; done) | (simp [*]; done), by repeat (first | exact Drawn0.refl _ | apply Drawn0.step)⟩

end Go.Proofs.Ytlpamhffpgoebaa.All

-- WRITTEN BY this session's own drv.py over the kit's print. Not trusted: Lean checks it.
namespace Go.Proofs.Ytlpamhffpgoebaa.All
open Go.RowKit Go.Proofs.YtlpamhffpgoebaaW.PrintWords Go.Proofs.YtlpamhffpgoebaaW.PrintLast Go.Proofs.YtlpamhffpgoebaaW.PrintMore
attribute [local go_sem] max2_int min2_int max_two min_two max_three min_three max_four min_four   -- for this text's walks alone
set_option linter.unusedVariables false
set_option linter.unusedSimpArgs false

/-! ### turnstileref1_Length: function 36 -/
mutual
def turnstileref1_Length.l0 : Nat → Int → ByteArray → Int → Int → Int → Option (Int × Int × Int)
  | 0, _, _, _, _, _ => none
  | k + 1, x1, x2, x10, x11, x12 => if x12 < x10 then (if 0 ≤ x12 then (if x12 < (x2.size : Int) then (turnstileref1_Length.l0 k x1 x2 x10 (wrap64 ((wrap64 (256 * x11)) + (wrap64 (bt x2 x12)))) (wrap64 (x12 + 1))) else (none)) else (none)) else ((turnstileref1_power.f k x1).bind fun t364 => (if x11 ≥ t364 then (some (0, 13, 0)) else (some (x11, 0, x10))))
def turnstileref1_Length.l1 : Nat → Int → Int → ByteArray → Int → Int → Int → Option (Int × Int × Int)
  | 0, _, _, _, _, _, _ => none
  | k + 1, x0, x1, x2, x10, x13, x14 => if x14 < x10 then (if 0 ≤ x14 then (if x14 < (x2.size : Int) then ((turnstileref1_Byte.f k x0 (bt x2 x14) x14 x1).bind fun bt365 => (if bt365.2 = 11 then (some (0, 11, x14)) else (turnstileref1_Length.l2 k x0 x1 x2 x10 x13 x14 bt365.1 bt365.2 0))) else (none)) else (none)) else (some (x13, 0, x10))
def turnstileref1_Length.l2 : Nat → Int → Int → ByteArray → Int → Int → Int → ByteArray → Int → Int → Option (Int × Int × Int)
  | 0, _, _, _, _, _, _, _, _, _ => none
  | k + 1, x0, x1, x2, x10, x13, x14, x15, x16, x17 => if x17 < (x15.size : Int) then (if 0 ≤ x17 then ((turnstileref1_digit.f (bt x15 x17)).bind fun t367 => (if t367 = true then (turnstileref1_Length.l2 k x0 x1 x2 x10 (wrap64 ((wrap64 (10 * x13)) + (((bt x15 x17) - 48) % 256))) x14 x15 x16 (wrap64 (x17 + 1))) else (some (0, 11, x14)))) else (none)) else (if x16 = 0 then (turnstileref1_Length.l1 k x0 x1 x2 x10 x13 (wrap64 (x14 + 1))) else (some (0, x16, x14)))
end
def turnstileref1_Length.f (k : Nat) (a0 : Int) (a1 : Int) (a2 : ByteArray) : Option (Int × Int × Int) := (turnstileref1_length.f a0 a1).bind fun t362 => (if t362 = true then ((turnstileref1_LengthWidth.f k a0 a1).bind fun t363 => (if (a2.size : Int) < t363 then (some (0, 10, (a2.size : Int))) else (if a0 = 5 then (turnstileref1_Length.l0 k a1 a2 t363 0 0) else (turnstileref1_Length.l1 k a0 a1 a2 t363 0 0)))) else (some (0, 1, 0)))
theorem turnstileref1_Length.mono_l : ∀ k, (∀ y0 y1 y2 y3 y4, LeO (turnstileref1_Length.l0 k y0 y1 y2 y3 y4) (turnstileref1_Length.l0 (k + 1) y0 y1 y2 y3 y4)) ∧ (∀ y0 y1 y2 y3 y4 y5, LeO (turnstileref1_Length.l1 k y0 y1 y2 y3 y4 y5) (turnstileref1_Length.l1 (k + 1) y0 y1 y2 y3 y4 y5)) ∧ (∀ y0 y1 y2 y3 y4 y5 y6 y7 y8, LeO (turnstileref1_Length.l2 k y0 y1 y2 y3 y4 y5 y6 y7 y8) (turnstileref1_Length.l2 (k + 1) y0 y1 y2 y3 y4 y5 y6 y7 y8))
  | 0 => ⟨fun _ _ _ _ _ r h => by simp [turnstileref1_Length.l0] at h, fun _ _ _ _ _ _ r h => by simp [turnstileref1_Length.l1] at h, fun _ _ _ _ _ _ _ _ _ r h => by simp [turnstileref1_Length.l2] at h⟩
  | k + 1 => by
    obtain ⟨ih0, ih1, ih2⟩ := turnstileref1_Length.mono_l k
    refine ⟨?_, ?_, ?_⟩
    · intro y0 y1 y2 y3 y4
      unfold turnstileref1_Length.l0
      repeat' first
      | (with_reducible exact ih0 _ _ _ _ _)
      | (with_reducible exact ih1 _ _ _ _ _ _)
      | (with_reducible exact ih2 _ _ _ _ _ _ _ _ _)
      | (with_reducible exact turnstileref1_Byte.mono _ _ _ _ _)
      | (with_reducible exact turnstileref1_LengthWidth.mono _ _ _)
      | (with_reducible exact turnstileref1_power.mono _ _)
      | (with_reducible exact LeO.refl _)
      | (with_reducible exact LeO.none _)
      | (with_reducible refine LeO.ite ?_ ?_)
      | (with_reducible refine LeO.bind ?_ (fun _ => ?_))
      | exact ih0 _ _ _ _ _
      | exact ih1 _ _ _ _ _ _
      | exact ih2 _ _ _ _ _ _ _ _ _
      | exact turnstileref1_Byte.mono _ _ _ _ _
      | exact turnstileref1_LengthWidth.mono _ _ _
      | exact turnstileref1_power.mono _ _
      | exact LeO.none _
      | refine LeO.ite ?_ ?_
      | refine LeO.bind ?_ (fun _ => ?_)
    · intro y0 y1 y2 y3 y4 y5
      unfold turnstileref1_Length.l1
      repeat' first
      | (with_reducible exact ih0 _ _ _ _ _)
      | (with_reducible exact ih1 _ _ _ _ _ _)
      | (with_reducible exact ih2 _ _ _ _ _ _ _ _ _)
      | (with_reducible exact turnstileref1_Byte.mono _ _ _ _ _)
      | (with_reducible exact turnstileref1_LengthWidth.mono _ _ _)
      | (with_reducible exact turnstileref1_power.mono _ _)
      | (with_reducible exact LeO.refl _)
      | (with_reducible exact LeO.none _)
      | (with_reducible refine LeO.ite ?_ ?_)
      | (with_reducible refine LeO.bind ?_ (fun _ => ?_))
      | exact ih0 _ _ _ _ _
      | exact ih1 _ _ _ _ _ _
      | exact ih2 _ _ _ _ _ _ _ _ _
      | exact turnstileref1_Byte.mono _ _ _ _ _
      | exact turnstileref1_LengthWidth.mono _ _ _
      | exact turnstileref1_power.mono _ _
      | exact LeO.none _
      | refine LeO.ite ?_ ?_
      | refine LeO.bind ?_ (fun _ => ?_)
    · intro y0 y1 y2 y3 y4 y5 y6 y7 y8
      unfold turnstileref1_Length.l2
      repeat' first
      | (with_reducible exact ih0 _ _ _ _ _)
      | (with_reducible exact ih1 _ _ _ _ _ _)
      | (with_reducible exact ih2 _ _ _ _ _ _ _ _ _)
      | (with_reducible exact turnstileref1_Byte.mono _ _ _ _ _)
      | (with_reducible exact turnstileref1_LengthWidth.mono _ _ _)
      | (with_reducible exact turnstileref1_power.mono _ _)
      | (with_reducible exact LeO.refl _)
      | (with_reducible exact LeO.none _)
      | (with_reducible refine LeO.ite ?_ ?_)
      | (with_reducible refine LeO.bind ?_ (fun _ => ?_))
      | exact ih0 _ _ _ _ _
      | exact ih1 _ _ _ _ _ _
      | exact ih2 _ _ _ _ _ _ _ _ _
      | exact turnstileref1_Byte.mono _ _ _ _ _
      | exact turnstileref1_LengthWidth.mono _ _ _
      | exact turnstileref1_power.mono _ _
      | exact LeO.none _
      | refine LeO.ite ?_ ?_
      | refine LeO.bind ?_ (fun _ => ?_)
theorem turnstileref1_Length.mono : ∀ a0 a1 a2 k, LeO (turnstileref1_Length.f k a0 a1 a2) (turnstileref1_Length.f (k + 1) a0 a1 a2) := by
  intro a0 a1 a2 k
  obtain ⟨ih0, ih1, ih2⟩ := turnstileref1_Length.mono_l k
  unfold turnstileref1_Length.f
  repeat' first
      | (with_reducible exact ih0 _ _ _ _ _)
      | (with_reducible exact ih1 _ _ _ _ _ _)
      | (with_reducible exact ih2 _ _ _ _ _ _ _ _ _)
      | (with_reducible exact turnstileref1_Byte.mono _ _ _ _ _)
      | (with_reducible exact turnstileref1_LengthWidth.mono _ _ _)
      | (with_reducible exact turnstileref1_power.mono _ _)
      | (with_reducible exact LeO.refl _)
      | (with_reducible exact LeO.none _)
      | (with_reducible refine LeO.ite ?_ ?_)
      | (with_reducible refine LeO.bind ?_ (fun _ => ?_))
      | exact ih0 _ _ _ _ _
      | exact ih1 _ _ _ _ _ _
      | exact ih2 _ _ _ _ _ _ _ _ _
      | exact turnstileref1_Byte.mono _ _ _ _ _
      | exact turnstileref1_LengthWidth.mono _ _ _
      | exact turnstileref1_power.mono _ _
      | exact LeO.none _
      | refine LeO.ite ?_ ?_
      | refine LeO.bind ?_ (fun _ => ?_)
set_option maxHeartbeats 8000000 in
set_option maxRecDepth 100000 in
theorem turnstileref1_Length.calls (k : Nat) (a0 : Int) (a1 : Int) (a2 : ByteArray) (r1 : Int) (r2 : Int) (r3 : Int) (w : World) (h : turnstileref1_Length.f k a0 a1 a2 = some (r1, r2, r3)) :
    Calls Try.prog 36 #[.int .i64 a0, .int .i64 a1, .string a2] w fun e w' => e = .returned (.tuple #[.int .i64 r1, .int .i64 r2, .int .i64 r3]) ∧ Below w.heap.size w w' := by
  have HB := Aside0.mk (Below.refl w.heap.size w)
  have H : ((turnstileref1_length.f a0 a1).bind fun t362 => (if t362 = true then ((turnstileref1_LengthWidth.f k a0 a1).bind fun t363 => (if (a2.size : Int) < t363 then (some (0, 10, (a2.size : Int))) else (if a0 = 5 then (turnstileref1_Length.l0 k a1 a2 t363 0 0) else (turnstileref1_Length.l1 k a0 a1 a2 t363 0 0)))) else (some (0, 1, 0)))) = some (r1, r2, r3) := h
  clear h
  replace H := Option.bind_eq_some_iff.mp H
  obtain ⟨t362, A40, H⟩ := H
  replace H : (if t362 = true then ((turnstileref1_LengthWidth.f k a0 a1).bind fun t363 => (if (a2.size : Int) < t363 then (some (0, 10, (a2.size : Int))) else (if a0 = 5 then (turnstileref1_Length.l0 k a1 a2 t363 0 0) else (turnstileref1_Length.l1 k a0 a1 a2 t363 0 0)))) else (some (0, 1, 0))) = some (r1, r2, r3) := H
  have A4 := Aside0.mk A40
  clear A40
  by_cases c5 : t362 = true
  · subst c5
    have H1 : ((turnstileref1_LengthWidth.f k a0 a1).bind fun t363 => (if (a2.size : Int) < t363 then (some (0, 10, (a2.size : Int))) else (if a0 = 5 then (turnstileref1_Length.l0 k a1 a2 t363 0 0) else (turnstileref1_Length.l1 k a0 a1 a2 t363 0 0)))) = some (r1, r2, r3) := by rw [if_pos rfl] at H; exact H
    clear H
    have H := H1
    clear H1
    replace H := Option.bind_eq_some_iff.mp H
    obtain ⟨t363, A60, H⟩ := H
    replace H : (if (a2.size : Int) < t363 then (some (0, 10, (a2.size : Int))) else (if a0 = 5 then (turnstileref1_Length.l0 k a1 a2 t363 0 0) else (turnstileref1_Length.l1 k a0 a1 a2 t363 0 0))) = some (r1, r2, r3) := H
    have A6 := Aside0.mk A60
    clear A60
    by_cases c7 : (a2.size : Int) < t363
    · rw [if_pos c7] at H
      have c7b0 : decide ((a2.size : Int) < t363) = true := decide_eq_true c7
      clear c7
      simp only [Option.some.injEq, Prod.mk.injEq] at H
      obtain ⟨rfl, rfl, rfl⟩ := H
      go_enter Try.func36, Try.ntmps36
      go_wp2_with (first | ((with_reducible refine gate_callee (f := 56) rfl ?_); refine goesL_ (some 21) rfl rfl Try.func56 (by kernel_rfl) rfl #[.int .i64 a0, .int .i64 a1] rfl (by (try simp only [List.map_toArray, List.map_cons, List.map_nil]); first | done | rfl | (simp only [List.length_drop, List.length_take]; rfl)) ?_; (with_reducible refine (turnstileref1_length.calls a0 a1 true _ A4.out).mono ?_); rintro e w' ⟨rfl, ⟨nd, rfl⟩⟩; refine ⟨_, rfl, ?_⟩) | ((with_reducible refine gate_callee (f := 57) rfl ?_); refine goesL_ (some 26) rfl rfl Try.func57 (by kernel_rfl) rfl #[.int .i64 a0, .int .i64 a1] rfl (by (try simp only [List.map_toArray, List.map_cons, List.map_nil]); first | done | rfl | (simp only [List.length_drop, List.length_take]; rfl)) ?_; (with_reducible refine (turnstileref1_LengthWidth.calls k a0 a1 t363 _ A6.out).mono ?_); rintro e w' ⟨rfl, ⟨nd, rfl⟩⟩; refine ⟨_, rfl, ?_⟩))
      go_ret3
      exact ⟨by first | rfl | (simp [errW_none, errW_some] <;> rfl) | (simp [*, errW_none, errW_some] <;> rfl), by repeat (first | (with_reducible first | exact HB.out | apply below_alloc | apply pw_below_drewN | apply below_drew1) | exact HB.out)⟩
    · rw [if_neg c7] at H
      have c7b0 : decide ((a2.size : Int) < t363) = false := decide_eq_false c7
      clear c7
      by_cases c8 : a0 = 5
      · rw [if_pos c8] at H
        have c8b0 : (a0 == 5) = true := beq_iff_eq.mpr c8
        have c8b1 : (a0 != 5) = false := bne_eq_false_iff_eq.mpr c8
        clear c8
        have H' := Aside0.mk H
        clear H
        go_enter Try.func36, Try.ntmps36
        go_wp2_with (first | ((with_reducible refine gate_callee (f := 56) rfl ?_); refine goesL_ (some 21) rfl rfl Try.func56 (by kernel_rfl) rfl #[.int .i64 a0, .int .i64 a1] rfl (by (try simp only [List.map_toArray, List.map_cons, List.map_nil]); first | done | rfl | (simp only [List.length_drop, List.length_take]; rfl)) ?_; (with_reducible refine (turnstileref1_length.calls a0 a1 true _ A4.out).mono ?_); rintro e w' ⟨rfl, ⟨nd, rfl⟩⟩; refine ⟨_, rfl, ?_⟩) | ((with_reducible refine gate_callee (f := 57) rfl ?_); refine goesL_ (some 26) rfl rfl Try.func57 (by kernel_rfl) rfl #[.int .i64 a0, .int .i64 a1] rfl (by (try simp only [List.map_toArray, List.map_cons, List.map_nil]); first | done | rfl | (simp only [List.length_drop, List.length_take]; rfl)) ?_; (with_reducible refine (turnstileref1_LengthWidth.calls k a0 a1 t363 _ A6.out).mono ?_); rintro e w' ⟨rfl, ⟨nd, rfl⟩⟩; refine ⟨_, rfl, ?_⟩))
        go_loopg [11, 12] k (fun kq v11 v12 w' => ∃ (x11_1 : Int) (x12_1 : Int), v11 = .int .i64 x11_1 ∧ v12 = .int .i64 x12_1 ∧ Aside0 (turnstileref1_Length.l0 kq a1 a2 t363 x11_1 x12_1 = some (r1, r2, r3)) ∧ Aside0 (kq ≤ k) ∧ Aside0 (Below w.heap.size w w'))
        case atStart => exact ⟨(0), (0), (by first | rfl | (simp; done) | (simp [*]; done)), (by first | rfl | (simp; done) | (simp [*]; done)), H', ⟨Nat.le_refl _⟩, ⟨by repeat (first | (with_reducible first | exact HB.out | apply below_alloc | apply pw_below_drewN | apply below_drew1) | exact HB.out)⟩⟩
        case round =>
          clear H'
          try clear p2
          try clear c3
          try clear c5
          try clear c7
          try clear c7b0
          try clear c8
          try clear c8b0
          try clear c8b1
          obtain ⟨x11_1, x12_1, rfl, rfl, HA, HK1, HB⟩ := hrel
          cases gk with
          | zero => exact absurd HA.out (by simp [turnstileref1_Length.l0])
          | succ k1 =>
            have H := HA.out
            clear HA
            simp only [turnstileref1_Length.l0] at H
            by_cases c9 : x12_1 < t363
            · rw [if_pos c9] at H
              have c9b0 : decide (x12_1 < t363) = true := decide_eq_true c9
              clear c9
              by_cases c10 : 0 ≤ x12_1
              · rw [if_pos c10] at H
                have c10b0 : decide (0 ≤ x12_1) = true := decide_eq_true c10
                clear c10
                by_cases c11 : x12_1 < (a2.size : Int)
                · rw [if_pos c11] at H
                  have c11b0 : decide (x12_1 < (a2.size : Int)) = true := decide_eq_true c11
                  clear c11
                  have H' := Aside0.mk H
                  clear H
                  have p12 : 0 ≤ (x12_1 : Int) := of_decide_eq_true (by first | (with_reducible assumption) | assumption)
                  have q12 : x12_1 < (a2.size : Int) := of_decide_eq_true (by first | (with_reducible assumption) | assumption)
                  have hx12 := bt_at a2 x12_1
                  replace p12 := eq_true p12
                  replace q12 := eq_true q12
                  go_wp2
                  go_roundg k1
                  case measure => have := HK1.out; omega
                  case rel => exact ⟨(wrap64 ((wrap64 (256 * x11_1)) + (wrap64 (bt a2 x12_1)))), (wrap64 (x12_1 + 1)), (by first | rfl | (simp; done) | (simp [*]; done)), (by first | rfl | (simp; done) | (simp [*]; done)), H', ⟨by have := HK1.out; omega⟩, ⟨by repeat (first | (with_reducible first | exact HB.out | apply below_alloc | apply pw_below_drewN | apply below_drew1) | exact HB.out)⟩⟩
                · rw [if_neg c11] at H
                  exact absurd H (by simp)
              · rw [if_neg c10] at H
                exact absurd H (by simp)
            · rw [if_neg c9] at H
              have c9b0 : decide (x12_1 < t363) = false := decide_eq_false c9
              clear c9
              replace H := Option.bind_eq_some_iff.mp H
              obtain ⟨t364, A130, H⟩ := H
              replace H : (if x11_1 ≥ t364 then (some (0, 13, 0)) else (some (x11_1, 0, t363))) = some (r1, r2, r3) := H
              have A13 := Aside0.mk A130
              clear A130
              by_cases c14 : x11_1 ≥ t364
              · rw [if_pos c14] at H
                have c14b0 : decide (t364 ≤ x11_1) = true := decide_eq_true c14
                clear c14
                simp only [Option.some.injEq, Prod.mk.injEq] at H
                obtain ⟨rfl, rfl, rfl⟩ := H
                go_wp2_with (first | ((with_reducible refine gate_callee (f := 43) rfl ?_); refine goesL_ (some 49) rfl rfl Try.func43 (by kernel_rfl) rfl #[.int .i64 a1] rfl (by (try simp only [List.map_toArray, List.map_cons, List.map_nil]); first | done | rfl | (simp only [List.length_drop, List.length_take]; rfl)) ?_; (with_reducible refine (turnstileref1_power.calls k1 a1 t364 _ A13.out).mono ?_); rintro e w' ⟨rfl, ⟨nd, rfl⟩⟩; refine ⟨_, rfl, ?_⟩))
                go_ret3
                exact ⟨by first | rfl | (simp [errW_none, errW_some] <;> rfl) | (simp [*, errW_none, errW_some] <;> rfl), by repeat (first | (with_reducible first | exact HB.out | apply below_alloc | apply pw_below_drewN | apply below_drew1) | exact HB.out)⟩
              · rw [if_neg c14] at H
                have c14b0 : decide (t364 ≤ x11_1) = false := decide_eq_false c14
                clear c14
                simp only [Option.some.injEq, Prod.mk.injEq] at H
                obtain ⟨rfl, rfl, rfl⟩ := H
                go_wp2_with (first | ((with_reducible refine gate_callee (f := 43) rfl ?_); refine goesL_ (some 49) rfl rfl Try.func43 (by kernel_rfl) rfl #[.int .i64 a1] rfl (by (try simp only [List.map_toArray, List.map_cons, List.map_nil]); first | done | rfl | (simp only [List.length_drop, List.length_take]; rfl)) ?_; (with_reducible refine (turnstileref1_power.calls k1 a1 t364 _ A13.out).mono ?_); rintro e w' ⟨rfl, ⟨nd, rfl⟩⟩; refine ⟨_, rfl, ?_⟩))
                go_ret3
                exact ⟨by first | rfl | (simp [errW_none, errW_some] <;> rfl) | (simp [*, errW_none, errW_some] <;> rfl), by repeat (first | (with_reducible first | exact HB.out | apply below_alloc | apply pw_below_drewN | apply below_drew1) | exact HB.out)⟩
      · rw [if_neg c8] at H
        have c8b0 : (a0 == 5) = false := beq_eq_false_iff_ne.mpr c8
        have c8b1 : (a0 != 5) = true := bne_iff_ne.mpr c8
        have H' := Aside0.mk H
        clear H
        go_enter Try.func36, Try.ntmps36
        go_wp2_with (first | ((with_reducible refine gate_callee (f := 56) rfl ?_); refine goesL_ (some 21) rfl rfl Try.func56 (by kernel_rfl) rfl #[.int .i64 a0, .int .i64 a1] rfl (by (try simp only [List.map_toArray, List.map_cons, List.map_nil]); first | done | rfl | (simp only [List.length_drop, List.length_take]; rfl)) ?_; (with_reducible refine (turnstileref1_length.calls a0 a1 true _ A4.out).mono ?_); rintro e w' ⟨rfl, ⟨nd, rfl⟩⟩; refine ⟨_, rfl, ?_⟩) | ((with_reducible refine gate_callee (f := 57) rfl ?_); refine goesL_ (some 26) rfl rfl Try.func57 (by kernel_rfl) rfl #[.int .i64 a0, .int .i64 a1] rfl (by (try simp only [List.map_toArray, List.map_cons, List.map_nil]); first | done | rfl | (simp only [List.length_drop, List.length_take]; rfl)) ?_; (with_reducible refine (turnstileref1_LengthWidth.calls k a0 a1 t363 _ A6.out).mono ?_); rintro e w' ⟨rfl, ⟨nd, rfl⟩⟩; refine ⟨_, rfl, ?_⟩))
        go_loopg [13, 14] k (fun kq v13 v14 w' => ∃ (x13_1 : Int) (x14_1 : Int), v13 = .int .i64 x13_1 ∧ v14 = .int .i64 x14_1 ∧ Aside0 (turnstileref1_Length.l1 kq a0 a1 a2 t363 x13_1 x14_1 = some (r1, r2, r3)) ∧ Aside0 (kq ≤ k) ∧ Aside0 (Below w.heap.size w w'))
        case atStart => exact ⟨(0), (0), (by first | rfl | (simp; done) | (simp [*]; done)), (by first | rfl | (simp; done) | (simp [*]; done)), H', ⟨Nat.le_refl _⟩, ⟨by repeat (first | (with_reducible first | exact HB.out | apply below_alloc | apply pw_below_drewN | apply below_drew1) | exact HB.out)⟩⟩
        case round =>
          clear H'
          try clear c1
          try clear p1
          try clear q1
          try clear hx1
          try clear p2
          try clear c3
          try clear c4
          try clear c5
          try clear p6
          try clear c7
          try clear c7b0
          try clear c8
          try clear c8b0
          try clear c8b1
          try clear c9
          try clear c9b0
          try clear c10
          try clear c10b0
          try clear c11
          try clear c11b0
          try clear p12
          try clear q12
          try clear hx12
          try clear c14
          try clear c14b0
          try clear p12
          try clear p2
          try clear q12
          obtain ⟨x13_1, x14_1, rfl, rfl, HA, HK1, HB⟩ := hrel
          cases gk with
          | zero => exact absurd HA.out (by simp [turnstileref1_Length.l1])
          | succ k1 =>
            have H := HA.out
            clear HA
            simp only [turnstileref1_Length.l1] at H
            by_cases c15 : x14_1 < t363
            · rw [if_pos c15] at H
              have c15b0 : decide (x14_1 < t363) = true := decide_eq_true c15
              clear c15
              by_cases c16 : 0 ≤ x14_1
              · rw [if_pos c16] at H
                have c16b0 : decide (0 ≤ x14_1) = true := decide_eq_true c16
                clear c16
                by_cases c17 : x14_1 < (a2.size : Int)
                · rw [if_pos c17] at H
                  have c17b0 : decide (x14_1 < (a2.size : Int)) = true := decide_eq_true c17
                  clear c17
                  replace H := Option.bind_eq_some_iff.mp H
                  obtain ⟨⟨t365, t366⟩, A190, H⟩ := H
                  replace H : (if t366 = 11 then (some (0, 11, x14_1)) else (turnstileref1_Length.l2 k1 a0 a1 a2 t363 x13_1 x14_1 t365 t366 0)) = some (r1, r2, r3) := H
                  have A19 := Aside0.mk A190
                  clear A190
                  by_cases c20 : t366 = 11
                  · rw [if_pos c20] at H
                    have c20b0 : (t366 == 11) = true := beq_iff_eq.mpr c20
                    have c20b1 : (t366 != 11) = false := bne_eq_false_iff_eq.mpr c20
                    clear c20
                    simp only [Option.some.injEq, Prod.mk.injEq] at H
                    obtain ⟨rfl, rfl, rfl⟩ := H
                    have p18 : 0 ≤ (x14_1 : Int) := of_decide_eq_true (by first | (with_reducible assumption) | assumption)
                    have q18 : x14_1 < (a2.size : Int) := of_decide_eq_true (by first | (with_reducible assumption) | assumption)
                    have hx18 := bt_at a2 x14_1
                    replace p18 := eq_true p18
                    replace q18 := eq_true q18
                    go_wp2_with (first | ((with_reducible refine gate_callee (f := 55) rfl ?_); refine goesL_ (some 65) rfl rfl Try.func55 (by kernel_rfl) rfl #[.int .i64 a0, .int .u8 (bt a2 x14_1), .int .i64 x14_1, .int .i64 a1] rfl (by (try simp only [List.map_toArray, List.map_cons, List.map_nil]); first | done | rfl | (simp only [List.length_drop, List.length_take]; rfl)) ?_; (with_reducible refine (turnstileref1_Byte.calls k1 a0 (bt a2 x14_1) x14_1 a1 t365 t366 _ A19.out).mono ?_); rintro e w21 ⟨rfl, hb⟩; refine ⟨_, rfl, ?_⟩; have n0_ := Aside0.mk (below_step (by repeat (first | (with_reducible first | exact HB.out | apply below_alloc | apply pw_below_drewN | apply below_drew1) | exact HB.out)) hb); clear HB; have HB := n0_; clear n0_; (try clear hb); (try clear hb2); (try clear hk); (try clear hi)))
                    go_ret3
                    exact ⟨by first | rfl | (simp [errW_none, errW_some] <;> rfl) | (simp [*, errW_none, errW_some] <;> rfl), by repeat (first | (with_reducible first | exact HB.out | apply below_alloc | apply pw_below_drewN | apply below_drew1) | exact HB.out)⟩
                  · rw [if_neg c20] at H
                    have c20b0 : (t366 == 11) = false := beq_eq_false_iff_ne.mpr c20
                    have c20b1 : (t366 != 11) = true := bne_iff_ne.mpr c20
                    have H' := Aside0.mk H
                    clear H
                    have p18 : 0 ≤ (x14_1 : Int) := of_decide_eq_true (by first | (with_reducible assumption) | assumption)
                    have q18 : x14_1 < (a2.size : Int) := of_decide_eq_true (by first | (with_reducible assumption) | assumption)
                    have hx18 := bt_at a2 x14_1
                    replace p18 := eq_true p18
                    replace q18 := eq_true q18
                    go_wp2_with (first | ((with_reducible refine gate_callee (f := 55) rfl ?_); refine goesL_ (some 65) rfl rfl Try.func55 (by kernel_rfl) rfl #[.int .i64 a0, .int .u8 (bt a2 x14_1), .int .i64 x14_1, .int .i64 a1] rfl (by (try simp only [List.map_toArray, List.map_cons, List.map_nil]); first | done | rfl | (simp only [List.length_drop, List.length_take]; rfl)) ?_; (with_reducible refine (turnstileref1_Byte.calls k1 a0 (bt a2 x14_1) x14_1 a1 t365 t366 _ A19.out).mono ?_); rintro e w22 ⟨rfl, hb⟩; refine ⟨_, rfl, ?_⟩; have n0_ := Aside0.mk (below_step (by repeat (first | (with_reducible first | exact HB.out | apply below_alloc | apply pw_below_drewN | apply below_drew1) | exact HB.out)) hb); clear HB; have HB := n0_; clear n0_; (try clear hb); (try clear hb2); (try clear hk); (try clear hi)))
                    go_loopg [13, 17] k1 (fun kq v13 v17 w' => ∃ (x13_2 : Int) (x17_2 : Int), v13 = .int .i64 x13_2 ∧ v17 = .int .i64 x17_2 ∧ Aside0 (turnstileref1_Length.l2 kq a0 a1 a2 t363 x13_2 x14_1 t365 t366 x17_2 = some (r1, r2, r3)) ∧ Aside0 (kq ≤ k1) ∧ Aside0 (Below w.heap.size w w'))
                    case atStart => exact ⟨(x13_1), (0), (by first | rfl | (simp; done) | (simp [*]; done)), (by first | rfl | (simp; done) | (simp [*]; done)), H', ⟨Nat.le_refl _⟩, ⟨by repeat (first | (with_reducible first | exact HB.out | apply below_alloc | apply pw_below_drewN | apply below_drew1) | exact HB.out)⟩⟩
                    case round =>
                      clear H'
                      try clear c1
                      try clear p1
                      try clear q1
                      try clear hx1
                      try clear c2
                      try clear p2
                      try clear c3
                      try clear c4
                      try clear c5
                      try clear p6
                      try clear c7
                      try clear c7b0
                      try clear c8
                      try clear c8b0
                      try clear c8b1
                      try clear c9
                      try clear c9b0
                      try clear c10
                      try clear c10b0
                      try clear c11
                      try clear c11b0
                      try clear p12
                      try clear q12
                      try clear hx12
                      try clear c14
                      try clear c14b0
                      try clear c15
                      try clear c15b0
                      try clear c16
                      try clear c16b0
                      try clear c17
                      try clear c17b0
                      try clear p18
                      try clear q18
                      try clear hx18
                      try clear c20
                      try clear c20b0
                      try clear c20b1
                      try clear p1
                      try clear p12
                      try clear p18
                      try clear p2
                      try clear p6
                      try clear q1
                      try clear q12
                      try clear q18
                      obtain ⟨x13_2, x17_2, rfl, rfl, HA, HK2, HB⟩ := hrel
                      cases gk with
                      | zero => exact absurd HA.out (by simp [turnstileref1_Length.l2])
                      | succ k2 =>
                        have H := HA.out
                        clear HA
                        simp only [turnstileref1_Length.l2] at H
                        by_cases c23 : x17_2 < (t365.size : Int)
                        · rw [if_pos c23] at H
                          have c23b0 : decide (x17_2 < (t365.size : Int)) = true := decide_eq_true c23
                          clear c23
                          by_cases c24 : 0 ≤ x17_2
                          · rw [if_pos c24] at H
                            have c24b0 : decide (0 ≤ x17_2) = true := decide_eq_true c24
                            clear c24
                            replace H := Option.bind_eq_some_iff.mp H
                            obtain ⟨t367, A260, H⟩ := H
                            replace H : (if t367 = true then (turnstileref1_Length.l2 k2 a0 a1 a2 t363 (wrap64 ((wrap64 (10 * x13_2)) + (((bt t365 x17_2) - 48) % 256))) x14_1 t365 t366 (wrap64 (x17_2 + 1))) else (some (0, 11, x14_1))) = some (r1, r2, r3) := H
                            have A26 := Aside0.mk A260
                            clear A260
                            by_cases c27 : t367 = true
                            · subst c27
                              have H1 : (turnstileref1_Length.l2 k2 a0 a1 a2 t363 (wrap64 ((wrap64 (10 * x13_2)) + (((bt t365 x17_2) - 48) % 256))) x14_1 t365 t366 (wrap64 (x17_2 + 1))) = some (r1, r2, r3) := by rw [if_pos rfl] at H; exact H
                              clear H
                              have H := H1
                              clear H1
                              have H' := Aside0.mk H
                              clear H
                              have p25 : 0 ≤ (x17_2 : Int) := of_decide_eq_true (by first | (with_reducible assumption) | assumption)
                              have q25 : x17_2 < (t365.size : Int) := of_decide_eq_true (by first | (with_reducible assumption) | assumption)
                              have hx25 := bt_at t365 x17_2
                              replace p25 := eq_true p25
                              replace q25 := eq_true q25
                              go_wp2_with (first | ((with_reducible refine gate_callee (f := 42) rfl ?_); refine goesL_ (some 80) rfl rfl Try.func42 (by kernel_rfl) rfl #[.int .u8 (bt t365 x17_2)] rfl (by (try simp only [List.map_toArray, List.map_cons, List.map_nil]); first | done | rfl | (simp only [List.length_drop, List.length_take]; rfl)) ?_; (with_reducible refine (turnstileref1_digit.calls (bt t365 x17_2) true _ A26.out).mono ?_); rintro e w' ⟨rfl, ⟨nd, rfl⟩⟩; refine ⟨_, rfl, ?_⟩; have p28 : 0 ≤ (x17_2 : Int) := of_decide_eq_true (by first | (with_reducible assumption) | assumption); have q28 : x17_2 < (t365.size : Int) := of_decide_eq_true (by first | (with_reducible assumption) | assumption); have hx28 := bt_at t365 x17_2; replace p28 := eq_true p28; replace q28 := eq_true q28))
                              go_roundg k2
                              case measure => have := HK1.out; have := HK2.out; omega
                              case rel => exact ⟨(wrap64 ((wrap64 (10 * x13_2)) + (((bt t365 x17_2) - 48) % 256))), (wrap64 (x17_2 + 1)), (by first | rfl | (simp; done) | (simp [*]; done)), (by first | rfl | (simp; done) | (simp [*]; done)), H', ⟨by have := HK1.out; have := HK2.out; omega⟩, ⟨by repeat (first | (with_reducible first | exact HB.out | apply below_alloc | apply pw_below_drewN | apply below_drew1) | exact HB.out)⟩⟩
                            · replace c27 := Bool.eq_false_iff.mpr c27
                              subst c27
                              have H1 : (some (0, 11, x14_1)) = some (r1, r2, r3) := by rw [if_neg (show ¬ (false = true) by decide)] at H; exact H
                              clear H
                              have H := H1
                              clear H1
                              simp only [Option.some.injEq, Prod.mk.injEq] at H
                              obtain ⟨rfl, rfl, rfl⟩ := H
                              have p25 : 0 ≤ (x17_2 : Int) := of_decide_eq_true (by first | (with_reducible assumption) | assumption)
                              have q25 : x17_2 < (t365.size : Int) := of_decide_eq_true (by first | (with_reducible assumption) | assumption)
                              have hx25 := bt_at t365 x17_2
                              replace p25 := eq_true p25
                              replace q25 := eq_true q25
                              go_wp2_with (first | ((with_reducible refine gate_callee (f := 42) rfl ?_); refine goesL_ (some 80) rfl rfl Try.func42 (by kernel_rfl) rfl #[.int .u8 (bt t365 x17_2)] rfl (by (try simp only [List.map_toArray, List.map_cons, List.map_nil]); first | done | rfl | (simp only [List.length_drop, List.length_take]; rfl)) ?_; (with_reducible refine (turnstileref1_digit.calls (bt t365 x17_2) false _ A26.out).mono ?_); rintro e w' ⟨rfl, ⟨nd, rfl⟩⟩; refine ⟨_, rfl, ?_⟩))
                              go_ret3
                              exact ⟨by first | rfl | (simp [errW_none, errW_some] <;> rfl) | (simp [*, errW_none, errW_some] <;> rfl), by repeat (first | (with_reducible first | exact HB.out | apply below_alloc | apply pw_below_drewN | apply below_drew1) | exact HB.out)⟩
                          · rw [if_neg c24] at H
                            exact absurd H (by simp)
                        · rw [if_neg c23] at H
                          have c23b0 : decide (x17_2 < (t365.size : Int)) = false := decide_eq_false c23
                          clear c23
                          by_cases c29 : t366 = 0
                          · rw [if_pos c29] at H
                            have c29b0 : (t366 == 0) = true := beq_iff_eq.mpr c29
                            have c29b1 : (t366 != 0) = false := bne_eq_false_iff_eq.mpr c29
                            clear c29
                            have H' := Aside0.mk H
                            clear H
                            go_wp2
                            go_roundg k2
                            case measure => have := HK1.out; have := HK2.out; omega
                            case rel => exact ⟨(x13_2), (wrap64 (x14_1 + 1)), (by first | rfl | (simp; done) | (simp [*]; done)), (by first | rfl | (simp; done) | (simp [*]; done)), H', ⟨by have := HK1.out; have := HK2.out; omega⟩, ⟨by repeat (first | (with_reducible first | exact HB.out | apply below_alloc | apply pw_below_drewN | apply below_drew1) | exact HB.out)⟩⟩
                          · rw [if_neg c29] at H
                            have c29b0 : (t366 == 0) = false := beq_eq_false_iff_ne.mpr c29
                            have c29b1 : (t366 != 0) = true := bne_iff_ne.mpr c29
                            simp only [Option.some.injEq, Prod.mk.injEq] at H
                            obtain ⟨rfl, rfl, rfl⟩ := H
                            go_wp2
                            go_ret3
                            exact ⟨by first | rfl | (simp [errW_none, errW_some] <;> rfl) | (simp [*, errW_none, errW_some] <;> rfl), by repeat (first | (with_reducible first | exact HB.out | apply below_alloc | apply pw_below_drewN | apply below_drew1) | exact HB.out)⟩
                · rw [if_neg c17] at H
                  exact absurd H (by simp)
              · rw [if_neg c16] at H
                exact absurd H (by simp)
            · rw [if_neg c15] at H
              have c15b0 : decide (x14_1 < t363) = false := decide_eq_false c15
              clear c15
              simp only [Option.some.injEq, Prod.mk.injEq] at H
              obtain ⟨rfl, rfl, rfl⟩ := H
              go_wp2
              go_ret3
              exact ⟨by first | rfl | (simp [errW_none, errW_some] <;> rfl) | (simp [*, errW_none, errW_some] <;> rfl), by repeat (first | (with_reducible first | exact HB.out | apply below_alloc | apply pw_below_drewN | apply below_drew1) | exact HB.out)⟩
  · replace c5 := Bool.eq_false_iff.mpr c5
    subst c5
    have H1 : (some (0, 1, 0)) = some (r1, r2, r3) := by rw [if_neg (show ¬ (false = true) by decide)] at H; exact H
    clear H
    have H := H1
    clear H1
    simp only [Option.some.injEq, Prod.mk.injEq] at H
    obtain ⟨rfl, rfl, rfl⟩ := H
    go_enter Try.func36, Try.ntmps36
    go_wp2_with (first | ((with_reducible refine gate_callee (f := 56) rfl ?_); refine goesL_ (some 21) rfl rfl Try.func56 (by kernel_rfl) rfl #[.int .i64 a0, .int .i64 a1] rfl (by (try simp only [List.map_toArray, List.map_cons, List.map_nil]); first | done | rfl | (simp only [List.length_drop, List.length_take]; rfl)) ?_; (with_reducible refine (turnstileref1_length.calls a0 a1 false _ A4.out).mono ?_); rintro e w' ⟨rfl, ⟨nd, rfl⟩⟩; refine ⟨_, rfl, ?_⟩))
    go_ret3
    exact ⟨by first | rfl | (simp [errW_none, errW_some] <;> rfl) | (simp [*, errW_none, errW_some] <;> rfl), by repeat (first | (with_reducible first | exact HB.out | apply below_alloc | apply pw_below_drewN | apply below_drew1) | exact HB.out)⟩

end Go.Proofs.Ytlpamhffpgoebaa.All
