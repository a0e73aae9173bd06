-- WRITTEN BY this session's own drv.py over the kit's print. Not trusted: Lean checks it.
import Derived.Test.YtlpamhffpgoebaaAx0
import Derived.Test.YtlpamhffpgoebaaAx8
import Derived.Test.YtlpamhffpgoebaaAx48
import Derived.Test.YtlpamhffpgoebaaAx49
namespace Go.Proofs.Ytlpamhffpgoebaa.All
open Go.RowKit Go.Proofs.YtlpamhffpgoebaaW.PrintWords Go.Proofs.YtlpamhffpgoebaaW.PrintLast Go.Proofs.YtlpamhffpgoebaaW.PrintMore
attribute [local go_sem] max2_int min2_int max_two min_two max_three min_three max_four min_four   -- for this text's walks alone
set_option linter.unusedVariables false
set_option linter.unusedSimpArgs false

/-! ### turnstileref1_Byte: function 55 -/
mutual
def turnstileref1_Byte.j0 : Nat → Int → Int → Int → List Int → Int → Bool → Option (ByteArray × Int)
  | 0, _, _, _, _, _, _ => none
  | k + 1, x0, x2, x3, x13, x14, x50 => if x50 = true then (turnstileref1_Byte.j1 k x0 x2 x3 x13 0) else (turnstileref1_Byte.j1 k x0 x2 x3 x13 x14)
def turnstileref1_Byte.j1 : Nat → Int → Int → Int → List Int → Int → Option (ByteArray × Int)
  | 0, _, _, _, _, _ => none
  | k + 1, x0, x2, x3, x13, x14 => if (Int.tmod x3 2) = 1 then (if x0 = 3 then (turnstileref1_Byte.j2 k x13 x14 (x2 == (wrap64 (Int.tdiv x3 2)))) else (turnstileref1_Byte.j2 k x13 x14 false)) else (turnstileref1_Byte.j2 k x13 x14 false)
def turnstileref1_Byte.j2 : Nat → List Int → Int → Bool → Option (ByteArray × Int)
  | 0, _, _, _ => none
  | k + 1, x13, x14, x63 => if x63 = true then (turnstileref1_Byte.j3 k x13 1) else (turnstileref1_Byte.j3 k x13 x14)
def turnstileref1_Byte.j3 : Nat → List Int → Int → Option (ByteArray × Int)
  | 0, _, _ => none
  | k + 1, x13, x14 => turnstileref1_Byte.l0 k x13 x14 ([] : List Int) 0
def turnstileref1_Byte.l0 : Nat → List Int → Int → List Int → Int → Option (ByteArray × Int)
  | 0, _, _, _, _ => none
  | k + 1, x13, x14, x15, x16 => if x16 < 2 then (if x16 = x14 then (turnstileref1_Byte.l0 k x13 x14 x15 (wrap64 (x16 + 1))) else (if 0 ≤ x16 then (if x16 < (x13.length : Int) then ((turnstileref1_char.f (rd x13 x16)).bind fun t341 => (if t341 = 0 then (some ((⟨#[]⟩ : ByteArray), 11)) else (if x15.length < 140737488355328 then (turnstileref1_Byte.l0 k x13 x14 (x15 ++ [t341]) (wrap64 (x16 + 1))) else (none)))) else (none)) else (none))) else (if x14 = 0 then (if 0 < (x13.length : Int) then (if (rd x13 0) = 0 then (if x14 = 1 then (if 1 < (x13.length : Int) then (if (rd x13 1) = 15 then (some (strOfNums x15, 0)) else (some (strOfNums x15, 12))) else (none)) else (some (strOfNums x15, 0))) else (some (strOfNums x15, 12))) else (none)) else (if x14 = 1 then (if 1 < (x13.length : Int) then (if (rd x13 1) = 15 then (some (strOfNums x15, 0)) else (some (strOfNums x15, 12))) else (none)) else (some (strOfNums x15, 0))))
end
def turnstileref1_Byte.f (k : Nat) (a0 : Int) (a1 : Int) (a2 : Int) (a3 : Int) : Option (ByteArray × Int) := (turnstileref1_Packed.f a0).bind fun t328 => (if t328 = true then ((some (([wrap64 (Int.tdiv (wrap64 (a1)) 16), Int.tmod (wrap64 (a1)) 16] : List Int) : List Int)).bind fun y334 => (if (Int.tmod a3 2) = 1 then (if a0 = 2 then (turnstileref1_Byte.j0 k a0 a2 a3 y334 (-1) (a2 == 0)) else (turnstileref1_Byte.j0 k a0 a2 a3 y334 (-1) false)) else (turnstileref1_Byte.j0 k a0 a2 a3 y334 (-1) false))) else ((turnstileref1_Char.f k a0 a1).bind fun bt329 => (if bt329.2 = true then (some (strOfNums (([bt329.1] : List Int)), 0)) else (some ((⟨#[]⟩ : ByteArray), 11)))))
theorem turnstileref1_Byte.mono_l : ∀ k, (∀ y0 y1 y2 y3 y4 y5, LeO (turnstileref1_Byte.j0 k y0 y1 y2 y3 y4 y5) (turnstileref1_Byte.j0 (k + 1) y0 y1 y2 y3 y4 y5)) ∧ (∀ y0 y1 y2 y3 y4, LeO (turnstileref1_Byte.j1 k y0 y1 y2 y3 y4) (turnstileref1_Byte.j1 (k + 1) y0 y1 y2 y3 y4)) ∧ (∀ y0 y1 y2, LeO (turnstileref1_Byte.j2 k y0 y1 y2) (turnstileref1_Byte.j2 (k + 1) y0 y1 y2)) ∧ (∀ y0 y1, LeO (turnstileref1_Byte.j3 k y0 y1) (turnstileref1_Byte.j3 (k + 1) y0 y1)) ∧ (∀ y0 y1 y2 y3, LeO (turnstileref1_Byte.l0 k y0 y1 y2 y3) (turnstileref1_Byte.l0 (k + 1) y0 y1 y2 y3))
  | 0 => ⟨fun _ _ _ _ _ _ r h => by simp [turnstileref1_Byte.j0] at h, fun _ _ _ _ _ r h => by simp [turnstileref1_Byte.j1] at h, fun _ _ _ r h => by simp [turnstileref1_Byte.j2] at h, fun _ _ r h => by simp [turnstileref1_Byte.j3] at h, fun _ _ _ _ r h => by simp [turnstileref1_Byte.l0] at h⟩
  | k + 1 => by
    obtain ⟨ih0, ih1, ih2, ih3, ih4⟩ := turnstileref1_Byte.mono_l k
    refine ⟨?_, ?_, ?_, ?_, ?_⟩
    · intro y0 y1 y2 y3 y4 y5
      unfold turnstileref1_Byte.j0
      repeat' first
      | (with_reducible exact ih0 _ _ _ _ _ _)
      | (with_reducible exact ih1 _ _ _ _ _)
      | (with_reducible exact ih2 _ _ _)
      | (with_reducible exact ih3 _ _)
      | (with_reducible exact ih4 _ _ _ _)
      | (with_reducible exact turnstileref1_Char.mono _ _ _)
      | (with_reducible exact LeO.refl _)
      | (with_reducible exact LeO.none _)
      | (with_reducible refine LeO.ite ?_ ?_)
      | (with_reducible refine LeO.bind ?_ (fun _ => ?_))
      | exact ih0 _ _ _ _ _ _
      | exact ih1 _ _ _ _ _
      | exact ih2 _ _ _
      | exact ih3 _ _
      | exact ih4 _ _ _ _
      | exact turnstileref1_Char.mono _ _ _
      | exact LeO.none _
      | refine LeO.ite ?_ ?_
      | refine LeO.bind ?_ (fun _ => ?_)
    · intro y0 y1 y2 y3 y4
      unfold turnstileref1_Byte.j1
      repeat' first
      | (with_reducible exact ih0 _ _ _ _ _ _)
      | (with_reducible exact ih1 _ _ _ _ _)
      | (with_reducible exact ih2 _ _ _)
      | (with_reducible exact ih3 _ _)
      | (with_reducible exact ih4 _ _ _ _)
      | (with_reducible exact turnstileref1_Char.mono _ _ _)
      | (with_reducible exact LeO.refl _)
      | (with_reducible exact LeO.none _)
      | (with_reducible refine LeO.ite ?_ ?_)
      | (with_reducible refine LeO.bind ?_ (fun _ => ?_))
      | exact ih0 _ _ _ _ _ _
      | exact ih1 _ _ _ _ _
      | exact ih2 _ _ _
      | exact ih3 _ _
      | exact ih4 _ _ _ _
      | exact turnstileref1_Char.mono _ _ _
      | exact LeO.none _
      | refine LeO.ite ?_ ?_
      | refine LeO.bind ?_ (fun _ => ?_)
    · intro y0 y1 y2
      unfold turnstileref1_Byte.j2
      repeat' first
      | (with_reducible exact ih0 _ _ _ _ _ _)
      | (with_reducible exact ih1 _ _ _ _ _)
      | (with_reducible exact ih2 _ _ _)
      | (with_reducible exact ih3 _ _)
      | (with_reducible exact ih4 _ _ _ _)
      | (with_reducible exact turnstileref1_Char.mono _ _ _)
      | (with_reducible exact LeO.refl _)
      | (with_reducible exact LeO.none _)
      | (with_reducible refine LeO.ite ?_ ?_)
      | (with_reducible refine LeO.bind ?_ (fun _ => ?_))
      | exact ih0 _ _ _ _ _ _
      | exact ih1 _ _ _ _ _
      | exact ih2 _ _ _
      | exact ih3 _ _
      | exact ih4 _ _ _ _
      | exact turnstileref1_Char.mono _ _ _
      | exact LeO.none _
      | refine LeO.ite ?_ ?_
      | refine LeO.bind ?_ (fun _ => ?_)
    · intro y0 y1
      unfold turnstileref1_Byte.j3
      repeat' first
      | (with_reducible exact ih0 _ _ _ _ _ _)
      | (with_reducible exact ih1 _ _ _ _ _)
      | (with_reducible exact ih2 _ _ _)
      | (with_reducible exact ih3 _ _)
      | (with_reducible exact ih4 _ _ _ _)
      | (with_reducible exact turnstileref1_Char.mono _ _ _)
      | (with_reducible exact LeO.refl _)
      | (with_reducible exact LeO.none _)
      | (with_reducible refine LeO.ite ?_ ?_)
      | (with_reducible refine LeO.bind ?_ (fun _ => ?_))
      | exact ih0 _ _ _ _ _ _
      | exact ih1 _ _ _ _ _
      | exact ih2 _ _ _
      | exact ih3 _ _
      | exact ih4 _ _ _ _
      | exact turnstileref1_Char.mono _ _ _
      | exact LeO.none _
      | refine LeO.ite ?_ ?_
      | refine LeO.bind ?_ (fun _ => ?_)
    · intro y0 y1 y2 y3
      unfold turnstileref1_Byte.l0
      repeat' first
      | (with_reducible exact ih0 _ _ _ _ _ _)
      | (with_reducible exact ih1 _ _ _ _ _)
      | (with_reducible exact ih2 _ _ _)
      | (with_reducible exact ih3 _ _)
      | (with_reducible exact ih4 _ _ _ _)
      | (with_reducible exact turnstileref1_Char.mono _ _ _)
      | (with_reducible exact LeO.refl _)
      | (with_reducible exact LeO.none _)
      | (with_reducible refine LeO.ite ?_ ?_)
      | (with_reducible refine LeO.bind ?_ (fun _ => ?_))
      | exact ih0 _ _ _ _ _ _
      | exact ih1 _ _ _ _ _
      | exact ih2 _ _ _
      | exact ih3 _ _
      | exact ih4 _ _ _ _
      | exact turnstileref1_Char.mono _ _ _
      | exact LeO.none _
      | refine LeO.ite ?_ ?_
      | refine LeO.bind ?_ (fun _ => ?_)
theorem turnstileref1_Byte.mono : ∀ a0 a1 a2 a3 k, LeO (turnstileref1_Byte.f k a0 a1 a2 a3) (turnstileref1_Byte.f (k + 1) a0 a1 a2 a3) := by
  intro a0 a1 a2 a3 k
  obtain ⟨ih0, ih1, ih2, ih3, ih4⟩ := turnstileref1_Byte.mono_l k
  unfold turnstileref1_Byte.f
  repeat' first
      | (with_reducible exact ih0 _ _ _ _ _ _)
      | (with_reducible exact ih1 _ _ _ _ _)
      | (with_reducible exact ih2 _ _ _)
      | (with_reducible exact ih3 _ _)
      | (with_reducible exact ih4 _ _ _ _)
      | (with_reducible exact turnstileref1_Char.mono _ _ _)
      | (with_reducible exact LeO.refl _)
      | (with_reducible exact LeO.none _)
      | (with_reducible refine LeO.ite ?_ ?_)
      | (with_reducible refine LeO.bind ?_ (fun _ => ?_))
      | exact ih0 _ _ _ _ _ _
      | exact ih1 _ _ _ _ _
      | exact ih2 _ _ _
      | exact ih3 _ _
      | exact ih4 _ _ _ _
      | exact turnstileref1_Char.mono _ _ _
      | exact LeO.none _
      | refine LeO.ite ?_ ?_
      | refine LeO.bind ?_ (fun _ => ?_)
set_option maxHeartbeats 8000000 in
set_option maxRecDepth 100000 in
theorem turnstileref1_Byte.calls (k : Nat) (a0 : Int) (a1 : Int) (a2 : Int) (a3 : Int) (r1 : ByteArray) (r2 : Int) (w : World) (h : turnstileref1_Byte.f k a0 a1 a2 a3 = some (r1, r2)) :
    Calls Try.prog 55 #[.int .i64 a0, .int .u8 a1, .int .i64 a2, .int .i64 a3] w fun e w' => e = .returned (.tuple #[.string r1, .int .i64 r2]) ∧ Below w.heap.size w w' := by
  have HB := Aside0.mk (Below.refl w.heap.size w)
  have H : ((turnstileref1_Packed.f a0).bind fun t328 => (if t328 = true then ((some (([wrap64 (Int.tdiv (wrap64 (a1)) 16), Int.tmod (wrap64 (a1)) 16] : List Int) : List Int)).bind fun y334 => (if (Int.tmod a3 2) = 1 then (if a0 = 2 then (turnstileref1_Byte.j0 k a0 a2 a3 y334 (-1) (a2 == 0)) else (turnstileref1_Byte.j0 k a0 a2 a3 y334 (-1) false)) else (turnstileref1_Byte.j0 k a0 a2 a3 y334 (-1) false))) else ((turnstileref1_Char.f k a0 a1).bind fun bt329 => (if bt329.2 = true then (some (strOfNums (([bt329.1] : List Int)), 0)) else (some ((⟨#[]⟩ : ByteArray), 11)))))) = some (r1, r2) := h
  clear h
  replace H := Option.bind_eq_some_iff.mp H
  obtain ⟨t328, A50, H⟩ := H
  replace H : (if t328 = true then ((some (([wrap64 (Int.tdiv (wrap64 (a1)) 16), Int.tmod (wrap64 (a1)) 16] : List Int) : List Int)).bind fun y334 => (if (Int.tmod a3 2) = 1 then (if a0 = 2 then (turnstileref1_Byte.j0 k a0 a2 a3 y334 (-1) (a2 == 0)) else (turnstileref1_Byte.j0 k a0 a2 a3 y334 (-1) false)) else (turnstileref1_Byte.j0 k a0 a2 a3 y334 (-1) false))) else ((turnstileref1_Char.f k a0 a1).bind fun bt329 => (if bt329.2 = true then (some (strOfNums (([bt329.1] : List Int)), 0)) else (some ((⟨#[]⟩ : ByteArray), 11))))) = some (r1, r2) := H
  have A5 := Aside0.mk A50
  clear A50
  by_cases c6 : t328 = true
  · subst c6
    have H1 : ((some (([wrap64 (Int.tdiv (wrap64 (a1)) 16), Int.tmod (wrap64 (a1)) 16] : List Int) : List Int)).bind fun y334 => (if (Int.tmod a3 2) = 1 then (if a0 = 2 then (turnstileref1_Byte.j0 k a0 a2 a3 y334 (-1) (a2 == 0)) else (turnstileref1_Byte.j0 k a0 a2 a3 y334 (-1) false)) else (turnstileref1_Byte.j0 k a0 a2 a3 y334 (-1) false))) = some (r1, r2) := by rw [if_pos rfl] at H; exact H
    clear H
    have H := H1
    clear H1
    obtain ⟨y334, hy334⟩ : ∃ y_ : List Int, y_ = (([wrap64 (Int.tdiv (wrap64 (a1)) 16), Int.tmod (wrap64 (a1)) 16] : List Int)) := ⟨_, rfl⟩
    replace H : (if (Int.tmod a3 2) = 1 then (if a0 = 2 then (turnstileref1_Byte.j0 k a0 a2 a3 y334 (-1) (a2 == 0)) else (turnstileref1_Byte.j0 k a0 a2 a3 y334 (-1) false)) else (turnstileref1_Byte.j0 k a0 a2 a3 y334 (-1) false)) = some (r1, r2) := by first | (rw [hy334]; with_reducible exact H) | (have H2_ := (Option.bind_some _ _).symm.trans H; rw [hy334]; with_reducible exact H2_) | (have H2_ := (Option.bind_some _ _).symm.trans H; with_reducible exact H2_) | with_reducible exact H | (rw [hy334]; exact H) | exact H
    have Ny334 := Aside0.mk hy334
    clear hy334
    have HC7 := Aside0.mk H
    clear H
    go_enter Try.func55, Try.ntmps55
    go_upto_region 9 with (first | ((with_reducible refine gate_callee (f := 41) rfl ?_); refine goesL_ (some 19) rfl rfl Try.func41 (by kernel_rfl) rfl #[.int .i64 a0] rfl (by (try simp only [List.map_toArray, List.map_cons, List.map_nil]); first | done | rfl | (simp only [List.length_drop, List.length_take]; rfl)) ?_; (with_reducible refine (turnstileref1_Packed.calls a0 true _ A5.out).mono ?_); rintro e w' ⟨rfl, ⟨nd, rfl⟩⟩; refine ⟨_, rfl, ?_⟩) | ((with_reducible refine gate_dst (N := 39) rfl ?_); refine Kd.R_lit (Kd.int .i64) _ 3 ?hg (N := 39) ?hd (xs := ([wrap64 (Int.tdiv (wrap64 (a1)) 16), Int.tmod (wrap64 (a1)) 16] : List Int)) (inner := [.int .i64 (wrap64 (Int.tdiv (wrap64 (a1)) 16)), .int .i64 (Int.tmod (wrap64 (a1)) 16)]) (ok := fun _ => True) (okp := fun _ => True) ?hr ?hp (fun _ hk => hk) trivial (Below.refl _ _) (Nat.le_refl _) (by simp) ?_; (case hd => rfl); (case hg => rfl); (case hr => first | (go_simp; done) | (go_simp; rfl)); (case hp => exact (Reps.one (show Kd.M (Kd.int .i64) _ _ _ (wrap64 (Int.tdiv (wrap64 (a1)) 16)) [.int .i64 (wrap64 (Int.tdiv (wrap64 (a1)) 16))] from rfl) (Reps.one (show Kd.M (Kd.int .i64) _ _ _ (Int.tmod (wrap64 (a1)) 16) [.int .i64 (Int.tmod (wrap64 (a1)) 16)] from rfl) (Reps.none _ _)))); intro v335 w8 ho9 hb hg_ hnew_; clear hg_ hnew_; (first | rw [← Ny334.out] at ho9 | (simp only [Int.reduceToNat] at ho9; rw [← Ny334.out] at ho9)); have n0_ := Aside0.mk (Kd.R_lower ho9 (below_size (by repeat (first | (with_reducible first | exact HB.out | apply below_alloc | apply pw_below_drewN | apply below_drew1) | exact HB.out)))); have n1_ := Aside0.mk (below_step (by repeat (first | (with_reducible first | exact HB.out | apply below_alloc | apply pw_below_drewN | apply below_drew1) | exact HB.out)) hb); clear HB; have HO336 := n0_; have HB := n1_; clear n0_ n1_; clear hb ho9))
    (try simp only [Act.put, List.setIfInBounds_toArray, List.set_cons_zero, List.set_cons_succ])
    go_cut [50] (fun v50 wc => ∃ (kq : Nat) (x50_6 : Bool), v50 = .bool x50_6 ∧ Aside0 (turnstileref1_Byte.j0 kq a0 a2 a3 y334 (-1) x50_6 = some (r1, r2)) ∧ Aside0 (kq ≤ k) ∧ Aside0 (Kd.R (Kd.int .i64) 3 wc w.heap.size (fun _ => True) v335 y334) ∧ Aside0 (Below w.heap.size w wc))
    case first =>
      have H := HC7.out
      clear HC7
      by_cases c10 : (Int.tmod a3 2) = 1
      · rw [if_pos c10] at H
        have c10b0 : ((Int.tmod a3 2) == 1) = true := beq_iff_eq.mpr c10
        have c10b1 : ((Int.tmod a3 2) != 1) = false := bne_eq_false_iff_eq.mpr c10
        clear c10
        (first | rw [c10b0] | (simp only [i64_w, i32_w]; rw [c10b0]) | skip)
        by_cases c11 : a0 = 2
        · rw [if_pos c11] at H
          have c11b0 : (a0 == 2) = true := beq_iff_eq.mpr c11
          have c11b1 : (a0 != 2) = false := bne_eq_false_iff_eq.mpr c11
          clear c11
          have H' := Aside0.mk H
          clear H
          go_wp2
          go_meet
          case rel => exact ⟨_, ((a2 == 0)), (by first | rfl | (simp; done) | (simp [*]; done)), H', ⟨by first | omega | exact Nat.le_refl _⟩, ⟨by (with_reducible repeat (first | apply Kd.R_alloc | apply Kd.R_drewN | apply Kd.R_drew)); exact HO336.out⟩, ⟨by repeat (first | (with_reducible first | exact HB.out | apply below_alloc | apply pw_below_drewN | apply below_drew1) | exact HB.out)⟩⟩
        · rw [if_neg c11] at H
          have c11b0 : (a0 == 2) = false := beq_eq_false_iff_ne.mpr c11
          have c11b1 : (a0 != 2) = true := bne_iff_ne.mpr c11
          have H' := Aside0.mk H
          clear H
          go_wp2
          go_meet
          case rel => exact ⟨_, (false), (by first | rfl | (simp; done) | (simp [*]; done)), H', ⟨by first | omega | exact Nat.le_refl _⟩, ⟨by (with_reducible repeat (first | apply Kd.R_alloc | apply Kd.R_drewN | apply Kd.R_drew)); exact HO336.out⟩, ⟨by repeat (first | (with_reducible first | exact HB.out | apply below_alloc | apply pw_below_drewN | apply below_drew1) | exact HB.out)⟩⟩
      · rw [if_neg c10] at H
        have c10b0 : ((Int.tmod a3 2) == 1) = false := beq_eq_false_iff_ne.mpr c10
        have c10b1 : ((Int.tmod a3 2) != 1) = true := bne_iff_ne.mpr c10
        (first | rw [c10b0] | (simp only [i64_w, i32_w]; rw [c10b0]) | skip)
        have H' := Aside0.mk H
        clear H
        go_wp2
        go_meet
        case rel => exact ⟨_, (false), (by first | rfl | (simp; done) | (simp [*]; done)), H', ⟨by first | omega | exact Nat.le_refl _⟩, ⟨by (with_reducible repeat (first | apply Kd.R_alloc | apply Kd.R_drewN | apply Kd.R_drew)); exact HO336.out⟩, ⟨by repeat (first | (with_reducible first | exact HB.out | apply below_alloc | apply pw_below_drewN | apply below_drew1) | exact HB.out)⟩⟩
    case rest =>
      clear HC7
      try clear c1
      try clear p2
      try clear c4
      try clear c5
      try clear c6
      try clear p6
      try clear c10
      try clear c10b0
      try clear c10b1
      try clear c11
      try clear c11b0
      try clear c11b1
      obtain ⟨kq, x50_6, rfl, HA, HJ6, HO_13, HB⟩ := hcut
      cases kq with
      | zero => exact absurd HA.out (by simp [turnstileref1_Byte.j0])
      | succ kj6 =>
        have H := HA.out
        clear HA
        simp only [turnstileref1_Byte.j0] at H
        have HC12 := Aside0.mk H
        clear H
        go_upto_if 50 with (fail)
        go_cut [14] (fun v14 wc => ∃ (kq : Nat) (x14_11 : Int), v14 = .int .i64 x14_11 ∧ Aside0 (turnstileref1_Byte.j1 kq a0 a2 a3 y334 x14_11 = some (r1, r2)) ∧ Aside0 (kq ≤ kj6) ∧ Aside0 (Kd.R (Kd.int .i64) 3 wc w.heap.size (fun _ => True) v335 y334) ∧ Aside0 (Below w.heap.size w wc))
        case first =>
          have H := HC12.out
          clear HC12
          by_cases c13 : x50_6 = true
          · subst c13
            have H1 : (turnstileref1_Byte.j1 kj6 a0 a2 a3 y334 0) = some (r1, r2) := by rw [if_pos rfl] at H; exact H
            clear H
            have H := H1
            clear H1
            have H' := Aside0.mk H
            clear H
            go_wp2
            go_meet
            case rel => exact ⟨_, (0), (by first | rfl | (simp; done) | (simp [*]; done)), H', ⟨by have := HJ6.out; first | omega | exact Nat.le_refl _⟩, ⟨by (with_reducible repeat (first | apply Kd.R_alloc | apply Kd.R_drewN | apply Kd.R_drew)); exact HO_13.out⟩, ⟨by repeat (first | (with_reducible first | exact HB.out | apply below_alloc | apply pw_below_drewN | apply below_drew1) | exact HB.out)⟩⟩
          · replace c13 := Bool.eq_false_iff.mpr c13
            subst c13
            have H1 : (turnstileref1_Byte.j1 kj6 a0 a2 a3 y334 (-1)) = some (r1, r2) := by rw [if_neg (show ¬ (false = true) by decide)] at H; exact H
            clear H
            have H := H1
            clear H1
            have H' := Aside0.mk H
            clear H
            go_wp2
            go_meet
            case rel => exact ⟨_, ((-1)), (by first | rfl | (simp; done) | (simp [*]; done)), H', ⟨by have := HJ6.out; first | omega | exact Nat.le_refl _⟩, ⟨by (with_reducible repeat (first | apply Kd.R_alloc | apply Kd.R_drewN | apply Kd.R_drew)); exact HO_13.out⟩, ⟨by repeat (first | (with_reducible first | exact HB.out | apply below_alloc | apply pw_below_drewN | apply below_drew1) | exact HB.out)⟩⟩
        case rest =>
          clear HC12
          try clear c1
          try clear p2
          try clear c4
          try clear c5
          try clear c6
          try clear p6
          try clear c10
          try clear c10b0
          try clear c10b1
          try clear c11
          try clear c11b0
          try clear c11b1
          try clear c13
          try clear p2
          try clear p6
          obtain ⟨kq, x14_11, rfl, HA, HJ11, HO_13, HB⟩ := hcut
          cases kq with
          | zero => exact absurd HA.out (by simp [turnstileref1_Byte.j1])
          | succ kj11 =>
            have H := HA.out
            clear HA
            simp only [turnstileref1_Byte.j1] at H
            have HC14 := Aside0.mk H
            clear H
            go_upto_region 11 with (fail)
            go_cut [63] (fun v63 wc => ∃ (kq : Nat) (x63_13 : Bool), v63 = .bool x63_13 ∧ Aside0 (turnstileref1_Byte.j2 kq y334 x14_11 x63_13 = some (r1, r2)) ∧ Aside0 (kq ≤ kj11) ∧ Aside0 (Kd.R (Kd.int .i64) 3 wc w.heap.size (fun _ => True) v335 y334) ∧ Aside0 (Below w.heap.size w wc))
            case first =>
              have H := HC14.out
              clear HC14
              by_cases c15 : (Int.tmod a3 2) = 1
              · rw [if_pos c15] at H
                have c15b0 : ((Int.tmod a3 2) == 1) = true := beq_iff_eq.mpr c15
                have c15b1 : ((Int.tmod a3 2) != 1) = false := bne_eq_false_iff_eq.mpr c15
                clear c15
                (first | rw [c15b0] | (simp only [i64_w, i32_w]; rw [c15b0]) | skip)
                by_cases c16 : a0 = 3
                · rw [if_pos c16] at H
                  have c16b0 : (a0 == 3) = true := beq_iff_eq.mpr c16
                  have c16b1 : (a0 != 3) = false := bne_eq_false_iff_eq.mpr c16
                  clear c16
                  have H' := Aside0.mk H
                  clear H
                  go_wp2
                  go_meet
                  case rel => exact ⟨_, ((a2 == (wrap64 (Int.tdiv a3 2)))), (by first | rfl | (simp; done) | (simp [*]; done)), H', ⟨by have := HJ6.out; have := HJ11.out; first | omega | exact Nat.le_refl _⟩, ⟨by (with_reducible repeat (first | apply Kd.R_alloc | apply Kd.R_drewN | apply Kd.R_drew)); exact HO_13.out⟩, ⟨by repeat (first | (with_reducible first | exact HB.out | apply below_alloc | apply pw_below_drewN | apply below_drew1) | exact HB.out)⟩⟩
                · rw [if_neg c16] at H
                  have c16b0 : (a0 == 3) = false := beq_eq_false_iff_ne.mpr c16
                  have c16b1 : (a0 != 3) = true := bne_iff_ne.mpr c16
                  have H' := Aside0.mk H
                  clear H
                  go_wp2
                  go_meet
                  case rel => exact ⟨_, (false), (by first | rfl | (simp; done) | (simp [*]; done)), H', ⟨by have := HJ6.out; have := HJ11.out; first | omega | exact Nat.le_refl _⟩, ⟨by (with_reducible repeat (first | apply Kd.R_alloc | apply Kd.R_drewN | apply Kd.R_drew)); exact HO_13.out⟩, ⟨by repeat (first | (with_reducible first | exact HB.out | apply below_alloc | apply pw_below_drewN | apply below_drew1) | exact HB.out)⟩⟩
              · rw [if_neg c15] at H
                have c15b0 : ((Int.tmod a3 2) == 1) = false := beq_eq_false_iff_ne.mpr c15
                have c15b1 : ((Int.tmod a3 2) != 1) = true := bne_iff_ne.mpr c15
                (first | rw [c15b0] | (simp only [i64_w, i32_w]; rw [c15b0]) | skip)
                have H' := Aside0.mk H
                clear H
                go_wp2
                go_meet
                case rel => exact ⟨_, (false), (by first | rfl | (simp; done) | (simp [*]; done)), H', ⟨by have := HJ6.out; have := HJ11.out; first | omega | exact Nat.le_refl _⟩, ⟨by (with_reducible repeat (first | apply Kd.R_alloc | apply Kd.R_drewN | apply Kd.R_drew)); exact HO_13.out⟩, ⟨by repeat (first | (with_reducible first | exact HB.out | apply below_alloc | apply pw_below_drewN | apply below_drew1) | exact HB.out)⟩⟩
            case rest =>
              clear HC14
              try clear c1
              try clear p2
              try clear c4
              try clear c5
              try clear c6
              try clear p6
              try clear c10
              try clear c10b0
              try clear c10b1
              try clear c11
              try clear c11b0
              try clear c11b1
              try clear c13
              try clear c15
              try clear c15b0
              try clear c15b1
              try clear c16
              try clear c16b0
              try clear c16b1
              try clear p2
              try clear p6
              obtain ⟨kq, x63_13, rfl, HA, HJ13, HO_13, HB⟩ := hcut
              cases kq with
              | zero => exact absurd HA.out (by simp [turnstileref1_Byte.j2])
              | succ kj13 =>
                have H := HA.out
                clear HA
                simp only [turnstileref1_Byte.j2] at H
                have HC17 := Aside0.mk H
                clear H
                go_upto_if 63 with (fail)
                go_cut [14] (fun v14 wc => ∃ (kq : Nat) (x14_16 : Int), v14 = .int .i64 x14_16 ∧ Aside0 (turnstileref1_Byte.j3 kq y334 x14_16 = some (r1, r2)) ∧ Aside0 (kq ≤ kj13) ∧ Aside0 (Kd.R (Kd.int .i64) 3 wc w.heap.size (fun _ => True) v335 y334) ∧ Aside0 (Below w.heap.size w wc))
                case first =>
                  have H := HC17.out
                  clear HC17
                  by_cases c18 : x63_13 = true
                  · subst c18
                    have H1 : (turnstileref1_Byte.j3 kj13 y334 1) = some (r1, r2) := by rw [if_pos rfl] at H; exact H
                    clear H
                    have H := H1
                    clear H1
                    have H' := Aside0.mk H
                    clear H
                    go_wp2
                    go_meet
                    case rel => exact ⟨_, (1), (by first | rfl | (simp; done) | (simp [*]; done)), H', ⟨by have := HJ6.out; have := HJ11.out; have := HJ13.out; first | omega | exact Nat.le_refl _⟩, ⟨by (with_reducible repeat (first | apply Kd.R_alloc | apply Kd.R_drewN | apply Kd.R_drew)); exact HO_13.out⟩, ⟨by repeat (first | (with_reducible first | exact HB.out | apply below_alloc | apply pw_below_drewN | apply below_drew1) | exact HB.out)⟩⟩
                  · replace c18 := Bool.eq_false_iff.mpr c18
                    subst c18
                    have H1 : (turnstileref1_Byte.j3 kj13 y334 x14_11) = some (r1, r2) := by rw [if_neg (show ¬ (false = true) by decide)] at H; exact H
                    clear H
                    have H := H1
                    clear H1
                    have H' := Aside0.mk H
                    clear H
                    go_wp2
                    go_meet
                    case rel => exact ⟨_, (x14_11), (by first | rfl | (simp; done) | (simp [*]; done)), H', ⟨by have := HJ6.out; have := HJ11.out; have := HJ13.out; first | omega | exact Nat.le_refl _⟩, ⟨by (with_reducible repeat (first | apply Kd.R_alloc | apply Kd.R_drewN | apply Kd.R_drew)); exact HO_13.out⟩, ⟨by repeat (first | (with_reducible first | exact HB.out | apply below_alloc | apply pw_below_drewN | apply below_drew1) | exact HB.out)⟩⟩
                case rest =>
                  clear HC17
                  try clear c1
                  try clear p2
                  try clear c4
                  try clear c5
                  try clear c6
                  try clear p6
                  try clear c10
                  try clear c10b0
                  try clear c10b1
                  try clear c11
                  try clear c11b0
                  try clear c11b1
                  try clear c13
                  try clear c15
                  try clear c15b0
                  try clear c15b1
                  try clear c16
                  try clear c16b0
                  try clear c16b1
                  try clear c18
                  try clear p2
                  try clear p6
                  obtain ⟨kq, x14_16, rfl, HA, HJ16, HO_13, HB⟩ := hcut
                  cases kq with
                  | zero => exact absurd HA.out (by simp [turnstileref1_Byte.j3])
                  | succ kj16 =>
                    have H := HA.out
                    clear HA
                    simp only [turnstileref1_Byte.j3] at H
                    have H' := Aside0.mk H
                    clear H
                    go_wp2
                    go_loopg [15, 16] kj16 (fun kq v15 v16 w' => ∃ (x15_5 : List Int) (x16_5 : Int), v16 = .int .i64 x16_5 ∧ Aside0 (turnstileref1_Byte.l0 kq y334 x14_16 x15_5 x16_5 = some (r1, r2)) ∧ Aside0 (kq ≤ kj16) ∧ Aside0 (Kd.R (Kd.int .i64) 3 w' w.heap.size (fun _ => True) v335 y334) ∧ Aside0 (Kd.R (Kd.int .u8) 5 w' w.heap.size (fun _ => True) v15 x15_5) ∧ Aside0 (Below w.heap.size w w'))
                    case atStart => exact ⟨(([] : List Int)), (0), (by first | rfl | (simp; done) | (simp [*]; done)), H', ⟨Nat.le_refl _⟩, ⟨by (with_reducible repeat (first | apply Kd.R_alloc | apply Kd.R_drewN | apply Kd.R_drew)); exact HO_13.out⟩, ⟨by first | exact Kd.R_nil _ _ _ _ _ | exact Kd.N_nil _ _ _ _ _ | exact Kd.V_nil _ _ _ _ _ | exact Kd.Q_nil _ _ _ _ _ | exact Kd.S_nil _ _ _ _ _⟩, ⟨by repeat (first | (with_reducible first | exact HB.out | apply below_alloc | apply pw_below_drewN | apply below_drew1) | exact HB.out)⟩⟩
                    case round =>
                      clear H'
                      try clear c1
                      try clear p2
                      try clear c4
                      try clear c5
                      try clear c6
                      try clear p6
                      try clear c10
                      try clear c10b0
                      try clear c10b1
                      try clear c11
                      try clear c11b0
                      try clear c11b1
                      try clear c13
                      try clear c15
                      try clear c15b0
                      try clear c15b1
                      try clear c16
                      try clear c16b0
                      try clear c16b1
                      try clear c18
                      try clear p2
                      try clear p6
                      obtain ⟨x15_5, x16_5, rfl, HA, HK5, HO_13, HO_15, HB⟩ := hrel
                      cases gk with
                      | zero => exact absurd HA.out (by simp [turnstileref1_Byte.l0])
                      | succ k5 =>
                        have H := HA.out
                        clear HA
                        simp only [turnstileref1_Byte.l0] at H
                        by_cases c19 : x16_5 < 2
                        · rw [if_pos c19] at H
                          have c19b0 : decide (x16_5 < 2) = true := decide_eq_true c19
                          clear c19
                          by_cases c20 : x16_5 = x14_16
                          · rw [if_pos c20] at H
                            have c20b0 : (x16_5 == x14_16) = true := beq_iff_eq.mpr c20
                            have c20b1 : (x16_5 != x14_16) = false := bne_eq_false_iff_eq.mpr c20
                            clear c20
                            have H' := Aside0.mk H
                            clear H
                            go_wp2
                            go_roundg k5
                            case measure => have := HJ6.out; have := HJ11.out; have := HJ13.out; have := HJ16.out; have := HK5.out; omega
                            case rel => exact ⟨(x15_5), (wrap64 (x16_5 + 1)), (by first | rfl | (simp; done) | (simp [*]; done)), H', ⟨by have := HJ6.out; have := HJ11.out; have := HJ13.out; have := HJ16.out; have := HK5.out; omega⟩, ⟨by (with_reducible repeat (first | apply Kd.R_alloc | apply Kd.R_drewN | apply Kd.R_drew)); exact HO_13.out⟩, ⟨by (with_reducible repeat (first | apply Kd.R_alloc | apply Kd.R_drewN | apply Kd.R_drew)); exact HO_15.out⟩, ⟨by repeat (first | (with_reducible first | exact HB.out | apply below_alloc | apply pw_below_drewN | apply below_drew1) | exact HB.out)⟩⟩
                          · rw [if_neg c20] at H
                            have c20b0 : (x16_5 == x14_16) = false := beq_eq_false_iff_ne.mpr c20
                            have c20b1 : (x16_5 != x14_16) = true := bne_iff_ne.mpr c20
                            by_cases c21 : 0 ≤ x16_5
                            · rw [if_pos c21] at H
                              have c21b0 : decide (0 ≤ x16_5) = true := decide_eq_true c21
                              clear c21
                              by_cases c22 : x16_5 < (y334.length : Int)
                              · rw [if_pos c22] at H
                                have c22b0 : decide (x16_5 < (y334.length : Int)) = true := decide_eq_true c22
                                clear c22
                                replace H := Option.bind_eq_some_iff.mp H
                                obtain ⟨t341, A230, H⟩ := H
                                replace H : (if t341 = 0 then (some ((⟨#[]⟩ : ByteArray), 11)) else (if x15_5.length < 140737488355328 then (turnstileref1_Byte.l0 k5 y334 x14_16 (x15_5 ++ [t341]) (wrap64 (x16_5 + 1))) else (none))) = some (r1, r2) := H
                                have A23 := Aside0.mk A230
                                clear A230
                                by_cases c24 : t341 = 0
                                · rw [if_pos c24] at H
                                  have c24b0 : (t341 == 0) = true := beq_iff_eq.mpr c24
                                  have c24b1 : (t341 != 0) = false := bne_eq_false_iff_eq.mpr c24
                                  clear c24
                                  simp only [Option.some.injEq, Prod.mk.injEq] at H
                                  obtain ⟨rfl, rfl⟩ := H
                                  obtain ⟨Ao25, co25, eo25⟩ := Kd.R_slice HO_13.out
                                  subst eo25
                                  have p340 : 0 ≤ (x16_5 : Int) := of_decide_eq_true (by first | (with_reducible assumption) | assumption)
                                  have q340 : x16_5 < (y334.length : Int) := of_decide_eq_true (by first | (with_reducible assumption) | assumption)
                                  obtain ⟨ad340, e340, hx340_0⟩ := Kd.at_int (Kd.R_reads' HO_13.out).2.2 x16_5 p340 q340
                                  cases e340
                                  replace p340 := eq_true p340
                                  replace q340 := eq_true q340
                                  go_wp2_with (first | ((with_reducible refine gate_callee (f := 64) rfl ?_); refine goesL_ (some 75) rfl rfl Try.func64 (by kernel_rfl) rfl #[.int .i64 (rd y334 x16_5)] rfl (by (try simp only [List.map_toArray, List.map_cons, List.map_nil]); first | done | rfl | (simp only [List.length_drop, List.length_take]; rfl)) ?_; (with_reducible refine (turnstileref1_char.calls (rd y334 x16_5) t341 _ A23.out).mono ?_); rintro e w' ⟨rfl, ⟨nd, rfl⟩⟩; refine ⟨_, rfl, ?_⟩))
                                  go_ret2
                                  exact ⟨by first | rfl | (simp [errW_none, errW_some] <;> rfl) | (simp [*, errW_none, errW_some] <;> rfl), by repeat (first | (with_reducible first | exact HB.out | apply below_alloc | apply pw_below_drewN | apply below_drew1) | exact HB.out)⟩
                                · rw [if_neg c24] at H
                                  have c24b0 : (t341 == 0) = false := beq_eq_false_iff_ne.mpr c24
                                  have c24b1 : (t341 != 0) = true := bne_iff_ne.mpr c24
                                  by_cases c26 : x15_5.length < 140737488355328
                                  · rw [if_pos c26] at H
                                    have LMc26 := Aside0.mk c26
                                    clear c26
                                    obtain ⟨y342, hy342⟩ : ∃ y_ : List Int, y_ = (x15_5 ++ [t341]) := ⟨_, rfl⟩
                                    replace H : (turnstileref1_Byte.l0 k5 y334 x14_16 y342 (wrap64 (x16_5 + 1))) = some (r1, r2) := by first | (rw [hy342]; with_reducible exact H) | (have H2_ := (Option.bind_some _ _).symm.trans H; rw [hy342]; with_reducible exact H2_) | (have H2_ := (Option.bind_some _ _).symm.trans H; with_reducible exact H2_) | with_reducible exact H | (rw [hy342]; exact H) | exact H
                                    have Ny342 := Aside0.mk hy342
                                    clear hy342
                                    have H' := Aside0.mk H
                                    clear H
                                    obtain ⟨Ao27, co27, eo27⟩ := Kd.R_slice HO_13.out
                                    subst eo27
                                    have p340 : 0 ≤ (x16_5 : Int) := of_decide_eq_true (by first | (with_reducible assumption) | assumption)
                                    have q340 : x16_5 < (y334.length : Int) := of_decide_eq_true (by first | (with_reducible assumption) | assumption)
                                    obtain ⟨ad340, e340, hx340_0⟩ := Kd.at_int (Kd.R_reads' HO_13.out).2.2 x16_5 p340 q340
                                    cases e340
                                    replace p340 := eq_true p340
                                    replace q340 := eq_true q340
                                    go_wp2_with (first | ((with_reducible refine gate_callee (f := 64) rfl ?_); refine goesL_ (some 75) rfl rfl Try.func64 (by kernel_rfl) rfl #[.int .i64 (rd y334 x16_5)] rfl (by (try simp only [List.map_toArray, List.map_cons, List.map_nil]); first | done | rfl | (simp only [List.length_drop, List.length_take]; rfl)) ?_; (with_reducible refine (turnstileref1_char.calls (rd y334 x16_5) t341 _ A23.out).mono ?_); rintro e w' ⟨rfl, ⟨nd, rfl⟩⟩; refine ⟨_, rfl, ?_⟩) | ((with_reducible refine gate_builtin (b := .append) (xs := #[.tmp 78, .tmp 80]) rfl ?_); at_builtin; refine Kd.R_append (Kd.int .u8) (w0 := w) w.heap.size rfl (.tmp 78) (.tmp 80) 51 5 (.int .u8 0) 1 rfl Try.underlying51 info5 rfl (by decide) (by omega) u15 x15_5 t341 [.int .u8 t341] (fun _ => True) (fun _ => False) rfl rfl ?aP (fun _ hk => hk.elim) ?aF ?aO ?aB ?aS ?aL ?_; (case aP => exact rfl); (case aB => exact (by repeat (first | (with_reducible first | exact HB.out | apply below_alloc | apply pw_below_drewN | apply below_drew1) | exact HB.out))); (case aF => exact (fun _ _ => trivial)); (case aO => exact (by (with_reducible repeat (first | apply Kd.R_alloc | apply Kd.R_drewN | apply Kd.R_drew)); exact HO_15.out)); (case aS => exact (below_size (by repeat (first | (with_reducible first | exact HB.out | apply below_alloc | apply pw_below_drewN | apply below_drew1) | exact HB.out)))); (case aL => have := LMc26.out; omega); intro v343 w28 ho hb hg hat; rw [← Ny342.out] at ho; have n0_ := Aside0.mk (Kd.R_over' (by (with_reducible repeat (first | apply Kd.R_alloc | apply Kd.R_drewN | apply Kd.R_drew)); exact HO_13.out) (Kd.R_typed (by (with_reducible repeat (first | apply Kd.R_alloc | apply Kd.R_drewN | apply Kd.R_drew)); exact HO_15.out)) (by decide) hg); have n1_ := Aside0.mk (hb); have n2_ := Aside0.mk (ho); clear HO_13; clear HB; clear HO_15; have HO_13 := n0_; have HB := n1_; have HO344 := n2_; clear n0_ n1_ n2_; clear ho hb hg hat))
                                    go_roundg k5
                                    case measure => have := HJ6.out; have := HJ11.out; have := HJ13.out; have := HJ16.out; have := HK5.out; omega
                                    case rel => exact ⟨(y342), (wrap64 (x16_5 + 1)), (by first | rfl | (simp; done) | (simp [*]; done)), H', ⟨by have := HJ6.out; have := HJ11.out; have := HJ13.out; have := HJ16.out; have := HK5.out; omega⟩, ⟨by (with_reducible repeat (first | apply Kd.R_alloc | apply Kd.R_drewN | apply Kd.R_drew)); exact HO_13.out⟩, ⟨by (with_reducible repeat (first | apply Kd.R_alloc | apply Kd.R_drewN | apply Kd.R_drew)); exact HO344.out⟩, ⟨by repeat (first | (with_reducible first | exact HB.out | apply below_alloc | apply pw_below_drewN | apply below_drew1) | exact HB.out)⟩⟩
                                  · rw [if_neg c26] at H
                                    exact absurd H (by simp)
                              · rw [if_neg c22] at H
                                exact absurd H (by simp)
                            · rw [if_neg c21] at H
                              exact absurd H (by simp)
                        · rw [if_neg c19] at H
                          have c19b0 : decide (x16_5 < 2) = false := decide_eq_false c19
                          clear c19
                          by_cases c29 : x14_16 = 0
                          · rw [if_pos c29] at H
                            have c29b0 : (x14_16 == 0) = true := beq_iff_eq.mpr c29
                            have c29b1 : (x14_16 != 0) = false := bne_eq_false_iff_eq.mpr c29
                            clear c29
                            by_cases c30 : 0 < (y334.length : Int)
                            · rw [if_pos c30] at H
                              have c30b0 : decide (0 < (y334.length : Int)) = true := decide_eq_true c30
                              have c30b1 : decide (0 < y334.length) = true := decide_eq_true (by omega)
                              clear c30
                              by_cases c31 : (rd y334 0) = 0
                              · rw [if_pos c31] at H
                                have c31b0 : ((rd y334 0) == 0) = true := beq_iff_eq.mpr c31
                                have c31b1 : ((rd y334 0) != 0) = false := bne_eq_false_iff_eq.mpr c31
                                clear c31
                                by_cases c32 : x14_16 = 1
                                · rw [if_pos c32] at H
                                  have c32b0 : (x14_16 == 1) = true := beq_iff_eq.mpr c32
                                  have c32b1 : (x14_16 != 1) = false := bne_eq_false_iff_eq.mpr c32
                                  clear c32
                                  by_cases c33 : 1 < (y334.length : Int)
                                  · rw [if_pos c33] at H
                                    have c33b0 : decide (1 < (y334.length : Int)) = true := decide_eq_true c33
                                    have c33b1 : decide (1 < y334.length) = true := decide_eq_true (by omega)
                                    clear c33
                                    by_cases c34 : (rd y334 1) = 15
                                    · rw [if_pos c34] at H
                                      have c34b0 : ((rd y334 1) == 15) = true := beq_iff_eq.mpr c34
                                      have c34b1 : ((rd y334 1) != 15) = false := bne_eq_false_iff_eq.mpr c34
                                      clear c34
                                      simp only [Option.some.injEq, Prod.mk.injEq] at H
                                      obtain ⟨rfl, rfl⟩ := H
                                      obtain ⟨Ao35, co35, eo35⟩ := Kd.R_slice HO_13.out
                                      subst eo35
                                      have p337 : 0 ≤ (0 : Int) := (by omega)
                                      have q337 : 0 < (y334.length : Int) := of_decide_eq_true (by first | (with_reducible assumption) | assumption)
                                      obtain ⟨ad337, e337, hx337_0⟩ := Kd.at_int (Kd.R_reads' HO_13.out).2.2 0 p337 q337
                                      cases e337
                                      have qi337 : (0 < y334.length) = True := eq_true (by omega)
                                      (try rw [show ((0 : Int)).toNat = 0 from rfl] at hx337_0)
                                      (try rw [Addr.add_zero'] at hx337_0)
                                      replace p337 := eq_true p337
                                      replace q337 := eq_true q337
                                      have p338 : 0 ≤ (1 : Int) := (by omega)
                                      have q338 : 1 < (y334.length : Int) := of_decide_eq_true (by first | (with_reducible assumption) | assumption)
                                      obtain ⟨ad338, e338, hx338_0⟩ := Kd.at_int (Kd.R_reads' HO_13.out).2.2 1 p338 q338
                                      obtain rfl : ad337 = ad338 := (by injection e338)
                                      (try simp only [show (1 : Int).toNat = 1 from rfl, Nat.reduceMul, Nat.reduceEqDiff, Go.Addr.add, ↓reduceIte] at hx338_0)
                                      have qi338 : (1 < y334.length) = True := eq_true (by omega)
                                      (try rw [show ((1 : Int)).toNat = 1 from rfl] at hx338_0)
                                      replace p338 := eq_true p338
                                      replace q338 := eq_true q338
                                      have hcv36 := own_string (P := Try.prog) Try.underlying51 Try.underlying5 Try.underlying9 (Kd.own_of_R HO_15.out)
                                      go_wp2
                                      go_ret2
                                      exact ⟨by first | rfl | (simp [errW_none, errW_some] <;> rfl) | (simp [*, errW_none, errW_some] <;> rfl), by repeat (first | (with_reducible first | exact HB.out | apply below_alloc | apply pw_below_drewN | apply below_drew1) | exact HB.out)⟩
                                    · rw [if_neg c34] at H
                                      have c34b0 : ((rd y334 1) == 15) = false := beq_eq_false_iff_ne.mpr c34
                                      have c34b1 : ((rd y334 1) != 15) = true := bne_iff_ne.mpr c34
                                      simp only [Option.some.injEq, Prod.mk.injEq] at H
                                      obtain ⟨rfl, rfl⟩ := H
                                      obtain ⟨Ao37, co37, eo37⟩ := Kd.R_slice HO_13.out
                                      subst eo37
                                      have p337 : 0 ≤ (0 : Int) := (by omega)
                                      have q337 : 0 < (y334.length : Int) := of_decide_eq_true (by first | (with_reducible assumption) | assumption)
                                      obtain ⟨ad337, e337, hx337_0⟩ := Kd.at_int (Kd.R_reads' HO_13.out).2.2 0 p337 q337
                                      cases e337
                                      have qi337 : (0 < y334.length) = True := eq_true (by omega)
                                      (try rw [show ((0 : Int)).toNat = 0 from rfl] at hx337_0)
                                      (try rw [Addr.add_zero'] at hx337_0)
                                      replace p337 := eq_true p337
                                      replace q337 := eq_true q337
                                      have p338 : 0 ≤ (1 : Int) := (by omega)
                                      have q338 : 1 < (y334.length : Int) := of_decide_eq_true (by first | (with_reducible assumption) | assumption)
                                      obtain ⟨ad338, e338, hx338_0⟩ := Kd.at_int (Kd.R_reads' HO_13.out).2.2 1 p338 q338
                                      obtain rfl : ad337 = ad338 := (by injection e338)
                                      (try simp only [show (1 : Int).toNat = 1 from rfl, Nat.reduceMul, Nat.reduceEqDiff, Go.Addr.add, ↓reduceIte] at hx338_0)
                                      have qi338 : (1 < y334.length) = True := eq_true (by omega)
                                      (try rw [show ((1 : Int)).toNat = 1 from rfl] at hx338_0)
                                      replace p338 := eq_true p338
                                      replace q338 := eq_true q338
                                      have hcv38 := own_string (P := Try.prog) Try.underlying51 Try.underlying5 Try.underlying9 (Kd.own_of_R HO_15.out)
                                      go_wp2
                                      go_ret2
                                      exact ⟨by first | rfl | (simp [errW_none, errW_some] <;> rfl) | (simp [*, errW_none, errW_some] <;> rfl), by repeat (first | (with_reducible first | exact HB.out | apply below_alloc | apply pw_below_drewN | apply below_drew1) | exact HB.out)⟩
                                  · rw [if_neg c33] at H
                                    exact absurd H (by simp)
                                · rw [if_neg c32] at H
                                  have c32b0 : (x14_16 == 1) = false := beq_eq_false_iff_ne.mpr c32
                                  have c32b1 : (x14_16 != 1) = true := bne_iff_ne.mpr c32
                                  simp only [Option.some.injEq, Prod.mk.injEq] at H
                                  obtain ⟨rfl, rfl⟩ := H
                                  obtain ⟨Ao39, co39, eo39⟩ := Kd.R_slice HO_13.out
                                  subst eo39
                                  have p337 : 0 ≤ (0 : Int) := (by omega)
                                  have q337 : 0 < (y334.length : Int) := of_decide_eq_true (by first | (with_reducible assumption) | assumption)
                                  obtain ⟨ad337, e337, hx337_0⟩ := Kd.at_int (Kd.R_reads' HO_13.out).2.2 0 p337 q337
                                  cases e337
                                  have qi337 : (0 < y334.length) = True := eq_true (by omega)
                                  (try rw [show ((0 : Int)).toNat = 0 from rfl] at hx337_0)
                                  (try rw [Addr.add_zero'] at hx337_0)
                                  replace p337 := eq_true p337
                                  replace q337 := eq_true q337
                                  have hcv40 := own_string (P := Try.prog) Try.underlying51 Try.underlying5 Try.underlying9 (Kd.own_of_R HO_15.out)
                                  go_wp2
                                  go_ret2
                                  exact ⟨by first | rfl | (simp [errW_none, errW_some] <;> rfl) | (simp [*, errW_none, errW_some] <;> rfl), by repeat (first | (with_reducible first | exact HB.out | apply below_alloc | apply pw_below_drewN | apply below_drew1) | exact HB.out)⟩
                              · rw [if_neg c31] at H
                                have c31b0 : ((rd y334 0) == 0) = false := beq_eq_false_iff_ne.mpr c31
                                have c31b1 : ((rd y334 0) != 0) = true := bne_iff_ne.mpr c31
                                simp only [Option.some.injEq, Prod.mk.injEq] at H
                                obtain ⟨rfl, rfl⟩ := H
                                obtain ⟨Ao41, co41, eo41⟩ := Kd.R_slice HO_13.out
                                subst eo41
                                have p337 : 0 ≤ (0 : Int) := (by omega)
                                have q337 : 0 < (y334.length : Int) := of_decide_eq_true (by first | (with_reducible assumption) | assumption)
                                obtain ⟨ad337, e337, hx337_0⟩ := Kd.at_int (Kd.R_reads' HO_13.out).2.2 0 p337 q337
                                cases e337
                                have qi337 : (0 < y334.length) = True := eq_true (by omega)
                                (try rw [show ((0 : Int)).toNat = 0 from rfl] at hx337_0)
                                (try rw [Addr.add_zero'] at hx337_0)
                                replace p337 := eq_true p337
                                replace q337 := eq_true q337
                                have hcv42 := own_string (P := Try.prog) Try.underlying51 Try.underlying5 Try.underlying9 (Kd.own_of_R HO_15.out)
                                go_wp2
                                go_ret2
                                exact ⟨by first | rfl | (simp [errW_none, errW_some] <;> rfl) | (simp [*, errW_none, errW_some] <;> rfl), by repeat (first | (with_reducible first | exact HB.out | apply below_alloc | apply pw_below_drewN | apply below_drew1) | exact HB.out)⟩
                            · rw [if_neg c30] at H
                              exact absurd H (by simp)
                          · rw [if_neg c29] at H
                            have c29b0 : (x14_16 == 0) = false := beq_eq_false_iff_ne.mpr c29
                            have c29b1 : (x14_16 != 0) = true := bne_iff_ne.mpr c29
                            by_cases c43 : x14_16 = 1
                            · rw [if_pos c43] at H
                              have c43b0 : (x14_16 == 1) = true := beq_iff_eq.mpr c43
                              have c43b1 : (x14_16 != 1) = false := bne_eq_false_iff_eq.mpr c43
                              clear c43
                              by_cases c44 : 1 < (y334.length : Int)
                              · rw [if_pos c44] at H
                                have c44b0 : decide (1 < (y334.length : Int)) = true := decide_eq_true c44
                                have c44b1 : decide (1 < y334.length) = true := decide_eq_true (by omega)
                                clear c44
                                by_cases c45 : (rd y334 1) = 15
                                · rw [if_pos c45] at H
                                  have c45b0 : ((rd y334 1) == 15) = true := beq_iff_eq.mpr c45
                                  have c45b1 : ((rd y334 1) != 15) = false := bne_eq_false_iff_eq.mpr c45
                                  clear c45
                                  simp only [Option.some.injEq, Prod.mk.injEq] at H
                                  obtain ⟨rfl, rfl⟩ := H
                                  obtain ⟨Ao46, co46, eo46⟩ := Kd.R_slice HO_13.out
                                  subst eo46
                                  have p339 : 0 ≤ (1 : Int) := (by omega)
                                  have q339 : 1 < (y334.length : Int) := of_decide_eq_true (by first | (with_reducible assumption) | assumption)
                                  obtain ⟨ad339, e339, hx339_0⟩ := Kd.at_int (Kd.R_reads' HO_13.out).2.2 1 p339 q339
                                  cases e339
                                  (try simp only [show (1 : Int).toNat = 1 from rfl, Nat.reduceMul, Nat.reduceEqDiff, Go.Addr.add, ↓reduceIte] at hx339_0)
                                  have qi339 : (1 < y334.length) = True := eq_true (by omega)
                                  (try rw [show ((1 : Int)).toNat = 1 from rfl] at hx339_0)
                                  replace p339 := eq_true p339
                                  replace q339 := eq_true q339
                                  have hcv47 := own_string (P := Try.prog) Try.underlying51 Try.underlying5 Try.underlying9 (Kd.own_of_R HO_15.out)
                                  go_wp2
                                  go_ret2
                                  exact ⟨by first | rfl | (simp [errW_none, errW_some] <;> rfl) | (simp [*, errW_none, errW_some] <;> rfl), by repeat (first | (with_reducible first | exact HB.out | apply below_alloc | apply pw_below_drewN | apply below_drew1) | exact HB.out)⟩
                                · rw [if_neg c45] at H
                                  have c45b0 : ((rd y334 1) == 15) = false := beq_eq_false_iff_ne.mpr c45
                                  have c45b1 : ((rd y334 1) != 15) = true := bne_iff_ne.mpr c45
                                  simp only [Option.some.injEq, Prod.mk.injEq] at H
                                  obtain ⟨rfl, rfl⟩ := H
                                  obtain ⟨Ao48, co48, eo48⟩ := Kd.R_slice HO_13.out
                                  subst eo48
                                  have p339 : 0 ≤ (1 : Int) := (by omega)
                                  have q339 : 1 < (y334.length : Int) := of_decide_eq_true (by first | (with_reducible assumption) | assumption)
                                  obtain ⟨ad339, e339, hx339_0⟩ := Kd.at_int (Kd.R_reads' HO_13.out).2.2 1 p339 q339
                                  cases e339
                                  (try simp only [show (1 : Int).toNat = 1 from rfl, Nat.reduceMul, Nat.reduceEqDiff, Go.Addr.add, ↓reduceIte] at hx339_0)
                                  have qi339 : (1 < y334.length) = True := eq_true (by omega)
                                  (try rw [show ((1 : Int)).toNat = 1 from rfl] at hx339_0)
                                  replace p339 := eq_true p339
                                  replace q339 := eq_true q339
                                  have hcv49 := own_string (P := Try.prog) Try.underlying51 Try.underlying5 Try.underlying9 (Kd.own_of_R HO_15.out)
                                  go_wp2
                                  go_ret2
                                  exact ⟨by first | rfl | (simp [errW_none, errW_some] <;> rfl) | (simp [*, errW_none, errW_some] <;> rfl), by repeat (first | (with_reducible first | exact HB.out | apply below_alloc | apply pw_below_drewN | apply below_drew1) | exact HB.out)⟩
                              · rw [if_neg c44] at H
                                exact absurd H (by simp)
                            · rw [if_neg c43] at H
                              have c43b0 : (x14_16 == 1) = false := beq_eq_false_iff_ne.mpr c43
                              have c43b1 : (x14_16 != 1) = true := bne_iff_ne.mpr c43
                              simp only [Option.some.injEq, Prod.mk.injEq] at H
                              obtain ⟨rfl, rfl⟩ := H
                              have hcv50 := own_string (P := Try.prog) Try.underlying51 Try.underlying5 Try.underlying9 (Kd.own_of_R HO_15.out)
                              go_wp2
                              go_ret2
                              exact ⟨by first | rfl | (simp [errW_none, errW_some] <;> rfl) | (simp [*, errW_none, errW_some] <;> rfl), by repeat (first | (with_reducible first | exact HB.out | apply below_alloc | apply pw_below_drewN | apply below_drew1) | exact HB.out)⟩
  · replace c6 := Bool.eq_false_iff.mpr c6
    subst c6
    have H1 : ((turnstileref1_Char.f k a0 a1).bind fun bt329 => (if bt329.2 = true then (some (strOfNums (([bt329.1] : List Int)), 0)) else (some ((⟨#[]⟩ : ByteArray), 11)))) = some (r1, r2) := by rw [if_neg (show ¬ (false = true) by decide)] at H; exact H
    clear H
    have H := H1
    clear H1
    replace H := Option.bind_eq_some_iff.mp H
    obtain ⟨⟨t329, t330⟩, A510, H⟩ := H
    replace H : (if t330 = true then (some (strOfNums (([t329] : List Int)), 0)) else (some ((⟨#[]⟩ : ByteArray), 11))) = some (r1, r2) := H
    have A51 := Aside0.mk A510
    clear A510
    by_cases c52 : t330 = true
    · subst c52
      have H1 : (some (strOfNums (([t329] : List Int)), 0)) = some (r1, r2) := by rw [if_pos rfl] at H; exact H
      clear H
      have H := H1
      clear H1
      obtain ⟨y331, hy331⟩ : ∃ y_ : List Int, y_ = (([t329] : List Int)) := ⟨_, rfl⟩
      replace H : (some (strOfNums y331, 0)) = some (r1, r2) := by first | (rw [hy331]; with_reducible exact H) | (have H2_ := (Option.bind_some _ _).symm.trans H; rw [hy331]; with_reducible exact H2_) | (have H2_ := (Option.bind_some _ _).symm.trans H; with_reducible exact H2_) | with_reducible exact H | (rw [hy331]; exact H) | exact H
      have Ny331 := Aside0.mk hy331
      clear hy331
      simp only [Option.some.injEq, Prod.mk.injEq] at H
      obtain ⟨rfl, rfl⟩ := H
      go_enter Try.func55, Try.ntmps55
      go_wp2_with (first | ((with_reducible refine gate_callee (f := 41) rfl ?_); refine goesL_ (some 19) rfl rfl Try.func41 (by kernel_rfl) rfl #[.int .i64 a0] rfl (by (try simp only [List.map_toArray, List.map_cons, List.map_nil]); first | done | rfl | (simp only [List.length_drop, List.length_take]; rfl)) ?_; (with_reducible refine (turnstileref1_Packed.calls a0 false _ A5.out).mono ?_); rintro e w' ⟨rfl, ⟨nd, rfl⟩⟩; refine ⟨_, rfl, ?_⟩) | ((with_reducible refine gate_callee (f := 63) rfl ?_); refine goesL_ (some 25) rfl rfl Try.func63 (by kernel_rfl) rfl #[.int .i64 a0, .int .u8 a1] rfl (by (try simp only [List.map_toArray, List.map_cons, List.map_nil]); first | done | rfl | (simp only [List.length_drop, List.length_take]; rfl)) ?_; (with_reducible refine (turnstileref1_Char.calls k a0 a1 t329 true _ A51.out).mono ?_); rintro e w' ⟨rfl, ⟨nd, rfl⟩⟩; refine ⟨_, rfl, ?_⟩) | ((with_reducible refine gate_dst (N := 31) rfl ?_); refine Kd.R_lit (Kd.int .u8) _ 5 ?hg (N := 31) ?hd (xs := ([t329] : List Int)) (inner := [.int .u8 t329]) (ok := fun _ => True) (okp := fun _ => True) ?hr ?hp (fun _ hk => hk) trivial (Below.refl _ _) (Nat.le_refl _) (by simp) ?_; (case hd => rfl); (case hg => rfl); (case hr => first | (go_simp; done) | (go_simp; rfl)); (case hp => exact (Reps.one (show Kd.M (Kd.int .u8) _ _ _ t329 [.int .u8 t329] from rfl) (Reps.none _ _))); intro v332 w53 ho54 hb hg_ hnew_; clear hg_ hnew_; (first | rw [← Ny331.out] at ho54 | (simp only [Int.reduceToNat] at ho54; rw [← Ny331.out] at ho54)); have n0_ := Aside0.mk (Kd.R_lower ho54 (below_size (by repeat (first | (with_reducible first | exact HB.out | apply below_alloc | apply pw_below_drewN | apply below_drew1) | exact HB.out)))); have n1_ := Aside0.mk (below_step (by repeat (first | (with_reducible first | exact HB.out | apply below_alloc | apply pw_below_drewN | apply below_drew1) | exact HB.out)) hb); clear HB; have HO333 := n0_; have HB := n1_; clear n0_ n1_; clear hb ho54; have hcv55 := own_string (P := Try.prog) Try.underlying51 Try.underlying5 Try.underlying9 (Kd.own_of_R HO333.out)))
      go_ret2
      exact ⟨by first | rfl | (simp [errW_none, errW_some] <;> rfl) | (simp [*, errW_none, errW_some] <;> rfl), by repeat (first | (with_reducible first | exact HB.out | apply below_alloc | apply pw_below_drewN | apply below_drew1) | exact HB.out)⟩
    · replace c52 := Bool.eq_false_iff.mpr c52
      subst c52
      have H1 : (some ((⟨#[]⟩ : ByteArray), 11)) = some (r1, r2) := by rw [if_neg (show ¬ (false = true) by decide)] at H; exact H
      clear H
      have H := H1
      clear H1
      simp only [Option.some.injEq, Prod.mk.injEq] at H
      obtain ⟨rfl, rfl⟩ := H
      go_enter Try.func55, Try.ntmps55
      go_wp2_with (first | ((with_reducible refine gate_callee (f := 41) rfl ?_); refine goesL_ (some 19) rfl rfl Try.func41 (by kernel_rfl) rfl #[.int .i64 a0] rfl (by (try simp only [List.map_toArray, List.map_cons, List.map_nil]); first | done | rfl | (simp only [List.length_drop, List.length_take]; rfl)) ?_; (with_reducible refine (turnstileref1_Packed.calls a0 false _ A5.out).mono ?_); rintro e w' ⟨rfl, ⟨nd, rfl⟩⟩; refine ⟨_, rfl, ?_⟩) | ((with_reducible refine gate_callee (f := 63) rfl ?_); refine goesL_ (some 25) rfl rfl Try.func63 (by kernel_rfl) rfl #[.int .i64 a0, .int .u8 a1] rfl (by (try simp only [List.map_toArray, List.map_cons, List.map_nil]); first | done | rfl | (simp only [List.length_drop, List.length_take]; rfl)) ?_; (with_reducible refine (turnstileref1_Char.calls k a0 a1 t329 false _ A51.out).mono ?_); rintro e w' ⟨rfl, ⟨nd, rfl⟩⟩; refine ⟨_, rfl, ?_⟩))
      go_ret2
      exact ⟨by first | rfl | (simp [errW_none, errW_some] <;> rfl) | (simp [*, errW_none, errW_some] <;> rfl), by repeat (first | (with_reducible first | exact HB.out | apply below_alloc | apply pw_below_drewN | apply below_drew1) | exact HB.out)⟩

end Go.Proofs.Ytlpamhffpgoebaa.All
