-- WRITTEN BY this session's own drv.py over the kit's print. Not trusted: Lean checks it.
import Derived.Test.YtlpamhffpgoebaaAx0
import Derived.Test.YtlpamhffpgoebaaAx18
namespace Go.Proofs.Ytlpamhffpgoebaa.All
open Go.RowKit Go.Proofs.YtlpamhffpgoebaaW.PrintWords Go.Proofs.YtlpamhffpgoebaaW.PrintLast Go.Proofs.YtlpamhffpgoebaaW.PrintMore
attribute [local go_sem] max2_int min2_int max_two min_two max_three min_three max_four min_four   -- for this text's walks alone
set_option linter.unusedVariables false
set_option linter.unusedSimpArgs false

/-! ### digits_packHalves: function 49 -/
mutual
def digits_packHalves.j0 : Nat → ByteArray → List Int → Bool → Option (ByteArray × Int)
  | 0, _, _, _ => none
  | k + 1, x1, x6, x19 => if x19 = true then (if x6.length < 140737488355328 then (digits_packHalves.j1 k x1 (x6 ++ [0])) else (none)) else (digits_packHalves.j1 k x1 x6)
def digits_packHalves.j1 : Nat → ByteArray → List Int → Option (ByteArray × Int)
  | 0, _, _ => none
  | k + 1, x1, x6 => digits_packHalves.l0 k x1 x6 (x1.size : Int) 0
def digits_packHalves.l0 : Nat → ByteArray → List Int → Int → Int → Option (ByteArray × Int)
  | 0, _, _, _, _ => none
  | k + 1, x1, x6, x24, x25 => if x25 < x24 then (if 0 ≤ x25 then (if x25 < (x1.size : Int) then ((digits_half.f (bt x1 x25)).bind fun bt134 => (if bt134.2 = true then (if x6.length < 140737488355328 then (digits_packHalves.l0 k x1 (x6 ++ [bt134.1]) x24 (wrap64 (x25 + 1))) else (none)) else (some ((⟨#[]⟩ : ByteArray), 11)))) else (none)) else (none)) else (if ((x6.length : Int) % 2) = 1 then (if x6.length < 140737488355328 then (digits_packHalves.j3 k (x6 ++ [15])) else (none)) else (digits_packHalves.j3 k x6))
def digits_packHalves.j3 : Nat → List Int → Option (ByteArray × Int)
  | 0, _ => none
  | k + 1, x6 => digits_packHalves.l1 k x6 ([] : List Int) 0
def digits_packHalves.l1 : Nat → List Int → List Int → Int → Option (ByteArray × Int)
  | 0, _, _, _ => none
  | k + 1, x6, x10, x11 => if x11 < (x6.length : Int) then (if 0 ≤ x11 then (if 0 ≤ (wrap64 (x11 + 1)) then (if (wrap64 (x11 + 1)) < (x6.length : Int) then (if x10.length < 140737488355328 then (digits_packHalves.l1 k x6 (x10 ++ [Go.bits .or .u8 (((rd x6 x11) * 16) % 256) (rd x6 (wrap64 (x11 + 1)))]) (wrap64 (x11 + 2))) else (none)) else (none)) else (none)) else (none)) else (some (strOfNums x10, 0))
end
def digits_packHalves.f (k : Nat) (a0 : Int) (a1 : ByteArray) : Option (ByteArray × Int) := if a0 = 2 then (digits_packHalves.j0 k a1 ([] : List Int) (((a1.size : Int) % 2) == 1)) else (digits_packHalves.j0 k a1 ([] : List Int) false)
theorem digits_packHalves.mono_l : ∀ k, (∀ y0 y1 y2, LeO (digits_packHalves.j0 k y0 y1 y2) (digits_packHalves.j0 (k + 1) y0 y1 y2)) ∧ (∀ y0 y1, LeO (digits_packHalves.j1 k y0 y1) (digits_packHalves.j1 (k + 1) y0 y1)) ∧ (∀ y0 y1 y2 y3, LeO (digits_packHalves.l0 k y0 y1 y2 y3) (digits_packHalves.l0 (k + 1) y0 y1 y2 y3)) ∧ (∀ y0, LeO (digits_packHalves.j3 k y0) (digits_packHalves.j3 (k + 1) y0)) ∧ (∀ y0 y1 y2, LeO (digits_packHalves.l1 k y0 y1 y2) (digits_packHalves.l1 (k + 1) y0 y1 y2))
  | 0 => ⟨fun _ _ _ r h => by simp [digits_packHalves.j0] at h, fun _ _ r h => by simp [digits_packHalves.j1] at h, fun _ _ _ _ r h => by simp [digits_packHalves.l0] at h, fun _ r h => by simp [digits_packHalves.j3] at h, fun _ _ _ r h => by simp [digits_packHalves.l1] at h⟩
  | k + 1 => by
    obtain ⟨ih0, ih1, ih2, ih3, ih4⟩ := digits_packHalves.mono_l k
    refine ⟨?_, ?_, ?_, ?_, ?_⟩
    · intro y0 y1 y2
      unfold digits_packHalves.j0
      repeat' first
      | (with_reducible exact ih0 _ _ _)
      | (with_reducible exact ih1 _ _)
      | (with_reducible exact ih2 _ _ _ _)
      | (with_reducible exact ih3 _)
      | (with_reducible exact ih4 _ _ _)
      | (with_reducible exact LeO.refl _)
      | (with_reducible exact LeO.none _)
      | (with_reducible refine LeO.ite ?_ ?_)
      | (with_reducible refine LeO.bind ?_ (fun _ => ?_))
      | exact ih0 _ _ _
      | exact ih1 _ _
      | exact ih2 _ _ _ _
      | exact ih3 _
      | exact ih4 _ _ _
      | exact LeO.none _
      | refine LeO.ite ?_ ?_
      | refine LeO.bind ?_ (fun _ => ?_)
    · intro y0 y1
      unfold digits_packHalves.j1
      repeat' first
      | (with_reducible exact ih0 _ _ _)
      | (with_reducible exact ih1 _ _)
      | (with_reducible exact ih2 _ _ _ _)
      | (with_reducible exact ih3 _)
      | (with_reducible exact ih4 _ _ _)
      | (with_reducible exact LeO.refl _)
      | (with_reducible exact LeO.none _)
      | (with_reducible refine LeO.ite ?_ ?_)
      | (with_reducible refine LeO.bind ?_ (fun _ => ?_))
      | exact ih0 _ _ _
      | exact ih1 _ _
      | exact ih2 _ _ _ _
      | exact ih3 _
      | exact ih4 _ _ _
      | exact LeO.none _
      | refine LeO.ite ?_ ?_
      | refine LeO.bind ?_ (fun _ => ?_)
    · intro y0 y1 y2 y3
      unfold digits_packHalves.l0
      repeat' first
      | (with_reducible exact ih0 _ _ _)
      | (with_reducible exact ih1 _ _)
      | (with_reducible exact ih2 _ _ _ _)
      | (with_reducible exact ih3 _)
      | (with_reducible exact ih4 _ _ _)
      | (with_reducible exact LeO.refl _)
      | (with_reducible exact LeO.none _)
      | (with_reducible refine LeO.ite ?_ ?_)
      | (with_reducible refine LeO.bind ?_ (fun _ => ?_))
      | exact ih0 _ _ _
      | exact ih1 _ _
      | exact ih2 _ _ _ _
      | exact ih3 _
      | exact ih4 _ _ _
      | exact LeO.none _
      | refine LeO.ite ?_ ?_
      | refine LeO.bind ?_ (fun _ => ?_)
    · intro y0
      unfold digits_packHalves.j3
      repeat' first
      | (with_reducible exact ih0 _ _ _)
      | (with_reducible exact ih1 _ _)
      | (with_reducible exact ih2 _ _ _ _)
      | (with_reducible exact ih3 _)
      | (with_reducible exact ih4 _ _ _)
      | (with_reducible exact LeO.refl _)
      | (with_reducible exact LeO.none _)
      | (with_reducible refine LeO.ite ?_ ?_)
      | (with_reducible refine LeO.bind ?_ (fun _ => ?_))
      | exact ih0 _ _ _
      | exact ih1 _ _
      | exact ih2 _ _ _ _
      | exact ih3 _
      | exact ih4 _ _ _
      | exact LeO.none _
      | refine LeO.ite ?_ ?_
      | refine LeO.bind ?_ (fun _ => ?_)
    · intro y0 y1 y2
      unfold digits_packHalves.l1
      repeat' first
      | (with_reducible exact ih0 _ _ _)
      | (with_reducible exact ih1 _ _)
      | (with_reducible exact ih2 _ _ _ _)
      | (with_reducible exact ih3 _)
      | (with_reducible exact ih4 _ _ _)
      | (with_reducible exact LeO.refl _)
      | (with_reducible exact LeO.none _)
      | (with_reducible refine LeO.ite ?_ ?_)
      | (with_reducible refine LeO.bind ?_ (fun _ => ?_))
      | exact ih0 _ _ _
      | exact ih1 _ _
      | exact ih2 _ _ _ _
      | exact ih3 _
      | exact ih4 _ _ _
      | exact LeO.none _
      | refine LeO.ite ?_ ?_
      | refine LeO.bind ?_ (fun _ => ?_)
theorem digits_packHalves.mono : ∀ a0 a1 k, LeO (digits_packHalves.f k a0 a1) (digits_packHalves.f (k + 1) a0 a1) := by
  intro a0 a1 k
  obtain ⟨ih0, ih1, ih2, ih3, ih4⟩ := digits_packHalves.mono_l k
  unfold digits_packHalves.f
  repeat' first
      | (with_reducible exact ih0 _ _ _)
      | (with_reducible exact ih1 _ _)
      | (with_reducible exact ih2 _ _ _ _)
      | (with_reducible exact ih3 _)
      | (with_reducible exact ih4 _ _ _)
      | (with_reducible exact LeO.refl _)
      | (with_reducible exact LeO.none _)
      | (with_reducible refine LeO.ite ?_ ?_)
      | (with_reducible refine LeO.bind ?_ (fun _ => ?_))
      | exact ih0 _ _ _
      | exact ih1 _ _
      | exact ih2 _ _ _ _
      | exact ih3 _
      | exact ih4 _ _ _
      | exact LeO.none _
      | refine LeO.ite ?_ ?_
      | refine LeO.bind ?_ (fun _ => ?_)
def digits_packHalves.T18 : Bool × List (List Nat × List Nat) := (true, [([], []), ([], []), ([], []), ([1, 2], [1, 2]), ([3], [3]), ([4], [4]), ([], []), ([], []), ([7], [7]), ([6, 8], [6, 8]), ([9], [9]), ([5, 10], [5, 10]), ([11], [11]), ([0, 12], [0, 12]), ([13, 13, 0, 1, 2, 3, 4, 5, 6, 7, 8, 9, 10, 11, 12, 13], [0, 13])])
def digits_packHalves.B18 : List Nat := [0, 0, 0, 6, 14, 30, 0, 0, 128, 448, 960, 2046, 4094, 8191, 16383]
theorem digits_packHalves.tab18 : rtab .any (opsOf Try.f49 18) = digits_packHalves.T18 := by kernel_rfl
theorem digits_packHalves.bits18 : waitsOk digits_packHalves.T18.2 digits_packHalves.B18 = true := by kernel_rfl
set_option maxHeartbeats 8000000 in
set_option maxRecDepth 100000 in
theorem digits_packHalves.calls (k : Nat) (a0 : Int) (a1 : ByteArray) (r1 : ByteArray) (r2 : Int) (w : World) (h : digits_packHalves.f k a0 a1 = some (r1, r2)) :
    Calls Try.prog 49 #[.int .i64 a0, .string a1] w fun e w' => e = .returned (.tuple #[.string r1, .int .i64 r2]) ∧ Below w.heap.size w w' := by
  have HB := Aside0.mk (Below.refl w.heap.size w)
  have H : (if a0 = 2 then (digits_packHalves.j0 k a1 ([] : List Int) (((a1.size : Int) % 2) == 1)) else (digits_packHalves.j0 k a1 ([] : List Int) false)) = some (r1, r2) := h
  clear h
  have HC3 := Aside0.mk H
  clear H
  go_enter Try.func49, Try.ntmps49
  go_upto_region 2 with (fail)
  go_cut [19] (fun v19 wc => ∃ (kq : Nat) (x19_2 : Bool), v19 = .bool x19_2 ∧ Aside0 (digits_packHalves.j0 kq a1 ([] : List Int) x19_2 = some (r1, r2)) ∧ Aside0 (kq ≤ k) ∧ Aside0 (Kd.R (Kd.int .u8) 5 wc w.heap.size (fun _ => True) (.slice none 0 0) ([] : List Int)) ∧ Aside0 (Below w.heap.size w wc))
  case first =>
    have H := HC3.out
    clear HC3
    by_cases c4 : a0 = 2
    · rw [if_pos c4] at H
      have c4b0 : (a0 == 2) = true := beq_iff_eq.mpr c4
      have c4b1 : (a0 != 2) = false := bne_eq_false_iff_eq.mpr c4
      clear c4
      (first | rw [c4b0] | (simp only [i64_w, i32_w]; rw [c4b0]) | skip)
      have H' := Aside0.mk H
      clear H
      go_wp2
      go_meet
      case rel => exact ⟨_, ((((a1.size : Int) % 2) == 1)), (by first | rfl | (simp; done) | (simp [*]; done)), H', ⟨by first | omega | exact Nat.le_refl _⟩, ⟨by first | exact Kd.R_nil _ _ _ _ _ | exact Kd.N_nil _ _ _ _ _ | exact Kd.V_nil _ _ _ _ _ | exact Kd.Q_nil _ _ _ _ _ | exact Kd.S_nil _ _ _ _ _⟩, ⟨by repeat (first | (with_reducible first | exact HB.out | apply below_alloc | apply pw_below_drewN | apply below_drew1) | exact HB.out)⟩⟩
    · rw [if_neg c4] at H
      have c4b0 : (a0 == 2) = false := beq_eq_false_iff_ne.mpr c4
      have c4b1 : (a0 != 2) = true := bne_iff_ne.mpr c4
      (first | rw [c4b0] | (simp only [i64_w, i32_w]; rw [c4b0]) | skip)
      have H' := Aside0.mk H
      clear H
      go_wp2
      go_meet
      case rel => exact ⟨_, (false), (by first | rfl | (simp; done) | (simp [*]; done)), H', ⟨by first | omega | exact Nat.le_refl _⟩, ⟨by first | exact Kd.R_nil _ _ _ _ _ | exact Kd.N_nil _ _ _ _ _ | exact Kd.V_nil _ _ _ _ _ | exact Kd.Q_nil _ _ _ _ _ | exact Kd.S_nil _ _ _ _ _⟩, ⟨by repeat (first | (with_reducible first | exact HB.out | apply below_alloc | apply pw_below_drewN | apply below_drew1) | exact HB.out)⟩⟩
  case rest =>
    clear HC3
    try clear p2
    try clear c4
    try clear c4b0
    try clear c4b1
    obtain ⟨kq, x19_2, rfl, HA, HJ2, HO_6, HB⟩ := hcut
    cases kq with
    | zero => exact absurd HA.out (by simp [digits_packHalves.j0])
    | succ kj2 =>
      have H := HA.out
      clear HA
      simp only [digits_packHalves.j0] at H
      have HC5 := Aside0.mk H
      clear H
      go_upto_if 19 with (fail)
      go_cut [6] (fun v6 wc => ∃ (kq : Nat) (x6_4 : List Int), Aside0 (digits_packHalves.j1 kq a1 x6_4 = some (r1, r2)) ∧ Aside0 (kq ≤ kj2) ∧ Aside0 (Kd.R (Kd.int .u8) 5 wc w.heap.size (fun _ => True) v6 x6_4) ∧ Aside0 (Below w.heap.size w wc))
      case first =>
        have H := HC5.out
        clear HC5
        by_cases c6 : x19_2 = true
        · subst c6
          have H1 : (if ([] : List Int).length < 140737488355328 then (digits_packHalves.j1 kj2 a1 (([] : List Int) ++ [0])) else (none)) = some (r1, r2) := by rw [if_pos rfl] at H; exact H
          clear H
          have H := H1
          clear H1
          by_cases c7 : ([] : List Int).length < 140737488355328
          · rw [if_pos c7] at H
            have LMc7 := Aside0.mk c7
            clear c7
            obtain ⟨y131, hy131⟩ : ∃ y_ : List Int, y_ = (([] : List Int) ++ [0]) := ⟨_, rfl⟩
            replace H : (digits_packHalves.j1 kj2 a1 y131) = some (r1, r2) := by first | (rw [hy131]; with_reducible exact H) | (have H2_ := (Option.bind_some _ _).symm.trans H; rw [hy131]; with_reducible exact H2_) | (have H2_ := (Option.bind_some _ _).symm.trans H; with_reducible exact H2_) | with_reducible exact H | (rw [hy131]; exact H) | exact H
            have Ny131 := Aside0.mk hy131
            clear hy131
            have H' := Aside0.mk H
            clear H
            go_wp2_with (first | ((with_reducible refine gate_builtin (b := .append) (xs := #[.tmp 20, .tmp 21]) rfl ?_); (try (refine gate_guard (by rfl) ?_; dsimp only)); at_builtin; refine Kd.R_append (Kd.int .u8) (w0 := w) w.heap.size rfl (.tmp 20) (.tmp 21) 51 5 (.int .u8 0) 1 rfl Try.underlying51 info5 rfl (by decide) (by omega) (.slice none 0 0) ([] : List Int) 0 [.int .u8 0] (fun _ => True) (fun _ => False) rfl rfl ?aP (fun _ hk => hk.elim) ?aF ?aO ?aB ?aS ?aL ?_; (case aP => exact rfl); (case aB => exact (by repeat (first | (with_reducible first | exact HB.out | apply below_alloc | apply pw_below_drewN | apply below_drew1) | exact HB.out))); (case aF => exact (fun _ _ => trivial)); (case aO => exact (by (with_reducible repeat (first | apply Kd.R_alloc | apply Kd.R_drewN | apply Kd.R_drew)); exact HO_6.out)); (case aS => exact (below_size (by repeat (first | (with_reducible first | exact HB.out | apply below_alloc | apply pw_below_drewN | apply below_drew1) | exact HB.out)))); (case aL => have := LMc7.out; omega); intro v132 w8 ho hb hg hat; rw [← Ny131.out] at ho; have n0_ := Aside0.mk (hb); have n1_ := Aside0.mk (ho); clear HB; clear HO_6; have HB := n0_; have HO133 := n1_; clear n0_ n1_; clear ho hb hg hat))
            go_meet
            case rel => exact ⟨_, (y131), H', ⟨by have := HJ2.out; first | omega | exact Nat.le_refl _⟩, ⟨by (with_reducible repeat (first | apply Kd.R_alloc | apply Kd.R_drewN | apply Kd.R_drew)); exact HO133.out⟩, ⟨by repeat (first | (with_reducible first | exact HB.out | apply below_alloc | apply pw_below_drewN | apply below_drew1) | exact HB.out)⟩⟩
          · rw [if_neg c7] at H
            exact absurd H (by simp)
        · replace c6 := Bool.eq_false_iff.mpr c6
          subst c6
          have H1 : (digits_packHalves.j1 kj2 a1 ([] : List Int)) = some (r1, r2) := by rw [if_neg (show ¬ (false = true) by decide)] at H; exact H
          clear H
          have H := H1
          clear H1
          have H' := Aside0.mk H
          clear H
          go_wp2
          go_meet
          case rel => exact ⟨_, (([] : List Int)), H', ⟨by have := HJ2.out; first | omega | exact Nat.le_refl _⟩, ⟨by (with_reducible repeat (first | apply Kd.R_alloc | apply Kd.R_drewN | apply Kd.R_drew)); exact HO_6.out⟩, ⟨by repeat (first | (with_reducible first | exact HB.out | apply below_alloc | apply pw_below_drewN | apply below_drew1) | exact HB.out)⟩⟩
      case rest =>
        clear HC5
        try clear p2
        try clear c4
        try clear c4b0
        try clear c4b1
        try clear c6
        try clear c7
        try clear p2
        obtain ⟨kq, x6_4, HA, HJ4, HO_6, HB⟩ := hcut
        cases kq with
        | zero => exact absurd HA.out (by simp [digits_packHalves.j1])
        | succ kj4 =>
          have H := HA.out
          clear HA
          simp only [digits_packHalves.j1] at H
          have H' := Aside0.mk H
          clear H
          go_wp2
          go_loopg [6, 25] kj4 (fun kq v6 v25 w' => ∃ (x6_3 : List Int) (x25_3 : Int), v25 = .int .i64 x25_3 ∧ Aside0 (digits_packHalves.l0 kq a1 x6_3 (a1.size : Int) x25_3 = some (r1, r2)) ∧ Aside0 (kq ≤ kj4) ∧ Aside0 (Kd.R (Kd.int .u8) 5 w' w.heap.size (fun _ => True) v6 x6_3) ∧ Aside0 (Below w.heap.size w w'))
          case atStart => exact ⟨(x6_4), (0), (by first | rfl | (simp; done) | (simp [*]; done)), H', ⟨Nat.le_refl _⟩, ⟨by (with_reducible repeat (first | apply Kd.R_alloc | apply Kd.R_drewN | apply Kd.R_drew)); exact HO_6.out⟩, ⟨by repeat (first | (with_reducible first | exact HB.out | apply below_alloc | apply pw_below_drewN | apply below_drew1) | exact HB.out)⟩⟩
          case round =>
            clear H'
            try clear p2
            try clear c4
            try clear c4b0
            try clear c4b1
            try clear c6
            try clear c7
            try clear p2
            obtain ⟨x6_3, x25_3, rfl, HA, HK3, HO_6, HB⟩ := hrel
            cases gk with
            | zero => exact absurd HA.out (by simp [digits_packHalves.l0])
            | succ k3 =>
              have H := HA.out
              clear HA
              simp only [digits_packHalves.l0] at H
              by_cases c9 : x25_3 < (a1.size : Int)
              · rw [if_pos c9] at H
                have c9b0 : decide (x25_3 < (a1.size : Int)) = true := decide_eq_true c9
                clear c9
                by_cases c10 : 0 ≤ x25_3
                · rw [if_pos c10] at H
                  have c10b0 : decide (0 ≤ x25_3) = true := decide_eq_true c10
                  clear c10
                  by_cases c11 : x25_3 < (a1.size : Int)
                  · rw [if_pos c11] at H
                    have c11b0 : decide (x25_3 < (a1.size : Int)) = true := decide_eq_true c11
                    clear c11
                    replace H := Option.bind_eq_some_iff.mp H
                    obtain ⟨⟨t134, t135⟩, A130, H⟩ := H
                    replace H : (if t135 = true then (if x6_3.length < 140737488355328 then (digits_packHalves.l0 k3 a1 (x6_3 ++ [t134]) (a1.size : Int) (wrap64 (x25_3 + 1))) else (none)) else (some ((⟨#[]⟩ : ByteArray), 11))) = some (r1, r2) := H
                    have A13 := Aside0.mk A130
                    clear A130
                    by_cases c14 : t135 = true
                    · subst c14
                      have H1 : (if x6_3.length < 140737488355328 then (digits_packHalves.l0 k3 a1 (x6_3 ++ [t134]) (a1.size : Int) (wrap64 (x25_3 + 1))) else (none)) = some (r1, r2) := by rw [if_pos rfl] at H; exact H
                      clear H
                      have H := H1
                      clear H1
                      by_cases c15 : x6_3.length < 140737488355328
                      · rw [if_pos c15] at H
                        have LMc15 := Aside0.mk c15
                        clear c15
                        obtain ⟨y136, hy136⟩ : ∃ y_ : List Int, y_ = (x6_3 ++ [t134]) := ⟨_, rfl⟩
                        replace H : (digits_packHalves.l0 k3 a1 y136 (a1.size : Int) (wrap64 (x25_3 + 1))) = some (r1, r2) := by first | (rw [hy136]; with_reducible exact H) | (have H2_ := (Option.bind_some _ _).symm.trans H; rw [hy136]; with_reducible exact H2_) | (have H2_ := (Option.bind_some _ _).symm.trans H; with_reducible exact H2_) | with_reducible exact H | (rw [hy136]; exact H) | exact H
                        have Ny136 := Aside0.mk hy136
                        clear hy136
                        have H' := Aside0.mk H
                        clear H
                        have p12 : 0 ≤ (x25_3 : Int) := of_decide_eq_true (by first | (with_reducible assumption) | assumption)
                        have q12 : x25_3 < (a1.size : Int) := of_decide_eq_true (by first | (with_reducible assumption) | assumption)
                        have hx12 := bt_at a1 x25_3
                        replace p12 := eq_true p12
                        replace q12 := eq_true q12
                        go_wp2_with (first | ((with_reducible refine gate_callee (f := 59) rfl ?_); refine goesL_ (some 32) rfl rfl Try.func59 (by kernel_rfl) rfl #[.int .u8 (bt a1 x25_3)] rfl (by (try simp only [List.map_toArray, List.map_cons, List.map_nil]); first | done | rfl | (simp only [List.length_drop, List.length_take]; rfl)) ?_; (with_reducible refine (digits_half.calls (bt a1 x25_3) t134 true _ A13.out).mono ?_); rintro e w' ⟨rfl, ⟨nd, rfl⟩⟩; refine ⟨_, rfl, ?_⟩) | ((with_reducible refine gate_builtin (b := .append) (xs := #[.tmp 37, .tmp 39]) rfl ?_); (try (refine gate_guard (by rfl) ?_; dsimp only)); at_builtin; refine Kd.R_append (Kd.int .u8) (w0 := w) w.heap.size rfl (.tmp 37) (.tmp 39) 51 5 (.int .u8 0) 1 rfl Try.underlying51 info5 rfl (by decide) (by omega) u6 x6_3 t134 [.int .u8 t134] (fun _ => True) (fun _ => False) rfl rfl ?aP (fun _ hk => hk.elim) ?aF ?aO ?aB ?aS ?aL ?_; (case aP => exact rfl); (case aB => exact (by repeat (first | (with_reducible first | exact HB.out | apply below_alloc | apply pw_below_drewN | apply below_drew1) | exact HB.out))); (case aF => exact (fun _ _ => trivial)); (case aO => exact (by (with_reducible repeat (first | apply Kd.R_alloc | apply Kd.R_drewN | apply Kd.R_drew)); exact HO_6.out)); (case aS => exact (below_size (by repeat (first | (with_reducible first | exact HB.out | apply below_alloc | apply pw_below_drewN | apply below_drew1) | exact HB.out)))); (case aL => have := LMc15.out; omega); intro v137 w16 ho hb hg hat; rw [← Ny136.out] at ho; have n0_ := Aside0.mk (hb); have n1_ := Aside0.mk (ho); clear HB; clear HO_6; have HB := n0_; have HO138 := n1_; clear n0_ n1_; clear ho hb hg hat))
                        go_roundg k3
                        case measure => have := HJ2.out; have := HJ4.out; have := HK3.out; omega
                        case rel => exact ⟨(y136), (wrap64 (x25_3 + 1)), (by first | rfl | (simp; done) | (simp [*]; done)), H', ⟨by have := HJ2.out; have := HJ4.out; have := HK3.out; omega⟩, ⟨by (with_reducible repeat (first | apply Kd.R_alloc | apply Kd.R_drewN | apply Kd.R_drew)); exact HO138.out⟩, ⟨by repeat (first | (with_reducible first | exact HB.out | apply below_alloc | apply pw_below_drewN | apply below_drew1) | exact HB.out)⟩⟩
                      · rw [if_neg c15] at H
                        exact absurd H (by simp)
                    · replace c14 := Bool.eq_false_iff.mpr c14
                      subst c14
                      have H1 : (some ((⟨#[]⟩ : ByteArray), 11)) = some (r1, r2) := by rw [if_neg (show ¬ (false = true) by decide)] at H; exact H
                      clear H
                      have H := H1
                      clear H1
                      simp only [Option.some.injEq, Prod.mk.injEq] at H
                      obtain ⟨rfl, rfl⟩ := H
                      have p12 : 0 ≤ (x25_3 : Int) := of_decide_eq_true (by first | (with_reducible assumption) | assumption)
                      have q12 : x25_3 < (a1.size : Int) := of_decide_eq_true (by first | (with_reducible assumption) | assumption)
                      have hx12 := bt_at a1 x25_3
                      replace p12 := eq_true p12
                      replace q12 := eq_true q12
                      go_wp2_with (first | ((with_reducible refine gate_callee (f := 59) rfl ?_); refine goesL_ (some 32) rfl rfl Try.func59 (by kernel_rfl) rfl #[.int .u8 (bt a1 x25_3)] rfl (by (try simp only [List.map_toArray, List.map_cons, List.map_nil]); first | done | rfl | (simp only [List.length_drop, List.length_take]; rfl)) ?_; (with_reducible refine (digits_half.calls (bt a1 x25_3) t134 false _ A13.out).mono ?_); rintro e w' ⟨rfl, ⟨nd, rfl⟩⟩; refine ⟨_, rfl, ?_⟩))
                      go_ret2
                      exact ⟨by first | rfl | (simp [errW_none, errW_some] <;> rfl) | (simp [*, errW_none, errW_some] <;> rfl), by repeat (first | (with_reducible first | exact HB.out | apply below_alloc | apply pw_below_drewN | apply below_drew1) | exact HB.out)⟩
                  · rw [if_neg c11] at H
                    exact absurd H (by simp)
                · rw [if_neg c10] at H
                  exact absurd H (by simp)
              · rw [if_neg c9] at H
                have c9b0 : decide (x25_3 < (a1.size : Int)) = false := decide_eq_false c9
                clear c9
                have HC17 := Aside0.mk H
                clear H
                obtain ⟨Ao18, co18, eo18⟩ := Kd.R_slice HO_6.out
                subst eo18
                go_upto_if 45 with (fail)
                go_cut [6] (fun v6 wc => ∃ (kq : Nat) (x6_16 : List Int), Aside0 (digits_packHalves.j3 kq x6_16 = some (r1, r2)) ∧ Aside0 (kq ≤ k3) ∧ Aside0 (Kd.R (Kd.int .u8) 5 wc w.heap.size (fun _ => True) v6 x6_16) ∧ Aside0 (Below w.heap.size w wc))
                case first =>
                  have H := HC17.out
                  clear HC17
                  by_cases c19 : ((x6_3.length : Int) % 2) = 1
                  · rw [if_pos c19] at H
                    have c19b0 : (((x6_3.length : Int) % 2) == 1) = true := beq_iff_eq.mpr c19
                    have c19b1 : (((x6_3.length : Int) % 2) != 1) = false := bne_eq_false_iff_eq.mpr c19
                    clear c19
                    (first | rw [c19b0] | (simp only [i64_w, i32_w]; rw [c19b0]) | skip)
                    by_cases c20 : x6_3.length < 140737488355328
                    · rw [if_pos c20] at H
                      have LMc20 := Aside0.mk c20
                      clear c20
                      obtain ⟨y139, hy139⟩ : ∃ y_ : List Int, y_ = (x6_3 ++ [15]) := ⟨_, rfl⟩
                      replace H : (digits_packHalves.j3 k3 y139) = some (r1, r2) := by first | (rw [hy139]; with_reducible exact H) | (have H2_ := (Option.bind_some _ _).symm.trans H; rw [hy139]; with_reducible exact H2_) | (have H2_ := (Option.bind_some _ _).symm.trans H; with_reducible exact H2_) | with_reducible exact H | (rw [hy139]; exact H) | exact H
                      have Ny139 := Aside0.mk hy139
                      clear hy139
                      have H' := Aside0.mk H
                      clear H
                      go_wp2_with (first | ((with_reducible refine gate_builtin (b := .append) (xs := #[.tmp 46, .tmp 47]) rfl ?_); (try (refine gate_guard (by rfl) ?_; dsimp only)); at_builtin; refine Kd.R_append (Kd.int .u8) (w0 := w) w.heap.size rfl (.tmp 46) (.tmp 47) 51 5 (.int .u8 0) 1 rfl Try.underlying51 info5 rfl (by decide) (by omega) (.slice Ao18 x6_3.length co18) x6_3 15 [.int .u8 15] (fun _ => True) (fun _ => False) rfl rfl ?aP (fun _ hk => hk.elim) ?aF ?aO ?aB ?aS ?aL ?_; (case aP => exact rfl); (case aB => exact (by repeat (first | (with_reducible first | exact HB.out | apply below_alloc | apply pw_below_drewN | apply below_drew1) | exact HB.out))); (case aF => exact (fun _ _ => trivial)); (case aO => exact (by (with_reducible repeat (first | apply Kd.R_alloc | apply Kd.R_drewN | apply Kd.R_drew)); exact HO_6.out)); (case aS => exact (below_size (by repeat (first | (with_reducible first | exact HB.out | apply below_alloc | apply pw_below_drewN | apply below_drew1) | exact HB.out)))); (case aL => have := LMc20.out; omega); intro v140 w21 ho hb hg hat; rw [← Ny139.out] at ho; have n0_ := Aside0.mk (hb); have n1_ := Aside0.mk (ho); clear HB; clear HO_6; have HB := n0_; have HO141 := n1_; clear n0_ n1_; clear ho hb hg hat))
                      go_meet
                      case rel => exact ⟨_, (y139), H', ⟨by have := HJ2.out; have := HJ4.out; have := HK3.out; first | omega | exact Nat.le_refl _⟩, ⟨by (with_reducible repeat (first | apply Kd.R_alloc | apply Kd.R_drewN | apply Kd.R_drew)); exact HO141.out⟩, ⟨by repeat (first | (with_reducible first | exact HB.out | apply below_alloc | apply pw_below_drewN | apply below_drew1) | exact HB.out)⟩⟩
                    · rw [if_neg c20] at H
                      exact absurd H (by simp)
                  · rw [if_neg c19] at H
                    have c19b0 : (((x6_3.length : Int) % 2) == 1) = false := beq_eq_false_iff_ne.mpr c19
                    have c19b1 : (((x6_3.length : Int) % 2) != 1) = true := bne_iff_ne.mpr c19
                    (first | rw [c19b0] | (simp only [i64_w, i32_w]; rw [c19b0]) | skip)
                    have H' := Aside0.mk H
                    clear H
                    go_wp2
                    go_meet
                    case rel => exact ⟨_, (x6_3), H', ⟨by have := HJ2.out; have := HJ4.out; have := HK3.out; first | omega | exact Nat.le_refl _⟩, ⟨by (with_reducible repeat (first | apply Kd.R_alloc | apply Kd.R_drewN | apply Kd.R_drew)); exact HO_6.out⟩, ⟨by repeat (first | (with_reducible first | exact HB.out | apply below_alloc | apply pw_below_drewN | apply below_drew1) | exact HB.out)⟩⟩
                case rest =>
                  clear HC17
                  try clear c1
                  try clear p1
                  try clear q1
                  try clear hx1
                  try clear c2
                  try clear p2
                  try clear c4
                  try clear c4b0
                  try clear c4b1
                  try clear c5
                  try clear c6
                  try clear p6
                  try clear c7
                  try clear c9
                  try clear c9b0
                  try clear c10
                  try clear c10b0
                  try clear c11
                  try clear c11b0
                  try clear p12
                  try clear q12
                  try clear hx12
                  try clear c14
                  try clear c15
                  try clear c19
                  try clear c19b0
                  try clear c19b1
                  try clear c20
                  try clear p12
                  try clear p2
                  try clear q12
                  obtain ⟨kq, x6_16, HA, HJ16, HO_6, HB⟩ := hcut
                  cases kq with
                  | zero => exact absurd HA.out (by simp [digits_packHalves.j3])
                  | succ kj16 =>
                    have H := HA.out
                    clear HA
                    simp only [digits_packHalves.j3] at H
                    have H' := Aside0.mk H
                    clear H
                    go_wp2
                    go_loopg [10, 11] kj16 (fun kq v10 v11 w' => ∃ (x10_5 : List Int) (x11_5 : Int), v11 = .int .i64 x11_5 ∧ Aside0 (digits_packHalves.l1 kq x6_16 x10_5 x11_5 = some (r1, r2)) ∧ Aside0 (kq ≤ kj16) ∧ Aside0 (Kd.R (Kd.int .u8) 5 w' w.heap.size (fun k_ => some k_ ≠ (v10 : Value).ownBlock) u6 x6_16) ∧ Aside0 (Kd.R (Kd.int .u8) 5 w' w.heap.size (fun k_ => some k_ ≠ (u6 : Value).ownBlock) v10 x10_5) ∧ Aside0 (Below w.heap.size w w'))
                    case atStart => exact ⟨(([] : List Int)), (0), (by first | rfl | (simp; done) | (simp [*]; done)), H', ⟨Nat.le_refl _⟩, ⟨by (with_reducible repeat (first | apply Kd.R_alloc | apply Kd.R_drewN | apply Kd.R_drew)); exact Kd.R_mono HO_6.out (fun _ hk => (by simp [Value.ownBlock]))⟩, ⟨by first | exact Kd.R_nil _ _ _ _ _ | exact Kd.N_nil _ _ _ _ _ | exact Kd.V_nil _ _ _ _ _ | exact Kd.Q_nil _ _ _ _ _ | exact Kd.S_nil _ _ _ _ _⟩, ⟨by repeat (first | (with_reducible first | exact HB.out | apply below_alloc | apply pw_below_drewN | apply below_drew1) | exact HB.out)⟩⟩
                    case round =>
                      clear H'
                      try clear c1
                      try clear p1
                      try clear q1
                      try clear hx1
                      try clear c2
                      try clear p2
                      try clear c4
                      try clear c4b0
                      try clear c4b1
                      try clear c5
                      try clear c6
                      try clear p6
                      try clear c7
                      try clear c9
                      try clear c9b0
                      try clear c10
                      try clear c10b0
                      try clear c11
                      try clear c11b0
                      try clear p12
                      try clear q12
                      try clear hx12
                      try clear c14
                      try clear c15
                      try clear c19
                      try clear c19b0
                      try clear c19b1
                      try clear c20
                      try clear p1
                      try clear p12
                      try clear p2
                      try clear p6
                      try clear q1
                      try clear q12
                      obtain ⟨x10_5, x11_5, rfl, HA, HK5, HO_6, HO_10, HB⟩ := hrel
                      cases gk with
                      | zero => exact absurd HA.out (by simp [digits_packHalves.l1])
                      | succ k5 =>
                        have H := HA.out
                        clear HA
                        simp only [digits_packHalves.l1] at H
                        by_cases c22 : x11_5 < (x6_16.length : Int)
                        · rw [if_pos c22] at H
                          have c22b0 : decide (x11_5 < (x6_16.length : Int)) = true := decide_eq_true c22
                          clear c22
                          by_cases c23 : 0 ≤ x11_5
                          · rw [if_pos c23] at H
                            have c23b0 : decide (0 ≤ x11_5) = true := decide_eq_true c23
                            clear c23
                            obtain ⟨ji24, hji24⟩ : ∃ j_ : Int, (wrap64 (x11_5 + 1)) = j_ := ⟨_, rfl⟩
                            replace H : (if 0 ≤ (ji24) then (if (ji24) < (x6_16.length : Int) then (if x10_5.length < 140737488355328 then (digits_packHalves.l1 k5 x6_16 (x10_5 ++ [Go.bits .or .u8 (((rd x6_16 x11_5) * 16) % 256) (rd x6_16 (ji24))]) (wrap64 (x11_5 + 2))) else (none)) else (none)) else (none)) = some (r1, r2) := by first | (rw [hji24] at H; exact H) | (simp only [hji24] at H ⊢; exact H)
                            have hji24w : (IntKind.i64.wrap (x11_5 + 1)) = ji24 := (i64_w _).trans hji24
                            by_cases c25 : 0 ≤ (ji24)
                            · rw [if_pos c25] at H
                              have c25b0 : decide (0 ≤ (ji24)) = true := decide_eq_true c25
                              clear c25
                              by_cases c26 : (ji24) < (x6_16.length : Int)
                              · rw [if_pos c26] at H
                                have c26b0 : decide ((ji24) < (x6_16.length : Int)) = true := decide_eq_true c26
                                clear c26
                                by_cases c27 : x10_5.length < 140737488355328
                                · rw [if_pos c27] at H
                                  have LMc27 := Aside0.mk c27
                                  clear c27
                                  obtain ⟨y144, hy144⟩ : ∃ y_ : List Int, y_ = (x10_5 ++ [Go.bits .or .u8 (((rd x6_16 x11_5) * 16) % 256) (rd x6_16 (ji24))]) := ⟨_, rfl⟩
                                  replace H : (digits_packHalves.l1 k5 x6_16 y144 (wrap64 (x11_5 + 2))) = some (r1, r2) := by first | (rw [hy144]; with_reducible exact H) | (have H2_ := (Option.bind_some _ _).symm.trans H; rw [hy144]; with_reducible exact H2_) | (have H2_ := (Option.bind_some _ _).symm.trans H; with_reducible exact H2_) | with_reducible exact H | (rw [hy144]; exact H) | exact H
                                  have Ny144 := Aside0.mk hy144
                                  clear hy144
                                  have H' := Aside0.mk H
                                  clear H
                                  obtain ⟨Ao28, co28, eo28⟩ := Kd.R_slice HO_6.out
                                  subst eo28
                                  try go_wp2
                                  have n0_ := Aside0.mk (Kd.R_drew HO_6.out)
                                  have n1_ := Aside0.mk (Kd.R_drew HO_10.out)
                                  have n2_ := Aside0.mk (below_drew1 HB.out)
                                  clear HO_6
                                  clear HO_10
                                  clear HB
                                  have HO_6 := n0_
                                  have HO_10 := n1_
                                  have HB := n2_
                                  clear n0_ n1_ n2_
                                  have p142 : 0 ≤ (x11_5 : Int) := of_decide_eq_true (by first | (with_reducible assumption) | assumption)
                                  have q142 : x11_5 < (x6_16.length : Int) := of_decide_eq_true (by first | (with_reducible assumption) | assumption)
                                  obtain ⟨ad142, e142, hx142_0⟩ := Kd.at_int (Kd.R_reads' HO_6.out).2.2 x11_5 p142 q142
                                  cases e142
                                  replace p142 := eq_true p142
                                  replace q142 := eq_true q142
                                  have p143 : 0 ≤ ((ji24) : Int) := of_decide_eq_true (by first | (with_reducible assumption) | assumption)
                                  have q143 : (ji24) < (x6_16.length : Int) := of_decide_eq_true (by first | (with_reducible assumption) | assumption)
                                  obtain ⟨ad143, e143, hx143_0⟩ := Kd.at_int (Kd.R_reads' HO_6.out).2.2 (ji24) p143 q143
                                  obtain rfl : ad142 = ad143 := (by injection e143)
                                  replace p143 := eq_true p143
                                  replace q143 := eq_true q143
                                  refine start_ (n := 15) (S := fun w' => w'.cell? (ad142.add (x11_5).toNat) = some (.int .u8 (rd x6_16 x11_5)) ∧ w'.cell? (ad142.add ((ji24)).toNat) = some (.int .u8 (rd x6_16 (ji24)))) (ds := [12, 13]) #[false, false, false, false, false, false, false, false, false, false, false, false, false, false, false] (by kernel_rfl) rfl rfl ⟨hx142_0, hx143_0⟩ (fun hHeld => ?_); refine with_tabW digits_packHalves.tab18 digits_packHalves.bits18 (fun HT_ HW_ => ?_)
                                  generalize wr.drew = w29 at HO_6 HO_10 HB hx142_0 hx143_0 hHeld ⊢
                                  refine pure_ (i := 0) (N := some 55) (v := ?_) (a' := ?_) #[true, false, false, false, false, false, false, false, false, false, false, false, false, false, false] rfl rfl (any_of HT_.out (by kernel_rfl)) (fun _ _ _ h => h) (Or.inl ⟨by rfl, ?_⟩) ?_ ?_
                                  rotate_left
                                  · intro w'
                                    go_simp
                                    with_reducible rfl
                                  rotate_left
                                  · simp only [Act.put, List.setIfInBounds_toArray, List.set_cons_zero, List.set_cons_succ, i64_w, i32_w]
                                    rfl
                                  refine pure_ (i := 1) (N := some 56) (v := ?_) (a' := ?_) #[true, true, false, false, false, false, false, false, false, false, false, false, false, false, false] rfl rfl (any_of HT_.out (by kernel_rfl)) (fun _ _ _ h => h) (Or.inl ⟨by rfl, ?_⟩) ?_ ?_
                                  rotate_left
                                  · intro w'
                                    go_simp
                                    with_reducible rfl
                                  rotate_left
                                  · simp only [Act.put, List.setIfInBounds_toArray, List.set_cons_zero, List.set_cons_succ, i64_w, i32_w]
                                    rfl
                                  refine pure_ (i := 2) (N := some 57) (v := ?_) (a' := ?_) #[true, true, true, false, false, false, false, false, false, false, false, false, false, false, false] rfl rfl (any_of HT_.out (by kernel_rfl)) (fun _ _ _ h => h) (Or.inl ⟨by rfl, ?_⟩) ?_ ?_
                                  rotate_left
                                  · intro w'
                                    go_simp
                                    with_reducible rfl
                                  rotate_left
                                  · simp only [Act.put, List.setIfInBounds_toArray, List.set_cons_zero, List.set_cons_succ, i64_w, i32_w]
                                    rfl
                                  refine pure_ (i := 3) (N := some 58) (v := ?_) (a' := ?_) #[true, true, true, true, false, false, false, false, false, false, false, false, false, false, false] rfl rfl (any_of HT_.out (by kernel_rfl)) (fun _ _ _ h => h) (Or.inl ⟨by rfl, ?_⟩) ?_ ?_
                                  rotate_left
                                  · intro w'
                                    go_simp
                                    with_reducible rfl
                                  rotate_left
                                  · simp only [Act.put, List.setIfInBounds_toArray, List.set_cons_zero, List.set_cons_succ, i64_w, i32_w]
                                    rfl
                                  refine pure_ (i := 6) (N := some 61) (v := ?_) (a' := ?_) #[true, true, true, true, false, false, true, false, false, false, false, false, false, false, false] rfl rfl (any_of HT_.out (by kernel_rfl)) (fun _ _ _ h => h) (Or.inl ⟨by rfl, ?_⟩) ?_ ?_
                                  rotate_left
                                  · intro w'
                                    go_simp
                                    with_reducible rfl
                                  rotate_left
                                  · simp only [Act.put, List.setIfInBounds_toArray, List.set_cons_zero, List.set_cons_succ, i64_w, i32_w]
                                    rfl
                                  refine pure_ (i := 7) (N := some 62) (v := ?_) (a' := ?_) #[true, true, true, true, false, false, true, true, false, false, false, false, false, false, false] rfl rfl (any_of HT_.out (by kernel_rfl)) (fun _ _ _ h => h) (Or.inl ⟨by rfl, ?_⟩) ?_ ?_
                                  rotate_left
                                  · intro w'
                                    go_simp
                                    with_reducible rfl
                                  rotate_left
                                  · simp only [Act.put, List.setIfInBounds_toArray, List.set_cons_zero, List.set_cons_succ, i64_w, i32_w]
                                    rfl
                                  refine pure_ (i := 8) (N := some 63) (v := ?_) (a' := ?_) #[true, true, true, true, false, false, true, true, true, false, false, false, false, false, false] rfl rfl (any_of HT_.out (by kernel_rfl)) (fun _ _ _ h => h) (Or.inl ⟨by rfl, ?_⟩) ?_ ?_
                                  rotate_left
                                  · intro w'
                                    go_simp
                                    with_reducible rfl
                                  rotate_left
                                  · simp only [Act.put, List.setIfInBounds_toArray, List.set_cons_zero, List.set_cons_succ, i64_w, i32_w]
                                    rfl
                                  refine pure_ (i := 9) (N := some 64) (v := ?_) (a' := ?_) #[true, true, true, true, false, false, true, true, true, true, false, false, false, false, false] rfl rfl (any_of HT_.out (by kernel_rfl)) (fun _ _ _ h => h) (Or.inl ⟨by rfl, ?_⟩) ?_ ?_
                                  rotate_left
                                  · intro w'
                                    go_simp
                                    with_reducible rfl
                                  rotate_left
                                  · simp only [Act.put, List.setIfInBounds_toArray, List.set_cons_zero, List.set_cons_succ, i64_w, i32_w]
                                    rfl
                                  refine take_ (i := 4) (N := some 59) (v := ?_) (a' := ?_) #[true, true, true, true, true, false, true, true, true, true, false, false, false, false, false] rfl rfl (take_ofW HT_.out HW_.out (by kernel_rfl)) (fun _ _ _ h => h) (Or.inl ⟨by rfl, ?_⟩) hHeld ?_ ?_
                                  rotate_left
                                  · rintro w' ⟨s0, s1⟩
                                    go_simp
                                    with_reducible rfl
                                  rotate_left
                                  · simp only [Act.put, List.setIfInBounds_toArray, List.set_cons_zero, List.set_cons_succ, i64_w, i32_w]
                                    rfl
                                  refine pure_ (i := 5) (N := some 60) (v := ?_) (a' := ?_) #[true, true, true, true, true, true, true, true, true, true, false, false, false, false, false] rfl rfl (any_of HT_.out (by kernel_rfl)) (fun _ _ _ h => h) (Or.inl ⟨by rfl, ?_⟩) ?_ ?_
                                  rotate_left
                                  · intro w'
                                    go_simp
                                    with_reducible rfl
                                  rotate_left
                                  · simp only [Act.put, List.setIfInBounds_toArray, List.set_cons_zero, List.set_cons_succ, i64_w, i32_w]
                                    rfl
                                  refine take_ (i := 10) (N := some 65) (v := ?_) (a' := ?_) #[true, true, true, true, true, true, true, true, true, true, true, false, false, false, false] rfl rfl (take_ofW HT_.out HW_.out (by kernel_rfl)) (fun _ _ _ h => h) (Or.inl ⟨by rfl, ?_⟩) hHeld ?_ ?_
                                  rotate_left
                                  · rintro w' ⟨s0, s1⟩
                                    go_simp
                                    with_reducible rfl
                                  rotate_left
                                  · simp only [Act.put, List.setIfInBounds_toArray, List.set_cons_zero, List.set_cons_succ, i64_w, i32_w]
                                    rfl
                                  refine pure_ (i := 11) (N := some 66) (v := ?_) (a' := ?_) #[true, true, true, true, true, true, true, true, true, true, true, true, false, false, false] rfl rfl (any_of HT_.out (by kernel_rfl)) (fun _ _ _ h => h) (Or.inl ⟨by rfl, ?_⟩) ?_ ?_
                                  rotate_left
                                  · intro w'
                                    go_simp
                                    with_reducible rfl
                                  rotate_left
                                  · simp only [Act.put, List.setIfInBounds_toArray, List.set_cons_zero, List.set_cons_succ, i64_w, i32_w]
                                    rfl
                                  refine last_ (i := 12) (N := some 67) #[true, true, true, true, true, true, true, true, true, true, true, true, true, false, false] rfl rfl (one_of HT_.out (by kernel_rfl)) (by decide) (fun K hK => ?_)
                                  refine value_ (w1 := ?_) (v := ?_) (by rfl) rfl ?_ ?_
                                  rotate_left 2
                                  · go_simp
                                    constructor
                                    · rfl
                                    · rfl
                                  refine hK.out _ _ ?_
                                  clear hK K
                                  refine norm_ (a' := ?_) ?_ ?_
                                  rotate_left
                                  · show Act.put _ (some 67) _ = _
                                    simp only [Act.put, List.setIfInBounds_toArray, List.set_cons_zero, List.set_cons_succ, i64_w, i32_w]
                                    rfl
                                  refine last_ (i := 13) (N := some 68) #[true, true, true, true, true, true, true, true, true, true, true, true, true, true, false] rfl rfl (one_of HT_.out (by kernel_rfl)) (by decide) (fun K hK => ?_)
                                  refine Kd.R_append_step (Kd.int .u8) (w0 := w) w.heap.size (by rfl) (.tmp 55) (.tmp 67) 51 5 (.int .u8 0) 1 rfl Try.underlying51 info5 rfl (by decide) (by omega) u10 x10_5 (Go.bits .or .u8 (((rd x6_16 x11_5) * 16) % 256) (rd x6_16 (ji24))) [.int .u8 (Go.bits .or .u8 (((rd x6_16 x11_5) * 16) % 256) (rd x6_16 (ji24)))] (fun k_ => some k_ ≠ (.slice (some ad142) x6_16.length co28 : Value).ownBlock) (fun _ => False) rfl rfl ?aP (fun _ hk => hk.elim) ?aF ?aO ?aB ?aS ?aL ?_
                                  (case aP => exact rfl)
                                  (case aB => exact (by repeat (first | (with_reducible first | exact HB.out | apply below_alloc | apply pw_below_drewN | apply below_drew1) | exact HB.out)))
                                  (case aF => exact (fun k_ hk => Kd.fresh' (Kd.R_lt (by (with_reducible repeat (first | apply Kd.R_alloc | apply Kd.R_drewN | apply Kd.R_drew)); exact HO_6.out)) k_ hk))
                                  (case aO => exact (by (with_reducible repeat (first | apply Kd.R_alloc | apply Kd.R_drewN | apply Kd.R_drew)); exact HO_10.out))
                                  (case aS => exact (below_size (by repeat (first | (with_reducible first | exact HB.out | apply below_alloc | apply pw_below_drewN | apply below_drew1) | exact HB.out))))
                                  (case aL => have := LMc27.out; omega)
                                  intro v145 w30 ho hb hg hat
                                  rw [← Ny144.out] at ho
                                  have n0_ := Aside0.mk (Kd.R_after (ok := (fun _ => True)) (by (with_reducible repeat (first | apply Kd.R_alloc | apply Kd.R_drewN | apply Kd.R_drew)); exact Kd.R_mono HO_6.out (fun _ hk => ⟨trivial, hk⟩)) hg hat)
                                  have n1_ := Aside0.mk (hb)
                                  have n2_ := Aside0.mk (ho)
                                  clear HO_6
                                  clear HB
                                  clear HO_10
                                  have HO_6 := n0_
                                  have HB := n1_
                                  have HO146 := n2_
                                  clear n0_ n1_ n2_
                                  clear ho hb hg hat
                                  refine hK.out _ _ ?_
                                  clear hK K
                                  refine norm_ (a' := ?_) ?_ ?_
                                  rotate_left
                                  · show Act.put _ (some 68) _ = _
                                    simp only [Act.put, List.setIfInBounds_toArray, List.set_cons_zero, List.set_cons_succ, i64_w, i32_w]
                                    rfl
                                  refine pure_ (i := 14) (N := some 10) (v := ?_) (a' := ?_) #[true, true, true, true, true, true, true, true, true, true, true, true, true, true, true] rfl rfl (any_of HT_.out (by kernel_rfl)) (fun _ _ _ h => h) (Or.inl ⟨by rfl, ?_⟩) ?_ ?_
                                  rotate_left
                                  · intro w'
                                    go_simp
                                    with_reducible rfl
                                  rotate_left
                                  · simp only [Act.put, List.setIfInBounds_toArray, List.set_cons_zero, List.set_cons_succ, i64_w, i32_w]
                                    rfl
                                  refine done_ (done_of HT_.out (by kernel_rfl)) ?_
                                  try go_wp2
                                  go_roundg k5
                                  case measure => have := HJ2.out; have := HJ4.out; have := HK3.out; have := HJ16.out; have := HK5.out; omega
                                  case rel => exact ⟨(y144), (wrap64 (x11_5 + 2)), (by first | rfl | (simp; done) | (simp [*]; done)), H', ⟨by have := HJ2.out; have := HJ4.out; have := HK3.out; have := HJ16.out; have := HK5.out; omega⟩, ⟨by (with_reducible repeat (first | apply Kd.R_alloc | apply Kd.R_drewN | apply Kd.R_drew)); exact Kd.R_mono HO_6.out (fun _ hk => hk.2)⟩, ⟨by (with_reducible repeat (first | apply Kd.R_alloc | apply Kd.R_drewN | apply Kd.R_drew)); exact HO146.out⟩, ⟨by repeat (first | (with_reducible first | exact HB.out | apply below_alloc | apply pw_below_drewN | apply below_drew1) | exact HB.out)⟩⟩
                                · rw [if_neg c27] at H
                                  exact absurd H (by simp)
                              · rw [if_neg c26] at H
                                exact absurd H (by simp)
                            · rw [if_neg c25] at H
                              exact absurd H (by simp)
                          · rw [if_neg c23] at H
                            exact absurd H (by simp)
                        · rw [if_neg c22] at H
                          have c22b0 : decide (x11_5 < (x6_16.length : Int)) = false := decide_eq_false c22
                          clear c22
                          simp only [Option.some.injEq, Prod.mk.injEq] at H
                          obtain ⟨rfl, rfl⟩ := H
                          obtain ⟨Ao31, co31, eo31⟩ := Kd.R_slice HO_6.out
                          subst eo31
                          have hcv32 := own_string (P := Try.prog) Try.underlying51 Try.underlying5 Try.underlying9 (Kd.own_of_R HO_10.out)
                          go_wp2
                          go_ret2
                          exact ⟨by first | rfl | (simp [errW_none, errW_some] <;> rfl) | (simp [*, errW_none, errW_some] <;> rfl), by repeat (first | (with_reducible first | exact HB.out | apply below_alloc | apply pw_below_drewN | apply below_drew1) | exact HB.out)⟩

end Go.Proofs.Ytlpamhffpgoebaa.All
