-- WRITTEN BY this session's own drv.py over the kit's print. Not trusted: Lean checks it.
import Derived.Test.YtdiodnjkejogdaaAx0
import Derived.Test.YtdiodnjkejogdaaAx4
namespace Go.Proofs.Ytdiodnjkejogdaa.All
open Go.RowKit Go.Proofs.YtdiodnjkejogdaaW.PrintWords Go.Proofs.YtdiodnjkejogdaaW.PrintLast Go.Proofs.YtdiodnjkejogdaaW.PrintMore
attribute [local go_sem] max2_int min2_int max_two min_two max_three min_three max_four min_four   -- for this text's walks alone
set_option linter.unusedVariables false
set_option linter.unusedSimpArgs false

/-! ### totals_credit: function 65 -/
def totals_credit.f (k : Nat) (a0_0 : ByteArray) (l0_1 : List (S70)) : Option (Bool) := (message_Get.f k a0_0 l0_1 3).bind fun bt144 => (if (bt144.1.size : Int) > 1 then (if 0 < (bt144.1.size : Int) then (if (bt bt144.1 0) = 50 then (if 1 < (bt144.1.size : Int) then (if (bt bt144.1 1) ≥ 48 then (some (decide ((bt bt144.1 1) ≤ 57))) else (some false)) else (none)) else (some false)) else (none)) else (some false))
theorem totals_credit.mono : ∀ a0 a1 k, LeO (totals_credit.f k a0 a1) (totals_credit.f (k + 1) a0 a1) := by
  intro a0 a1 k
  unfold totals_credit.f
  repeat' first
      | (with_reducible exact message_Get.mono _ _ _ _)
      | (with_reducible exact LeO.refl _)
      | (with_reducible exact LeO.none _)
      | (with_reducible refine LeO.ite ?_ ?_)
      | (with_reducible refine LeO.bind ?_ (fun _ => ?_))
      | exact message_Get.mono _ _ _ _
      | exact LeO.none _
      | refine LeO.ite ?_ ?_
      | refine LeO.bind ?_ (fun _ => ?_)
set_option maxHeartbeats 8000000 in
set_option maxRecDepth 100000 in
theorem totals_credit.calls (k : Nat) (a0_0 : ByteArray) (A0_1 : Option Addr) (c0_1 : Nat) (l0_1 : List (S70)) (r : Bool) (w : World) (hr0_1 : Kd.C k70 w A0_1 l0_1.length l0_1) (hc0_1 : l0_1.length ≤ c0_1) (h : totals_credit.f k a0_0 l0_1 = some r) :
    Calls Try.prog 65 #[.agg #[.string a0_0, .slice A0_1 l0_1.length c0_1]] w fun e w' => e = .returned (.bool r) ∧ Below w.heap.size w w' := by
  have hu33 := Try.underlying33
  have HR0_1 := Aside0.mk hr0_1
  have HC0_1 := Aside0.mk hc0_1
  clear hr0_1 hc0_1
  have HB := Aside0.mk (Below.refl w.heap.size w)
  have H : ((message_Get.f k a0_0 l0_1 3).bind fun bt144 => (if (bt144.1.size : Int) > 1 then (if 0 < (bt144.1.size : Int) then (if (bt bt144.1 0) = 50 then (if 1 < (bt144.1.size : Int) then (if (bt bt144.1 1) ≥ 48 then (some (decide ((bt bt144.1 1) ≤ 57))) else (some false)) else (none)) else (some false)) else (none)) else (some false))) = some r := h
  clear h
  replace H := Option.bind_eq_some_iff.mp H
  obtain ⟨⟨t144, t145⟩, A20, H⟩ := H
  replace H : (if (t144.size : Int) > 1 then (if 0 < (t144.size : Int) then (if (bt t144 0) = 50 then (if 1 < (t144.size : Int) then (if (bt t144 1) ≥ 48 then (some (decide ((bt t144 1) ≤ 57))) else (some false)) else (none)) else (some false)) else (none)) else (some false)) = some r := H
  have A2 := Aside0.mk A20
  clear A20
  by_cases c3 : (t144.size : Int) > 1
  · rw [if_pos c3] at H
    have c3b0 : decide (1 < (t144.size : Int)) = true := decide_eq_true c3
    have c3b1 : decide (1 < t144.size) = true := decide_eq_true (by omega)
    clear c3
    by_cases c4 : 0 < (t144.size : Int)
    · rw [if_pos c4] at H
      have c4b0 : decide (0 < (t144.size : Int)) = true := decide_eq_true c4
      have c4b1 : decide (0 < t144.size) = true := decide_eq_true (by omega)
      clear c4
      by_cases c6 : (bt t144 0) = 50
      · rw [if_pos c6] at H
        have c6b0 : ((bt t144 0) == 50) = true := beq_iff_eq.mpr c6
        have c6b1 : ((bt t144 0) != 50) = false := bne_eq_false_iff_eq.mpr c6
        clear c6
        by_cases c7 : 1 < (t144.size : Int)
        · rw [if_pos c7] at H
          have c7b0 : decide (1 < (t144.size : Int)) = true := decide_eq_true c7
          have c7b1 : decide (1 < t144.size) = true := decide_eq_true (by omega)
          clear c7
          by_cases c9 : (bt t144 1) ≥ 48
          · rw [if_pos c9] at H
            have c9b0 : decide (48 ≤ (bt t144 1)) = true := decide_eq_true c9
            clear c9
            obtain rfl := Option.some.inj H
            go_enter Try.func65, Try.ntmps65
            go_wp2_with (first | ((with_reducible refine gate_dst (N := 1) rfl ?_); refine box_event ?hg (N := 1) ?hd (cs := #[.string a0_0, .slice A0_1 l0_1.length c0_1]) (t := 33) ?hr ?_; (case hd => rfl); (case hg => rfl); (case hr => first | (go_simp; done) | (go_simp; rfl)); intro gb143 hg w11 hbox hb; have n0_ := Aside0.mk (below_step (by repeat (first | (with_reducible first | exact HB.out | apply below_alloc | apply pw_below_drewN | apply below_drew1) | exact HB.out)) hb); have n1_ := Aside0.mk (hbox); have n2_ := Aside0.mk ((by rw [hg]; exact (below_size (by repeat (first | (with_reducible first | exact HB.out | apply below_alloc | apply pw_below_drewN | apply below_drew1) | exact HB.out))) : w.heap.size ≤ gb143)); have n3_ := Aside0.mk ((by rw [hg]; exact (below_size (by repeat (first | (with_reducible first | exact HB.out | apply below_alloc | apply pw_below_drewN | apply below_drew1) | exact HB.out))) : w.heap.size ≤ gb143)); clear HB; have HB := n0_; have BK143 := n1_; have GW143 := n2_; have GE143 := n3_; clear n0_ n1_ n2_ n3_; clear hb hbox hg; have hcz12_0 : w11.cell? ⟨gb143, 0, none⟩ = some (.string a0_0) := (blk_cell BK143.out 0).trans rfl; have hcz12_1 : w11.cell? ⟨gb143, 1, none⟩ = some (.slice A0_1 l0_1.length c0_1) := (blk_cell BK143.out 1).trans rfl; have hfz12_0 := blk_frozen BK143.out 0; have hfz12_1 := blk_frozen BK143.out 1) | ((with_reducible refine gate_callee (f := 40) rfl ?_); refine goesL_ (some 7) rfl rfl Try.func40 (by kernel_rfl) rfl #[.agg #[.string a0_0, .slice A0_1 l0_1.length c0_1], .int .i64 3] rfl (by (try simp only [List.map_toArray, List.map_cons, List.map_nil]); first | done | rfl | (simp only [List.length_drop, List.length_take]; rfl)) ?_; (with_reducible refine (message_Get.calls k a0_0 _ _ l0_1 3 t144 t145 _ ?side1 ?side2 A2.out).mono ?_); (case side1 => repeat (first | exact (Kd.C_below HR0_1.out HB.out) | (with_reducible refine Kd.C_alloc ?_ _) | (with_reducible refine Kd.C_drewN ?_ _) | (with_reducible refine Kd.C_drew ?_))); (case side2 => exact HC0_1.out); rintro e w13 ⟨rfl, hb⟩; refine ⟨_, rfl, ?_⟩; have n0_ := Aside0.mk (blk_below (g := gb143) (o := .cells #[.string a0_0, .slice A0_1 l0_1.length c0_1] 33 (0, 0)) (by (with_reducible repeat (first | refine blk_drewN ?_ _ | refine blk_drew ?_ | refine blk_alloc ?_ _)); exact BK143.out) hb); have n1_ := Aside0.mk (below_step (by repeat (first | (with_reducible first | exact HB.out | apply below_alloc | apply pw_below_drewN | apply below_drew1 | refine below_set ?_ GE143.out) | exact HB.out)) hb); clear BK143; clear HB; have BK143 := n0_; have HB := n1_; clear n0_ n1_; (try clear hb); (try clear hb2); (try clear hk); (try clear hi); have p5 : 0 ≤ (0 : Int) := (by omega); have q5 : 0 < t144.size := (by have : (0 : Int) < (t144.size : Int) := of_decide_eq_true (by first | (with_reducible assumption) | assumption); omega); have hx5 : ∀ h : 0 < t144.size, ((t144[0]'h).toNat : Int) = bt t144 0 := bt_at t144 0; clear p5; have qi5 : (0 < (t144.size : Int)) = True := eq_true (of_decide_eq_true (by first | (with_reducible assumption) | assumption)); replace q5 := eq_true q5; have p8 : 0 ≤ (1 : Int) := (by omega); have q8 : 1 < t144.size := (by have : (1 : Int) < (t144.size : Int) := of_decide_eq_true (by first | (with_reducible assumption) | assumption); omega); have hx8 : ∀ h : 1 < t144.size, ((t144[1]'h).toNat : Int) = bt t144 1 := bt_at t144 1; clear p8; have qi8 : (1 < (t144.size : Int)) = True := eq_true (of_decide_eq_true (by first | (with_reducible assumption) | assumption)); replace q8 := eq_true q8; have p10 : 0 ≤ (1 : Int) := (by omega); have q10 : 1 < t144.size := (by have : (1 : Int) < (t144.size : Int) := of_decide_eq_true (by first | (with_reducible assumption) | assumption); omega); have hx10 : ∀ h : 1 < t144.size, ((t144[1]'h).toNat : Int) = bt t144 1 := bt_at t144 1; clear p10; have qi10 : (1 < (t144.size : Int)) = True := eq_true (of_decide_eq_true (by first | (with_reducible assumption) | assumption)); replace q10 := eq_true q10))
            go_ret
            exact ⟨by first | rfl | (simp [errW_none, errW_some] <;> rfl) | (simp [*, errW_none, errW_some] <;> rfl), by repeat (first | (with_reducible first | exact HB.out | apply below_alloc | apply pw_below_drewN | apply below_drew1 | refine below_set ?_ GE143.out) | exact HB.out)⟩
          · rw [if_neg c9] at H
            have c9b0 : decide (48 ≤ (bt t144 1)) = false := decide_eq_false c9
            clear c9
            obtain rfl := Option.some.inj H
            go_enter Try.func65, Try.ntmps65
            go_wp2_with (first | ((with_reducible refine gate_dst (N := 1) rfl ?_); refine box_event ?hg (N := 1) ?hd (cs := #[.string a0_0, .slice A0_1 l0_1.length c0_1]) (t := 33) ?hr ?_; (case hd => rfl); (case hg => rfl); (case hr => first | (go_simp; done) | (go_simp; rfl)); intro gb143 hg w14 hbox hb; have n0_ := Aside0.mk (below_step (by repeat (first | (with_reducible first | exact HB.out | apply below_alloc | apply pw_below_drewN | apply below_drew1) | exact HB.out)) hb); have n1_ := Aside0.mk (hbox); have n2_ := Aside0.mk ((by rw [hg]; exact (below_size (by repeat (first | (with_reducible first | exact HB.out | apply below_alloc | apply pw_below_drewN | apply below_drew1) | exact HB.out))) : w.heap.size ≤ gb143)); have n3_ := Aside0.mk ((by rw [hg]; exact (below_size (by repeat (first | (with_reducible first | exact HB.out | apply below_alloc | apply pw_below_drewN | apply below_drew1) | exact HB.out))) : w.heap.size ≤ gb143)); clear HB; have HB := n0_; have BK143 := n1_; have GW143 := n2_; have GE143 := n3_; clear n0_ n1_ n2_ n3_; clear hb hbox hg; have hcz15_0 : w14.cell? ⟨gb143, 0, none⟩ = some (.string a0_0) := (blk_cell BK143.out 0).trans rfl; have hcz15_1 : w14.cell? ⟨gb143, 1, none⟩ = some (.slice A0_1 l0_1.length c0_1) := (blk_cell BK143.out 1).trans rfl; have hfz15_0 := blk_frozen BK143.out 0; have hfz15_1 := blk_frozen BK143.out 1) | ((with_reducible refine gate_callee (f := 40) rfl ?_); refine goesL_ (some 7) rfl rfl Try.func40 (by kernel_rfl) rfl #[.agg #[.string a0_0, .slice A0_1 l0_1.length c0_1], .int .i64 3] rfl (by (try simp only [List.map_toArray, List.map_cons, List.map_nil]); first | done | rfl | (simp only [List.length_drop, List.length_take]; rfl)) ?_; (with_reducible refine (message_Get.calls k a0_0 _ _ l0_1 3 t144 t145 _ ?side1 ?side2 A2.out).mono ?_); (case side1 => repeat (first | exact (Kd.C_below HR0_1.out HB.out) | (with_reducible refine Kd.C_alloc ?_ _) | (with_reducible refine Kd.C_drewN ?_ _) | (with_reducible refine Kd.C_drew ?_))); (case side2 => exact HC0_1.out); rintro e w16 ⟨rfl, hb⟩; refine ⟨_, rfl, ?_⟩; have n0_ := Aside0.mk (blk_below (g := gb143) (o := .cells #[.string a0_0, .slice A0_1 l0_1.length c0_1] 33 (0, 0)) (by (with_reducible repeat (first | refine blk_drewN ?_ _ | refine blk_drew ?_ | refine blk_alloc ?_ _)); exact BK143.out) hb); have n1_ := Aside0.mk (below_step (by repeat (first | (with_reducible first | exact HB.out | apply below_alloc | apply pw_below_drewN | apply below_drew1 | refine below_set ?_ GE143.out) | exact HB.out)) hb); clear BK143; clear HB; have BK143 := n0_; have HB := n1_; clear n0_ n1_; (try clear hb); (try clear hb2); (try clear hk); (try clear hi); have p5 : 0 ≤ (0 : Int) := (by omega); have q5 : 0 < t144.size := (by have : (0 : Int) < (t144.size : Int) := of_decide_eq_true (by first | (with_reducible assumption) | assumption); omega); have hx5 : ∀ h : 0 < t144.size, ((t144[0]'h).toNat : Int) = bt t144 0 := bt_at t144 0; clear p5; have qi5 : (0 < (t144.size : Int)) = True := eq_true (of_decide_eq_true (by first | (with_reducible assumption) | assumption)); replace q5 := eq_true q5; have p8 : 0 ≤ (1 : Int) := (by omega); have q8 : 1 < t144.size := (by have : (1 : Int) < (t144.size : Int) := of_decide_eq_true (by first | (with_reducible assumption) | assumption); omega); have hx8 : ∀ h : 1 < t144.size, ((t144[1]'h).toNat : Int) = bt t144 1 := bt_at t144 1; clear p8; have qi8 : (1 < (t144.size : Int)) = True := eq_true (of_decide_eq_true (by first | (with_reducible assumption) | assumption)); replace q8 := eq_true q8))
            go_ret
            exact ⟨by first | rfl | (simp [errW_none, errW_some] <;> rfl) | (simp [*, errW_none, errW_some] <;> rfl), by repeat (first | (with_reducible first | exact HB.out | apply below_alloc | apply pw_below_drewN | apply below_drew1 | refine below_set ?_ GE143.out) | exact HB.out)⟩
        · rw [if_neg c7] at H
          exact absurd H (by simp)
      · rw [if_neg c6] at H
        have c6b0 : ((bt t144 0) == 50) = false := beq_eq_false_iff_ne.mpr c6
        have c6b1 : ((bt t144 0) != 50) = true := bne_iff_ne.mpr c6
        obtain rfl := Option.some.inj H
        go_enter Try.func65, Try.ntmps65
        go_wp2_with (first | ((with_reducible refine gate_dst (N := 1) rfl ?_); refine box_event ?hg (N := 1) ?hd (cs := #[.string a0_0, .slice A0_1 l0_1.length c0_1]) (t := 33) ?hr ?_; (case hd => rfl); (case hg => rfl); (case hr => first | (go_simp; done) | (go_simp; rfl)); intro gb143 hg w17 hbox hb; have n0_ := Aside0.mk (below_step (by repeat (first | (with_reducible first | exact HB.out | apply below_alloc | apply pw_below_drewN | apply below_drew1) | exact HB.out)) hb); have n1_ := Aside0.mk (hbox); have n2_ := Aside0.mk ((by rw [hg]; exact (below_size (by repeat (first | (with_reducible first | exact HB.out | apply below_alloc | apply pw_below_drewN | apply below_drew1) | exact HB.out))) : w.heap.size ≤ gb143)); have n3_ := Aside0.mk ((by rw [hg]; exact (below_size (by repeat (first | (with_reducible first | exact HB.out | apply below_alloc | apply pw_below_drewN | apply below_drew1) | exact HB.out))) : w.heap.size ≤ gb143)); clear HB; have HB := n0_; have BK143 := n1_; have GW143 := n2_; have GE143 := n3_; clear n0_ n1_ n2_ n3_; clear hb hbox hg; have hcz18_0 : w17.cell? ⟨gb143, 0, none⟩ = some (.string a0_0) := (blk_cell BK143.out 0).trans rfl; have hcz18_1 : w17.cell? ⟨gb143, 1, none⟩ = some (.slice A0_1 l0_1.length c0_1) := (blk_cell BK143.out 1).trans rfl; have hfz18_0 := blk_frozen BK143.out 0; have hfz18_1 := blk_frozen BK143.out 1) | ((with_reducible refine gate_callee (f := 40) rfl ?_); refine goesL_ (some 7) rfl rfl Try.func40 (by kernel_rfl) rfl #[.agg #[.string a0_0, .slice A0_1 l0_1.length c0_1], .int .i64 3] rfl (by (try simp only [List.map_toArray, List.map_cons, List.map_nil]); first | done | rfl | (simp only [List.length_drop, List.length_take]; rfl)) ?_; (with_reducible refine (message_Get.calls k a0_0 _ _ l0_1 3 t144 t145 _ ?side1 ?side2 A2.out).mono ?_); (case side1 => repeat (first | exact (Kd.C_below HR0_1.out HB.out) | (with_reducible refine Kd.C_alloc ?_ _) | (with_reducible refine Kd.C_drewN ?_ _) | (with_reducible refine Kd.C_drew ?_))); (case side2 => exact HC0_1.out); rintro e w19 ⟨rfl, hb⟩; refine ⟨_, rfl, ?_⟩; have n0_ := Aside0.mk (blk_below (g := gb143) (o := .cells #[.string a0_0, .slice A0_1 l0_1.length c0_1] 33 (0, 0)) (by (with_reducible repeat (first | refine blk_drewN ?_ _ | refine blk_drew ?_ | refine blk_alloc ?_ _)); exact BK143.out) hb); have n1_ := Aside0.mk (below_step (by repeat (first | (with_reducible first | exact HB.out | apply below_alloc | apply pw_below_drewN | apply below_drew1 | refine below_set ?_ GE143.out) | exact HB.out)) hb); clear BK143; clear HB; have BK143 := n0_; have HB := n1_; clear n0_ n1_; (try clear hb); (try clear hb2); (try clear hk); (try clear hi); have p5 : 0 ≤ (0 : Int) := (by omega); have q5 : 0 < t144.size := (by have : (0 : Int) < (t144.size : Int) := of_decide_eq_true (by first | (with_reducible assumption) | assumption); omega); have hx5 : ∀ h : 0 < t144.size, ((t144[0]'h).toNat : Int) = bt t144 0 := bt_at t144 0; clear p5; have qi5 : (0 < (t144.size : Int)) = True := eq_true (of_decide_eq_true (by first | (with_reducible assumption) | assumption)); replace q5 := eq_true q5))
        go_ret
        exact ⟨by first | rfl | (simp [errW_none, errW_some] <;> rfl) | (simp [*, errW_none, errW_some] <;> rfl), by repeat (first | (with_reducible first | exact HB.out | apply below_alloc | apply pw_below_drewN | apply below_drew1 | refine below_set ?_ GE143.out) | exact HB.out)⟩
    · rw [if_neg c4] at H
      exact absurd H (by simp)
  · rw [if_neg c3] at H
    have c3b0 : decide (1 < (t144.size : Int)) = false := decide_eq_false c3
    have c3b1 : decide (1 < t144.size) = false := decide_eq_false (by omega)
    clear c3
    obtain rfl := Option.some.inj H
    go_enter Try.func65, Try.ntmps65
    go_wp2_with (first | ((with_reducible refine gate_dst (N := 1) rfl ?_); refine box_event ?hg (N := 1) ?hd (cs := #[.string a0_0, .slice A0_1 l0_1.length c0_1]) (t := 33) ?hr ?_; (case hd => rfl); (case hg => rfl); (case hr => first | (go_simp; done) | (go_simp; rfl)); intro gb143 hg w20 hbox hb; have n0_ := Aside0.mk (below_step (by repeat (first | (with_reducible first | exact HB.out | apply below_alloc | apply pw_below_drewN | apply below_drew1) | exact HB.out)) hb); have n1_ := Aside0.mk (hbox); have n2_ := Aside0.mk ((by rw [hg]; exact (below_size (by repeat (first | (with_reducible first | exact HB.out | apply below_alloc | apply pw_below_drewN | apply below_drew1) | exact HB.out))) : w.heap.size ≤ gb143)); have n3_ := Aside0.mk ((by rw [hg]; exact (below_size (by repeat (first | (with_reducible first | exact HB.out | apply below_alloc | apply pw_below_drewN | apply below_drew1) | exact HB.out))) : w.heap.size ≤ gb143)); clear HB; have HB := n0_; have BK143 := n1_; have GW143 := n2_; have GE143 := n3_; clear n0_ n1_ n2_ n3_; clear hb hbox hg; have hcz21_0 : w20.cell? ⟨gb143, 0, none⟩ = some (.string a0_0) := (blk_cell BK143.out 0).trans rfl; have hcz21_1 : w20.cell? ⟨gb143, 1, none⟩ = some (.slice A0_1 l0_1.length c0_1) := (blk_cell BK143.out 1).trans rfl; have hfz21_0 := blk_frozen BK143.out 0; have hfz21_1 := blk_frozen BK143.out 1) | ((with_reducible refine gate_callee (f := 40) rfl ?_); refine goesL_ (some 7) rfl rfl Try.func40 (by kernel_rfl) rfl #[.agg #[.string a0_0, .slice A0_1 l0_1.length c0_1], .int .i64 3] rfl (by (try simp only [List.map_toArray, List.map_cons, List.map_nil]); first | done | rfl | (simp only [List.length_drop, List.length_take]; rfl)) ?_; (with_reducible refine (message_Get.calls k a0_0 _ _ l0_1 3 t144 t145 _ ?side1 ?side2 A2.out).mono ?_); (case side1 => repeat (first | exact (Kd.C_below HR0_1.out HB.out) | (with_reducible refine Kd.C_alloc ?_ _) | (with_reducible refine Kd.C_drewN ?_ _) | (with_reducible refine Kd.C_drew ?_))); (case side2 => exact HC0_1.out); rintro e w22 ⟨rfl, hb⟩; refine ⟨_, rfl, ?_⟩; have n0_ := Aside0.mk (blk_below (g := gb143) (o := .cells #[.string a0_0, .slice A0_1 l0_1.length c0_1] 33 (0, 0)) (by (with_reducible repeat (first | refine blk_drewN ?_ _ | refine blk_drew ?_ | refine blk_alloc ?_ _)); exact BK143.out) hb); have n1_ := Aside0.mk (below_step (by repeat (first | (with_reducible first | exact HB.out | apply below_alloc | apply pw_below_drewN | apply below_drew1 | refine below_set ?_ GE143.out) | exact HB.out)) hb); clear BK143; clear HB; have BK143 := n0_; have HB := n1_; clear n0_ n1_; (try clear hb); (try clear hb2); (try clear hk); (try clear hi)))
    go_ret
    exact ⟨by first | rfl | (simp [errW_none, errW_some] <;> rfl) | (simp [*, errW_none, errW_some] <;> rfl), by repeat (first | (with_reducible first | exact HB.out | apply below_alloc | apply pw_below_drewN | apply below_drew1 | refine below_set ?_ GE143.out) | exact HB.out)⟩

end Go.Proofs.Ytdiodnjkejogdaa.All
