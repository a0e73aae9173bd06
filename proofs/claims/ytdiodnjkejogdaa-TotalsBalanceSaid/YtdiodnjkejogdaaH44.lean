/- The contract of totals.within (function 44). -/
import Derived.Test.YtdiodnjkejogdaaAx0
namespace Go.Proofs.Ytdiodnjkejogdaa.All
open Go.RowKit Go.Proofs.YtdiodnjkejogdaaW.PrintWords Go.Proofs.YtdiodnjkejogdaaW.PrintLast Go.Proofs.YtdiodnjkejogdaaW.PrintMore
set_option linter.unusedVariables false
set_option linter.unusedSimpArgs false

def mx (a b : Int) : Int := if a < b then b else a
theorem mx_le (a b m : Int) : mx a b ≤ m ↔ a ≤ m ∧ b ≤ m := by unfold mx; split <;> omega
def mx8 (a b c d e f g h : Int) : Int := mx (mx (mx (mx (mx (mx (mx a b) c) d) e) f) g) h
def mx4 (a b c d : Int) : Int := mx (mx (mx a b) c) d
theorem mx8_le (a b c d e f g h m : Int) : mx8 a b c d e f g h ≤ m ↔ a ≤ m ∧ b ≤ m ∧ c ≤ m ∧ d ≤ m ∧ e ≤ m ∧ f ≤ m ∧ g ≤ m ∧ h ≤ m := by simp only [mx8, mx_le, and_assoc]
theorem mx4_le (a b c d m : Int) : mx4 a b c d ≤ m ↔ a ≤ m ∧ b ≤ m ∧ c ≤ m ∧ d ≤ m := by simp only [mx4, mx_le, and_assoc]
theorem max2_mx (k : IntKind) (x y : Int) : Builtin.max2 (.int k x) (.int k y) = pure (.int k (mx x y)) := max2_int k k x y
theorem max_eight (ats : Array TypeId) (ty : TypeId) (k : IntKind) (a b c d e f g h : Int) : Builtin.max_ ats ty #[.int k a, .int k b, .int k c, .int k d, .int k e, .int k f, .int k g, .int k h] = pure (.int k (mx8 a b c d e f g h)) := by
  simp only [Builtin.max_, List.foldlM_cons, List.foldlM_nil, max2_mx, pure_bind, mx8]
theorem max_fourI (ats : Array TypeId) (ty : TypeId) (k : IntKind) (a b c d : Int) : Builtin.max_ ats ty #[.int k a, .int k b, .int k c, .int k d] = pure (.int k (mx4 a b c d)) := by
  simp only [Builtin.max_, List.foldlM_cons, List.foldlM_nil, max2_mx, pure_bind, mx4]
attribute [local go_sem] max_eight max_fourI

/-- a link's numbers have room -/
def withinL (x : List Int) : Bool := decide (mx8 (x.getD 0 0) (x.getD 1 0) (x.getD 2 0) (x.getD 3 0) (x.getD 4 0) (x.getD 5 0) (x.getD 6 0) (x.getD 7 0) ≤ 9999999999) && decide (mx4 (x.getD 8 0) (x.getD 9 0) (x.getD 10 0) (x.getD 11 0) ≤ 9999999999999999)

set_option maxHeartbeats 4000000 in
set_option maxRecDepth 100000 in
theorem totals_within.calls (c0 c1 c2 c3 c4 c5 c6 c7 c8 c9 c10 c11 : Int) (w : World) :
    Calls Try.prog 44 #[.agg #[.int .i64 c0, .int .i64 c1, .int .i64 c2, .int .i64 c3, .int .i64 c4, .int .i64 c5, .int .i64 c6, .int .i64 c7, .int .i64 c8, .int .i64 c9, .int .i64 c10, .int .i64 c11]] w
      fun e w' => e = .returned (.bool (withinL [c0, c1, c2, c3, c4, c5, c6, c7, c8, c9, c10, c11])) ∧ Below w.heap.size w w' := by
  have hu60 := Try.underlying60
  have HB := Aside0.mk (Below.refl w.heap.size w)
  obtain ⟨q, hq⟩ : ∃ q : Bool, decide (mx8 c0 c1 c2 c3 c4 c5 c6 c7 ≤ 9999999999) = q := ⟨_, rfl⟩
  obtain ⟨p, hp⟩ : ∃ p : Bool, decide (mx4 c8 c9 c10 c11 ≤ 9999999999999999) = p := ⟨_, rfl⟩
  have hr : withinL [c0, c1, c2, c3, c4, c5, c6, c7, c8, c9, c10, c11] = (q && p) := by rw [← hq, ← hp]; rfl
  rw [hr]
  clear hr
  cases q
  · go_enter Try.func44, Try.ntmps44
    go_wp2_with (first | ((with_reducible refine gate_dst (N := 1) rfl ?_); refine box_event ?hg (N := 1) ?hd (cs := #[.int .i64 c0, .int .i64 c1, .int .i64 c2, .int .i64 c3, .int .i64 c4, .int .i64 c5, .int .i64 c6, .int .i64 c7, .int .i64 c8, .int .i64 c9, .int .i64 c10, .int .i64 c11]) (t := 60) ?hr ?_; (case hd => rfl); (case hg => rfl); (case hr => first | (go_simp; done) | (go_simp; rfl)); intro g hg w4 hbox hb; have n2_ := Aside0.mk (below_step HB.out hb); clear HB; have HB := n2_; have B2 := Aside0.mk hbox; clear n2_ hb hbox hg; have hk_0 := (blk_cell B2.out 0); have hk_1 := (blk_cell B2.out 1); have hk_2 := (blk_cell B2.out 2); have hk_3 := (blk_cell B2.out 3); have hk_4 := (blk_cell B2.out 4); have hk_5 := (blk_cell B2.out 5); have hk_6 := (blk_cell B2.out 6); have hk_7 := (blk_cell B2.out 7); have hk_8 := (blk_cell B2.out 8); have hk_9 := (blk_cell B2.out 9); have hk_10 := (blk_cell B2.out 10); have hk_11 := (blk_cell B2.out 11)))
    go_ret
    exact ⟨rfl, HB.out⟩
  · go_enter Try.func44, Try.ntmps44
    go_wp2_with (first | ((with_reducible refine gate_dst (N := 1) rfl ?_); refine box_event ?hg (N := 1) ?hd (cs := #[.int .i64 c0, .int .i64 c1, .int .i64 c2, .int .i64 c3, .int .i64 c4, .int .i64 c5, .int .i64 c6, .int .i64 c7, .int .i64 c8, .int .i64 c9, .int .i64 c10, .int .i64 c11]) (t := 60) ?hr ?_; (case hd => rfl); (case hg => rfl); (case hr => first | (go_simp; done) | (go_simp; rfl)); intro g hg w4 hbox hb; have n2_ := Aside0.mk (below_step HB.out hb); clear HB; have HB := n2_; have B2 := Aside0.mk hbox; clear n2_ hb hbox hg; have hk_0 := (blk_cell B2.out 0); have hk_1 := (blk_cell B2.out 1); have hk_2 := (blk_cell B2.out 2); have hk_3 := (blk_cell B2.out 3); have hk_4 := (blk_cell B2.out 4); have hk_5 := (blk_cell B2.out 5); have hk_6 := (blk_cell B2.out 6); have hk_7 := (blk_cell B2.out 7); have hk_8 := (blk_cell B2.out 8); have hk_9 := (blk_cell B2.out 9); have hk_10 := (blk_cell B2.out 10); have hk_11 := (blk_cell B2.out 11)))
    go_ret
    exact ⟨rfl, HB.out⟩
end Go.Proofs.Ytdiodnjkejogdaa.All
