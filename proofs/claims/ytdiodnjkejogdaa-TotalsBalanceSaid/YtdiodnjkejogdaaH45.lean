-- WRITTEN BY gen45.py: the contract of totals.fits (function 45) for messages of a kind that is counted and answered.
import Derived.Test.YtdiodnjkejogdaaAx0
import Derived.Test.YtdiodnjkejogdaaAx8
import Derived.Test.YtdiodnjkejogdaaAx9
import Derived.Test.YtdiodnjkejogdaaAx11
namespace Go.Proofs.Ytdiodnjkejogdaa.All
open Go.RowKit Go.Proofs.YtdiodnjkejogdaaW.PrintWords Go.Proofs.YtdiodnjkejogdaaW.PrintLast Go.Proofs.YtdiodnjkejogdaaW.PrintMore
set_option linter.unusedVariables false
set_option linter.unusedSimpArgs false
def fits45_T1 : Bool × List (List Nat × List Nat) := (true, [([], []), ([0], [0]), ([1], [1]), ([], []), ([3], [3]), ([4, 2], [4]), ([2, 5, 0, 1, 2], [2]), ([5, 6, 0, 1, 2, 3, 4, 5, 6], [5])])
def fits45_B1 : List Nat := [0, 1, 3, 0, 8, 31, 63, 127]
theorem fits45_tab1 : rtab .any (opsOf Try.f45 1) = fits45_T1 := by kernel_rfl
theorem fits45_bits1 : waitsOk fits45_T1.2 fits45_B1 = true := by kernel_rfl
/-- a request of such a class and function is counted -/
def countedK (cl fn : Int) : Prop := (cl = 1 ∧ fn = 0) ∨ (cl = 1 ∧ fn = 2) ∨ (cl = 2 ∧ fn = 0) ∨ (cl = 2 ∧ fn = 2) ∨ (cl = 4 ∧ fn = 2)
set_option maxHeartbeats 8000000 in
set_option maxRecDepth 100000 in
theorem totals_fits.does (k : Nat) (m1 : ByteArray) (A1 : Option Addr) (L1 n1 : Nat) (m2 : ByteArray) (A2 : Option Addr) (L2 n2 : Nat) (w : World) (cl fn : Int) (b : ByteArray) (hC : message_Class.f k m1 = some cl) (hF : message_Function.f k m1 = some fn) (hA : message_Answer.f k m1 = some (b, 0)) (hct : countedK cl fn) :
    Calls Try.prog 45 #[.agg #[.string m1, .slice A1 L1 n1], .agg #[.string m2, .slice A2 L2 n2]] w fun e w' => e = .returned (.bool (b.toList == m2.toList)) ∧ Below w.heap.size w w' := by
  have hu33 := Try.underlying33
  have HB := Aside0.mk (Below.refl w.heap.size w)
  have HC := Aside0.mk hC
  have HF := Aside0.mk hF
  have HA := Aside0.mk hA
  clear hC hF hA
  go_enter Try.func45, Try.ntmps45
  go_wp2_with (first | ((with_reducible refine gate_dst (N := 2) rfl ?_); refine box_event ?hg (N := 2) ?hd (cs := #[.string m1, .slice A1 L1 n1]) (t := 33) ?hr ?_; (case hd => rfl); (case hg => rfl); (case hr => first | (go_simp; done) | (go_simp; rfl)); intro g2 hg V hbox hb; have m_ := below_step HB.out hb; clear HB hb hg; have HB := Aside0.mk m_; have B2 := Aside0.mk hbox; clear m_ hbox) | ((with_reducible refine gate_dst (N := 3) rfl ?_); refine box_event ?hg (N := 3) ?hd (cs := #[.string m2, .slice A2 L2 n2]) (t := 33) ?hr ?_; (case hd => rfl); (case hg => rfl); (case hr => first | (go_simp; done) | (go_simp; rfl)); intro g3 hg V hbox hb; have m_ := below_step HB.out hb; have k_ := blk_below B2.out hb; clear HB B2 hb hg; have HB := Aside0.mk m_; have B2 := Aside0.mk k_; have B3 := Aside0.mk hbox; clear m_ k_ hbox))
  refine start_ (S := fun w' => w'.heap[g2]? = some (.cells #[.string m1, .slice A1 L1 n1] 33 (0, 0)) ∧ w'.heap[g3]? = some (.cells #[.string m2, .slice A2 L2 n2] 33 (0, 0))) (ds := []) (n := 8) #[false, false, false, false, false, false, false, false] (by kernel_rfl) rfl rfl ⟨blk_drew B2.out, blk_drew B3.out⟩ (fun hHeld => ?_)
  have BB := below_drew1 HB.out
  clear B2 B3 HB
  generalize World.drew _ = Wd at hHeld BB ⊢
  have HB := Aside0.mk BB; clear BB
  refine with_tabW fits45_tab1 fits45_bits1 (fun HT_ HW_ => ?_)
  refine pure_ (i := 0) (N := some 10) (v := ?_) (a' := ?_) #[true, false, false, false, false, false, false, false] rfl rfl (any_of HT_.out (by kernel_rfl)) (fun _ _ _ h => h) (Or.inl ⟨by rfl, ?_⟩) ?_ ?_
  rotate_left
  · intro w'
    go_simp
    try with_reducible rfl
  rotate_left
  · simp only [Act.put, List.setIfInBounds_toArray, List.set_cons_zero, List.set_cons_succ, i64_w, i32_w]
    rfl
  refine take_ (i := 1) (N := some 11) (v := ?_) (a' := ?_) #[true, true, false, false, false, false, false, false] rfl rfl (take_ofW HT_.out HW_.out (by kernel_rfl)) (fun _ _ _ h => h) (Or.inl ⟨by rfl, ?_⟩) hHeld ?_ ?_
  rotate_left
  · rintro w' ⟨s0, s1⟩
    have hk := blk_cell s0 0
    have hf := blk_frozen s0 0
    clear s0 s1
    go_simp
    try with_reducible rfl
  rotate_left
  · simp only [Act.put, List.setIfInBounds_toArray, List.set_cons_zero, List.set_cons_succ, i64_w, i32_w]
    rfl
  refine pure_ (i := 3) (N := some 13) (v := ?_) (a' := ?_) #[true, true, false, true, false, false, false, false] rfl rfl (any_of HT_.out (by kernel_rfl)) (fun _ _ _ h => h) (Or.inl ⟨by rfl, ?_⟩) ?_ ?_
  rotate_left
  · intro w'
    go_simp
    try with_reducible rfl
  rotate_left
  · simp only [Act.put, List.setIfInBounds_toArray, List.set_cons_zero, List.set_cons_succ, i64_w, i32_w]
    rfl
  refine take_ (i := 4) (N := some 14) (v := ?_) (a' := ?_) #[true, true, false, true, true, false, false, false] rfl rfl (take_ofW HT_.out HW_.out (by kernel_rfl)) (fun _ _ _ h => h) (Or.inl ⟨by rfl, ?_⟩) hHeld ?_ ?_
  rotate_left
  · rintro w' ⟨s0, s1⟩
    have hk := blk_cell s0 0
    have hf := blk_frozen s0 0
    clear s0 s1
    go_simp
    try with_reducible rfl
  rotate_left
  · simp only [Act.put, List.setIfInBounds_toArray, List.set_cons_zero, List.set_cons_succ, i64_w, i32_w]
    rfl
  refine one_ (i := 2) (N := some 12) #[true, true, true, true, true, false, false, false] rfl rfl (one_of HT_.out (by kernel_rfl)) (by decide) (fun K hK => ?_)
  refine goes_ Try.func38 (by kernel_rfl) rfl #[.string m1] (by rfl) rfl rfl (by (try simp only [List.map_toArray, List.map_cons, List.map_nil]); first | done | rfl) ?_
  with_reducible refine (message_Class.calls k m1 cl _ HC.out).mono ?_
  rintro e w' ⟨rfl, ⟨nd, rfl⟩⟩
  refine ⟨_, rfl, ?_⟩
  refine hK.out _ _ ⟨hHeld.1, hHeld.2⟩ (fun hHeld2 => ?_)
  clear hK K hHeld
  have hHeld := hHeld2; clear hHeld2
  have n_ := pw_below_drewN HB.out nd; clear HB; have HB := Aside0.mk n_; clear n_
  generalize World.drewN _ nd = We at hHeld HB ⊢
  refine norm_ (a' := ?_) ?_ ?_
  rotate_left
  · show Act.put _ (some 12) _ = _
    simp only [Act.put, List.setIfInBounds_toArray, List.set_cons_zero, List.set_cons_succ, i64_w, i32_w]
    rfl
  refine one_ (i := 5) (N := some 15) #[true, true, true, true, true, true, false, false] rfl rfl (one_of HT_.out (by kernel_rfl)) (by decide) (fun K hK => ?_)
  refine goes_ Try.func39 (by kernel_rfl) rfl #[.string m1] (by rfl) rfl rfl (by (try simp only [List.map_toArray, List.map_cons, List.map_nil]); first | done | rfl) ?_
  with_reducible refine (message_Function.calls k m1 fn _ HF.out).mono ?_
  rintro e w' ⟨rfl, ⟨nd, rfl⟩⟩
  refine ⟨_, rfl, ?_⟩
  refine hK.out _ _ ⟨hHeld.1, hHeld.2⟩ (fun hHeld2 => ?_)
  clear hK K hHeld
  have hHeld := hHeld2; clear hHeld2
  have n_ := pw_below_drewN HB.out nd; clear HB; have HB := Aside0.mk n_; clear n_
  generalize World.drewN _ nd = We at hHeld HB ⊢
  refine norm_ (a' := ?_) ?_ ?_
  rotate_left
  · show Act.put _ (some 15) _ = _
    simp only [Act.put, List.setIfInBounds_toArray, List.set_cons_zero, List.set_cons_succ, i64_w, i32_w]
    rfl
  refine pure_ (i := 6) (N := some 5) (v := ?_) (a' := ?_) #[true, true, true, true, true, true, true, false] rfl rfl (any_of HT_.out (by kernel_rfl)) (fun _ _ _ h => h) (Or.inl ⟨by rfl, ?_⟩) ?_ ?_
  rotate_left
  · intro w'
    go_simp
    try with_reducible rfl
  rotate_left
  · simp only [Act.put, List.setIfInBounds_toArray, List.set_cons_zero, List.set_cons_succ, i64_w, i32_w]
    rfl
  refine pure_ (i := 7) (N := some 6) (v := ?_) (a' := ?_) #[true, true, true, true, true, true, true, true] rfl rfl (any_of HT_.out (by kernel_rfl)) (fun _ _ _ h => h) (Or.inl ⟨by rfl, ?_⟩) ?_ ?_
  rotate_left
  · intro w'
    go_simp
    try with_reducible rfl
  rotate_left
  · simp only [Act.put, List.setIfInBounds_toArray, List.set_cons_zero, List.set_cons_succ, i64_w, i32_w]
    rfl
  refine done_ (done_of HT_.out (by kernel_rfl)) ?_
  clear HT_ HW_
  have B2 := Aside0.mk hHeld.1; have B3 := Aside0.mk hHeld.2; clear hHeld
  have hk2 := blk_cell B2.out 0; have hf2 := blk_frozen B2.out 0
  clear HC HF
  rcases hct with ⟨rfl, rfl⟩ | ⟨rfl, rfl⟩ | ⟨rfl, rfl⟩ | ⟨rfl, rfl⟩ | ⟨rfl, rfl⟩ <;> (go_wp2_with (first | ((with_reducible refine gate_callee (f := 61) rfl ?_); refine goesL_ (some 41) rfl rfl Try.func61 (by kernel_rfl) rfl #[.string m1] rfl (by (try simp only [List.map_toArray, List.map_cons, List.map_nil]); first | done | rfl) ?_; (with_reducible refine (message_Answer.calls k m1 b 0 _ HA.out).mono ?_); rintro e V ⟨rfl, hb⟩; refine ⟨_, rfl, ?_⟩; have m_ := below_step HB.out hb; have k_ := blk_below B3.out hb; clear HB B3 hb hk2 hf2; have HB := Aside0.mk m_; have B3 := Aside0.mk k_; have hk3 := blk_cell B3.out 0; have hf3 := blk_frozen B3.out 0; clear m_ k_)); go_ret; exact ⟨rfl, HB.out⟩)
end Go.Proofs.Ytdiodnjkejogdaa.All
