-- WRITTEN BY gen17.py: the contract of the book's Counts (function 17).
import Derived.Test.YtdiodnjkejogdaaH22
namespace Go.Proofs.Ytdiodnjkejogdaa.All
open Go.RowKit Go.Proofs.YtdiodnjkejogdaaW.PrintWords Go.Proofs.YtdiodnjkejogdaaW.PrintLast Go.Proofs.YtdiodnjkejogdaaW.PrintMore
set_option linter.unusedVariables false
set_option linter.unusedSimpArgs false
set_option maxHeartbeats 8000000 in
set_option maxRecDepth 100000 in
theorem totals_Counts.calls (gb gl : Nat) (L : List (List Int)) (link : Int) (x : List Int) (w : World) (hk : BookAt w gb gl L) (h0 : 0 ≤ link) (h1 : link < (L.length : Int)) (hx : L[link.toNat]? = some x) :
    Calls Try.prog 17 #[.pointer (some ⟨gb, 0, none⟩), .int .i64 link] w fun e w' => e = .returned (.tuple #[.agg (ints x), .int .i64 0]) ∧ Below w.heap.size w w' := by
  obtain ⟨x0, x1, x2, x3, x4, x5, x6, x7, x8, x9, x10, x11, rfl⟩ := twelve x (hk.len x (List.mem_of_getElem? hx))
  have HB := Aside0.mk (Below.refl w.heap.size w)
  have HK := Aside0.mk hk
  clear hk
  go_enter Try.func17, Try.ntmps17
  go_wp2_with (first | ((with_reducible refine gate_dst (N := 4) rfl ?_); refine box_event ?hg (N := 4) ?hd (cs := #[.int .i64 0, .int .i64 0, .int .i64 0, .int .i64 0, .int .i64 0, .int .i64 0, .int .i64 0, .int .i64 0, .int .i64 0, .int .i64 0, .int .i64 0, .int .i64 0]) (t := 60) ?hr ?_; (case hd => rfl); (case hg => rfl); (case hr => first | (go_simp; done) | (go_simp; rfl)); intro g4 hg V hbox hb; have B4 := Aside0.mk hbox; have G4 : Aside0 (w.heap.size ≤ g4) := ⟨by rw [hg]; exact HB.out.size⟩; have m_ := below_step HB.out hb; clear HB; have HB := Aside0.mk m_; clear m_ hg hbox hb) | ((with_reducible refine gate_callee (f := 36) rfl ?_); refine goesL_ (some 9) rfl rfl Try.func36 (by kernel_rfl) rfl #[.pointer (some ⟨gb, 0, none⟩), .int .i64 link] rfl (by (try simp only [List.map_toArray, List.map_cons, List.map_nil]); first | done | rfl) ?_; (with_reducible refine (totals_at.calls gb gl L link _ (BookAt.below HK.out HB.out) h0 h1).mono ?_); rintro e V ⟨rfl, rfl⟩; refine ⟨_, rfl, ?_⟩) | ((with_reducible refine gate_dst (N := 15) rfl ?_); refine wpList_load_mid rfl 60 _ rfl gl (link.toNat * 12) rfl (([x0, x1, x2, x3, x4, x5, x6, x7, x8, x9, x10, x11] : List Int).map (Value.int .i64)) _ (BookAt.range (BookAt.below HK.out HB.out) hx) Try.underlying60 rfl size60' ?_) | ((with_reducible refine gate_store (t := 60) (p := 4) rfl ?_); refine store_row_ev rfl 60 _ _ rfl rfl g4 #[.int .i64 x0, .int .i64 x1, .int .i64 x2, .int .i64 x3, .int .i64 x4, .int .i64 x5, .int .i64 x6, .int .i64 x7, .int .i64 x8, .int .i64 x9, .int .i64 x10, .int .i64 x11] rfl rfl 60 #[.int .i64 0, .int .i64 0, .int .i64 0, .int .i64 0, .int .i64 0, .int .i64 0, .int .i64 0, .int .i64 0, .int .i64 0, .int .i64 0, .int .i64 0, .int .i64 0] B4.out size60' rfl (one12' _ _ _ _ _ _ _ _ _ _ _ _) ?_; intro V hbox hb; have mHB_ := low HB.out G4.out hb; clear HB B4; have HB := Aside0.mk mHB_; have B4 := Aside0.mk hbox; clear hb mHB_ hbox))
  (try simp only [Exit.inBlock, Exit.then])
  exact bodyPost_ret (results_list (rs := [.cell 4 60, .tmp 5]) rfl (by simp) (.cell g4 60 #[.int .i64 x0, .int .i64 x1, .int .i64 x2, .int .i64 x3, .int .i64 x4, .int .i64 x5, .int .i64 x6, .int .i64 x7, .int .i64 x8, .int .i64 x9, .int .i64 x10, .int .i64 x11] (0, 0) _ rfl B4.out Try.underlying60 rfl size60' (.tmp .nil))) rfl ⟨rfl, HB.out⟩
set_option maxHeartbeats 8000000 in
set_option maxRecDepth 100000 in
theorem totals_Counts.miss (gb gl : Nat) (L : List (List Int)) (link : Int) (w : World) (hk : BookAt w gb gl L) (hm : link < 0 ∨ (L.length : Int) ≤ link) :
    Calls Try.prog 17 #[.pointer (some ⟨gb, 0, none⟩), .int .i64 link] w fun e w' => e = .returned (.tuple #[.agg (ints zeros12), .int .i64 40]) ∧ Below w.heap.size w w' := by
  have HB := Aside0.mk (Below.refl w.heap.size w)
  have HK := Aside0.mk hk
  clear hk
  go_enter Try.func17, Try.ntmps17
  go_wp2_with (first | ((with_reducible refine gate_dst (N := 4) rfl ?_); refine box_event ?hg (N := 4) ?hd (cs := #[.int .i64 0, .int .i64 0, .int .i64 0, .int .i64 0, .int .i64 0, .int .i64 0, .int .i64 0, .int .i64 0, .int .i64 0, .int .i64 0, .int .i64 0, .int .i64 0]) (t := 60) ?hr ?_; (case hd => rfl); (case hg => rfl); (case hr => first | (go_simp; done) | (go_simp; rfl)); intro g4 hg V hbox hb; have B4 := Aside0.mk hbox; have G4 : Aside0 (w.heap.size ≤ g4) := ⟨by rw [hg]; exact HB.out.size⟩; have m_ := below_step HB.out hb; clear HB; have HB := Aside0.mk m_; clear m_ hg hbox hb) | ((with_reducible refine gate_callee (f := 36) rfl ?_); refine goesL_ (some 9) rfl rfl Try.func36 (by kernel_rfl) rfl #[.pointer (some ⟨gb, 0, none⟩), .int .i64 link] rfl (by (try simp only [List.map_toArray, List.map_cons, List.map_nil]); first | done | rfl) ?_; (with_reducible refine (totals_at.miss gb gl L link _ (BookAt.below HK.out HB.out) hm).mono ?_); rintro e V ⟨rfl, rfl⟩; refine ⟨_, rfl, ?_⟩) | ((with_reducible refine gate_store (t := 60) (p := 4) rfl ?_); refine store_row_ev rfl 60 _ _ rfl rfl g4 #[.int .i64 0, .int .i64 0, .int .i64 0, .int .i64 0, .int .i64 0, .int .i64 0, .int .i64 0, .int .i64 0, .int .i64 0, .int .i64 0, .int .i64 0, .int .i64 0] rfl rfl 60 #[.int .i64 0, .int .i64 0, .int .i64 0, .int .i64 0, .int .i64 0, .int .i64 0, .int .i64 0, .int .i64 0, .int .i64 0, .int .i64 0, .int .i64 0, .int .i64 0] B4.out size60' rfl (one12' _ _ _ _ _ _ _ _ _ _ _ _) ?_; intro V hbox hb; have mHB_ := low HB.out G4.out hb; clear HB B4; have HB := Aside0.mk mHB_; have B4 := Aside0.mk hbox; clear hb mHB_ hbox))
  (try simp only [Exit.inBlock, Exit.then])
  exact bodyPost_ret (results_list (rs := [.cell 4 60, .tmp 5]) rfl (by simp) (.cell g4 60 #[.int .i64 0, .int .i64 0, .int .i64 0, .int .i64 0, .int .i64 0, .int .i64 0, .int .i64 0, .int .i64 0, .int .i64 0, .int .i64 0, .int .i64 0, .int .i64 0] (0, 0) _ rfl B4.out Try.underlying60 rfl size60' (.tmp .nil))) rfl ⟨rfl, HB.out⟩
end Go.Proofs.Ytdiodnjkejogdaa.All
