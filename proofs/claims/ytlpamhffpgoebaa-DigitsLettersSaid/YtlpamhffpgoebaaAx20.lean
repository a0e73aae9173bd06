-- WRITTEN BY this session's own drv.py over the kit's print. Not trusted: Lean checks it.
import Derived.Test.YtlpamhffpgoebaaAx0
namespace Go.Proofs.Ytlpamhffpgoebaa.All
open Go.RowKit Go.Proofs.YtlpamhffpgoebaaW.PrintWords Go.Proofs.YtlpamhffpgoebaaW.PrintLast Go.Proofs.YtlpamhffpgoebaaW.PrintMore
attribute [local go_sem] max2_int min2_int max_two min_two max_three min_three max_four min_four   -- for this text's walks alone
set_option linter.unusedVariables false
set_option linter.unusedSimpArgs false

/-- the table's bytes, in order -/
def ebL : List Int := [64, 90, 127, 123, 91, 108, 80, 125, 77, 93, 92, 78, 107, 96, 75, 97, 240, 241, 242, 243, 244, 245, 246, 247, 248, 249, 122, 94, 76, 126, 110, 111, 124, 193, 194, 195, 196, 197, 198, 199, 200, 201, 209, 210, 211, 212, 213, 214, 215, 216, 217, 226, 227, 228, 229, 230, 231, 232, 233, 186, 224, 187, 176, 109, 121, 129, 130, 131, 132, 133, 134, 135, 136, 137, 145, 146, 147, 148, 149, 150, 151, 152, 153, 162, 163, 164, 165, 166, 167, 168, 169, 192, 79, 208, 161]
def ebV : Array Value := (ebL.map (Value.int .u8)).toArray
theorem info62 : (Try.prog.info? 62).map (·.size) = some ebV.size := by kernel_rfl
theorem ebV_cells : ebV.all (·.oneCell') = true := by kernel_rfl
set_option maxHeartbeats 4000000 in
set_option maxRecDepth 100000 in
theorem digits_ebcdic.calls (w : World) :
    Calls Try.prog 60 #[] w fun e w' => e = .returned (.agg ebV) ∧ Below w.heap.size w w' := by
  go_enter Try.func60, Try.ntmps60
  go_wp2_with (first
    | ((with_reducible refine gate_dst (N := 1) rfl ?_); go_must (refine Kd.event_run (v := .agg ebV) (w1 := w.alloc (.cells Try.zeroCells62 62)) rfl ?hr ?_; (case hr => kernel_rfl)))
    | ((with_reducible refine gate_store (t := 62) (p := 0) rfl ?_); go_must (refine wpList_store_row rfl 62 _ _ rfl w.heap.size ebV rfl rfl 62 _ (heap_alloc_last _ _) info62 ?hq ebV_cells ?_; (case hq => kernel_rfl); rw [World.setRow_alloc_new])))
  exact bodyPost_ret (v := .agg ebV) (results_cell_row (p := 0) (ty := 62) (by kernel_rfl) _ _ w.heap.size 62 ebV (0, 0) _ rfl (heap_alloc_last _ _) Try.underlying62 rfl info62) rfl ⟨rfl, below_alloc (Below.refl _ _) _⟩

theorem ebV_at (i : Nat) (h : i < 95) : ebV[i]? = some (.int .u8 (rd ebL i)) := by
  have e : ebV[i]? = (ebL.map (Value.int .u8))[i]? := by simp [ebV]
  have hl : i < ebL.length := h
  rw [e, List.getElem?_map, List.getElem?_eq_getElem hl]
  simp [rd, List.getD, List.getElem?_eq_getElem hl]

theorem index_eb (k : IntKind) (i : Int) (h0 : 0 ≤ i) (h1 : i < 95) (W : World) : (Instr.index 62 (.agg ebV) (.int k i)).run Try.prog W = .ok (.int .u8 (rd ebL i)) W := by
  obtain ⟨n, rfl⟩ := Int.eq_ofNat_of_zero_le h0
  have hs : (Try.prog.info? 5).map (·.size) = some 1 := by kernel_rfl
  have ha := ebV_at n (by omega)
  have hu := run_underlying (P := Try.prog) Try.underlying5
  simp [Instr.index, run_underlying Try.underlying62, asIntOf, sizeOf, typeInfo, part, isAgg]
  obtain ⟨i5, hi5, h5⟩ := Option.map_eq_some_iff.1 hs
  rw [if_pos (by omega : n < 95), hi5]
  simp [h5, ha]

end Go.Proofs.Ytlpamhffpgoebaa.All
