/- A book of totals in memory: what a load and a store of one link's numbers tell. -/
import Derived.Test.YtdiodnjkejogdaaHb
namespace Go.Proofs.Ytdiodnjkejogdaa.All
open Go.RowKit Go.Proofs.YtdiodnjkejogdaaW.PrintWords Go.Proofs.YtdiodnjkejogdaaW.PrintLast Go.Proofs.YtdiodnjkejogdaaW.PrintMore
set_option linter.unusedVariables false
set_option linter.unusedSimpArgs false

theorem rowsL_set : ∀ (L : List (List Int)) (k : Nat) (x : List Int), (∀ y ∈ L, y.length = 12) → k < L.length → rowsL (L.set k x) = (rowsL L).take (12 * k) ++ x.map (Value.int .i64) ++ (rowsL L).drop (12 * k + 12)
  | [], k, x, _, h => by simp at h
  | y :: r, 0, x, hl, _ => by
    have h1 := hl y (by simp)
    have h2 : (rowsL (y :: r)).drop 12 = rowsL r := by
      simp only [rowsL, List.flatMap_cons]
      rw [show 12 = (y.map (Value.int .i64)).length by rw [List.length_map, h1], List.drop_left]
    simp only [Nat.mul_zero, List.take_zero, List.nil_append, Nat.zero_add, List.set_cons_zero]
    rw [h2]
    rfl
  | y :: r, k + 1, x, hl, h => by
    have h1 := hl y (by simp)
    have ih := rowsL_set r k x (fun z hz => hl z (by simp [hz])) (by simpa using h)
    have e1 : rowsL (y :: r) = y.map (Value.int .i64) ++ rowsL r := rfl
    have hy : (y.map (Value.int .i64)).length = 12 := by rw [List.length_map, h1]
    have e2 : (rowsL (y :: r)).take (12 * (k + 1)) = y.map (Value.int .i64) ++ (rowsL r).take (12 * k) := by
      rw [e1, show 12 * (k + 1) = (y.map (Value.int .i64)).length + 12 * k by rw [hy]; omega, List.take_length_add_append]
    have e3 : (rowsL (y :: r)).drop (12 * (k + 1) + 12) = (rowsL r).drop (12 * k + 12) := by
      rw [e1, show 12 * (k + 1) + 12 = (y.map (Value.int .i64)).length + (12 * k + 12) by rw [hy]; omega, List.drop_length_add_append]
    rw [e2, e3, List.set_cons_succ]
    show y.map (Value.int .i64) ++ rowsL (r.set k x) = _
    rw [ih]
    simp
variable {w : World} {gb gl : Nat} {L : List (List Int)}
theorem BookAt.range (h : BookAt w gb gl L) {k : Nat} {x : List Int} (hk : L[k]? = some x) : w.rangeAt gl (k * 12) (x.map (Value.int .i64)) := fun j v hv => by
  have hd := rowsL_drop L k x h.len hk
  have hj : j < (x.map (Value.int .i64)).length := (List.getElem?_eq_some_iff.1 hv).1
  have h1 : (rowsL L)[12 * k + j]? = some v := by
    rw [← List.getElem?_drop, hd, List.getElem?_append_left hj, hv]
  rw [cell_of_row w gl (k * 12 + j) _ 60 (0, 0) h.row, show k * 12 + j = 12 * k + j by omega, List.getElem?_toArray]
  exact h1
theorem BookAt.there (h : BookAt w gb gl L) {k : Nat} {x : List Int} (hk : L[k]? = some x) : w.there gl (k * 12) 12 := fun j hj => by
  have hx := h.len x (List.mem_of_getElem? hk)
  refine ⟨?_, blk_frozen h.row _⟩
  have h1 := h.range hk j ((x.map (Value.int .i64))[j]'(by rw [List.length_map, hx]; exact hj)) (List.getElem?_eq_getElem _)
  rw [h1]
  rfl
theorem BookAt.store (h : BookAt w gb gl L) {k : Nat} (hk : k < L.length) {x : List Int} (hx : x.length = 12) : BookAt (w.setCells gl (k * 12) (x.map (Value.int .i64))) gb gl (L.set k x) := by
  have hrl := rowsL_length L h.len
  obtain ⟨cur', h1, h2, h3⟩ := setCells_row (x.map (Value.int .i64)) (k * 12) w (rowsL L).toArray h.row (by rw [List.length_map, hx, List.size_toArray, hrl]; omega)
  have e : cur' = (rowsL (L.set k x)).toArray := by
    apply Array.ext'
    rw [h3, rowsL_set L k x h.len hk, List.length_map, hx, show k * 12 = 12 * k by omega]
  refine ⟨?_, by rw [h1, e], ?_, by rw [List.length_set]; exact h.small⟩
  · rw [List.length_set]
    exact (setCells_far _ _ gb h.ne).trans h.box
  · intro y hy
    rcases List.mem_or_eq_of_mem_set hy with hy | hy
    · exact h.len y hy
    · rw [hy]; exact hx
theorem grown_setCells (W : World) (g o : Nat) (vs : List Value) : W.grownBy (W.setCells g o vs) (some g) := by
  obtain ⟨h1, h2, h3, h4⟩ := setCells_same g vs o W
  exact ⟨h1, h2, h3, by rw [h4]; exact Nat.le_refl _, fun k _ hk => setCells_far vs o k (fun e => hk (by rw [e]))⟩
end Go.Proofs.Ytdiodnjkejogdaa.All
