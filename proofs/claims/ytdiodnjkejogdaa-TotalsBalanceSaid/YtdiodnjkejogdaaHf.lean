/- Rows of counts in memory without a book; loads taken first; '==' of two counts that are alike. -/
import Derived.Test.YtdiodnjkejogdaaH15
import Derived.Test.YtdiodnjkejogdaaH16
import Derived.Test.YtdiodnjkejogdaaH17
namespace Go.Proofs.Ytdiodnjkejogdaa.All
open Go.RowKit Go.Proofs.YtdiodnjkejogdaaW.PrintWords Go.Proofs.YtdiodnjkejogdaaW.PrintLast Go.Proofs.YtdiodnjkejogdaaW.PrintMore
set_option linter.unusedVariables false
set_option linter.unusedSimpArgs false
structure RowsAt (w : World) (gl : Nat) (L : List (List Int)) : Prop where
  row : w.heap[gl]? = some (.cells (rowsL L).toArray 60 (0, 0))
  len : ∀ x ∈ L, x.length = 12
  small : L.length ≤ 1000
variable {w : World} {gl : Nat} {L : List (List Int)}
theorem BookAt.rows {gb : Nat} (h : BookAt w gb gl L) : RowsAt w gl L := ⟨h.row, h.len, h.small⟩
theorem RowsAt.range (h : RowsAt w gl L) {k : Nat} {x : List Int} (hk : L[k]? = some x) : w.rangeAt gl (k * 12) (x.map (Value.int .i64)) := fun j v hv => by
  have hd := rowsL_drop L k x h.len hk
  have hj : j < (x.map (Value.int .i64)).length := (List.getElem?_eq_some_iff.1 hv).1
  have h1 : (rowsL L)[12 * k + j]? = some v := by
    rw [← List.getElem?_drop, hd, List.getElem?_append_left hj, hv]
  rw [cell_of_row w gl (k * 12 + j) _ 60 (0, 0) h.row, show k * 12 + j = 12 * k + j by omega, List.getElem?_toArray]
  exact h1
theorem RowsAt.there (h : RowsAt w gl L) {k : Nat} {x : List Int} (hk : L[k]? = some x) : w.there gl (k * 12) 12 := fun j hj => by
  have hx := h.len x (List.mem_of_getElem? hk)
  refine ⟨?_, blk_frozen h.row _⟩
  have h1 := h.range hk j ((x.map (Value.int .i64))[j]'(by rw [List.length_map, hx]; exact hj)) (List.getElem?_eq_getElem _)
  rw [h1]
  rfl
theorem RowsAt.store (h : RowsAt w gl L) {k : Nat} (hk : k < L.length) {x : List Int} (hx : x.length = 12) : RowsAt (w.setCells gl (k * 12) (x.map (Value.int .i64))) gl (L.set k x) := by
  have hrl := rowsL_length L h.len
  obtain ⟨cur', h1, h2, h3⟩ := setCells_row (x.map (Value.int .i64)) (k * 12) w (rowsL L).toArray h.row (by rw [List.length_map, hx, List.size_toArray, hrl]; omega)
  have e : cur' = (rowsL (L.set k x)).toArray := by
    apply Array.ext'
    rw [h3, rowsL_set L k x h.len hk, List.length_map, hx, show k * 12 = 12 * k by omega]
  refine ⟨by rw [h1, e], ?_, by rw [List.length_set]; exact h.small⟩
  intro y hy
  rcases List.mem_or_eq_of_mem_set hy with hy | hy
  · exact h.len y hy
  · rw [hy]; exact hx
theorem RowsAt.below {w' : World} (h : RowsAt w gl L) (hb : Below w.heap.size w w') : RowsAt w' gl L := ⟨blk_below h.row hb, h.len, h.small⟩
theorem RowsAt.lowB {w' : World} {g : Nat} (h : RowsAt w gl L) (hg : gl < g) (hb : Below g w w') : RowsAt w' gl L := ⟨(hb.block gl hg).trans h.row, h.len, h.small⟩
theorem RowsAt.lt (h : RowsAt w gl L) : gl < w.heap.size := blk_lt h.row
theorem BookAt.lowB {w' : World} {gb g : Nat} (h : BookAt w gb gl L) (h1 : gb < g) (h2 : gl < g) (hb : Below g w w') : BookAt w' gb gl L := ⟨(hb.block gb h1).trans h.box, (hb.block gl h2).trans h.row, h.len, h.small⟩
theorem below_setCells {W V : World} {g o B : Nat} {vs : List Value} (h : Below B W V) (hg : B ≤ g) : Below B W (V.setCells g o vs) := by
  obtain ⟨h1, h2, h3, h4⟩ := setCells_same g vs o V
  exact ⟨h1.trans h.os, h2.trans h.tape, h3.trans h.output, by rw [h4]; exact h.size, fun k hk => (setCells_far vs o k (by omega)).trans (h.block k hk)⟩
theorem yields_load_any {P : Program} {ops : Array Oper} {S : World → Prop} {op : Oper} {a : Act} (ty : TypeId) (x : Operand) (ho : op.op = .load ty x)
    (ad : Addr) (hx : a.eval x = .pointer (some ad)) (cs : List Value) (d : TypeDesc) (hc : ∀ w : World, S w → ∀ (j : Nat) (v : Value), cs[j]? = some v → w.cell? (ad.add j) = some v)
    (hu : P.underlying ty = some d) (hd : d.isRow = true) (hi : (P.info? ty).map (·.size) = some cs.length) (hw : Region.wanted op (yielded ops a.tmps) = true) : YieldsIf P ops S op (.agg cs.toArray) a := by
  refine Or.inl ⟨hw, fun w hS => ?_⟩
  have hl : (loadCells ad cs.length).run P w = .ok cs.toArray w := run_loadCells_list (P := P) w ad cs (hc w hS)
  have hv : (loadVar ty ad).run P w = .ok (.agg cs.toArray) w := by
    cases hq : P.info? ty with
    | none => simp [hq] at hi
    | some i =>
      have hs : i.size = cs.length := by simpa [hq] using hi
      have hagg : (isAgg ty).run P w = .ok true w := by
        unfold isAgg
        rw [Sem.run_bind, run_underlying hu w]
        cases d <;> simp_all
      simp [loadVar, Sem.run_bind, hagg, sizeOf, typeInfo, hq, hs, hl]
  unfold execOp
  simp only [ho, hx, Instr.loadAt, Instr.sureAddr, Sem.run_bind, Sem.run_pure, Result.andThen_ok, hv]
/-- a struct's store, into the midst of a row -/
theorem run_store_op {P : Program} {op : Oper} {a : Act} {w : World} (ty : TypeId) (x y : Operand) (ho : op.op = .store ty x y)
    (b o : Nat) (cells : Array Value) (hx : a.eval x = .pointer (some ⟨b, o, none⟩)) (hy : a.eval y = .agg cells)
    (ht : w.there b o cells.size) (hi : (P.info? ty).map (·.size) = some cells.size) (h1 : cells.all (·.oneCell') = true) : (execOp a.eval op).run P w = .ok .skip (w.setCells b o cells.toList) := by
  unfold execOp
  simp only [ho, hx, hy, Instr.storeAt, Instr.sureAddr, Sem.run_bind, Sem.run_pure, Result.andThen_ok, run_storeVar_mid w b o ty cells ht hi h1]
theorem addr_add_zero (a : Addr) : a.add 0 = a := by unfold Addr.add; split <;> simp_all
theorem guard60 : Try.prog.eqGuardType Try.prog.depth 60 = false := by kernel_rfl
set_option maxRecDepth 100000 in
theorem eq60 (w : World) (c0 c1 c2 c3 c4 c5 c6 c7 c8 c9 c10 c11 : Int) : (Op.equalIn 10000 60 (.agg #[.int .i64 c0, .int .i64 c1, .int .i64 c2, .int .i64 c3, .int .i64 c4, .int .i64 c5, .int .i64 c6, .int .i64 c7, .int .i64 c8, .int .i64 c9, .int .i64 c10, .int .i64 c11]) (.agg #[.int .i64 c0, .int .i64 c1, .int .i64 c2, .int .i64 c3, .int .i64 c4, .int .i64 c5, .int .i64 c6, .int .i64 c7, .int .i64 c8, .int .i64 c9, .int .i64 c10, .int .i64 c11])).run Try.prog w = .ok true w := by
  refine eqA_of (d := 9999) Try.underlying60 (by kernel_rfl) ?_
  have hi : ∀ (xs : Array Value) (k : Nat) (c : Int), xs[k]? = some (.int .i64 c) → (part 3 xs k).run Try.prog w = .ok (.int .i64 c) w := fun xs k c h => by
    have hu := Try.underlying3
    have h3 : (Try.prog.info? 3).map (·.size) = some 1 := by kernel_rfl
    obtain ⟨i, h4, h5⟩ := Option.map_eq_some_iff.1 h3
    have hagg : (isAgg 3).run Try.prog w = .ok false w := by
      unfold isAgg
      rw [Sem.run_bind, run_underlying hu w]
      simp
    simp [part, Sem.run_bind, hagg, sizeOf, typeInfo, h4, h5, h]
  have one : ∀ (c : Int), (Op.equalIn 9999 3 (.int .i64 c) (.int .i64 c)).run Try.prog w = .ok true w := fun c => by
    rw [run_equalIn_int w 9998 3 .i64 .i64 c c Try.underlying3]; simp
  repeat (first | exact eqf_nil | refine eqf_cons (r := true) (s := true) rfl (hi _ _ _ rfl) (hi _ _ _ rfl) (one _) ?_)
end Go.Proofs.Ytdiodnjkejogdaa.All
