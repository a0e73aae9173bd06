/- A book of totals in memory, and the contracts of totals.New (function 8) and of the book's 'at' (function 36). -/
import Derived.Test.YtdiodnjkejogdaaAx0
import Derived.Deep.MidRow
import Derived.Deep.Slices
namespace Go.Proofs.Ytdiodnjkejogdaa.All
open Go.RowKit Go.Proofs.YtdiodnjkejogdaaW.PrintWords Go.Proofs.YtdiodnjkejogdaaW.PrintLast Go.Proofs.YtdiodnjkejogdaaW.PrintMore
set_option linter.unusedVariables false
set_option linter.unusedSimpArgs false

/-- the cells of a book's links: twelve numbers each -/
def rowsL (L : List (List Int)) : List Value := L.flatMap fun x => x.map (Value.int .i64)
def zeros12 : List Int := [0, 0, 0, 0, 0, 0, 0, 0, 0, 0, 0, 0]
/-- block gb is a book, whose links' numbers stand in block gl -/
structure BookAt (w : World) (gb gl : Nat) (L : List (List Int)) : Prop where
  box : w.heap[gb]? = some (.cells #[.slice (some ⟨gl, 0, none⟩) L.length L.length] 81 (0, 0))
  row : w.heap[gl]? = some (.cells (rowsL L).toArray 60 (0, 0))
  len : ∀ x ∈ L, x.length = 12
  small : L.length ≤ 1000

theorem rowsL_length : ∀ L : List (List Int), (∀ x ∈ L, x.length = 12) → (rowsL L).length = 12 * L.length
  | [], _ => rfl
  | x :: r, h => by
    have h1 := h x (by simp)
    have h2 := rowsL_length r (fun y hy => h y (by simp [hy]))
    simp only [rowsL, List.flatMap_cons, List.length_append, List.length_map, h1] at h2 ⊢
    rw [h2]
    simp only [List.length_cons]
    omega
theorem rowsL_drop : ∀ (L : List (List Int)) (k : Nat) (x : List Int), (∀ x ∈ L, x.length = 12) → L[k]? = some x → (rowsL L).drop (12 * k) = x.map (Value.int .i64) ++ rowsL (L.drop (k + 1))
  | [], k, x, _, h => by simp at h
  | y :: r, 0, x, _, h => by
    simp at h
    subst h
    simp [rowsL]
  | y :: r, k + 1, x, h, hk => by
    have h1 := h y (by simp)
    have h2 := rowsL_drop r k x (fun z hz => h z (by simp [hz])) (by simpa using hk)
    have : (rowsL (y :: r)).drop (12 * (k + 1)) = (rowsL r).drop (12 * k) := by
      simp only [rowsL, List.flatMap_cons]
      rw [show 12 * (k + 1) = (y.map (Value.int .i64)).length + 12 * k by rw [List.length_map, h1]; omega, ← List.drop_drop, List.drop_left]
    rw [this, h2]
    rfl
theorem BookAt.ne {w : World} {gb gl : Nat} {L : List (List Int)} (h : BookAt w gb gl L) : gb ≠ gl := blk_ne h.box h.row (by decide)
theorem BookAt.below {w w' : World} {gb gl : Nat} {L : List (List Int)} (h : BookAt w gb gl L) (hb : Below w.heap.size w w') : BookAt w' gb gl L := ⟨blk_below h.box hb, blk_below h.row hb, h.len, h.small⟩
theorem BookAt.drewN {w : World} {gb gl : Nat} {L : List (List Int)} (h : BookAt w gb gl L) (n : Nat) : BookAt (w.drewN n) gb gl L := ⟨h.box, h.row, h.len, h.small⟩
theorem BookAt.alloc {w : World} {gb gl : Nat} {L : List (List Int)} (h : BookAt w gb gl L) (o : Obj) : BookAt (w.alloc o) gb gl L := ⟨blk_alloc h.box o, blk_alloc h.row o, h.len, h.small⟩

set_option maxHeartbeats 4000000 in
set_option maxRecDepth 100000 in
theorem totals_at.calls (gb gl : Nat) (L : List (List Int)) (k : Int) (w : World) (hB : BookAt w gb gl L) (h0 : 0 ≤ k) (h1 : k < (L.length : Int)) :
    Calls Try.prog 36 #[.pointer (some ⟨gb, 0, none⟩), .int .i64 k] w fun e w' => e = .returned (.pointer (some ⟨gl, k.toNat * 12, none⟩)) ∧ w' = w := by
  have hu81 := Try.underlying81
  have hu56 := Try.underlying56
  have hk_0 : w.cell? ⟨gb, 0, none⟩ = some (.slice (some ⟨gl, 0, none⟩) L.length L.length) := (blk_cell hB.box 0)
  have hf_0 := blk_frozen hB.box 0
  have hs := hB.small
  have c1 : decide (k < 0) = false := decide_eq_false (by omega)
  have c2 : decide ((L.length : Int) ≤ k) = false := decide_eq_false (by omega)
  have p1 : (0 ≤ k) = True := eq_true h0
  have p2 : (k < (L.length : Int)) = True := eq_true h1
  clear hB hs h0 h1
  go_enter Try.func36, Try.ntmps36
  go_wp2
  go_ret
  exact ⟨rfl, rfl⟩
set_option maxHeartbeats 4000000 in
set_option maxRecDepth 100000 in
theorem totals_at.miss (gb gl : Nat) (L : List (List Int)) (k : Int) (w : World) (hB : BookAt w gb gl L) (h : k < 0 ∨ (L.length : Int) ≤ k) :
    Calls Try.prog 36 #[.pointer (some ⟨gb, 0, none⟩), .int .i64 k] w fun e w' => e = .returned (.pointer none) ∧ w' = w := by
  have hu81 := Try.underlying81
  have hu56 := Try.underlying56
  have hk_0 : w.cell? ⟨gb, 0, none⟩ = some (.slice (some ⟨gl, 0, none⟩) L.length L.length) := (blk_cell hB.box 0)
  have hf_0 := blk_frozen hB.box 0
  by_cases h0 : k < 0
  · have c1 : decide (k < 0) = true := decide_eq_true h0
    clear hB h h0
    go_enter Try.func36, Try.ntmps36
    go_wp2
    go_ret
    exact ⟨rfl, rfl⟩
  · have c1 : decide (k < 0) = false := decide_eq_false h0
    have c2 : decide ((L.length : Int) ≤ k) = true := decide_eq_true (h.resolve_left h0)
    clear hB h h0
    go_enter Try.func36, Try.ntmps36
    go_wp2
    go_ret
    exact ⟨rfl, rfl⟩

theorem info60 : (Try.prog.info? 60).map (fun i => (i.zero, i.size, i.bytes)) = some (some (.agg #[.int .i64 0, .int .i64 0, .int .i64 0, .int .i64 0, .int .i64 0, .int .i64 0, .int .i64 0, .int .i64 0, .int .i64 0, .int .i64 0, .int .i64 0, .int .i64 0]), 12, 96) := by kernel_rfl
theorem made_rows (n : Nat) : (madeCells (Value.agg #[.int .i64 0, .int .i64 0, .int .i64 0, .int .i64 0, .int .i64 0, .int .i64 0, .int .i64 0, .int .i64 0, .int .i64 0, .int .i64 0, .int .i64 0, .int .i64 0]).cells (n * 12)) = (rowsL (List.replicate n zeros12)).toArray := by
  have hz : (Value.agg #[.int .i64 0, .int .i64 0, .int .i64 0, .int .i64 0, .int .i64 0, .int .i64 0, .int .i64 0, .int .i64 0, .int .i64 0, .int .i64 0, .int .i64 0, .int .i64 0]).cells = #[.int .i64 0, .int .i64 0, .int .i64 0, .int .i64 0, .int .i64 0, .int .i64 0, .int .i64 0, .int .i64 0, .int .i64 0, .int .i64 0, .int .i64 0, .int .i64 0] := rfl
  have hl : (rowsL (List.replicate n zeros12)).length = 12 * n := by rw [rowsL_length _ (by intro x hx; rw [List.eq_of_mem_replicate hx]; rfl), List.length_replicate]
  have hall : ∀ v ∈ rowsL (List.replicate n zeros12), v = .int .i64 0 := by
    intro v hv
    simp only [rowsL, List.mem_flatMap] at hv
    obtain ⟨x, hx, hv⟩ := hv
    rw [List.eq_of_mem_replicate hx] at hv
    simpa [zeros12] using hv
  apply Array.ext
  · rw [size_madeCells, List.size_toArray, hl]; omega
  · intro i h1 h2
    have hi : i < n * 12 := by rwa [size_madeCells] at h1
    have h3 : (rowsL (List.replicate n zeros12))[i]'(by omega) = .int .i64 0 := hall _ (List.getElem_mem _)
    have h4 : (rowsL (List.replicate n zeros12)).toArray[i] = .int .i64 0 := by rw [List.getElem_toArray]; exact h3
    rw [h4]
    have hmod : ∀ m : Fin 12, (#[.int .i64 0, .int .i64 0, .int .i64 0, .int .i64 0, .int .i64 0, .int .i64 0, .int .i64 0, .int .i64 0, .int .i64 0, .int .i64 0, .int .i64 0, .int .i64 0] : Array Value)[m.val]! = .int .i64 0 := by
      intro m
      match m with
      | ⟨0, _⟩ => rfl | ⟨1, _⟩ => rfl | ⟨2, _⟩ => rfl | ⟨3, _⟩ => rfl | ⟨4, _⟩ => rfl | ⟨5, _⟩ => rfl | ⟨6, _⟩ => rfl | ⟨7, _⟩ => rfl | ⟨8, _⟩ => rfl | ⟨9, _⟩ => rfl | ⟨10, _⟩ => rfl | ⟨11, _⟩ => rfl
    simp only [madeCells, Array.getElem_map, Array.getElem_range]
    exact hmod ⟨i % 12, Nat.mod_lt _ (by decide)⟩
theorem make_rows_event {P : Program} {ops : Array Oper} {rest : List Oper} {o : Oper} {a : Act} {Q : Exit → Act → World → Prop} {W : World} (hgd : o.guard = none) {N : Tmp} (hd : o.dst = some N) (x y : Operand) (ho : o.op = .makeSlice 56 x y) (n : Nat) (hx : a.eval x = .int .i64 (n : Int)) (hy : a.eval y = .int .i64 (n : Int))
    (ht : P.underlying 56 = some (.slice 60)) (hinfo : (P.info? 60).map (fun i => (i.zero, i.size, i.bytes)) = some (some (.agg #[.int .i64 0, .int .i64 0, .int .i64 0, .int .i64 0, .int .i64 0, .int .i64 0, .int .i64 0, .int .i64 0, .int .i64 0, .int .i64 0, .int .i64 0, .int .i64 0]), 12, 96)) (hn : n ≤ 1000)
    (h : wpList P ops Q rest (a.put (some N) (.slice (some ⟨W.heap.size, 0, none⟩) n n)) (W.alloc (.cells (rowsL (List.replicate n zeros12)).toArray 60))) : wpList P ops Q (o :: rest) a W := by
  obtain ⟨i0, hi, hzz⟩ := Option.map_eq_some_iff.1 hinfo
  simp only [Prod.mk.injEq] at hzz
  obtain ⟨hz0, hz1, hz2⟩ := hzz
  have hr := run_make (P := P) W 56 60 i0 _ ht hi hz0 .i64 .i64 (n : Int) (n : Int) (by omega) (by omega)
    (by rw [hz2]; omega) (by omega)
  simp only [Int.toNat_natCast] at hr
  rw [hz1, made_rows] at hr
  refine Kd.event_run (v := .slice (some ⟨W.heap.size, 0, none⟩) n n) (w1 := W.alloc (.cells (rowsL (List.replicate n zeros12)).toArray 60)) hgd ?_ (by rw [hd]; exact h)
  simp [execOp, ho, hx, hy, hr]

set_option maxHeartbeats 4000000 in
set_option maxRecDepth 100000 in
theorem totals_New.calls (n : Nat) (w : World) (h1 : 1 ≤ n) (h2 : n ≤ 32) :
    Calls Try.prog 8 #[.int .i64 (n : Int)] w fun e w' => e = .returned (.tuple #[.pointer (some ⟨w.heap.size + 1, 0, none⟩), .int .i64 0]) ∧ BookAt w' (w.heap.size + 1) w.heap.size (List.replicate n zeros12) ∧ Below w.heap.size w w' := by
  have hu81 := Try.underlying81
  have hu56 := Try.underlying56
  have c1 : decide ((n : Int) < 1) = false := decide_eq_false (by omega)
  have c2 : decide ((32 : Int) < (n : Int)) = false := decide_eq_false (by omega)
  go_enter Try.func8, Try.ntmps8
  go_wp2_with ((with_reducible refine gate_dst (N := 11) rfl ?_); refine make_rows_event rfl rfl _ _ rfl n rfl rfl Try.underlying56 info60 (by omega) ?_)
  go_ret2
  refine ⟨rfl, ⟨?_, ?_, ?_, ?_⟩, ?_⟩
  · rw [List.length_replicate]
    have h := blk_new (w.alloc (.cells (rowsL (List.replicate n zeros12)).toArray 60)) (.cells #[.slice (some ⟨w.heap.size, 0, none⟩) n n] 81)
    have hs : (w.alloc (.cells (rowsL (List.replicate n zeros12)).toArray 60)).heap.size = w.heap.size + 1 := Array.size_push _
    rw [hs] at h
    exact h
  · exact blk_alloc (blk_new w _) _
  · intro x hx; rw [List.eq_of_mem_replicate hx]; rfl
  · rw [List.length_replicate]; omega
  · exact below_alloc (below_alloc (Below.refl _ _) _) _
end Go.Proofs.Ytdiodnjkejogdaa.All
/- A book of totals in memory: what a load and a store of one link's numbers tell. -/
namespace Go.Proofs.Ytdiodnjkejogdaa.All
open Go.RowKit Go.Proofs.YtdiodnjkejogdaaW.PrintWords Go.Proofs.YtdiodnjkejogdaaW.PrintLast Go.Proofs.YtdiodnjkejogdaaW.PrintMore
set_option linter.unusedVariables false
set_option linter.unusedSimpArgs false

theorem rowsL_set : ∀ (L : List (List Int)) (k : Nat) (x : List Int), (∀ y ∈ L, y.length = 12) → k < L.length → rowsL (L.set k x) = (rowsL L).take (12 * k) ++ x.map (Value.int .i64) ++ (rowsL L).drop (12 * k + 12)
  | [], k, x, _, h => by simp at h
  | y :: r, 0, x, hl, _ => by
    have h1 := hl y (by simp)
    have h2 : (rowsL (y :: r)).drop 12 = rowsL r := by
      simp only [rowsL, List.flatMap_cons]
      rw [show 12 = (y.map (Value.int .i64)).length by rw [List.length_map, h1], List.drop_left]
    simp only [Nat.mul_zero, List.take_zero, List.nil_append, Nat.zero_add, List.set_cons_zero]
    rw [h2]
    rfl
  | y :: r, k + 1, x, hl, h => by
    have h1 := hl y (by simp)
    have ih := rowsL_set r k x (fun z hz => hl z (by simp [hz])) (by simpa using h)
    have e1 : rowsL (y :: r) = y.map (Value.int .i64) ++ rowsL r := rfl
    have hy : (y.map (Value.int .i64)).length = 12 := by rw [List.length_map, h1]
    have e2 : (rowsL (y :: r)).take (12 * (k + 1)) = y.map (Value.int .i64) ++ (rowsL r).take (12 * k) := by
      rw [e1, show 12 * (k + 1) = (y.map (Value.int .i64)).length + 12 * k by rw [hy]; omega, List.take_length_add_append]
    have e3 : (rowsL (y :: r)).drop (12 * (k + 1) + 12) = (rowsL r).drop (12 * k + 12) := by
      rw [e1, show 12 * (k + 1) + 12 = (y.map (Value.int .i64)).length + (12 * k + 12) by rw [hy]; omega, List.drop_length_add_append]
    rw [e2, e3, List.set_cons_succ]
    show y.map (Value.int .i64) ++ rowsL (r.set k x) = _
    rw [ih]
    simp
variable {w : World} {gb gl : Nat} {L : List (List Int)}
theorem BookAt.range (h : BookAt w gb gl L) {k : Nat} {x : List Int} (hk : L[k]? = some x) : w.rangeAt gl (k * 12) (x.map (Value.int .i64)) := fun j v hv => by
  have hd := rowsL_drop L k x h.len hk
  have hj : j < (x.map (Value.int .i64)).length := (List.getElem?_eq_some_iff.1 hv).1
  have h1 : (rowsL L)[12 * k + j]? = some v := by
    rw [← List.getElem?_drop, hd, List.getElem?_append_left hj, hv]
  rw [cell_of_row w gl (k * 12 + j) _ 60 (0, 0) h.row, show k * 12 + j = 12 * k + j by omega, List.getElem?_toArray]
  exact h1
theorem BookAt.there (h : BookAt w gb gl L) {k : Nat} {x : List Int} (hk : L[k]? = some x) : w.there gl (k * 12) 12 := fun j hj => by
  have hx := h.len x (List.mem_of_getElem? hk)
  refine ⟨?_, blk_frozen h.row _⟩
  have h1 := h.range hk j ((x.map (Value.int .i64))[j]'(by rw [List.length_map, hx]; exact hj)) (List.getElem?_eq_getElem _)
  rw [h1]
  rfl
theorem BookAt.store (h : BookAt w gb gl L) {k : Nat} (hk : k < L.length) {x : List Int} (hx : x.length = 12) : BookAt (w.setCells gl (k * 12) (x.map (Value.int .i64))) gb gl (L.set k x) := by
  have hrl := rowsL_length L h.len
  obtain ⟨cur', h1, h2, h3⟩ := setCells_row (x.map (Value.int .i64)) (k * 12) w (rowsL L).toArray h.row (by rw [List.length_map, hx, List.size_toArray, hrl]; omega)
  have e : cur' = (rowsL (L.set k x)).toArray := by
    apply Array.ext'
    rw [h3, rowsL_set L k x h.len hk, List.length_map, hx, show k * 12 = 12 * k by omega]
  refine ⟨?_, by rw [h1, e], ?_, by rw [List.length_set]; exact h.small⟩
  · rw [List.length_set]
    exact (setCells_far _ _ gb h.ne).trans h.box
  · intro y hy
    rcases List.mem_or_eq_of_mem_set hy with hy | hy
    · exact h.len y hy
    · rw [hy]; exact hx
theorem grown_setCells (W : World) (g o : Nat) (vs : List Value) : W.grownBy (W.setCells g o vs) (some g) := by
  obtain ⟨h1, h2, h3, h4⟩ := setCells_same g vs o W
  exact ⟨h1, h2, h3, by rw [h4]; exact Nat.le_refl _, fun k _ hk => setCells_far vs o k (fun e => hk (by rw [e]))⟩
end Go.Proofs.Ytdiodnjkejogdaa.All
/- Deals in memory: a row of structs that came in; a struct loaded from any address. -/
namespace Go.Proofs.Ytdiodnjkejogdaa.All
open Go.RowKit Go.Proofs.YtdiodnjkejogdaaW.PrintWords Go.Proofs.YtdiodnjkejogdaaW.PrintLast Go.Proofs.YtdiodnjkejogdaaW.PrintMore
set_option linter.unusedVariables false
set_option linter.unusedSimpArgs false

structure Dl where
  link : Int
  what : Int
  am : Int
  cr : Bool
  yes : Bool
def Dl.cells (d : Dl) : List Value := [.int .i64 d.link, .int .i64 d.what, .int .i64 d.am, .bool d.cr, .bool d.yes]
/-- the deals l stand at A -/
def DealsAt (w : World) (A : Option Addr) (l : List Dl) : Prop := ∀ (i : Nat) (d : Dl), l[i]? = some d → ∃ a, A = some a ∧ ∀ (j : Nat) (v : Value), d.cells[j]? = some v → w.cell? ((a.add (i * 5)).add j) = some v
theorem DealsAt.below {w w' : World} {A : Option Addr} {l : List Dl} (h : DealsAt w A l) (hb : Below w.heap.size w w') : DealsAt w' A l := fun i d hd => by
  obtain ⟨a, ha, hc⟩ := h i d hd
  exact ⟨a, ha, fun j v hv => pw_cell_below hb (hc j v hv)⟩
theorem wpList_load_any {P : Program} {ops : Array Oper} {rest : List Oper} {op : Oper} {a : Act} {w : World} {Q : Exit → Act → World → Prop} (hgd : op.guard = none) (ty : TypeId) (x : Operand) (ho : op.op = .load ty x)
    (ad : Addr) (hx : a.eval x = .pointer (some ad)) (cs : List Value) (d : TypeDesc) (hc : ∀ (j : Nat) (v : Value), cs[j]? = some v → w.cell? (ad.add j) = some v)
    (hu : P.underlying ty = some d) (hd : d.isRow = true) (hi : (P.info? ty).map (·.size) = some cs.length)
    (h : wpList P ops Q rest (a.put op.dst (.agg cs.toArray)) w) : wpList P ops Q (op :: rest) a w := by
  have hl : (loadCells ad cs.length).run P w = .ok cs.toArray w := run_loadCells_list (P := P) w ad cs hc
  have hv : (loadVar ty ad).run P w = .ok (.agg cs.toArray) w := by
    cases hq : P.info? ty with
    | none => simp [hq] at hi
    | some i =>
      have hs : i.size = cs.length := by simpa [hq] using hi
      have hagg : (isAgg ty).run P w = .ok true w := by
        unfold isAgg
        rw [Sem.run_bind, run_underlying hu w]
        cases d <;> simp_all
      simp [loadVar, Sem.run_bind, hagg, sizeOf, typeInfo, hq, hs, hl]
  refine wpList_plain hgd fun K hK => ?_
  unfold Oper.wp execOp
  simp only [ho, hx, Instr.loadAt, Instr.sureAddr, Sem.run_bind, Sem.run_pure, Result.andThen_ok, hv]
  exact hK _ _ h
end Go.Proofs.Ytdiodnjkejogdaa.All
