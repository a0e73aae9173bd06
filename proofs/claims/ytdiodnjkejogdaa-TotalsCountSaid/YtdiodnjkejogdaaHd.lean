/- Deals in memory: a row of structs that came in; a struct loaded from any address. -/
import Derived.Test.YtdiodnjkejogdaaHc
import Derived.Deep.Slices
namespace Go.Proofs.Ytdiodnjkejogdaa.All
open Go.RowKit Go.Proofs.YtdiodnjkejogdaaW.PrintWords Go.Proofs.YtdiodnjkejogdaaW.PrintLast Go.Proofs.YtdiodnjkejogdaaW.PrintMore
set_option linter.unusedVariables false
set_option linter.unusedSimpArgs false

structure Dl where
  link : Int
  what : Int
  am : Int
  cr : Bool
  yes : Bool
def Dl.cells (d : Dl) : List Value := [.int .i64 d.link, .int .i64 d.what, .int .i64 d.am, .bool d.cr, .bool d.yes]
/-- the deals l stand at A -/
def DealsAt (w : World) (A : Option Addr) (l : List Dl) : Prop := ∀ (i : Nat) (d : Dl), l[i]? = some d → ∃ a, A = some a ∧ ∀ (j : Nat) (v : Value), d.cells[j]? = some v → w.cell? ((a.add (i * 5)).add j) = some v
theorem DealsAt.below {w w' : World} {A : Option Addr} {l : List Dl} (h : DealsAt w A l) (hb : Below w.heap.size w w') : DealsAt w' A l := fun i d hd => by
  obtain ⟨a, ha, hc⟩ := h i d hd
  exact ⟨a, ha, fun j v hv => pw_cell_below hb (hc j v hv)⟩
theorem wpList_load_any {P : Program} {ops : Array Oper} {rest : List Oper} {op : Oper} {a : Act} {w : World} {Q : Exit → Act → World → Prop} (hgd : op.guard = none) (ty : TypeId) (x : Operand) (ho : op.op = .load ty x)
    (ad : Addr) (hx : a.eval x = .pointer (some ad)) (cs : List Value) (d : TypeDesc) (hc : ∀ (j : Nat) (v : Value), cs[j]? = some v → w.cell? (ad.add j) = some v)
    (hu : P.underlying ty = some d) (hd : d.isRow = true) (hi : (P.info? ty).map (·.size) = some cs.length)
    (h : wpList P ops Q rest (a.put op.dst (.agg cs.toArray)) w) : wpList P ops Q (op :: rest) a w := by
  have hl : (loadCells ad cs.length).run P w = .ok cs.toArray w := run_loadCells_list (P := P) w ad cs hc
  have hv : (loadVar ty ad).run P w = .ok (.agg cs.toArray) w := by
    cases hq : P.info? ty with
    | none => simp [hq] at hi
    | some i =>
      have hs : i.size = cs.length := by simpa [hq] using hi
      have hagg : (isAgg ty).run P w = .ok true w := by
        unfold isAgg
        rw [Sem.run_bind, run_underlying hu w]
        cases d <;> simp_all
      simp [loadVar, Sem.run_bind, hagg, sizeOf, typeInfo, hq, hs, hl]
  refine wpList_plain hgd fun K hK => ?_
  unfold Oper.wp execOp
  simp only [ho, hx, Instr.loadAt, Instr.sureAddr, Sem.run_bind, Sem.run_pure, Result.andThen_ok, hv]
  exact hK _ _ h
end Go.Proofs.Ytdiodnjkejogdaa.All
