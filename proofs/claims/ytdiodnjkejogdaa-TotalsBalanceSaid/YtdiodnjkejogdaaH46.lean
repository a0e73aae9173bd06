-- WRITTEN BY gen46.py: the contract of totals.count (function 46).
import Derived.Test.YtdiodnjkejogdaaAx0
import Derived.Test.YtdiodnjkejogdaaAx8
import Derived.Test.YtdiodnjkejogdaaAx9
import Derived.Test.YtdiodnjkejogdaaAx14
import Derived.Test.YtdiodnjkejogdaaAx15
namespace Go.Proofs.Ytdiodnjkejogdaa.All
open Go.RowKit Go.Proofs.YtdiodnjkejogdaaW.PrintWords Go.Proofs.YtdiodnjkejogdaaW.PrintLast Go.Proofs.YtdiodnjkejogdaaW.PrintMore
set_option linter.unusedVariables false
set_option linter.unusedSimpArgs false

/-- a count more: what totals.count makes of a link's twelve numbers -/
def countL (x : List Int) (n : Int) (back adv yes cr : Bool) : List Int :=
  let y := match back, adv, yes with
    | true, _, _ => x
    | false, true, _ => x.set 3 (wrap64 (x.getD 3 0 + 1))
    | false, false, true => (x.set 0 (wrap64 (x.getD 0 0 + 1))).set 1 (wrap64 (x.getD 1 0 + 1))
    | false, false, false => (x.set 0 (wrap64 (x.getD 0 0 + 1))).set 2 (wrap64 (x.getD 2 0 + 1))
  match yes, cr, back with
  | false, _, _ => y
  | true, true, true => (y.set 5 (wrap64 (y.getD 5 0 + 1))).set 9 (wrap64 (y.getD 9 0 + n))
  | true, true, false => (y.set 4 (wrap64 (y.getD 4 0 + 1))).set 8 (wrap64 (y.getD 8 0 + n))
  | true, false, true => (y.set 7 (wrap64 (y.getD 7 0 + 1))).set 11 (wrap64 (y.getD 11 0 + n))
  | true, false, false => (y.set 6 (wrap64 (y.getD 6 0 + 1))).set 10 (wrap64 (y.getD 10 0 + n))
def ints (x : List Int) : Array Value := (x.map (Value.int .i64)).toArray

theorem start_cell {P : Program} {ops : Array Oper} {Q : Exit → Act → World → Prop} {id n : Nat} {a : Act} {w W : World} {g : Nat} {cs : Array Value} {t : TypeId} {i j : Nat} {u v : Value} {ds : List Nat} (l : Array Bool) (hm : P.follows .mixedOrders = true) (hn : ops.size = n) (hl : Array.replicate n false = l)
    (HB : Below g w W) (BK : W.heap[g]? = some (.cells cs t (0, 0))) (hi : cs[i]? = some u) (hj : cs[j]? = some v)
    (h : ∀ V, Below g w V → V.heap[g]? = some (.cells cs t (0, 0)) → (∀ (q : Nat) (o : Obj), W.heap[q]? = some o → V.heap[q]? = some o) → (V.cell? ⟨g, i, none⟩ = some u ∧ V.cell? ⟨g, j, none⟩ = some v) → wpAnyLast P .any ops Q (fun w' => w'.cell? ⟨g, i, none⟩ = some u ∧ w'.cell? ⟨g, j, none⟩ = some v) ds n l a V) :
    (Code.region id ops true).wp P Q a W :=
  start_ l hm hn hl ⟨(blk_cell (blk_drew BK) i).trans hi, (blk_cell (blk_drew BK) j).trans hj⟩ (fun hh => h W.drew (below_drew1 HB) (blk_drew BK) (fun _ _ h => h) hh)
theorem blk3 {W : World} {g : Nat} {x0 x1 x2 x3 x4 x5 x6 x7 x8 x9 x10 x11 : Value} {t : TypeId} (h : W.heap[g]? = some (.cells #[x0, x1, x2, x3, x4, x5, x6, x7, x8, x9, x10, x11] t (0, 0))) (u : Value) :
    (W.setCell ⟨g, 3, none⟩ u).heap[g]? = some (.cells #[x0, x1, x2, u, x4, x5, x6, x7, x8, x9, x10, x11] t (0, 0)) := blk_set h 3 u
theorem below_gset {w W : World} {g j : Nat} {v : Value} (h : Below g w W) : Below g w (W.setCell ⟨g, j, none⟩ v) := h.setCell (Nat.le_refl g) _

def count_T5 : Bool × List (List Nat × List Nat) := (true, [([], []), ([], []), ([], []), ([2], [2]), ([3], [3]), ([4], [4]), ([5], [5]), ([], []), ([7], [7]), ([8], [8]), ([9], [9]), ([10], [10]), ([0, 0, 2, 3, 4, 5, 6, 10], [0]), ([12, 0, 2, 3, 4, 5, 6, 10], [12]), ([13, 6, 0, 2, 3, 4, 5, 6, 10], [6, 13]), ([1, 0, 1, 2, 3, 4, 5, 6, 7, 8, 9, 10, 11, 12, 13, 14], [1]), ([15, 0, 1, 2, 3, 4, 5, 6, 7, 8, 9, 10, 11, 12, 13, 14], [15]), ([16, 11, 14, 0, 1, 2, 3, 4, 5, 6, 7, 8, 9, 10, 11, 12, 13, 14], [11, 16])])
def count_B5 : List Nat := [0, 0, 0, 4, 12, 28, 60, 0, 128, 384, 896, 1920, 2045, 6141, 14333, 32767, 65535, 131071]
theorem count_tab5 : rtab .any (opsOf Try.f46 5) = count_T5 := by kernel_rfl
theorem count_bits5 : waitsOk count_T5.2 count_B5 = true := by kernel_rfl
def count_T9 : Bool × List (List Nat × List Nat) := (true, [([], []), ([], []), ([], []), ([2], [2]), ([3], [3]), ([4], [4]), ([5], [5]), ([], []), ([7], [7]), ([8], [8]), ([9], [9]), ([10], [10]), ([0, 0, 2, 3, 4, 5, 6, 10], [0]), ([12, 0, 2, 3, 4, 5, 6, 10], [12]), ([13, 6, 0, 2, 3, 4, 5, 6, 10], [6, 13]), ([1, 0, 1, 2, 3, 4, 5, 6, 7, 8, 9, 10, 11, 12, 13, 14], [1]), ([15, 0, 1, 2, 3, 4, 5, 6, 7, 8, 9, 10, 11, 12, 13, 14], [15]), ([16, 11, 14, 0, 1, 2, 3, 4, 5, 6, 7, 8, 9, 10, 11, 12, 13, 14], [11, 16])])
def count_B9 : List Nat := [0, 0, 0, 4, 12, 28, 60, 0, 128, 384, 896, 1920, 2045, 6141, 14333, 32767, 65535, 131071]
theorem count_tab9 : rtab .any (opsOf Try.f46 9) = count_T9 := by kernel_rfl
theorem count_bits9 : waitsOk count_T9.2 count_B9 = true := by kernel_rfl
def count_T12 : Bool × List (List Nat × List Nat) := (true, [([], []), ([], []), ([], []), ([2], [2]), ([3], [3]), ([4], [4]), ([5], [5]), ([], []), ([7], [7]), ([8], [8]), ([9], [9]), ([], []), ([10, 11], [10, 11]), ([0, 0, 2, 3, 4, 5, 6, 10], [0]), ([13, 0, 2, 3, 4, 5, 6, 10], [13]), ([14, 6, 0, 2, 3, 4, 5, 6, 10], [6, 14]), ([1, 0, 1, 2, 3, 4, 5, 6, 7, 8, 9, 10, 11, 12, 13, 14, 15], [1]), ([16, 0, 1, 2, 3, 4, 5, 6, 7, 8, 9, 10, 11, 12, 13, 14, 15], [16]), ([17, 12, 15, 0, 1, 2, 3, 4, 5, 6, 7, 8, 9, 10, 11, 12, 13, 14, 15], [12, 17])])
def count_B12 : List Nat := [0, 0, 0, 4, 12, 28, 60, 0, 128, 384, 896, 0, 3968, 2045, 10237, 26621, 65535, 131071, 262143]
theorem count_tab12 : rtab .any (opsOf Try.f46 12) = count_T12 := by kernel_rfl
theorem count_bits12 : waitsOk count_T12.2 count_B12 = true := by kernel_rfl
def count_T14 : Bool × List (List Nat × List Nat) := (true, [([], []), ([], []), ([], []), ([2], [2]), ([3], [3]), ([4], [4]), ([5], [5]), ([], []), ([7], [7]), ([8], [8]), ([9], [9]), ([], []), ([10, 11], [10, 11]), ([0, 0, 2, 3, 4, 5, 6, 10], [0]), ([13, 0, 2, 3, 4, 5, 6, 10], [13]), ([14, 6, 0, 2, 3, 4, 5, 6, 10], [6, 14]), ([1, 0, 1, 2, 3, 4, 5, 6, 7, 8, 9, 10, 11, 12, 13, 14, 15], [1]), ([16, 0, 1, 2, 3, 4, 5, 6, 7, 8, 9, 10, 11, 12, 13, 14, 15], [16]), ([17, 12, 15, 0, 1, 2, 3, 4, 5, 6, 7, 8, 9, 10, 11, 12, 13, 14, 15], [12, 17])])
def count_B14 : List Nat := [0, 0, 0, 4, 12, 28, 60, 0, 128, 384, 896, 0, 3968, 2045, 10237, 26621, 65535, 131071, 262143]
theorem count_tab14 : rtab .any (opsOf Try.f46 14) = count_T14 := by kernel_rfl
theorem count_bits14 : waitsOk count_T14.2 count_B14 = true := by kernel_rfl
def count_T16 : Bool × List (List Nat × List Nat) := (true, [([], []), ([], []), ([], []), ([2], [2]), ([3], [3]), ([4], [4]), ([5], [5]), ([], []), ([7], [7]), ([8], [8]), ([9], [9]), ([], []), ([10, 11], [10, 11]), ([0, 0, 2, 3, 4, 5, 6, 10], [0]), ([13, 0, 2, 3, 4, 5, 6, 10], [13]), ([14, 6, 0, 2, 3, 4, 5, 6, 10], [6, 14]), ([1, 0, 1, 2, 3, 4, 5, 6, 7, 8, 9, 10, 11, 12, 13, 14, 15], [1]), ([16, 0, 1, 2, 3, 4, 5, 6, 7, 8, 9, 10, 11, 12, 13, 14, 15], [16]), ([17, 12, 15, 0, 1, 2, 3, 4, 5, 6, 7, 8, 9, 10, 11, 12, 13, 14, 15], [12, 17])])
def count_B16 : List Nat := [0, 0, 0, 4, 12, 28, 60, 0, 128, 384, 896, 0, 3968, 2045, 10237, 26621, 65535, 131071, 262143]
theorem count_tab16 : rtab .any (opsOf Try.f46 16) = count_T16 := by kernel_rfl
theorem count_bits16 : waitsOk count_T16.2 count_B16 = true := by kernel_rfl
def count_T18 : Bool × List (List Nat × List Nat) := (true, [([], []), ([], []), ([], []), ([2], [2]), ([3], [3]), ([4], [4]), ([5], [5]), ([], []), ([7], [7]), ([8], [8]), ([9], [9]), ([], []), ([10, 11], [10, 11]), ([0, 0, 2, 3, 4, 5, 6, 10], [0]), ([13, 0, 2, 3, 4, 5, 6, 10], [13]), ([14, 6, 0, 2, 3, 4, 5, 6, 10], [6, 14]), ([1, 0, 1, 2, 3, 4, 5, 6, 7, 8, 9, 10, 11, 12, 13, 14, 15], [1]), ([16, 0, 1, 2, 3, 4, 5, 6, 7, 8, 9, 10, 11, 12, 13, 14, 15], [16]), ([17, 12, 15, 0, 1, 2, 3, 4, 5, 6, 7, 8, 9, 10, 11, 12, 13, 14, 15], [12, 17])])
def count_B18 : List Nat := [0, 0, 0, 4, 12, 28, 60, 0, 128, 384, 896, 0, 3968, 2045, 10237, 26621, 65535, 131071, 262143]
theorem count_tab18 : rtab .any (opsOf Try.f46 18) = count_T18 := by kernel_rfl
theorem count_bits18 : waitsOk count_T18.2 count_B18 = true := by kernel_rfl
set_option maxHeartbeats 32000000 in
set_option maxRecDepth 100000 in
theorem totals_count.calls (k : Nat) (m : ByteArray) (A : Option Addr) (c : Nat) (l : List S70) (yes : Bool) (g : Nat) (c0 c1 c2 c3 c4 c5 c6 c7 c8 c9 c10 c11 n cl fn : Int) (back adv cr : Bool) (w0 w : World) (hr : Kd.C k70 w0 A l.length l) (hc : l.length ≤ c) (h0 : Below w0.heap.size w0 w) (hg0 : w0.heap.size ≤ g) (hb : w.heap[g]? = some (.cells #[.int .i64 c0, .int .i64 c1, .int .i64 c2, .int .i64 c3, .int .i64 c4, .int .i64 c5, .int .i64 c6, .int .i64 c7, .int .i64 c8, .int .i64 c9, .int .i64 c10, .int .i64 c11] 60 (0, 0)))
    (hA : totals_amount.f k m l = some n) (hC : message_Class.f k m = some cl) (hF : message_Function.f k m = some fn) (hR : totals_credit.f k m l = some cr) (hback : (cl == 4) = back) (hadv : (fn == 2) = adv) :
    Calls Try.prog 46 #[.pointer (some ⟨g, 0, none⟩), .agg #[.string m, .slice A l.length c], .bool yes] w fun e w' => e = .returned (.tuple #[]) ∧ Below g w w' ∧ w'.heap[g]? = some (.cells (ints (countL [c0, c1, c2, c3, c4, c5, c6, c7, c8, c9, c10, c11] n back adv yes cr)) 60 (0, 0)) := by
  have hu33 := Try.underlying33
  have hu60 := Try.underlying60
  have HB := Aside0.mk (Below.refl g w)
  have BK := Aside0.mk hb
  have HR := Aside0.mk hr
  have H0 := Aside0.mk h0
  have HG0 := Aside0.mk hg0
  have AA := Aside0.mk hA
  have AC := Aside0.mk hC
  have AF := Aside0.mk hF
  have AR := Aside0.mk hR
  clear hb hr h0 hg0 hA hC hF hR
  cases back
  · cases adv
    · cases yes
      · go_enter Try.func46, Try.ntmps46
        go_wp2_with (first | ((with_reducible refine gate_dst (N := 4) rfl ?_); refine box_event ?hg (N := 4) ?hd (cs := #[.string m, .slice A l.length c]) (t := 33) ?hr ?_; (case hd => rfl); (case hg => rfl); (case hr => first | (go_simp; done) | (go_simp; rfl)); intro gb hg w4 hbox hb; have hne : g ≠ gb := (by have := blk_lt BK.out; omega); have n0_ := Aside0.mk (blk_below (g := g) (by ((with_reducible repeat (first | refine blk_drewN ?_ _ | refine blk_drew ?_ | refine blk_alloc ?_ _)); first | exact BK.out | (apply blk3; (with_reducible repeat (first | refine blk_drewN ?_ _ | refine blk_drew ?_ | refine blk_alloc ?_ _)); exact BK.out))) hb); have n2_ := Aside0.mk (below_then (by repeat (first | (with_reducible first | exact HB.out | apply below_alloc | apply pw_below_drewN | apply below_drew1 | apply below_gset))) (Nat.le_of_lt (blk_lt (g := g) (by ((with_reducible repeat (first | refine blk_drewN ?_ _ | refine blk_drew ?_ | refine blk_alloc ?_ _)); first | exact BK.out | (apply blk3; (with_reducible repeat (first | refine blk_drewN ?_ _ | refine blk_drew ?_ | refine blk_alloc ?_ _)); exact BK.out))))) hb); clear BK HB; have BK := n0_; have BX := Aside0.mk hbox; have HB := n2_; clear n0_ n2_ hb hbox hg; have hk_3 := (blk_cell BK.out 3); have hfk := blk_frozen BK.out 3; have hb4_0 := (blk_cell BX.out 0); have hb4_1 := (blk_cell BX.out 1); have hf4_0 := blk_frozen BX.out 0; have hf4_1 := blk_frozen BX.out 1) | ((with_reducible refine gate_callee (f := 64) rfl ?_); refine goesL_ (some 11) rfl rfl Try.func64 (by kernel_rfl) rfl #[.agg #[.string m, .slice A l.length c]] rfl (by (try simp only [List.map_toArray, List.map_cons, List.map_nil]); first | done | rfl) ?_; (with_reducible refine (totals_amount.calls k m _ _ l n _ (Kd.C_below HR.out (H0.out.trans (Below.mono (by repeat (first | (with_reducible first | exact HB.out | apply below_alloc | apply pw_below_drewN | apply below_drew1 | apply below_gset))) HG0.out))) hc AA.out).mono ?_); rintro e w' ⟨rfl, hb⟩; refine ⟨_, rfl, ?_⟩; have n0_ := Aside0.mk (blk_below (g := g) (by ((with_reducible repeat (first | refine blk_drewN ?_ _ | refine blk_drew ?_ | refine blk_alloc ?_ _)); first | exact BK.out | (apply blk3; (with_reducible repeat (first | refine blk_drewN ?_ _ | refine blk_drew ?_ | refine blk_alloc ?_ _)); exact BK.out))) hb); have n1_ := Aside0.mk (blk_below (g := gb) (o := .cells #[.string m, .slice A l.length c] 33 (0, 0)) (by ((with_reducible repeat (first | refine blk_drewN ?_ _ | refine blk_drew ?_ | refine blk_alloc ?_ _ | refine blk_far ?_ (Ne.symm hne) _)); first | exact BX.out | (refine blk_far ?_ (Ne.symm hne) _; (with_reducible repeat (first | refine blk_drewN ?_ _ | refine blk_drew ?_ | refine blk_alloc ?_ _)); exact BX.out))) hb); have n2_ := Aside0.mk (below_then (by repeat (first | (with_reducible first | exact HB.out | apply below_alloc | apply pw_below_drewN | apply below_drew1 | apply below_gset))) (Nat.le_of_lt (blk_lt (g := g) (by ((with_reducible repeat (first | refine blk_drewN ?_ _ | refine blk_drew ?_ | refine blk_alloc ?_ _)); first | exact BK.out | (apply blk3; (with_reducible repeat (first | refine blk_drewN ?_ _ | refine blk_drew ?_ | refine blk_alloc ?_ _)); exact BK.out))))) hb); clear BK BX HB; have BK := n0_; have BX := n1_; have HB := n2_; clear n0_ n1_ n2_ hb; have hk_3 := (blk_cell BK.out 3); have hfk := blk_frozen BK.out 3; have hb4_0 := (blk_cell BX.out 0); have hb4_1 := (blk_cell BX.out 1); have hf4_0 := blk_frozen BX.out 0; have hf4_1 := blk_frozen BX.out 1) | ((with_reducible refine gate_callee (f := 38) rfl ?_); refine goesL_ (some 14) rfl rfl Try.func38 (by kernel_rfl) rfl #[.string m] rfl (by (try simp only [List.map_toArray, List.map_cons, List.map_nil]); first | done | rfl) ?_; (with_reducible refine (message_Class.calls k m cl _ AC.out).mono ?_); rintro e w' ⟨rfl, ⟨nd, rfl⟩⟩; refine ⟨_, rfl, ?_⟩) | ((with_reducible refine gate_callee (f := 39) rfl ?_); refine goesL_ (some 20) rfl rfl Try.func39 (by kernel_rfl) rfl #[.string m] rfl (by (try simp only [List.map_toArray, List.map_cons, List.map_nil]); first | done | rfl) ?_; (with_reducible refine (message_Function.calls k m fn _ AF.out).mono ?_); rintro e w' ⟨rfl, ⟨nd, rfl⟩⟩; refine ⟨_, rfl, ?_⟩) | ((with_reducible refine gate_callee (f := 65) rfl ?_); refine goesL_ (some 68) rfl rfl Try.func65 (by kernel_rfl) rfl #[.agg #[.string m, .slice A l.length c]] rfl (by (try simp only [List.map_toArray, List.map_cons, List.map_nil]); first | done | rfl) ?_; (with_reducible refine (totals_credit.calls k m _ _ l _ _ (Kd.C_below HR.out (H0.out.trans (Below.mono (by repeat (first | (with_reducible first | exact HB.out | apply below_alloc | apply pw_below_drewN | apply below_drew1 | apply below_gset))) HG0.out))) hc AR.out).mono ?_); rintro e w' ⟨rfl, hb⟩; refine ⟨_, rfl, ?_⟩; have n0_ := Aside0.mk (blk_below (g := g) (by ((with_reducible repeat (first | refine blk_drewN ?_ _ | refine blk_drew ?_ | refine blk_alloc ?_ _)); first | exact BK.out | (apply blk3; (with_reducible repeat (first | refine blk_drewN ?_ _ | refine blk_drew ?_ | refine blk_alloc ?_ _)); exact BK.out))) hb); have n1_ := Aside0.mk (blk_below (g := gb) (o := .cells #[.string m, .slice A l.length c] 33 (0, 0)) (by ((with_reducible repeat (first | refine blk_drewN ?_ _ | refine blk_drew ?_ | refine blk_alloc ?_ _ | refine blk_far ?_ (Ne.symm hne) _)); first | exact BX.out | (refine blk_far ?_ (Ne.symm hne) _; (with_reducible repeat (first | refine blk_drewN ?_ _ | refine blk_drew ?_ | refine blk_alloc ?_ _)); exact BX.out))) hb); have n2_ := Aside0.mk (below_then (by repeat (first | (with_reducible first | exact HB.out | apply below_alloc | apply pw_below_drewN | apply below_drew1 | apply below_gset))) (Nat.le_of_lt (blk_lt (g := g) (by ((with_reducible repeat (first | refine blk_drewN ?_ _ | refine blk_drew ?_ | refine blk_alloc ?_ _)); first | exact BK.out | (apply blk3; (with_reducible repeat (first | refine blk_drewN ?_ _ | refine blk_drew ?_ | refine blk_alloc ?_ _)); exact BK.out))))) hb); clear BK BX HB; have BK := n0_; have BX := n1_; have HB := n2_; clear n0_ n1_ n2_ hb; have hk_3 := (blk_cell BK.out 3); have hfk := blk_frozen BK.out 3; have hb4_0 := (blk_cell BX.out 0); have hb4_1 := (blk_cell BX.out 1); have hf4_0 := blk_frozen BX.out 0; have hf4_1 := blk_frozen BX.out 1))
        refine start_cell (w := w) (g := g) (cs := #[.int .i64 c0, .int .i64 c1, .int .i64 c2, .int .i64 c3, .int .i64 c4, .int .i64 c5, .int .i64 c6, .int .i64 c7, .int .i64 c8, .int .i64 c9, .int .i64 c10, .int .i64 c11]) (i := 0) (j := 2) (u := .int .i64 (c0)) (v := .int .i64 (c2)) (n := 18) (ds := [14, 17]) #[false, false, false, false, false, false, false, false, false, false, false, false, false, false, false, false, false, false] (by kernel_rfl) rfl rfl (by repeat (first | (with_reducible first | exact HB.out | apply below_alloc | apply pw_below_drewN | apply below_drew1 | apply below_gset))) (by ((with_reducible repeat (first | refine blk_drewN ?_ _ | refine blk_drew ?_ | refine blk_alloc ?_ _)); first | exact BK.out | (apply blk3; (with_reducible repeat (first | refine blk_drewN ?_ _ | refine blk_drew ?_ | refine blk_alloc ?_ _)); exact BK.out))) rfl rfl (fun V1 HBv BKv hall hHeld => ?_)
        have BXv := hall gb _ (by ((with_reducible repeat (first | refine blk_drewN ?_ _ | refine blk_drew ?_ | refine blk_alloc ?_ _ | refine blk_far ?_ (Ne.symm hne) _)); first | exact BX.out | (refine blk_far ?_ (Ne.symm hne) _; (with_reducible repeat (first | refine blk_drewN ?_ _ | refine blk_drew ?_ | refine blk_alloc ?_ _)); exact BX.out)))
        clear HB BK BX hall
        have HB := Aside0.mk HBv
        have BK := Aside0.mk BKv
        have BX := Aside0.mk BXv
        clear HBv BKv BXv
        refine with_tabW count_tab5 count_bits5 (fun HT_ HW_ => ?_)
        refine pure_ (i := 0) (N := some 22) (v := ?_) (a' := ?_) #[true, false, false, false, false, false, false, false, false, false, false, false, false, false, false, false, false, false] rfl rfl (any_of HT_.out (by kernel_rfl)) (fun _ _ _ h => h) (Or.inl ⟨by rfl, ?_⟩) ?_ ?_
        rotate_left
        · intro w'
          go_simp
          with_reducible rfl
        rotate_left
        · simp only [Act.put, List.setIfInBounds_toArray, List.set_cons_zero, List.set_cons_succ, i64_w, i32_w]
          rfl
        refine pure_ (i := 1) (N := some 23) (v := ?_) (a' := ?_) #[true, true, false, false, false, false, false, false, false, false, false, false, false, false, false, false, false, false] rfl rfl (any_of HT_.out (by kernel_rfl)) (fun _ _ _ h => h) (Or.inl ⟨by rfl, ?_⟩) ?_ ?_
        rotate_left
        · intro w'
          go_simp
          with_reducible rfl
        rotate_left
        · simp only [Act.put, List.setIfInBounds_toArray, List.set_cons_zero, List.set_cons_succ, i64_w, i32_w]
          rfl
        refine pure_ (i := 2) (N := some 24) (v := ?_) (a' := ?_) #[true, true, true, false, false, false, false, false, false, false, false, false, false, false, false, false, false, false] rfl rfl (any_of HT_.out (by kernel_rfl)) (fun _ _ _ h => h) (Or.inl ⟨by rfl, ?_⟩) ?_ ?_
        rotate_left
        · intro w'
          go_simp
          with_reducible rfl
        rotate_left
        · simp only [Act.put, List.setIfInBounds_toArray, List.set_cons_zero, List.set_cons_succ, i64_w, i32_w]
          rfl
        refine pure_ (i := 3) (N := some 25) (v := ?_) (a' := ?_) #[true, true, true, true, false, false, false, false, false, false, false, false, false, false, false, false, false, false] rfl rfl (any_of HT_.out (by kernel_rfl)) (fun _ _ _ h => h) (Or.inl ⟨by rfl, ?_⟩) ?_ ?_
        rotate_left
        · intro w'
          go_simp
          with_reducible rfl
        rotate_left
        · simp only [Act.put, List.setIfInBounds_toArray, List.set_cons_zero, List.set_cons_succ, i64_w, i32_w]
          rfl
        refine pure_ (i := 4) (N := some 26) (v := ?_) (a' := ?_) #[true, true, true, true, true, false, false, false, false, false, false, false, false, false, false, false, false, false] rfl rfl (any_of HT_.out (by kernel_rfl)) (fun _ _ _ h => h) (Or.inl ⟨by rfl, ?_⟩) ?_ ?_
        rotate_left
        · intro w'
          go_simp
          with_reducible rfl
        rotate_left
        · simp only [Act.put, List.setIfInBounds_toArray, List.set_cons_zero, List.set_cons_succ, i64_w, i32_w]
          rfl
        refine take_ (i := 5) (N := some 27) (v := ?_) (a' := ?_) #[true, true, true, true, true, true, false, false, false, false, false, false, false, false, false, false, false, false] rfl rfl (take_ofW HT_.out HW_.out (by kernel_rfl)) (fun _ _ _ h => h) (Or.inl ⟨by rfl, ?_⟩) hHeld ?_ ?_
        rotate_left
        · rintro w' ⟨s0, s1⟩
          go_simp
          with_reducible rfl
        rotate_left
        · simp only [Act.put, List.setIfInBounds_toArray, List.set_cons_zero, List.set_cons_succ, i64_w, i32_w]
          rfl
        refine pure_ (i := 6) (N := some 28) (v := ?_) (a' := ?_) #[true, true, true, true, true, true, true, false, false, false, false, false, false, false, false, false, false, false] rfl rfl (any_of HT_.out (by kernel_rfl)) (fun _ _ _ h => h) (Or.inl ⟨by rfl, ?_⟩) ?_ ?_
        rotate_left
        · intro w'
          go_simp
          with_reducible rfl
        rotate_left
        · simp only [Act.put, List.setIfInBounds_toArray, List.set_cons_zero, List.set_cons_succ, i64_w, i32_w]
          rfl
        refine pure_ (i := 7) (N := some 29) (v := ?_) (a' := ?_) #[true, true, true, true, true, true, true, true, false, false, false, false, false, false, false, false, false, false] rfl rfl (any_of HT_.out (by kernel_rfl)) (fun _ _ _ h => h) (Or.inl ⟨by rfl, ?_⟩) ?_ ?_
        rotate_left
        · intro w'
          go_simp
          with_reducible rfl
        rotate_left
        · simp only [Act.put, List.setIfInBounds_toArray, List.set_cons_zero, List.set_cons_succ, i64_w, i32_w]
          rfl
        refine pure_ (i := 8) (N := some 30) (v := ?_) (a' := ?_) #[true, true, true, true, true, true, true, true, true, false, false, false, false, false, false, false, false, false] rfl rfl (any_of HT_.out (by kernel_rfl)) (fun _ _ _ h => h) (Or.inl ⟨by rfl, ?_⟩) ?_ ?_
        rotate_left
        · intro w'
          go_simp
          with_reducible rfl
        rotate_left
        · simp only [Act.put, List.setIfInBounds_toArray, List.set_cons_zero, List.set_cons_succ, i64_w, i32_w]
          rfl
        refine pure_ (i := 9) (N := some 31) (v := ?_) (a' := ?_) #[true, true, true, true, true, true, true, true, true, true, false, false, false, false, false, false, false, false] rfl rfl (any_of HT_.out (by kernel_rfl)) (fun _ _ _ h => h) (Or.inl ⟨by rfl, ?_⟩) ?_ ?_
        rotate_left
        · intro w'
          go_simp
          with_reducible rfl
        rotate_left
        · simp only [Act.put, List.setIfInBounds_toArray, List.set_cons_zero, List.set_cons_succ, i64_w, i32_w]
          rfl
        refine take_ (i := 10) (N := some 32) (v := ?_) (a' := ?_) #[true, true, true, true, true, true, true, true, true, true, true, false, false, false, false, false, false, false] rfl rfl (take_ofW HT_.out HW_.out (by kernel_rfl)) (fun _ _ _ h => h) (Or.inl ⟨by rfl, ?_⟩) hHeld ?_ ?_
        rotate_left
        · rintro w' ⟨s0, s1⟩
          go_simp
          with_reducible rfl
        rotate_left
        · simp only [Act.put, List.setIfInBounds_toArray, List.set_cons_zero, List.set_cons_succ, i64_w, i32_w]
          rfl
        refine pure_ (i := 11) (N := some 33) (v := ?_) (a' := ?_) #[true, true, true, true, true, true, true, true, true, true, true, true, false, false, false, false, false, false] rfl rfl (any_of HT_.out (by kernel_rfl)) (fun _ _ _ h => h) (Or.inl ⟨by rfl, ?_⟩) ?_ ?_
        rotate_left
        · intro w'
          go_simp
          with_reducible rfl
        rotate_left
        · simp only [Act.put, List.setIfInBounds_toArray, List.set_cons_zero, List.set_cons_succ, i64_w, i32_w]
          rfl
        refine pure_ (i := 12) (N := some 34) (v := ?_) (a' := ?_) #[true, true, true, true, true, true, true, true, true, true, true, true, true, false, false, false, false, false] rfl rfl (any_of HT_.out (by kernel_rfl)) (fun _ _ _ h => h) (Or.inl ⟨by rfl, ?_⟩) ?_ ?_
        rotate_left
        · intro w'
          go_simp
          with_reducible rfl
        rotate_left
        · simp only [Act.put, List.setIfInBounds_toArray, List.set_cons_zero, List.set_cons_succ, i64_w, i32_w]
          rfl
        refine pure_ (i := 13) (N := some 35) (v := ?_) (a' := ?_) #[true, true, true, true, true, true, true, true, true, true, true, true, true, true, false, false, false, false] rfl rfl (any_of HT_.out (by kernel_rfl)) (fun _ _ _ h => h) (Or.inl ⟨by rfl, ?_⟩) ?_ ?_
        rotate_left
        · intro w'
          go_simp
          with_reducible rfl
        rotate_left
        · simp only [Act.put, List.setIfInBounds_toArray, List.set_cons_zero, List.set_cons_succ, i64_w, i32_w]
          rfl
        clear hHeld
        refine last_ (i := 14) (N := none) #[true, true, true, true, true, true, true, true, true, true, true, true, true, true, true, false, false, false] rfl rfl (one_of HT_.out (by kernel_rfl)) (by decide) (fun K hK => ?_)
        have hs : V1.cell? ⟨g, 0, none⟩ = some (.int .i64 (c0)) := (blk_cell BK.out 0).trans rfl
        have hfs := blk_frozen BK.out 0
        refine skip_ (w1 := V1.setCell ⟨g, 0, none⟩ (.int .i64 (wrap64 (c0 + 1)))) (by rfl) rfl ?_ ?_
        · go_simp
          try rfl
        refine hK.out _ _ ?_
        clear hK K hs hfs
        have n0_ := blk_put (cs' := #[.int .i64 (wrap64 (c0 + 1)), .int .i64 c1, .int .i64 c2, .int .i64 c3, .int .i64 c4, .int .i64 c5, .int .i64 c6, .int .i64 c7, .int .i64 c8, .int .i64 c9, .int .i64 c10, .int .i64 c11]) BK.out 0 (.int .i64 (wrap64 (c0 + 1))) rfl
        have n1_ := Below.setCell (p := ⟨g, 0, none⟩) HB.out (Nat.le_refl g) (.int .i64 (wrap64 (c0 + 1)))
        have n2_ := blk_far (p := ⟨g, 0, none⟩) BX.out (Ne.symm hne) (.int .i64 (wrap64 (c0 + 1)))
        generalize V1.setCell ⟨g, 0, none⟩ (.int .i64 (wrap64 (c0 + 1))) = V1_1 at n0_ n1_ n2_ ⊢
        clear HB BK BX
        have HB := Aside0.mk n1_
        have BK := Aside0.mk n0_
        have BX := Aside0.mk n2_
        clear n0_ n1_ n2_
        refine pure_ (i := 15) (N := some 36) (v := ?_) (a' := ?_) #[true, true, true, true, true, true, true, true, true, true, true, true, true, true, true, true, false, false] rfl rfl (any_of HT_.out (by kernel_rfl)) (fun _ _ _ h => h) (Or.inl ⟨by rfl, ?_⟩) ?_ ?_
        rotate_left
        · intro w'
          go_simp
          with_reducible rfl
        rotate_left
        · simp only [Act.put, List.setIfInBounds_toArray, List.set_cons_zero, List.set_cons_succ, i64_w, i32_w]
          rfl
        refine pure_ (i := 16) (N := some 37) (v := ?_) (a' := ?_) #[true, true, true, true, true, true, true, true, true, true, true, true, true, true, true, true, true, false] rfl rfl (any_of HT_.out (by kernel_rfl)) (fun _ _ _ h => h) (Or.inl ⟨by rfl, ?_⟩) ?_ ?_
        rotate_left
        · intro w'
          go_simp
          with_reducible rfl
        rotate_left
        · simp only [Act.put, List.setIfInBounds_toArray, List.set_cons_zero, List.set_cons_succ, i64_w, i32_w]
          rfl
        refine last_ (i := 17) (N := none) #[true, true, true, true, true, true, true, true, true, true, true, true, true, true, true, true, true, true] rfl rfl (one_of HT_.out (by kernel_rfl)) (by decide) (fun K hK => ?_)
        have hs : V1_1.cell? ⟨g, 2, none⟩ = some (.int .i64 (c2)) := (blk_cell BK.out 2).trans rfl
        have hfs := blk_frozen BK.out 2
        refine skip_ (w1 := V1_1.setCell ⟨g, 2, none⟩ (.int .i64 (wrap64 (c2 + 1)))) (by rfl) rfl ?_ ?_
        · go_simp
          try rfl
        refine hK.out _ _ ?_
        clear hK K hs hfs
        have n0_ := blk_put (cs' := #[.int .i64 (wrap64 (c0 + 1)), .int .i64 c1, .int .i64 (wrap64 (c2 + 1)), .int .i64 c3, .int .i64 c4, .int .i64 c5, .int .i64 c6, .int .i64 c7, .int .i64 c8, .int .i64 c9, .int .i64 c10, .int .i64 c11]) BK.out 2 (.int .i64 (wrap64 (c2 + 1))) rfl
        have n1_ := Below.setCell (p := ⟨g, 2, none⟩) HB.out (Nat.le_refl g) (.int .i64 (wrap64 (c2 + 1)))
        have n2_ := blk_far (p := ⟨g, 2, none⟩) BX.out (Ne.symm hne) (.int .i64 (wrap64 (c2 + 1)))
        generalize V1_1.setCell ⟨g, 2, none⟩ (.int .i64 (wrap64 (c2 + 1))) = V1_2 at n0_ n1_ n2_ ⊢
        clear HB BK BX
        have HB := Aside0.mk n1_
        have BK := Aside0.mk n0_
        have BX := Aside0.mk n2_
        clear n0_ n1_ n2_
        refine done_ (done_of HT_.out (by kernel_rfl)) ?_
        clear HT_ HW_
        have hb4_0 := (blk_cell BX.out 0)
        have hb4_1 := (blk_cell BX.out 1)
        have hf4_0 := blk_frozen BX.out 0
        have hf4_1 := blk_frozen BX.out 1
        go_wp2_with (first | ((with_reducible refine gate_callee (f := 64) rfl ?_); refine goesL_ (some 11) rfl rfl Try.func64 (by kernel_rfl) rfl #[.agg #[.string m, .slice A l.length c]] rfl (by (try simp only [List.map_toArray, List.map_cons, List.map_nil]); first | done | rfl) ?_; (with_reducible refine (totals_amount.calls k m _ _ l n _ (Kd.C_below HR.out (H0.out.trans (Below.mono (by repeat (first | (with_reducible first | exact HB.out | apply below_alloc | apply pw_below_drewN | apply below_drew1 | apply below_gset))) HG0.out))) hc AA.out).mono ?_); rintro e w' ⟨rfl, hb⟩; refine ⟨_, rfl, ?_⟩; have n0_ := Aside0.mk (blk_below (g := g) (by ((with_reducible repeat (first | refine blk_drewN ?_ _ | refine blk_drew ?_ | refine blk_alloc ?_ _)); first | exact BK.out | (apply blk3; (with_reducible repeat (first | refine blk_drewN ?_ _ | refine blk_drew ?_ | refine blk_alloc ?_ _)); exact BK.out))) hb); have n1_ := Aside0.mk (blk_below (g := gb) (o := .cells #[.string m, .slice A l.length c] 33 (0, 0)) (by ((with_reducible repeat (first | refine blk_drewN ?_ _ | refine blk_drew ?_ | refine blk_alloc ?_ _ | refine blk_far ?_ (Ne.symm hne) _)); first | exact BX.out | (refine blk_far ?_ (Ne.symm hne) _; (with_reducible repeat (first | refine blk_drewN ?_ _ | refine blk_drew ?_ | refine blk_alloc ?_ _)); exact BX.out))) hb); have n2_ := Aside0.mk (below_then (by repeat (first | (with_reducible first | exact HB.out | apply below_alloc | apply pw_below_drewN | apply below_drew1 | apply below_gset))) (Nat.le_of_lt (blk_lt (g := g) (by ((with_reducible repeat (first | refine blk_drewN ?_ _ | refine blk_drew ?_ | refine blk_alloc ?_ _)); first | exact BK.out | (apply blk3; (with_reducible repeat (first | refine blk_drewN ?_ _ | refine blk_drew ?_ | refine blk_alloc ?_ _)); exact BK.out))))) hb); clear BK BX HB; have BK := n0_; have BX := n1_; have HB := n2_; clear n0_ n1_ n2_ hb; have hk_3 := (blk_cell BK.out 3); have hfk := blk_frozen BK.out 3; have hb4_0 := (blk_cell BX.out 0); have hb4_1 := (blk_cell BX.out 1); have hf4_0 := blk_frozen BX.out 0; have hf4_1 := blk_frozen BX.out 1) | ((with_reducible refine gate_callee (f := 38) rfl ?_); refine goesL_ (some 14) rfl rfl Try.func38 (by kernel_rfl) rfl #[.string m] rfl (by (try simp only [List.map_toArray, List.map_cons, List.map_nil]); first | done | rfl) ?_; (with_reducible refine (message_Class.calls k m cl _ AC.out).mono ?_); rintro e w' ⟨rfl, ⟨nd, rfl⟩⟩; refine ⟨_, rfl, ?_⟩) | ((with_reducible refine gate_callee (f := 39) rfl ?_); refine goesL_ (some 20) rfl rfl Try.func39 (by kernel_rfl) rfl #[.string m] rfl (by (try simp only [List.map_toArray, List.map_cons, List.map_nil]); first | done | rfl) ?_; (with_reducible refine (message_Function.calls k m fn _ AF.out).mono ?_); rintro e w' ⟨rfl, ⟨nd, rfl⟩⟩; refine ⟨_, rfl, ?_⟩) | ((with_reducible refine gate_callee (f := 65) rfl ?_); refine goesL_ (some 68) rfl rfl Try.func65 (by kernel_rfl) rfl #[.agg #[.string m, .slice A l.length c]] rfl (by (try simp only [List.map_toArray, List.map_cons, List.map_nil]); first | done | rfl) ?_; (with_reducible refine (totals_credit.calls k m _ _ l _ _ (Kd.C_below HR.out (H0.out.trans (Below.mono (by repeat (first | (with_reducible first | exact HB.out | apply below_alloc | apply pw_below_drewN | apply below_drew1 | apply below_gset))) HG0.out))) hc AR.out).mono ?_); rintro e w' ⟨rfl, hb⟩; refine ⟨_, rfl, ?_⟩; have n0_ := Aside0.mk (blk_below (g := g) (by ((with_reducible repeat (first | refine blk_drewN ?_ _ | refine blk_drew ?_ | refine blk_alloc ?_ _)); first | exact BK.out | (apply blk3; (with_reducible repeat (first | refine blk_drewN ?_ _ | refine blk_drew ?_ | refine blk_alloc ?_ _)); exact BK.out))) hb); have n1_ := Aside0.mk (blk_below (g := gb) (o := .cells #[.string m, .slice A l.length c] 33 (0, 0)) (by ((with_reducible repeat (first | refine blk_drewN ?_ _ | refine blk_drew ?_ | refine blk_alloc ?_ _ | refine blk_far ?_ (Ne.symm hne) _)); first | exact BX.out | (refine blk_far ?_ (Ne.symm hne) _; (with_reducible repeat (first | refine blk_drewN ?_ _ | refine blk_drew ?_ | refine blk_alloc ?_ _)); exact BX.out))) hb); have n2_ := Aside0.mk (below_then (by repeat (first | (with_reducible first | exact HB.out | apply below_alloc | apply pw_below_drewN | apply below_drew1 | apply below_gset))) (Nat.le_of_lt (blk_lt (g := g) (by ((with_reducible repeat (first | refine blk_drewN ?_ _ | refine blk_drew ?_ | refine blk_alloc ?_ _)); first | exact BK.out | (apply blk3; (with_reducible repeat (first | refine blk_drewN ?_ _ | refine blk_drew ?_ | refine blk_alloc ?_ _)); exact BK.out))))) hb); clear BK BX HB; have BK := n0_; have BX := n1_; have HB := n2_; clear n0_ n1_ n2_ hb; have hk_3 := (blk_cell BK.out 3); have hfk := blk_frozen BK.out 3; have hb4_0 := (blk_cell BX.out 0); have hb4_1 := (blk_cell BX.out 1); have hf4_0 := blk_frozen BX.out 0; have hf4_1 := blk_frozen BX.out 1))
        all_goals cases cr
        all_goals (try cases adv)
        all_goals (try simp only [Exit.inBlock, Exit.then])
        all_goals first | refine bodyPost_ret (results_none rfl _ _ _) rfl ?_ | refine bodyPost_end (results_none rfl _ _ _) rfl ?_
        all_goals refine ⟨rfl, by repeat (first | (with_reducible first | exact HB.out | apply below_alloc | apply pw_below_drewN | apply below_drew1 | apply below_gset)), ?_⟩
        all_goals show _ = some (Obj.cells #[.int .i64 (wrap64 (c0 + 1)), .int .i64 c1, .int .i64 (wrap64 (c2 + 1)), .int .i64 c3, .int .i64 c4, .int .i64 c5, .int .i64 c6, .int .i64 c7, .int .i64 c8, .int .i64 c9, .int .i64 c10, .int .i64 c11] 60 (0, 0))
        all_goals ((with_reducible repeat (first | refine blk_drewN ?_ _ | refine blk_drew ?_ | refine blk_alloc ?_ _)); first | exact BK.out | (apply blk3; (with_reducible repeat (first | refine blk_drewN ?_ _ | refine blk_drew ?_ | refine blk_alloc ?_ _)); exact BK.out))
      · go_enter Try.func46, Try.ntmps46
        go_wp2_with (first | ((with_reducible refine gate_dst (N := 4) rfl ?_); refine box_event ?hg (N := 4) ?hd (cs := #[.string m, .slice A l.length c]) (t := 33) ?hr ?_; (case hd => rfl); (case hg => rfl); (case hr => first | (go_simp; done) | (go_simp; rfl)); intro gb hg w4 hbox hb; have hne : g ≠ gb := (by have := blk_lt BK.out; omega); have n0_ := Aside0.mk (blk_below (g := g) (by ((with_reducible repeat (first | refine blk_drewN ?_ _ | refine blk_drew ?_ | refine blk_alloc ?_ _)); first | exact BK.out | (apply blk3; (with_reducible repeat (first | refine blk_drewN ?_ _ | refine blk_drew ?_ | refine blk_alloc ?_ _)); exact BK.out))) hb); have n2_ := Aside0.mk (below_then (by repeat (first | (with_reducible first | exact HB.out | apply below_alloc | apply pw_below_drewN | apply below_drew1 | apply below_gset))) (Nat.le_of_lt (blk_lt (g := g) (by ((with_reducible repeat (first | refine blk_drewN ?_ _ | refine blk_drew ?_ | refine blk_alloc ?_ _)); first | exact BK.out | (apply blk3; (with_reducible repeat (first | refine blk_drewN ?_ _ | refine blk_drew ?_ | refine blk_alloc ?_ _)); exact BK.out))))) hb); clear BK HB; have BK := n0_; have BX := Aside0.mk hbox; have HB := n2_; clear n0_ n2_ hb hbox hg; have hk_3 := (blk_cell BK.out 3); have hfk := blk_frozen BK.out 3; have hb4_0 := (blk_cell BX.out 0); have hb4_1 := (blk_cell BX.out 1); have hf4_0 := blk_frozen BX.out 0; have hf4_1 := blk_frozen BX.out 1) | ((with_reducible refine gate_callee (f := 64) rfl ?_); refine goesL_ (some 11) rfl rfl Try.func64 (by kernel_rfl) rfl #[.agg #[.string m, .slice A l.length c]] rfl (by (try simp only [List.map_toArray, List.map_cons, List.map_nil]); first | done | rfl) ?_; (with_reducible refine (totals_amount.calls k m _ _ l n _ (Kd.C_below HR.out (H0.out.trans (Below.mono (by repeat (first | (with_reducible first | exact HB.out | apply below_alloc | apply pw_below_drewN | apply below_drew1 | apply below_gset))) HG0.out))) hc AA.out).mono ?_); rintro e w' ⟨rfl, hb⟩; refine ⟨_, rfl, ?_⟩; have n0_ := Aside0.mk (blk_below (g := g) (by ((with_reducible repeat (first | refine blk_drewN ?_ _ | refine blk_drew ?_ | refine blk_alloc ?_ _)); first | exact BK.out | (apply blk3; (with_reducible repeat (first | refine blk_drewN ?_ _ | refine blk_drew ?_ | refine blk_alloc ?_ _)); exact BK.out))) hb); have n1_ := Aside0.mk (blk_below (g := gb) (o := .cells #[.string m, .slice A l.length c] 33 (0, 0)) (by ((with_reducible repeat (first | refine blk_drewN ?_ _ | refine blk_drew ?_ | refine blk_alloc ?_ _ | refine blk_far ?_ (Ne.symm hne) _)); first | exact BX.out | (refine blk_far ?_ (Ne.symm hne) _; (with_reducible repeat (first | refine blk_drewN ?_ _ | refine blk_drew ?_ | refine blk_alloc ?_ _)); exact BX.out))) hb); have n2_ := Aside0.mk (below_then (by repeat (first | (with_reducible first | exact HB.out | apply below_alloc | apply pw_below_drewN | apply below_drew1 | apply below_gset))) (Nat.le_of_lt (blk_lt (g := g) (by ((with_reducible repeat (first | refine blk_drewN ?_ _ | refine blk_drew ?_ | refine blk_alloc ?_ _)); first | exact BK.out | (apply blk3; (with_reducible repeat (first | refine blk_drewN ?_ _ | refine blk_drew ?_ | refine blk_alloc ?_ _)); exact BK.out))))) hb); clear BK BX HB; have BK := n0_; have BX := n1_; have HB := n2_; clear n0_ n1_ n2_ hb; have hk_3 := (blk_cell BK.out 3); have hfk := blk_frozen BK.out 3; have hb4_0 := (blk_cell BX.out 0); have hb4_1 := (blk_cell BX.out 1); have hf4_0 := blk_frozen BX.out 0; have hf4_1 := blk_frozen BX.out 1) | ((with_reducible refine gate_callee (f := 38) rfl ?_); refine goesL_ (some 14) rfl rfl Try.func38 (by kernel_rfl) rfl #[.string m] rfl (by (try simp only [List.map_toArray, List.map_cons, List.map_nil]); first | done | rfl) ?_; (with_reducible refine (message_Class.calls k m cl _ AC.out).mono ?_); rintro e w' ⟨rfl, ⟨nd, rfl⟩⟩; refine ⟨_, rfl, ?_⟩) | ((with_reducible refine gate_callee (f := 39) rfl ?_); refine goesL_ (some 20) rfl rfl Try.func39 (by kernel_rfl) rfl #[.string m] rfl (by (try simp only [List.map_toArray, List.map_cons, List.map_nil]); first | done | rfl) ?_; (with_reducible refine (message_Function.calls k m fn _ AF.out).mono ?_); rintro e w' ⟨rfl, ⟨nd, rfl⟩⟩; refine ⟨_, rfl, ?_⟩) | ((with_reducible refine gate_callee (f := 65) rfl ?_); refine goesL_ (some 68) rfl rfl Try.func65 (by kernel_rfl) rfl #[.agg #[.string m, .slice A l.length c]] rfl (by (try simp only [List.map_toArray, List.map_cons, List.map_nil]); first | done | rfl) ?_; (with_reducible refine (totals_credit.calls k m _ _ l _ _ (Kd.C_below HR.out (H0.out.trans (Below.mono (by repeat (first | (with_reducible first | exact HB.out | apply below_alloc | apply pw_below_drewN | apply below_drew1 | apply below_gset))) HG0.out))) hc AR.out).mono ?_); rintro e w' ⟨rfl, hb⟩; refine ⟨_, rfl, ?_⟩; have n0_ := Aside0.mk (blk_below (g := g) (by ((with_reducible repeat (first | refine blk_drewN ?_ _ | refine blk_drew ?_ | refine blk_alloc ?_ _)); first | exact BK.out | (apply blk3; (with_reducible repeat (first | refine blk_drewN ?_ _ | refine blk_drew ?_ | refine blk_alloc ?_ _)); exact BK.out))) hb); have n1_ := Aside0.mk (blk_below (g := gb) (o := .cells #[.string m, .slice A l.length c] 33 (0, 0)) (by ((with_reducible repeat (first | refine blk_drewN ?_ _ | refine blk_drew ?_ | refine blk_alloc ?_ _ | refine blk_far ?_ (Ne.symm hne) _)); first | exact BX.out | (refine blk_far ?_ (Ne.symm hne) _; (with_reducible repeat (first | refine blk_drewN ?_ _ | refine blk_drew ?_ | refine blk_alloc ?_ _)); exact BX.out))) hb); have n2_ := Aside0.mk (below_then (by repeat (first | (with_reducible first | exact HB.out | apply below_alloc | apply pw_below_drewN | apply below_drew1 | apply below_gset))) (Nat.le_of_lt (blk_lt (g := g) (by ((with_reducible repeat (first | refine blk_drewN ?_ _ | refine blk_drew ?_ | refine blk_alloc ?_ _)); first | exact BK.out | (apply blk3; (with_reducible repeat (first | refine blk_drewN ?_ _ | refine blk_drew ?_ | refine blk_alloc ?_ _)); exact BK.out))))) hb); clear BK BX HB; have BK := n0_; have BX := n1_; have HB := n2_; clear n0_ n1_ n2_ hb; have hk_3 := (blk_cell BK.out 3); have hfk := blk_frozen BK.out 3; have hb4_0 := (blk_cell BX.out 0); have hb4_1 := (blk_cell BX.out 1); have hf4_0 := blk_frozen BX.out 0; have hf4_1 := blk_frozen BX.out 1))
        refine start_cell (w := w) (g := g) (cs := #[.int .i64 c0, .int .i64 c1, .int .i64 c2, .int .i64 c3, .int .i64 c4, .int .i64 c5, .int .i64 c6, .int .i64 c7, .int .i64 c8, .int .i64 c9, .int .i64 c10, .int .i64 c11]) (i := 0) (j := 1) (u := .int .i64 (c0)) (v := .int .i64 (c1)) (n := 18) (ds := [14, 17]) #[false, false, false, false, false, false, false, false, false, false, false, false, false, false, false, false, false, false] (by kernel_rfl) rfl rfl (by repeat (first | (with_reducible first | exact HB.out | apply below_alloc | apply pw_below_drewN | apply below_drew1 | apply below_gset))) (by ((with_reducible repeat (first | refine blk_drewN ?_ _ | refine blk_drew ?_ | refine blk_alloc ?_ _)); first | exact BK.out | (apply blk3; (with_reducible repeat (first | refine blk_drewN ?_ _ | refine blk_drew ?_ | refine blk_alloc ?_ _)); exact BK.out))) rfl rfl (fun V2 HBv BKv hall hHeld => ?_)
        have BXv := hall gb _ (by ((with_reducible repeat (first | refine blk_drewN ?_ _ | refine blk_drew ?_ | refine blk_alloc ?_ _ | refine blk_far ?_ (Ne.symm hne) _)); first | exact BX.out | (refine blk_far ?_ (Ne.symm hne) _; (with_reducible repeat (first | refine blk_drewN ?_ _ | refine blk_drew ?_ | refine blk_alloc ?_ _)); exact BX.out)))
        clear HB BK BX hall
        have HB := Aside0.mk HBv
        have BK := Aside0.mk BKv
        have BX := Aside0.mk BXv
        clear HBv BKv BXv
        refine with_tabW count_tab9 count_bits9 (fun HT_ HW_ => ?_)
        refine pure_ (i := 0) (N := some 49) (v := ?_) (a' := ?_) #[true, false, false, false, false, false, false, false, false, false, false, false, false, false, false, false, false, false] rfl rfl (any_of HT_.out (by kernel_rfl)) (fun _ _ _ h => h) (Or.inl ⟨by rfl, ?_⟩) ?_ ?_
        rotate_left
        · intro w'
          go_simp
          with_reducible rfl
        rotate_left
        · simp only [Act.put, List.setIfInBounds_toArray, List.set_cons_zero, List.set_cons_succ, i64_w, i32_w]
          rfl
        refine pure_ (i := 1) (N := some 50) (v := ?_) (a' := ?_) #[true, true, false, false, false, false, false, false, false, false, false, false, false, false, false, false, false, false] rfl rfl (any_of HT_.out (by kernel_rfl)) (fun _ _ _ h => h) (Or.inl ⟨by rfl, ?_⟩) ?_ ?_
        rotate_left
        · intro w'
          go_simp
          with_reducible rfl
        rotate_left
        · simp only [Act.put, List.setIfInBounds_toArray, List.set_cons_zero, List.set_cons_succ, i64_w, i32_w]
          rfl
        refine pure_ (i := 2) (N := some 51) (v := ?_) (a' := ?_) #[true, true, true, false, false, false, false, false, false, false, false, false, false, false, false, false, false, false] rfl rfl (any_of HT_.out (by kernel_rfl)) (fun _ _ _ h => h) (Or.inl ⟨by rfl, ?_⟩) ?_ ?_
        rotate_left
        · intro w'
          go_simp
          with_reducible rfl
        rotate_left
        · simp only [Act.put, List.setIfInBounds_toArray, List.set_cons_zero, List.set_cons_succ, i64_w, i32_w]
          rfl
        refine pure_ (i := 3) (N := some 52) (v := ?_) (a' := ?_) #[true, true, true, true, false, false, false, false, false, false, false, false, false, false, false, false, false, false] rfl rfl (any_of HT_.out (by kernel_rfl)) (fun _ _ _ h => h) (Or.inl ⟨by rfl, ?_⟩) ?_ ?_
        rotate_left
        · intro w'
          go_simp
          with_reducible rfl
        rotate_left
        · simp only [Act.put, List.setIfInBounds_toArray, List.set_cons_zero, List.set_cons_succ, i64_w, i32_w]
          rfl
        refine pure_ (i := 4) (N := some 53) (v := ?_) (a' := ?_) #[true, true, true, true, true, false, false, false, false, false, false, false, false, false, false, false, false, false] rfl rfl (any_of HT_.out (by kernel_rfl)) (fun _ _ _ h => h) (Or.inl ⟨by rfl, ?_⟩) ?_ ?_
        rotate_left
        · intro w'
          go_simp
          with_reducible rfl
        rotate_left
        · simp only [Act.put, List.setIfInBounds_toArray, List.set_cons_zero, List.set_cons_succ, i64_w, i32_w]
          rfl
        refine take_ (i := 5) (N := some 54) (v := ?_) (a' := ?_) #[true, true, true, true, true, true, false, false, false, false, false, false, false, false, false, false, false, false] rfl rfl (take_ofW HT_.out HW_.out (by kernel_rfl)) (fun _ _ _ h => h) (Or.inl ⟨by rfl, ?_⟩) hHeld ?_ ?_
        rotate_left
        · rintro w' ⟨s0, s1⟩
          go_simp
          with_reducible rfl
        rotate_left
        · simp only [Act.put, List.setIfInBounds_toArray, List.set_cons_zero, List.set_cons_succ, i64_w, i32_w]
          rfl
        refine pure_ (i := 6) (N := some 55) (v := ?_) (a' := ?_) #[true, true, true, true, true, true, true, false, false, false, false, false, false, false, false, false, false, false] rfl rfl (any_of HT_.out (by kernel_rfl)) (fun _ _ _ h => h) (Or.inl ⟨by rfl, ?_⟩) ?_ ?_
        rotate_left
        · intro w'
          go_simp
          with_reducible rfl
        rotate_left
        · simp only [Act.put, List.setIfInBounds_toArray, List.set_cons_zero, List.set_cons_succ, i64_w, i32_w]
          rfl
        refine pure_ (i := 7) (N := some 56) (v := ?_) (a' := ?_) #[true, true, true, true, true, true, true, true, false, false, false, false, false, false, false, false, false, false] rfl rfl (any_of HT_.out (by kernel_rfl)) (fun _ _ _ h => h) (Or.inl ⟨by rfl, ?_⟩) ?_ ?_
        rotate_left
        · intro w'
          go_simp
          with_reducible rfl
        rotate_left
        · simp only [Act.put, List.setIfInBounds_toArray, List.set_cons_zero, List.set_cons_succ, i64_w, i32_w]
          rfl
        refine pure_ (i := 8) (N := some 57) (v := ?_) (a' := ?_) #[true, true, true, true, true, true, true, true, true, false, false, false, false, false, false, false, false, false] rfl rfl (any_of HT_.out (by kernel_rfl)) (fun _ _ _ h => h) (Or.inl ⟨by rfl, ?_⟩) ?_ ?_
        rotate_left
        · intro w'
          go_simp
          with_reducible rfl
        rotate_left
        · simp only [Act.put, List.setIfInBounds_toArray, List.set_cons_zero, List.set_cons_succ, i64_w, i32_w]
          rfl
        refine pure_ (i := 9) (N := some 58) (v := ?_) (a' := ?_) #[true, true, true, true, true, true, true, true, true, true, false, false, false, false, false, false, false, false] rfl rfl (any_of HT_.out (by kernel_rfl)) (fun _ _ _ h => h) (Or.inl ⟨by rfl, ?_⟩) ?_ ?_
        rotate_left
        · intro w'
          go_simp
          with_reducible rfl
        rotate_left
        · simp only [Act.put, List.setIfInBounds_toArray, List.set_cons_zero, List.set_cons_succ, i64_w, i32_w]
          rfl
        refine take_ (i := 10) (N := some 59) (v := ?_) (a' := ?_) #[true, true, true, true, true, true, true, true, true, true, true, false, false, false, false, false, false, false] rfl rfl (take_ofW HT_.out HW_.out (by kernel_rfl)) (fun _ _ _ h => h) (Or.inl ⟨by rfl, ?_⟩) hHeld ?_ ?_
        rotate_left
        · rintro w' ⟨s0, s1⟩
          go_simp
          with_reducible rfl
        rotate_left
        · simp only [Act.put, List.setIfInBounds_toArray, List.set_cons_zero, List.set_cons_succ, i64_w, i32_w]
          rfl
        refine pure_ (i := 11) (N := some 60) (v := ?_) (a' := ?_) #[true, true, true, true, true, true, true, true, true, true, true, true, false, false, false, false, false, false] rfl rfl (any_of HT_.out (by kernel_rfl)) (fun _ _ _ h => h) (Or.inl ⟨by rfl, ?_⟩) ?_ ?_
        rotate_left
        · intro w'
          go_simp
          with_reducible rfl
        rotate_left
        · simp only [Act.put, List.setIfInBounds_toArray, List.set_cons_zero, List.set_cons_succ, i64_w, i32_w]
          rfl
        refine pure_ (i := 12) (N := some 61) (v := ?_) (a' := ?_) #[true, true, true, true, true, true, true, true, true, true, true, true, true, false, false, false, false, false] rfl rfl (any_of HT_.out (by kernel_rfl)) (fun _ _ _ h => h) (Or.inl ⟨by rfl, ?_⟩) ?_ ?_
        rotate_left
        · intro w'
          go_simp
          with_reducible rfl
        rotate_left
        · simp only [Act.put, List.setIfInBounds_toArray, List.set_cons_zero, List.set_cons_succ, i64_w, i32_w]
          rfl
        refine pure_ (i := 13) (N := some 62) (v := ?_) (a' := ?_) #[true, true, true, true, true, true, true, true, true, true, true, true, true, true, false, false, false, false] rfl rfl (any_of HT_.out (by kernel_rfl)) (fun _ _ _ h => h) (Or.inl ⟨by rfl, ?_⟩) ?_ ?_
        rotate_left
        · intro w'
          go_simp
          with_reducible rfl
        rotate_left
        · simp only [Act.put, List.setIfInBounds_toArray, List.set_cons_zero, List.set_cons_succ, i64_w, i32_w]
          rfl
        clear hHeld
        refine last_ (i := 14) (N := none) #[true, true, true, true, true, true, true, true, true, true, true, true, true, true, true, false, false, false] rfl rfl (one_of HT_.out (by kernel_rfl)) (by decide) (fun K hK => ?_)
        have hs : V2.cell? ⟨g, 0, none⟩ = some (.int .i64 (c0)) := (blk_cell BK.out 0).trans rfl
        have hfs := blk_frozen BK.out 0
        refine skip_ (w1 := V2.setCell ⟨g, 0, none⟩ (.int .i64 (wrap64 (c0 + 1)))) (by rfl) rfl ?_ ?_
        · go_simp
          try rfl
        refine hK.out _ _ ?_
        clear hK K hs hfs
        have n0_ := blk_put (cs' := #[.int .i64 (wrap64 (c0 + 1)), .int .i64 c1, .int .i64 c2, .int .i64 c3, .int .i64 c4, .int .i64 c5, .int .i64 c6, .int .i64 c7, .int .i64 c8, .int .i64 c9, .int .i64 c10, .int .i64 c11]) BK.out 0 (.int .i64 (wrap64 (c0 + 1))) rfl
        have n1_ := Below.setCell (p := ⟨g, 0, none⟩) HB.out (Nat.le_refl g) (.int .i64 (wrap64 (c0 + 1)))
        have n2_ := blk_far (p := ⟨g, 0, none⟩) BX.out (Ne.symm hne) (.int .i64 (wrap64 (c0 + 1)))
        generalize V2.setCell ⟨g, 0, none⟩ (.int .i64 (wrap64 (c0 + 1))) = V2_1 at n0_ n1_ n2_ ⊢
        clear HB BK BX
        have HB := Aside0.mk n1_
        have BK := Aside0.mk n0_
        have BX := Aside0.mk n2_
        clear n0_ n1_ n2_
        refine pure_ (i := 15) (N := some 63) (v := ?_) (a' := ?_) #[true, true, true, true, true, true, true, true, true, true, true, true, true, true, true, true, false, false] rfl rfl (any_of HT_.out (by kernel_rfl)) (fun _ _ _ h => h) (Or.inl ⟨by rfl, ?_⟩) ?_ ?_
        rotate_left
        · intro w'
          go_simp
          with_reducible rfl
        rotate_left
        · simp only [Act.put, List.setIfInBounds_toArray, List.set_cons_zero, List.set_cons_succ, i64_w, i32_w]
          rfl
        refine pure_ (i := 16) (N := some 64) (v := ?_) (a' := ?_) #[true, true, true, true, true, true, true, true, true, true, true, true, true, true, true, true, true, false] rfl rfl (any_of HT_.out (by kernel_rfl)) (fun _ _ _ h => h) (Or.inl ⟨by rfl, ?_⟩) ?_ ?_
        rotate_left
        · intro w'
          go_simp
          with_reducible rfl
        rotate_left
        · simp only [Act.put, List.setIfInBounds_toArray, List.set_cons_zero, List.set_cons_succ, i64_w, i32_w]
          rfl
        refine last_ (i := 17) (N := none) #[true, true, true, true, true, true, true, true, true, true, true, true, true, true, true, true, true, true] rfl rfl (one_of HT_.out (by kernel_rfl)) (by decide) (fun K hK => ?_)
        have hs : V2_1.cell? ⟨g, 1, none⟩ = some (.int .i64 (c1)) := (blk_cell BK.out 1).trans rfl
        have hfs := blk_frozen BK.out 1
        refine skip_ (w1 := V2_1.setCell ⟨g, 1, none⟩ (.int .i64 (wrap64 (c1 + 1)))) (by rfl) rfl ?_ ?_
        · go_simp
          try rfl
        refine hK.out _ _ ?_
        clear hK K hs hfs
        have n0_ := blk_put (cs' := #[.int .i64 (wrap64 (c0 + 1)), .int .i64 (wrap64 (c1 + 1)), .int .i64 c2, .int .i64 c3, .int .i64 c4, .int .i64 c5, .int .i64 c6, .int .i64 c7, .int .i64 c8, .int .i64 c9, .int .i64 c10, .int .i64 c11]) BK.out 1 (.int .i64 (wrap64 (c1 + 1))) rfl
        have n1_ := Below.setCell (p := ⟨g, 1, none⟩) HB.out (Nat.le_refl g) (.int .i64 (wrap64 (c1 + 1)))
        have n2_ := blk_far (p := ⟨g, 1, none⟩) BX.out (Ne.symm hne) (.int .i64 (wrap64 (c1 + 1)))
        generalize V2_1.setCell ⟨g, 1, none⟩ (.int .i64 (wrap64 (c1 + 1))) = V2_2 at n0_ n1_ n2_ ⊢
        clear HB BK BX
        have HB := Aside0.mk n1_
        have BK := Aside0.mk n0_
        have BX := Aside0.mk n2_
        clear n0_ n1_ n2_
        refine done_ (done_of HT_.out (by kernel_rfl)) ?_
        clear HT_ HW_
        have hb4_0 := (blk_cell BX.out 0)
        have hb4_1 := (blk_cell BX.out 1)
        have hf4_0 := blk_frozen BX.out 0
        have hf4_1 := blk_frozen BX.out 1
        cases cr
        all_goals go_wp2_with (first | ((with_reducible refine gate_callee (f := 64) rfl ?_); refine goesL_ (some 11) rfl rfl Try.func64 (by kernel_rfl) rfl #[.agg #[.string m, .slice A l.length c]] rfl (by (try simp only [List.map_toArray, List.map_cons, List.map_nil]); first | done | rfl) ?_; (with_reducible refine (totals_amount.calls k m _ _ l n _ (Kd.C_below HR.out (H0.out.trans (Below.mono (by repeat (first | (with_reducible first | exact HB.out | apply below_alloc | apply pw_below_drewN | apply below_drew1 | apply below_gset))) HG0.out))) hc AA.out).mono ?_); rintro e w' ⟨rfl, hb⟩; refine ⟨_, rfl, ?_⟩; have n0_ := Aside0.mk (blk_below (g := g) (by ((with_reducible repeat (first | refine blk_drewN ?_ _ | refine blk_drew ?_ | refine blk_alloc ?_ _)); first | exact BK.out | (apply blk3; (with_reducible repeat (first | refine blk_drewN ?_ _ | refine blk_drew ?_ | refine blk_alloc ?_ _)); exact BK.out))) hb); have n1_ := Aside0.mk (blk_below (g := gb) (o := .cells #[.string m, .slice A l.length c] 33 (0, 0)) (by ((with_reducible repeat (first | refine blk_drewN ?_ _ | refine blk_drew ?_ | refine blk_alloc ?_ _ | refine blk_far ?_ (Ne.symm hne) _)); first | exact BX.out | (refine blk_far ?_ (Ne.symm hne) _; (with_reducible repeat (first | refine blk_drewN ?_ _ | refine blk_drew ?_ | refine blk_alloc ?_ _)); exact BX.out))) hb); have n2_ := Aside0.mk (below_then (by repeat (first | (with_reducible first | exact HB.out | apply below_alloc | apply pw_below_drewN | apply below_drew1 | apply below_gset))) (Nat.le_of_lt (blk_lt (g := g) (by ((with_reducible repeat (first | refine blk_drewN ?_ _ | refine blk_drew ?_ | refine blk_alloc ?_ _)); first | exact BK.out | (apply blk3; (with_reducible repeat (first | refine blk_drewN ?_ _ | refine blk_drew ?_ | refine blk_alloc ?_ _)); exact BK.out))))) hb); clear BK BX HB; have BK := n0_; have BX := n1_; have HB := n2_; clear n0_ n1_ n2_ hb; have hk_3 := (blk_cell BK.out 3); have hfk := blk_frozen BK.out 3; have hb4_0 := (blk_cell BX.out 0); have hb4_1 := (blk_cell BX.out 1); have hf4_0 := blk_frozen BX.out 0; have hf4_1 := blk_frozen BX.out 1) | ((with_reducible refine gate_callee (f := 38) rfl ?_); refine goesL_ (some 14) rfl rfl Try.func38 (by kernel_rfl) rfl #[.string m] rfl (by (try simp only [List.map_toArray, List.map_cons, List.map_nil]); first | done | rfl) ?_; (with_reducible refine (message_Class.calls k m cl _ AC.out).mono ?_); rintro e w' ⟨rfl, ⟨nd, rfl⟩⟩; refine ⟨_, rfl, ?_⟩) | ((with_reducible refine gate_callee (f := 39) rfl ?_); refine goesL_ (some 20) rfl rfl Try.func39 (by kernel_rfl) rfl #[.string m] rfl (by (try simp only [List.map_toArray, List.map_cons, List.map_nil]); first | done | rfl) ?_; (with_reducible refine (message_Function.calls k m fn _ AF.out).mono ?_); rintro e w' ⟨rfl, ⟨nd, rfl⟩⟩; refine ⟨_, rfl, ?_⟩) | ((with_reducible refine gate_callee (f := 65) rfl ?_); refine goesL_ (some 68) rfl rfl Try.func65 (by kernel_rfl) rfl #[.agg #[.string m, .slice A l.length c]] rfl (by (try simp only [List.map_toArray, List.map_cons, List.map_nil]); first | done | rfl) ?_; (with_reducible refine (totals_credit.calls k m _ _ l _ _ (Kd.C_below HR.out (H0.out.trans (Below.mono (by repeat (first | (with_reducible first | exact HB.out | apply below_alloc | apply pw_below_drewN | apply below_drew1 | apply below_gset))) HG0.out))) hc AR.out).mono ?_); rintro e w' ⟨rfl, hb⟩; refine ⟨_, rfl, ?_⟩; have n0_ := Aside0.mk (blk_below (g := g) (by ((with_reducible repeat (first | refine blk_drewN ?_ _ | refine blk_drew ?_ | refine blk_alloc ?_ _)); first | exact BK.out | (apply blk3; (with_reducible repeat (first | refine blk_drewN ?_ _ | refine blk_drew ?_ | refine blk_alloc ?_ _)); exact BK.out))) hb); have n1_ := Aside0.mk (blk_below (g := gb) (o := .cells #[.string m, .slice A l.length c] 33 (0, 0)) (by ((with_reducible repeat (first | refine blk_drewN ?_ _ | refine blk_drew ?_ | refine blk_alloc ?_ _ | refine blk_far ?_ (Ne.symm hne) _)); first | exact BX.out | (refine blk_far ?_ (Ne.symm hne) _; (with_reducible repeat (first | refine blk_drewN ?_ _ | refine blk_drew ?_ | refine blk_alloc ?_ _)); exact BX.out))) hb); have n2_ := Aside0.mk (below_then (by repeat (first | (with_reducible first | exact HB.out | apply below_alloc | apply pw_below_drewN | apply below_drew1 | apply below_gset))) (Nat.le_of_lt (blk_lt (g := g) (by ((with_reducible repeat (first | refine blk_drewN ?_ _ | refine blk_drew ?_ | refine blk_alloc ?_ _)); first | exact BK.out | (apply blk3; (with_reducible repeat (first | refine blk_drewN ?_ _ | refine blk_drew ?_ | refine blk_alloc ?_ _)); exact BK.out))))) hb); clear BK BX HB; have BK := n0_; have BX := n1_; have HB := n2_; clear n0_ n1_ n2_ hb; have hk_3 := (blk_cell BK.out 3); have hfk := blk_frozen BK.out 3; have hb4_0 := (blk_cell BX.out 0); have hb4_1 := (blk_cell BX.out 1); have hf4_0 := blk_frozen BX.out 0; have hf4_1 := blk_frozen BX.out 1))
        · skip
          refine start_cell (w := w) (g := g) (cs := #[.int .i64 (wrap64 (c0 + 1)), .int .i64 (wrap64 (c1 + 1)), .int .i64 c2, .int .i64 c3, .int .i64 c4, .int .i64 c5, .int .i64 c6, .int .i64 c7, .int .i64 c8, .int .i64 c9, .int .i64 c10, .int .i64 c11]) (i := 6) (j := 10) (u := .int .i64 (c6)) (v := .int .i64 (c10)) (n := 19) (ds := [15, 18]) #[false, false, false, false, false, false, false, false, false, false, false, false, false, false, false, false, false, false, false] (by kernel_rfl) rfl rfl (by repeat (first | (with_reducible first | exact HB.out | apply below_alloc | apply pw_below_drewN | apply below_drew1 | apply below_gset))) (by ((with_reducible repeat (first | refine blk_drewN ?_ _ | refine blk_drew ?_ | refine blk_alloc ?_ _)); first | exact BK.out | (apply blk3; (with_reducible repeat (first | refine blk_drewN ?_ _ | refine blk_drew ?_ | refine blk_alloc ?_ _)); exact BK.out))) rfl rfl (fun V3 HBv BKv hall hHeld => ?_)
          have BXv := hall gb _ (by ((with_reducible repeat (first | refine blk_drewN ?_ _ | refine blk_drew ?_ | refine blk_alloc ?_ _ | refine blk_far ?_ (Ne.symm hne) _)); first | exact BX.out | (refine blk_far ?_ (Ne.symm hne) _; (with_reducible repeat (first | refine blk_drewN ?_ _ | refine blk_drew ?_ | refine blk_alloc ?_ _)); exact BX.out)))
          clear HB BK BX hall
          have HB := Aside0.mk HBv
          have BK := Aside0.mk BKv
          have BX := Aside0.mk BXv
          clear HBv BKv BXv
          refine with_tabW count_tab12 count_bits12 (fun HT_ HW_ => ?_)
          refine pure_ (i := 0) (N := some 69) (v := ?_) (a' := ?_) #[true, false, false, false, false, false, false, false, false, false, false, false, false, false, false, false, false, false, false] rfl rfl (any_of HT_.out (by kernel_rfl)) (fun _ _ _ h => h) (Or.inl ⟨by rfl, ?_⟩) ?_ ?_
          rotate_left
          · intro w'
            go_simp
            with_reducible rfl
          rotate_left
          · simp only [Act.put, List.setIfInBounds_toArray, List.set_cons_zero, List.set_cons_succ, i64_w, i32_w]
            rfl
          refine pure_ (i := 1) (N := some 70) (v := ?_) (a' := ?_) #[true, true, false, false, false, false, false, false, false, false, false, false, false, false, false, false, false, false, false] rfl rfl (any_of HT_.out (by kernel_rfl)) (fun _ _ _ h => h) (Or.inl ⟨by rfl, ?_⟩) ?_ ?_
          rotate_left
          · intro w'
            go_simp
            with_reducible rfl
          rotate_left
          · simp only [Act.put, List.setIfInBounds_toArray, List.set_cons_zero, List.set_cons_succ, i64_w, i32_w]
            rfl
          refine pure_ (i := 2) (N := some 71) (v := ?_) (a' := ?_) #[true, true, true, false, false, false, false, false, false, false, false, false, false, false, false, false, false, false, false] rfl rfl (any_of HT_.out (by kernel_rfl)) (fun _ _ _ h => h) (Or.inl ⟨by rfl, ?_⟩) ?_ ?_
          rotate_left
          · intro w'
            go_simp
            with_reducible rfl
          rotate_left
          · simp only [Act.put, List.setIfInBounds_toArray, List.set_cons_zero, List.set_cons_succ, i64_w, i32_w]
            rfl
          refine pure_ (i := 3) (N := some 72) (v := ?_) (a' := ?_) #[true, true, true, true, false, false, false, false, false, false, false, false, false, false, false, false, false, false, false] rfl rfl (any_of HT_.out (by kernel_rfl)) (fun _ _ _ h => h) (Or.inl ⟨by rfl, ?_⟩) ?_ ?_
          rotate_left
          · intro w'
            go_simp
            with_reducible rfl
          rotate_left
          · simp only [Act.put, List.setIfInBounds_toArray, List.set_cons_zero, List.set_cons_succ, i64_w, i32_w]
            rfl
          refine pure_ (i := 4) (N := some 73) (v := ?_) (a' := ?_) #[true, true, true, true, true, false, false, false, false, false, false, false, false, false, false, false, false, false, false] rfl rfl (any_of HT_.out (by kernel_rfl)) (fun _ _ _ h => h) (Or.inl ⟨by rfl, ?_⟩) ?_ ?_
          rotate_left
          · intro w'
            go_simp
            with_reducible rfl
          rotate_left
          · simp only [Act.put, List.setIfInBounds_toArray, List.set_cons_zero, List.set_cons_succ, i64_w, i32_w]
            rfl
          refine take_ (i := 5) (N := some 74) (v := ?_) (a' := ?_) #[true, true, true, true, true, true, false, false, false, false, false, false, false, false, false, false, false, false, false] rfl rfl (take_ofW HT_.out HW_.out (by kernel_rfl)) (fun _ _ _ h => h) (Or.inl ⟨by rfl, ?_⟩) hHeld ?_ ?_
          rotate_left
          · rintro w' ⟨s0, s1⟩
            go_simp
            with_reducible rfl
          rotate_left
          · simp only [Act.put, List.setIfInBounds_toArray, List.set_cons_zero, List.set_cons_succ, i64_w, i32_w]
            rfl
          refine pure_ (i := 6) (N := some 75) (v := ?_) (a' := ?_) #[true, true, true, true, true, true, true, false, false, false, false, false, false, false, false, false, false, false, false] rfl rfl (any_of HT_.out (by kernel_rfl)) (fun _ _ _ h => h) (Or.inl ⟨by rfl, ?_⟩) ?_ ?_
          rotate_left
          · intro w'
            go_simp
            with_reducible rfl
          rotate_left
          · simp only [Act.put, List.setIfInBounds_toArray, List.set_cons_zero, List.set_cons_succ, i64_w, i32_w]
            rfl
          refine pure_ (i := 7) (N := some 76) (v := ?_) (a' := ?_) #[true, true, true, true, true, true, true, true, false, false, false, false, false, false, false, false, false, false, false] rfl rfl (any_of HT_.out (by kernel_rfl)) (fun _ _ _ h => h) (Or.inl ⟨by rfl, ?_⟩) ?_ ?_
          rotate_left
          · intro w'
            go_simp
            with_reducible rfl
          rotate_left
          · simp only [Act.put, List.setIfInBounds_toArray, List.set_cons_zero, List.set_cons_succ, i64_w, i32_w]
            rfl
          refine pure_ (i := 8) (N := some 77) (v := ?_) (a' := ?_) #[true, true, true, true, true, true, true, true, true, false, false, false, false, false, false, false, false, false, false] rfl rfl (any_of HT_.out (by kernel_rfl)) (fun _ _ _ h => h) (Or.inl ⟨by rfl, ?_⟩) ?_ ?_
          rotate_left
          · intro w'
            go_simp
            with_reducible rfl
          rotate_left
          · simp only [Act.put, List.setIfInBounds_toArray, List.set_cons_zero, List.set_cons_succ, i64_w, i32_w]
            rfl
          refine pure_ (i := 9) (N := some 78) (v := ?_) (a' := ?_) #[true, true, true, true, true, true, true, true, true, true, false, false, false, false, false, false, false, false, false] rfl rfl (any_of HT_.out (by kernel_rfl)) (fun _ _ _ h => h) (Or.inl ⟨by rfl, ?_⟩) ?_ ?_
          rotate_left
          · intro w'
            go_simp
            with_reducible rfl
          rotate_left
          · simp only [Act.put, List.setIfInBounds_toArray, List.set_cons_zero, List.set_cons_succ, i64_w, i32_w]
            rfl
          refine take_ (i := 10) (N := some 79) (v := ?_) (a' := ?_) #[true, true, true, true, true, true, true, true, true, true, true, false, false, false, false, false, false, false, false] rfl rfl (take_ofW HT_.out HW_.out (by kernel_rfl)) (fun _ _ _ h => h) (Or.inl ⟨by rfl, ?_⟩) hHeld ?_ ?_
          rotate_left
          · rintro w' ⟨s0, s1⟩
            go_simp
            with_reducible rfl
          rotate_left
          · simp only [Act.put, List.setIfInBounds_toArray, List.set_cons_zero, List.set_cons_succ, i64_w, i32_w]
            rfl
          refine pure_ (i := 11) (N := some 80) (v := ?_) (a' := ?_) #[true, true, true, true, true, true, true, true, true, true, true, true, false, false, false, false, false, false, false] rfl rfl (any_of HT_.out (by kernel_rfl)) (fun _ _ _ h => h) (Or.inl ⟨by rfl, ?_⟩) ?_ ?_
          rotate_left
          · intro w'
            go_simp
            with_reducible rfl
          rotate_left
          · simp only [Act.put, List.setIfInBounds_toArray, List.set_cons_zero, List.set_cons_succ, i64_w, i32_w]
            rfl
          refine pure_ (i := 12) (N := some 81) (v := ?_) (a' := ?_) #[true, true, true, true, true, true, true, true, true, true, true, true, true, false, false, false, false, false, false] rfl rfl (any_of HT_.out (by kernel_rfl)) (fun _ _ _ h => h) (Or.inl ⟨by rfl, ?_⟩) ?_ ?_
          rotate_left
          · intro w'
            go_simp
            with_reducible rfl
          rotate_left
          · simp only [Act.put, List.setIfInBounds_toArray, List.set_cons_zero, List.set_cons_succ, i64_w, i32_w]
            rfl
          refine pure_ (i := 13) (N := some 82) (v := ?_) (a' := ?_) #[true, true, true, true, true, true, true, true, true, true, true, true, true, true, false, false, false, false, false] rfl rfl (any_of HT_.out (by kernel_rfl)) (fun _ _ _ h => h) (Or.inl ⟨by rfl, ?_⟩) ?_ ?_
          rotate_left
          · intro w'
            go_simp
            with_reducible rfl
          rotate_left
          · simp only [Act.put, List.setIfInBounds_toArray, List.set_cons_zero, List.set_cons_succ, i64_w, i32_w]
            rfl
          refine pure_ (i := 14) (N := some 83) (v := ?_) (a' := ?_) #[true, true, true, true, true, true, true, true, true, true, true, true, true, true, true, false, false, false, false] rfl rfl (any_of HT_.out (by kernel_rfl)) (fun _ _ _ h => h) (Or.inl ⟨by rfl, ?_⟩) ?_ ?_
          rotate_left
          · intro w'
            go_simp
            with_reducible rfl
          rotate_left
          · simp only [Act.put, List.setIfInBounds_toArray, List.set_cons_zero, List.set_cons_succ, i64_w, i32_w]
            rfl
          clear hHeld
          refine last_ (i := 15) (N := none) #[true, true, true, true, true, true, true, true, true, true, true, true, true, true, true, true, false, false, false] rfl rfl (one_of HT_.out (by kernel_rfl)) (by decide) (fun K hK => ?_)
          have hs : V3.cell? ⟨g, 6, none⟩ = some (.int .i64 (c6)) := (blk_cell BK.out 6).trans rfl
          have hfs := blk_frozen BK.out 6
          refine skip_ (w1 := V3.setCell ⟨g, 6, none⟩ (.int .i64 (wrap64 (c6 + 1)))) (by rfl) rfl ?_ ?_
          · go_simp
            try rfl
          refine hK.out _ _ ?_
          clear hK K hs hfs
          have n0_ := blk_put (cs' := #[.int .i64 (wrap64 (c0 + 1)), .int .i64 (wrap64 (c1 + 1)), .int .i64 c2, .int .i64 c3, .int .i64 c4, .int .i64 c5, .int .i64 (wrap64 (c6 + 1)), .int .i64 c7, .int .i64 c8, .int .i64 c9, .int .i64 c10, .int .i64 c11]) BK.out 6 (.int .i64 (wrap64 (c6 + 1))) rfl
          have n1_ := Below.setCell (p := ⟨g, 6, none⟩) HB.out (Nat.le_refl g) (.int .i64 (wrap64 (c6 + 1)))
          have n2_ := blk_far (p := ⟨g, 6, none⟩) BX.out (Ne.symm hne) (.int .i64 (wrap64 (c6 + 1)))
          generalize V3.setCell ⟨g, 6, none⟩ (.int .i64 (wrap64 (c6 + 1))) = V3_1 at n0_ n1_ n2_ ⊢
          clear HB BK BX
          have HB := Aside0.mk n1_
          have BK := Aside0.mk n0_
          have BX := Aside0.mk n2_
          clear n0_ n1_ n2_
          refine pure_ (i := 16) (N := some 84) (v := ?_) (a' := ?_) #[true, true, true, true, true, true, true, true, true, true, true, true, true, true, true, true, true, false, false] rfl rfl (any_of HT_.out (by kernel_rfl)) (fun _ _ _ h => h) (Or.inl ⟨by rfl, ?_⟩) ?_ ?_
          rotate_left
          · intro w'
            go_simp
            with_reducible rfl
          rotate_left
          · simp only [Act.put, List.setIfInBounds_toArray, List.set_cons_zero, List.set_cons_succ, i64_w, i32_w]
            rfl
          refine pure_ (i := 17) (N := some 85) (v := ?_) (a' := ?_) #[true, true, true, true, true, true, true, true, true, true, true, true, true, true, true, true, true, true, false] rfl rfl (any_of HT_.out (by kernel_rfl)) (fun _ _ _ h => h) (Or.inl ⟨by rfl, ?_⟩) ?_ ?_
          rotate_left
          · intro w'
            go_simp
            with_reducible rfl
          rotate_left
          · simp only [Act.put, List.setIfInBounds_toArray, List.set_cons_zero, List.set_cons_succ, i64_w, i32_w]
            rfl
          refine last_ (i := 18) (N := none) #[true, true, true, true, true, true, true, true, true, true, true, true, true, true, true, true, true, true, true] rfl rfl (one_of HT_.out (by kernel_rfl)) (by decide) (fun K hK => ?_)
          have hs : V3_1.cell? ⟨g, 10, none⟩ = some (.int .i64 (c10)) := (blk_cell BK.out 10).trans rfl
          have hfs := blk_frozen BK.out 10
          refine skip_ (w1 := V3_1.setCell ⟨g, 10, none⟩ (.int .i64 (wrap64 (c10 + n)))) (by rfl) rfl ?_ ?_
          · go_simp
            try rfl
          refine hK.out _ _ ?_
          clear hK K hs hfs
          have n0_ := blk_put (cs' := #[.int .i64 (wrap64 (c0 + 1)), .int .i64 (wrap64 (c1 + 1)), .int .i64 c2, .int .i64 c3, .int .i64 c4, .int .i64 c5, .int .i64 (wrap64 (c6 + 1)), .int .i64 c7, .int .i64 c8, .int .i64 c9, .int .i64 (wrap64 (c10 + n)), .int .i64 c11]) BK.out 10 (.int .i64 (wrap64 (c10 + n))) rfl
          have n1_ := Below.setCell (p := ⟨g, 10, none⟩) HB.out (Nat.le_refl g) (.int .i64 (wrap64 (c10 + n)))
          have n2_ := blk_far (p := ⟨g, 10, none⟩) BX.out (Ne.symm hne) (.int .i64 (wrap64 (c10 + n)))
          generalize V3_1.setCell ⟨g, 10, none⟩ (.int .i64 (wrap64 (c10 + n))) = V3_2 at n0_ n1_ n2_ ⊢
          clear HB BK BX
          have HB := Aside0.mk n1_
          have BK := Aside0.mk n0_
          have BX := Aside0.mk n2_
          clear n0_ n1_ n2_
          refine done_ (done_of HT_.out (by kernel_rfl)) ?_
          clear HT_ HW_
          have hb4_0 := (blk_cell BX.out 0)
          have hb4_1 := (blk_cell BX.out 1)
          have hf4_0 := blk_frozen BX.out 0
          have hf4_1 := blk_frozen BX.out 1
          try go_wp2
          (try simp only [Exit.inBlock, Exit.then])
          first | refine bodyPost_ret (results_none rfl _ _ _) rfl ?_ | refine bodyPost_end (results_none rfl _ _ _) rfl ?_
          refine ⟨rfl, by repeat (first | (with_reducible first | exact HB.out | apply below_alloc | apply pw_below_drewN | apply below_drew1 | apply below_gset)), ?_⟩
          show _ = some (Obj.cells #[.int .i64 (wrap64 (c0 + 1)), .int .i64 (wrap64 (c1 + 1)), .int .i64 c2, .int .i64 c3, .int .i64 c4, .int .i64 c5, .int .i64 (wrap64 (c6 + 1)), .int .i64 c7, .int .i64 c8, .int .i64 c9, .int .i64 (wrap64 (c10 + n)), .int .i64 c11] 60 (0, 0))
          ((with_reducible repeat (first | refine blk_drewN ?_ _ | refine blk_drew ?_ | refine blk_alloc ?_ _)); first | exact BK.out | (apply blk3; (with_reducible repeat (first | refine blk_drewN ?_ _ | refine blk_drew ?_ | refine blk_alloc ?_ _)); exact BK.out))
        · skip
          refine start_cell (w := w) (g := g) (cs := #[.int .i64 (wrap64 (c0 + 1)), .int .i64 (wrap64 (c1 + 1)), .int .i64 c2, .int .i64 c3, .int .i64 c4, .int .i64 c5, .int .i64 c6, .int .i64 c7, .int .i64 c8, .int .i64 c9, .int .i64 c10, .int .i64 c11]) (i := 4) (j := 8) (u := .int .i64 (c4)) (v := .int .i64 (c8)) (n := 19) (ds := [15, 18]) #[false, false, false, false, false, false, false, false, false, false, false, false, false, false, false, false, false, false, false] (by kernel_rfl) rfl rfl (by repeat (first | (with_reducible first | exact HB.out | apply below_alloc | apply pw_below_drewN | apply below_drew1 | apply below_gset))) (by ((with_reducible repeat (first | refine blk_drewN ?_ _ | refine blk_drew ?_ | refine blk_alloc ?_ _)); first | exact BK.out | (apply blk3; (with_reducible repeat (first | refine blk_drewN ?_ _ | refine blk_drew ?_ | refine blk_alloc ?_ _)); exact BK.out))) rfl rfl (fun V4 HBv BKv hall hHeld => ?_)
          have BXv := hall gb _ (by ((with_reducible repeat (first | refine blk_drewN ?_ _ | refine blk_drew ?_ | refine blk_alloc ?_ _ | refine blk_far ?_ (Ne.symm hne) _)); first | exact BX.out | (refine blk_far ?_ (Ne.symm hne) _; (with_reducible repeat (first | refine blk_drewN ?_ _ | refine blk_drew ?_ | refine blk_alloc ?_ _)); exact BX.out)))
          clear HB BK BX hall
          have HB := Aside0.mk HBv
          have BK := Aside0.mk BKv
          have BX := Aside0.mk BXv
          clear HBv BKv BXv
          refine with_tabW count_tab16 count_bits16 (fun HT_ HW_ => ?_)
          refine pure_ (i := 0) (N := some 110) (v := ?_) (a' := ?_) #[true, false, false, false, false, false, false, false, false, false, false, false, false, false, false, false, false, false, false] rfl rfl (any_of HT_.out (by kernel_rfl)) (fun _ _ _ h => h) (Or.inl ⟨by rfl, ?_⟩) ?_ ?_
          rotate_left
          · intro w'
            go_simp
            with_reducible rfl
          rotate_left
          · simp only [Act.put, List.setIfInBounds_toArray, List.set_cons_zero, List.set_cons_succ, i64_w, i32_w]
            rfl
          refine pure_ (i := 1) (N := some 111) (v := ?_) (a' := ?_) #[true, true, false, false, false, false, false, false, false, false, false, false, false, false, false, false, false, false, false] rfl rfl (any_of HT_.out (by kernel_rfl)) (fun _ _ _ h => h) (Or.inl ⟨by rfl, ?_⟩) ?_ ?_
          rotate_left
          · intro w'
            go_simp
            with_reducible rfl
          rotate_left
          · simp only [Act.put, List.setIfInBounds_toArray, List.set_cons_zero, List.set_cons_succ, i64_w, i32_w]
            rfl
          refine pure_ (i := 2) (N := some 112) (v := ?_) (a' := ?_) #[true, true, true, false, false, false, false, false, false, false, false, false, false, false, false, false, false, false, false] rfl rfl (any_of HT_.out (by kernel_rfl)) (fun _ _ _ h => h) (Or.inl ⟨by rfl, ?_⟩) ?_ ?_
          rotate_left
          · intro w'
            go_simp
            with_reducible rfl
          rotate_left
          · simp only [Act.put, List.setIfInBounds_toArray, List.set_cons_zero, List.set_cons_succ, i64_w, i32_w]
            rfl
          refine pure_ (i := 3) (N := some 113) (v := ?_) (a' := ?_) #[true, true, true, true, false, false, false, false, false, false, false, false, false, false, false, false, false, false, false] rfl rfl (any_of HT_.out (by kernel_rfl)) (fun _ _ _ h => h) (Or.inl ⟨by rfl, ?_⟩) ?_ ?_
          rotate_left
          · intro w'
            go_simp
            with_reducible rfl
          rotate_left
          · simp only [Act.put, List.setIfInBounds_toArray, List.set_cons_zero, List.set_cons_succ, i64_w, i32_w]
            rfl
          refine pure_ (i := 4) (N := some 114) (v := ?_) (a' := ?_) #[true, true, true, true, true, false, false, false, false, false, false, false, false, false, false, false, false, false, false] rfl rfl (any_of HT_.out (by kernel_rfl)) (fun _ _ _ h => h) (Or.inl ⟨by rfl, ?_⟩) ?_ ?_
          rotate_left
          · intro w'
            go_simp
            with_reducible rfl
          rotate_left
          · simp only [Act.put, List.setIfInBounds_toArray, List.set_cons_zero, List.set_cons_succ, i64_w, i32_w]
            rfl
          refine take_ (i := 5) (N := some 115) (v := ?_) (a' := ?_) #[true, true, true, true, true, true, false, false, false, false, false, false, false, false, false, false, false, false, false] rfl rfl (take_ofW HT_.out HW_.out (by kernel_rfl)) (fun _ _ _ h => h) (Or.inl ⟨by rfl, ?_⟩) hHeld ?_ ?_
          rotate_left
          · rintro w' ⟨s0, s1⟩
            go_simp
            with_reducible rfl
          rotate_left
          · simp only [Act.put, List.setIfInBounds_toArray, List.set_cons_zero, List.set_cons_succ, i64_w, i32_w]
            rfl
          refine pure_ (i := 6) (N := some 116) (v := ?_) (a' := ?_) #[true, true, true, true, true, true, true, false, false, false, false, false, false, false, false, false, false, false, false] rfl rfl (any_of HT_.out (by kernel_rfl)) (fun _ _ _ h => h) (Or.inl ⟨by rfl, ?_⟩) ?_ ?_
          rotate_left
          · intro w'
            go_simp
            with_reducible rfl
          rotate_left
          · simp only [Act.put, List.setIfInBounds_toArray, List.set_cons_zero, List.set_cons_succ, i64_w, i32_w]
            rfl
          refine pure_ (i := 7) (N := some 117) (v := ?_) (a' := ?_) #[true, true, true, true, true, true, true, true, false, false, false, false, false, false, false, false, false, false, false] rfl rfl (any_of HT_.out (by kernel_rfl)) (fun _ _ _ h => h) (Or.inl ⟨by rfl, ?_⟩) ?_ ?_
          rotate_left
          · intro w'
            go_simp
            with_reducible rfl
          rotate_left
          · simp only [Act.put, List.setIfInBounds_toArray, List.set_cons_zero, List.set_cons_succ, i64_w, i32_w]
            rfl
          refine pure_ (i := 8) (N := some 118) (v := ?_) (a' := ?_) #[true, true, true, true, true, true, true, true, true, false, false, false, false, false, false, false, false, false, false] rfl rfl (any_of HT_.out (by kernel_rfl)) (fun _ _ _ h => h) (Or.inl ⟨by rfl, ?_⟩) ?_ ?_
          rotate_left
          · intro w'
            go_simp
            with_reducible rfl
          rotate_left
          · simp only [Act.put, List.setIfInBounds_toArray, List.set_cons_zero, List.set_cons_succ, i64_w, i32_w]
            rfl
          refine pure_ (i := 9) (N := some 119) (v := ?_) (a' := ?_) #[true, true, true, true, true, true, true, true, true, true, false, false, false, false, false, false, false, false, false] rfl rfl (any_of HT_.out (by kernel_rfl)) (fun _ _ _ h => h) (Or.inl ⟨by rfl, ?_⟩) ?_ ?_
          rotate_left
          · intro w'
            go_simp
            with_reducible rfl
          rotate_left
          · simp only [Act.put, List.setIfInBounds_toArray, List.set_cons_zero, List.set_cons_succ, i64_w, i32_w]
            rfl
          refine take_ (i := 10) (N := some 120) (v := ?_) (a' := ?_) #[true, true, true, true, true, true, true, true, true, true, true, false, false, false, false, false, false, false, false] rfl rfl (take_ofW HT_.out HW_.out (by kernel_rfl)) (fun _ _ _ h => h) (Or.inl ⟨by rfl, ?_⟩) hHeld ?_ ?_
          rotate_left
          · rintro w' ⟨s0, s1⟩
            go_simp
            with_reducible rfl
          rotate_left
          · simp only [Act.put, List.setIfInBounds_toArray, List.set_cons_zero, List.set_cons_succ, i64_w, i32_w]
            rfl
          refine pure_ (i := 11) (N := some 121) (v := ?_) (a' := ?_) #[true, true, true, true, true, true, true, true, true, true, true, true, false, false, false, false, false, false, false] rfl rfl (any_of HT_.out (by kernel_rfl)) (fun _ _ _ h => h) (Or.inl ⟨by rfl, ?_⟩) ?_ ?_
          rotate_left
          · intro w'
            go_simp
            with_reducible rfl
          rotate_left
          · simp only [Act.put, List.setIfInBounds_toArray, List.set_cons_zero, List.set_cons_succ, i64_w, i32_w]
            rfl
          refine pure_ (i := 12) (N := some 122) (v := ?_) (a' := ?_) #[true, true, true, true, true, true, true, true, true, true, true, true, true, false, false, false, false, false, false] rfl rfl (any_of HT_.out (by kernel_rfl)) (fun _ _ _ h => h) (Or.inl ⟨by rfl, ?_⟩) ?_ ?_
          rotate_left
          · intro w'
            go_simp
            with_reducible rfl
          rotate_left
          · simp only [Act.put, List.setIfInBounds_toArray, List.set_cons_zero, List.set_cons_succ, i64_w, i32_w]
            rfl
          refine pure_ (i := 13) (N := some 123) (v := ?_) (a' := ?_) #[true, true, true, true, true, true, true, true, true, true, true, true, true, true, false, false, false, false, false] rfl rfl (any_of HT_.out (by kernel_rfl)) (fun _ _ _ h => h) (Or.inl ⟨by rfl, ?_⟩) ?_ ?_
          rotate_left
          · intro w'
            go_simp
            with_reducible rfl
          rotate_left
          · simp only [Act.put, List.setIfInBounds_toArray, List.set_cons_zero, List.set_cons_succ, i64_w, i32_w]
            rfl
          refine pure_ (i := 14) (N := some 124) (v := ?_) (a' := ?_) #[true, true, true, true, true, true, true, true, true, true, true, true, true, true, true, false, false, false, false] rfl rfl (any_of HT_.out (by kernel_rfl)) (fun _ _ _ h => h) (Or.inl ⟨by rfl, ?_⟩) ?_ ?_
          rotate_left
          · intro w'
            go_simp
            with_reducible rfl
          rotate_left
          · simp only [Act.put, List.setIfInBounds_toArray, List.set_cons_zero, List.set_cons_succ, i64_w, i32_w]
            rfl
          clear hHeld
          refine last_ (i := 15) (N := none) #[true, true, true, true, true, true, true, true, true, true, true, true, true, true, true, true, false, false, false] rfl rfl (one_of HT_.out (by kernel_rfl)) (by decide) (fun K hK => ?_)
          have hs : V4.cell? ⟨g, 4, none⟩ = some (.int .i64 (c4)) := (blk_cell BK.out 4).trans rfl
          have hfs := blk_frozen BK.out 4
          refine skip_ (w1 := V4.setCell ⟨g, 4, none⟩ (.int .i64 (wrap64 (c4 + 1)))) (by rfl) rfl ?_ ?_
          · go_simp
            try rfl
          refine hK.out _ _ ?_
          clear hK K hs hfs
          have n0_ := blk_put (cs' := #[.int .i64 (wrap64 (c0 + 1)), .int .i64 (wrap64 (c1 + 1)), .int .i64 c2, .int .i64 c3, .int .i64 (wrap64 (c4 + 1)), .int .i64 c5, .int .i64 c6, .int .i64 c7, .int .i64 c8, .int .i64 c9, .int .i64 c10, .int .i64 c11]) BK.out 4 (.int .i64 (wrap64 (c4 + 1))) rfl
          have n1_ := Below.setCell (p := ⟨g, 4, none⟩) HB.out (Nat.le_refl g) (.int .i64 (wrap64 (c4 + 1)))
          have n2_ := blk_far (p := ⟨g, 4, none⟩) BX.out (Ne.symm hne) (.int .i64 (wrap64 (c4 + 1)))
          generalize V4.setCell ⟨g, 4, none⟩ (.int .i64 (wrap64 (c4 + 1))) = V4_1 at n0_ n1_ n2_ ⊢
          clear HB BK BX
          have HB := Aside0.mk n1_
          have BK := Aside0.mk n0_
          have BX := Aside0.mk n2_
          clear n0_ n1_ n2_
          refine pure_ (i := 16) (N := some 125) (v := ?_) (a' := ?_) #[true, true, true, true, true, true, true, true, true, true, true, true, true, true, true, true, true, false, false] rfl rfl (any_of HT_.out (by kernel_rfl)) (fun _ _ _ h => h) (Or.inl ⟨by rfl, ?_⟩) ?_ ?_
          rotate_left
          · intro w'
            go_simp
            with_reducible rfl
          rotate_left
          · simp only [Act.put, List.setIfInBounds_toArray, List.set_cons_zero, List.set_cons_succ, i64_w, i32_w]
            rfl
          refine pure_ (i := 17) (N := some 126) (v := ?_) (a' := ?_) #[true, true, true, true, true, true, true, true, true, true, true, true, true, true, true, true, true, true, false] rfl rfl (any_of HT_.out (by kernel_rfl)) (fun _ _ _ h => h) (Or.inl ⟨by rfl, ?_⟩) ?_ ?_
          rotate_left
          · intro w'
            go_simp
            with_reducible rfl
          rotate_left
          · simp only [Act.put, List.setIfInBounds_toArray, List.set_cons_zero, List.set_cons_succ, i64_w, i32_w]
            rfl
          refine last_ (i := 18) (N := none) #[true, true, true, true, true, true, true, true, true, true, true, true, true, true, true, true, true, true, true] rfl rfl (one_of HT_.out (by kernel_rfl)) (by decide) (fun K hK => ?_)
          have hs : V4_1.cell? ⟨g, 8, none⟩ = some (.int .i64 (c8)) := (blk_cell BK.out 8).trans rfl
          have hfs := blk_frozen BK.out 8
          refine skip_ (w1 := V4_1.setCell ⟨g, 8, none⟩ (.int .i64 (wrap64 (c8 + n)))) (by rfl) rfl ?_ ?_
          · go_simp
            try rfl
          refine hK.out _ _ ?_
          clear hK K hs hfs
          have n0_ := blk_put (cs' := #[.int .i64 (wrap64 (c0 + 1)), .int .i64 (wrap64 (c1 + 1)), .int .i64 c2, .int .i64 c3, .int .i64 (wrap64 (c4 + 1)), .int .i64 c5, .int .i64 c6, .int .i64 c7, .int .i64 (wrap64 (c8 + n)), .int .i64 c9, .int .i64 c10, .int .i64 c11]) BK.out 8 (.int .i64 (wrap64 (c8 + n))) rfl
          have n1_ := Below.setCell (p := ⟨g, 8, none⟩) HB.out (Nat.le_refl g) (.int .i64 (wrap64 (c8 + n)))
          have n2_ := blk_far (p := ⟨g, 8, none⟩) BX.out (Ne.symm hne) (.int .i64 (wrap64 (c8 + n)))
          generalize V4_1.setCell ⟨g, 8, none⟩ (.int .i64 (wrap64 (c8 + n))) = V4_2 at n0_ n1_ n2_ ⊢
          clear HB BK BX
          have HB := Aside0.mk n1_
          have BK := Aside0.mk n0_
          have BX := Aside0.mk n2_
          clear n0_ n1_ n2_
          refine done_ (done_of HT_.out (by kernel_rfl)) ?_
          clear HT_ HW_
          have hb4_0 := (blk_cell BX.out 0)
          have hb4_1 := (blk_cell BX.out 1)
          have hf4_0 := blk_frozen BX.out 0
          have hf4_1 := blk_frozen BX.out 1
          try go_wp2
          (try simp only [Exit.inBlock, Exit.then])
          first | refine bodyPost_ret (results_none rfl _ _ _) rfl ?_ | refine bodyPost_end (results_none rfl _ _ _) rfl ?_
          refine ⟨rfl, by repeat (first | (with_reducible first | exact HB.out | apply below_alloc | apply pw_below_drewN | apply below_drew1 | apply below_gset)), ?_⟩
          show _ = some (Obj.cells #[.int .i64 (wrap64 (c0 + 1)), .int .i64 (wrap64 (c1 + 1)), .int .i64 c2, .int .i64 c3, .int .i64 (wrap64 (c4 + 1)), .int .i64 c5, .int .i64 c6, .int .i64 c7, .int .i64 (wrap64 (c8 + n)), .int .i64 c9, .int .i64 c10, .int .i64 c11] 60 (0, 0))
          ((with_reducible repeat (first | refine blk_drewN ?_ _ | refine blk_drew ?_ | refine blk_alloc ?_ _)); first | exact BK.out | (apply blk3; (with_reducible repeat (first | refine blk_drewN ?_ _ | refine blk_drew ?_ | refine blk_alloc ?_ _)); exact BK.out))
    · cases yes
      · go_enter Try.func46, Try.ntmps46
        go_wp2_with (first | ((with_reducible refine gate_dst (N := 4) rfl ?_); refine box_event ?hg (N := 4) ?hd (cs := #[.string m, .slice A l.length c]) (t := 33) ?hr ?_; (case hd => rfl); (case hg => rfl); (case hr => first | (go_simp; done) | (go_simp; rfl)); intro gb hg w4 hbox hb; have hne : g ≠ gb := (by have := blk_lt BK.out; omega); have n0_ := Aside0.mk (blk_below (g := g) (by ((with_reducible repeat (first | refine blk_drewN ?_ _ | refine blk_drew ?_ | refine blk_alloc ?_ _)); first | exact BK.out | (apply blk3; (with_reducible repeat (first | refine blk_drewN ?_ _ | refine blk_drew ?_ | refine blk_alloc ?_ _)); exact BK.out))) hb); have n2_ := Aside0.mk (below_then (by repeat (first | (with_reducible first | exact HB.out | apply below_alloc | apply pw_below_drewN | apply below_drew1 | apply below_gset))) (Nat.le_of_lt (blk_lt (g := g) (by ((with_reducible repeat (first | refine blk_drewN ?_ _ | refine blk_drew ?_ | refine blk_alloc ?_ _)); first | exact BK.out | (apply blk3; (with_reducible repeat (first | refine blk_drewN ?_ _ | refine blk_drew ?_ | refine blk_alloc ?_ _)); exact BK.out))))) hb); clear BK HB; have BK := n0_; have BX := Aside0.mk hbox; have HB := n2_; clear n0_ n2_ hb hbox hg; have hk_3 := (blk_cell BK.out 3); have hfk := blk_frozen BK.out 3; have hb4_0 := (blk_cell BX.out 0); have hb4_1 := (blk_cell BX.out 1); have hf4_0 := blk_frozen BX.out 0; have hf4_1 := blk_frozen BX.out 1) | ((with_reducible refine gate_callee (f := 64) rfl ?_); refine goesL_ (some 11) rfl rfl Try.func64 (by kernel_rfl) rfl #[.agg #[.string m, .slice A l.length c]] rfl (by (try simp only [List.map_toArray, List.map_cons, List.map_nil]); first | done | rfl) ?_; (with_reducible refine (totals_amount.calls k m _ _ l n _ (Kd.C_below HR.out (H0.out.trans (Below.mono (by repeat (first | (with_reducible first | exact HB.out | apply below_alloc | apply pw_below_drewN | apply below_drew1 | apply below_gset))) HG0.out))) hc AA.out).mono ?_); rintro e w' ⟨rfl, hb⟩; refine ⟨_, rfl, ?_⟩; have n0_ := Aside0.mk (blk_below (g := g) (by ((with_reducible repeat (first | refine blk_drewN ?_ _ | refine blk_drew ?_ | refine blk_alloc ?_ _)); first | exact BK.out | (apply blk3; (with_reducible repeat (first | refine blk_drewN ?_ _ | refine blk_drew ?_ | refine blk_alloc ?_ _)); exact BK.out))) hb); have n1_ := Aside0.mk (blk_below (g := gb) (o := .cells #[.string m, .slice A l.length c] 33 (0, 0)) (by ((with_reducible repeat (first | refine blk_drewN ?_ _ | refine blk_drew ?_ | refine blk_alloc ?_ _ | refine blk_far ?_ (Ne.symm hne) _)); first | exact BX.out | (refine blk_far ?_ (Ne.symm hne) _; (with_reducible repeat (first | refine blk_drewN ?_ _ | refine blk_drew ?_ | refine blk_alloc ?_ _)); exact BX.out))) hb); have n2_ := Aside0.mk (below_then (by repeat (first | (with_reducible first | exact HB.out | apply below_alloc | apply pw_below_drewN | apply below_drew1 | apply below_gset))) (Nat.le_of_lt (blk_lt (g := g) (by ((with_reducible repeat (first | refine blk_drewN ?_ _ | refine blk_drew ?_ | refine blk_alloc ?_ _)); first | exact BK.out | (apply blk3; (with_reducible repeat (first | refine blk_drewN ?_ _ | refine blk_drew ?_ | refine blk_alloc ?_ _)); exact BK.out))))) hb); clear BK BX HB; have BK := n0_; have BX := n1_; have HB := n2_; clear n0_ n1_ n2_ hb; have hk_3 := (blk_cell BK.out 3); have hfk := blk_frozen BK.out 3; have hb4_0 := (blk_cell BX.out 0); have hb4_1 := (blk_cell BX.out 1); have hf4_0 := blk_frozen BX.out 0; have hf4_1 := blk_frozen BX.out 1) | ((with_reducible refine gate_callee (f := 38) rfl ?_); refine goesL_ (some 14) rfl rfl Try.func38 (by kernel_rfl) rfl #[.string m] rfl (by (try simp only [List.map_toArray, List.map_cons, List.map_nil]); first | done | rfl) ?_; (with_reducible refine (message_Class.calls k m cl _ AC.out).mono ?_); rintro e w' ⟨rfl, ⟨nd, rfl⟩⟩; refine ⟨_, rfl, ?_⟩) | ((with_reducible refine gate_callee (f := 39) rfl ?_); refine goesL_ (some 20) rfl rfl Try.func39 (by kernel_rfl) rfl #[.string m] rfl (by (try simp only [List.map_toArray, List.map_cons, List.map_nil]); first | done | rfl) ?_; (with_reducible refine (message_Function.calls k m fn _ AF.out).mono ?_); rintro e w' ⟨rfl, ⟨nd, rfl⟩⟩; refine ⟨_, rfl, ?_⟩) | ((with_reducible refine gate_callee (f := 65) rfl ?_); refine goesL_ (some 68) rfl rfl Try.func65 (by kernel_rfl) rfl #[.agg #[.string m, .slice A l.length c]] rfl (by (try simp only [List.map_toArray, List.map_cons, List.map_nil]); first | done | rfl) ?_; (with_reducible refine (totals_credit.calls k m _ _ l _ _ (Kd.C_below HR.out (H0.out.trans (Below.mono (by repeat (first | (with_reducible first | exact HB.out | apply below_alloc | apply pw_below_drewN | apply below_drew1 | apply below_gset))) HG0.out))) hc AR.out).mono ?_); rintro e w' ⟨rfl, hb⟩; refine ⟨_, rfl, ?_⟩; have n0_ := Aside0.mk (blk_below (g := g) (by ((with_reducible repeat (first | refine blk_drewN ?_ _ | refine blk_drew ?_ | refine blk_alloc ?_ _)); first | exact BK.out | (apply blk3; (with_reducible repeat (first | refine blk_drewN ?_ _ | refine blk_drew ?_ | refine blk_alloc ?_ _)); exact BK.out))) hb); have n1_ := Aside0.mk (blk_below (g := gb) (o := .cells #[.string m, .slice A l.length c] 33 (0, 0)) (by ((with_reducible repeat (first | refine blk_drewN ?_ _ | refine blk_drew ?_ | refine blk_alloc ?_ _ | refine blk_far ?_ (Ne.symm hne) _)); first | exact BX.out | (refine blk_far ?_ (Ne.symm hne) _; (with_reducible repeat (first | refine blk_drewN ?_ _ | refine blk_drew ?_ | refine blk_alloc ?_ _)); exact BX.out))) hb); have n2_ := Aside0.mk (below_then (by repeat (first | (with_reducible first | exact HB.out | apply below_alloc | apply pw_below_drewN | apply below_drew1 | apply below_gset))) (Nat.le_of_lt (blk_lt (g := g) (by ((with_reducible repeat (first | refine blk_drewN ?_ _ | refine blk_drew ?_ | refine blk_alloc ?_ _)); first | exact BK.out | (apply blk3; (with_reducible repeat (first | refine blk_drewN ?_ _ | refine blk_drew ?_ | refine blk_alloc ?_ _)); exact BK.out))))) hb); clear BK BX HB; have BK := n0_; have BX := n1_; have HB := n2_; clear n0_ n1_ n2_ hb; have hk_3 := (blk_cell BK.out 3); have hfk := blk_frozen BK.out 3; have hb4_0 := (blk_cell BX.out 0); have hb4_1 := (blk_cell BX.out 1); have hf4_0 := blk_frozen BX.out 0; have hf4_1 := blk_frozen BX.out 1))
        all_goals cases cr
        all_goals (try cases adv)
        all_goals (try simp only [Exit.inBlock, Exit.then])
        all_goals first | refine bodyPost_ret (results_none rfl _ _ _) rfl ?_ | refine bodyPost_end (results_none rfl _ _ _) rfl ?_
        all_goals refine ⟨rfl, by repeat (first | (with_reducible first | exact HB.out | apply below_alloc | apply pw_below_drewN | apply below_drew1 | apply below_gset)), ?_⟩
        all_goals show _ = some (Obj.cells #[.int .i64 c0, .int .i64 c1, .int .i64 c2, .int .i64 (wrap64 (c3 + 1)), .int .i64 c4, .int .i64 c5, .int .i64 c6, .int .i64 c7, .int .i64 c8, .int .i64 c9, .int .i64 c10, .int .i64 c11] 60 (0, 0))
        all_goals ((with_reducible repeat (first | refine blk_drewN ?_ _ | refine blk_drew ?_ | refine blk_alloc ?_ _)); first | exact BK.out | (apply blk3; (with_reducible repeat (first | refine blk_drewN ?_ _ | refine blk_drew ?_ | refine blk_alloc ?_ _)); exact BK.out))
      · cases cr
        all_goals go_enter Try.func46, Try.ntmps46
        all_goals go_wp2_with (first | ((with_reducible refine gate_dst (N := 4) rfl ?_); refine box_event ?hg (N := 4) ?hd (cs := #[.string m, .slice A l.length c]) (t := 33) ?hr ?_; (case hd => rfl); (case hg => rfl); (case hr => first | (go_simp; done) | (go_simp; rfl)); intro gb hg w4 hbox hb; have hne : g ≠ gb := (by have := blk_lt BK.out; omega); have n0_ := Aside0.mk (blk_below (g := g) (by ((with_reducible repeat (first | refine blk_drewN ?_ _ | refine blk_drew ?_ | refine blk_alloc ?_ _)); first | exact BK.out | (apply blk3; (with_reducible repeat (first | refine blk_drewN ?_ _ | refine blk_drew ?_ | refine blk_alloc ?_ _)); exact BK.out))) hb); have n2_ := Aside0.mk (below_then (by repeat (first | (with_reducible first | exact HB.out | apply below_alloc | apply pw_below_drewN | apply below_drew1 | apply below_gset))) (Nat.le_of_lt (blk_lt (g := g) (by ((with_reducible repeat (first | refine blk_drewN ?_ _ | refine blk_drew ?_ | refine blk_alloc ?_ _)); first | exact BK.out | (apply blk3; (with_reducible repeat (first | refine blk_drewN ?_ _ | refine blk_drew ?_ | refine blk_alloc ?_ _)); exact BK.out))))) hb); clear BK HB; have BK := n0_; have BX := Aside0.mk hbox; have HB := n2_; clear n0_ n2_ hb hbox hg; have hk_3 := (blk_cell BK.out 3); have hfk := blk_frozen BK.out 3; have hb4_0 := (blk_cell BX.out 0); have hb4_1 := (blk_cell BX.out 1); have hf4_0 := blk_frozen BX.out 0; have hf4_1 := blk_frozen BX.out 1) | ((with_reducible refine gate_callee (f := 64) rfl ?_); refine goesL_ (some 11) rfl rfl Try.func64 (by kernel_rfl) rfl #[.agg #[.string m, .slice A l.length c]] rfl (by (try simp only [List.map_toArray, List.map_cons, List.map_nil]); first | done | rfl) ?_; (with_reducible refine (totals_amount.calls k m _ _ l n _ (Kd.C_below HR.out (H0.out.trans (Below.mono (by repeat (first | (with_reducible first | exact HB.out | apply below_alloc | apply pw_below_drewN | apply below_drew1 | apply below_gset))) HG0.out))) hc AA.out).mono ?_); rintro e w' ⟨rfl, hb⟩; refine ⟨_, rfl, ?_⟩; have n0_ := Aside0.mk (blk_below (g := g) (by ((with_reducible repeat (first | refine blk_drewN ?_ _ | refine blk_drew ?_ | refine blk_alloc ?_ _)); first | exact BK.out | (apply blk3; (with_reducible repeat (first | refine blk_drewN ?_ _ | refine blk_drew ?_ | refine blk_alloc ?_ _)); exact BK.out))) hb); have n1_ := Aside0.mk (blk_below (g := gb) (o := .cells #[.string m, .slice A l.length c] 33 (0, 0)) (by ((with_reducible repeat (first | refine blk_drewN ?_ _ | refine blk_drew ?_ | refine blk_alloc ?_ _ | refine blk_far ?_ (Ne.symm hne) _)); first | exact BX.out | (refine blk_far ?_ (Ne.symm hne) _; (with_reducible repeat (first | refine blk_drewN ?_ _ | refine blk_drew ?_ | refine blk_alloc ?_ _)); exact BX.out))) hb); have n2_ := Aside0.mk (below_then (by repeat (first | (with_reducible first | exact HB.out | apply below_alloc | apply pw_below_drewN | apply below_drew1 | apply below_gset))) (Nat.le_of_lt (blk_lt (g := g) (by ((with_reducible repeat (first | refine blk_drewN ?_ _ | refine blk_drew ?_ | refine blk_alloc ?_ _)); first | exact BK.out | (apply blk3; (with_reducible repeat (first | refine blk_drewN ?_ _ | refine blk_drew ?_ | refine blk_alloc ?_ _)); exact BK.out))))) hb); clear BK BX HB; have BK := n0_; have BX := n1_; have HB := n2_; clear n0_ n1_ n2_ hb; have hk_3 := (blk_cell BK.out 3); have hfk := blk_frozen BK.out 3; have hb4_0 := (blk_cell BX.out 0); have hb4_1 := (blk_cell BX.out 1); have hf4_0 := blk_frozen BX.out 0; have hf4_1 := blk_frozen BX.out 1) | ((with_reducible refine gate_callee (f := 38) rfl ?_); refine goesL_ (some 14) rfl rfl Try.func38 (by kernel_rfl) rfl #[.string m] rfl (by (try simp only [List.map_toArray, List.map_cons, List.map_nil]); first | done | rfl) ?_; (with_reducible refine (message_Class.calls k m cl _ AC.out).mono ?_); rintro e w' ⟨rfl, ⟨nd, rfl⟩⟩; refine ⟨_, rfl, ?_⟩) | ((with_reducible refine gate_callee (f := 39) rfl ?_); refine goesL_ (some 20) rfl rfl Try.func39 (by kernel_rfl) rfl #[.string m] rfl (by (try simp only [List.map_toArray, List.map_cons, List.map_nil]); first | done | rfl) ?_; (with_reducible refine (message_Function.calls k m fn _ AF.out).mono ?_); rintro e w' ⟨rfl, ⟨nd, rfl⟩⟩; refine ⟨_, rfl, ?_⟩) | ((with_reducible refine gate_callee (f := 65) rfl ?_); refine goesL_ (some 68) rfl rfl Try.func65 (by kernel_rfl) rfl #[.agg #[.string m, .slice A l.length c]] rfl (by (try simp only [List.map_toArray, List.map_cons, List.map_nil]); first | done | rfl) ?_; (with_reducible refine (totals_credit.calls k m _ _ l _ _ (Kd.C_below HR.out (H0.out.trans (Below.mono (by repeat (first | (with_reducible first | exact HB.out | apply below_alloc | apply pw_below_drewN | apply below_drew1 | apply below_gset))) HG0.out))) hc AR.out).mono ?_); rintro e w' ⟨rfl, hb⟩; refine ⟨_, rfl, ?_⟩; have n0_ := Aside0.mk (blk_below (g := g) (by ((with_reducible repeat (first | refine blk_drewN ?_ _ | refine blk_drew ?_ | refine blk_alloc ?_ _)); first | exact BK.out | (apply blk3; (with_reducible repeat (first | refine blk_drewN ?_ _ | refine blk_drew ?_ | refine blk_alloc ?_ _)); exact BK.out))) hb); have n1_ := Aside0.mk (blk_below (g := gb) (o := .cells #[.string m, .slice A l.length c] 33 (0, 0)) (by ((with_reducible repeat (first | refine blk_drewN ?_ _ | refine blk_drew ?_ | refine blk_alloc ?_ _ | refine blk_far ?_ (Ne.symm hne) _)); first | exact BX.out | (refine blk_far ?_ (Ne.symm hne) _; (with_reducible repeat (first | refine blk_drewN ?_ _ | refine blk_drew ?_ | refine blk_alloc ?_ _)); exact BX.out))) hb); have n2_ := Aside0.mk (below_then (by repeat (first | (with_reducible first | exact HB.out | apply below_alloc | apply pw_below_drewN | apply below_drew1 | apply below_gset))) (Nat.le_of_lt (blk_lt (g := g) (by ((with_reducible repeat (first | refine blk_drewN ?_ _ | refine blk_drew ?_ | refine blk_alloc ?_ _)); first | exact BK.out | (apply blk3; (with_reducible repeat (first | refine blk_drewN ?_ _ | refine blk_drew ?_ | refine blk_alloc ?_ _)); exact BK.out))))) hb); clear BK BX HB; have BK := n0_; have BX := n1_; have HB := n2_; clear n0_ n1_ n2_ hb; have hk_3 := (blk_cell BK.out 3); have hfk := blk_frozen BK.out 3; have hb4_0 := (blk_cell BX.out 0); have hb4_1 := (blk_cell BX.out 1); have hf4_0 := blk_frozen BX.out 0; have hf4_1 := blk_frozen BX.out 1))
        · skip
          refine start_cell (w := w) (g := g) (cs := #[.int .i64 c0, .int .i64 c1, .int .i64 c2, .int .i64 (wrap64 (c3 + 1)), .int .i64 c4, .int .i64 c5, .int .i64 c6, .int .i64 c7, .int .i64 c8, .int .i64 c9, .int .i64 c10, .int .i64 c11]) (i := 6) (j := 10) (u := .int .i64 (c6)) (v := .int .i64 (c10)) (n := 19) (ds := [15, 18]) #[false, false, false, false, false, false, false, false, false, false, false, false, false, false, false, false, false, false, false] (by kernel_rfl) rfl rfl (by repeat (first | (with_reducible first | exact HB.out | apply below_alloc | apply pw_below_drewN | apply below_drew1 | apply below_gset))) (by ((with_reducible repeat (first | refine blk_drewN ?_ _ | refine blk_drew ?_ | refine blk_alloc ?_ _)); first | exact BK.out | (apply blk3; (with_reducible repeat (first | refine blk_drewN ?_ _ | refine blk_drew ?_ | refine blk_alloc ?_ _)); exact BK.out))) rfl rfl (fun V5 HBv BKv hall hHeld => ?_)
          have BXv := hall gb _ (by ((with_reducible repeat (first | refine blk_drewN ?_ _ | refine blk_drew ?_ | refine blk_alloc ?_ _ | refine blk_far ?_ (Ne.symm hne) _)); first | exact BX.out | (refine blk_far ?_ (Ne.symm hne) _; (with_reducible repeat (first | refine blk_drewN ?_ _ | refine blk_drew ?_ | refine blk_alloc ?_ _)); exact BX.out)))
          clear HB BK BX hall
          have HB := Aside0.mk HBv
          have BK := Aside0.mk BKv
          have BX := Aside0.mk BXv
          clear HBv BKv BXv
          refine with_tabW count_tab12 count_bits12 (fun HT_ HW_ => ?_)
          refine pure_ (i := 0) (N := some 69) (v := ?_) (a' := ?_) #[true, false, false, false, false, false, false, false, false, false, false, false, false, false, false, false, false, false, false] rfl rfl (any_of HT_.out (by kernel_rfl)) (fun _ _ _ h => h) (Or.inl ⟨by rfl, ?_⟩) ?_ ?_
          rotate_left
          · intro w'
            go_simp
            with_reducible rfl
          rotate_left
          · simp only [Act.put, List.setIfInBounds_toArray, List.set_cons_zero, List.set_cons_succ, i64_w, i32_w]
            rfl
          refine pure_ (i := 1) (N := some 70) (v := ?_) (a' := ?_) #[true, true, false, false, false, false, false, false, false, false, false, false, false, false, false, false, false, false, false] rfl rfl (any_of HT_.out (by kernel_rfl)) (fun _ _ _ h => h) (Or.inl ⟨by rfl, ?_⟩) ?_ ?_
          rotate_left
          · intro w'
            go_simp
            with_reducible rfl
          rotate_left
          · simp only [Act.put, List.setIfInBounds_toArray, List.set_cons_zero, List.set_cons_succ, i64_w, i32_w]
            rfl
          refine pure_ (i := 2) (N := some 71) (v := ?_) (a' := ?_) #[true, true, true, false, false, false, false, false, false, false, false, false, false, false, false, false, false, false, false] rfl rfl (any_of HT_.out (by kernel_rfl)) (fun _ _ _ h => h) (Or.inl ⟨by rfl, ?_⟩) ?_ ?_
          rotate_left
          · intro w'
            go_simp
            with_reducible rfl
          rotate_left
          · simp only [Act.put, List.setIfInBounds_toArray, List.set_cons_zero, List.set_cons_succ, i64_w, i32_w]
            rfl
          refine pure_ (i := 3) (N := some 72) (v := ?_) (a' := ?_) #[true, true, true, true, false, false, false, false, false, false, false, false, false, false, false, false, false, false, false] rfl rfl (any_of HT_.out (by kernel_rfl)) (fun _ _ _ h => h) (Or.inl ⟨by rfl, ?_⟩) ?_ ?_
          rotate_left
          · intro w'
            go_simp
            with_reducible rfl
          rotate_left
          · simp only [Act.put, List.setIfInBounds_toArray, List.set_cons_zero, List.set_cons_succ, i64_w, i32_w]
            rfl
          refine pure_ (i := 4) (N := some 73) (v := ?_) (a' := ?_) #[true, true, true, true, true, false, false, false, false, false, false, false, false, false, false, false, false, false, false] rfl rfl (any_of HT_.out (by kernel_rfl)) (fun _ _ _ h => h) (Or.inl ⟨by rfl, ?_⟩) ?_ ?_
          rotate_left
          · intro w'
            go_simp
            with_reducible rfl
          rotate_left
          · simp only [Act.put, List.setIfInBounds_toArray, List.set_cons_zero, List.set_cons_succ, i64_w, i32_w]
            rfl
          refine take_ (i := 5) (N := some 74) (v := ?_) (a' := ?_) #[true, true, true, true, true, true, false, false, false, false, false, false, false, false, false, false, false, false, false] rfl rfl (take_ofW HT_.out HW_.out (by kernel_rfl)) (fun _ _ _ h => h) (Or.inl ⟨by rfl, ?_⟩) hHeld ?_ ?_
          rotate_left
          · rintro w' ⟨s0, s1⟩
            go_simp
            with_reducible rfl
          rotate_left
          · simp only [Act.put, List.setIfInBounds_toArray, List.set_cons_zero, List.set_cons_succ, i64_w, i32_w]
            rfl
          refine pure_ (i := 6) (N := some 75) (v := ?_) (a' := ?_) #[true, true, true, true, true, true, true, false, false, false, false, false, false, false, false, false, false, false, false] rfl rfl (any_of HT_.out (by kernel_rfl)) (fun _ _ _ h => h) (Or.inl ⟨by rfl, ?_⟩) ?_ ?_
          rotate_left
          · intro w'
            go_simp
            with_reducible rfl
          rotate_left
          · simp only [Act.put, List.setIfInBounds_toArray, List.set_cons_zero, List.set_cons_succ, i64_w, i32_w]
            rfl
          refine pure_ (i := 7) (N := some 76) (v := ?_) (a' := ?_) #[true, true, true, true, true, true, true, true, false, false, false, false, false, false, false, false, false, false, false] rfl rfl (any_of HT_.out (by kernel_rfl)) (fun _ _ _ h => h) (Or.inl ⟨by rfl, ?_⟩) ?_ ?_
          rotate_left
          · intro w'
            go_simp
            with_reducible rfl
          rotate_left
          · simp only [Act.put, List.setIfInBounds_toArray, List.set_cons_zero, List.set_cons_succ, i64_w, i32_w]
            rfl
          refine pure_ (i := 8) (N := some 77) (v := ?_) (a' := ?_) #[true, true, true, true, true, true, true, true, true, false, false, false, false, false, false, false, false, false, false] rfl rfl (any_of HT_.out (by kernel_rfl)) (fun _ _ _ h => h) (Or.inl ⟨by rfl, ?_⟩) ?_ ?_
          rotate_left
          · intro w'
            go_simp
            with_reducible rfl
          rotate_left
          · simp only [Act.put, List.setIfInBounds_toArray, List.set_cons_zero, List.set_cons_succ, i64_w, i32_w]
            rfl
          refine pure_ (i := 9) (N := some 78) (v := ?_) (a' := ?_) #[true, true, true, true, true, true, true, true, true, true, false, false, false, false, false, false, false, false, false] rfl rfl (any_of HT_.out (by kernel_rfl)) (fun _ _ _ h => h) (Or.inl ⟨by rfl, ?_⟩) ?_ ?_
          rotate_left
          · intro w'
            go_simp
            with_reducible rfl
          rotate_left
          · simp only [Act.put, List.setIfInBounds_toArray, List.set_cons_zero, List.set_cons_succ, i64_w, i32_w]
            rfl
          refine take_ (i := 10) (N := some 79) (v := ?_) (a' := ?_) #[true, true, true, true, true, true, true, true, true, true, true, false, false, false, false, false, false, false, false] rfl rfl (take_ofW HT_.out HW_.out (by kernel_rfl)) (fun _ _ _ h => h) (Or.inl ⟨by rfl, ?_⟩) hHeld ?_ ?_
          rotate_left
          · rintro w' ⟨s0, s1⟩
            go_simp
            with_reducible rfl
          rotate_left
          · simp only [Act.put, List.setIfInBounds_toArray, List.set_cons_zero, List.set_cons_succ, i64_w, i32_w]
            rfl
          refine pure_ (i := 11) (N := some 80) (v := ?_) (a' := ?_) #[true, true, true, true, true, true, true, true, true, true, true, true, false, false, false, false, false, false, false] rfl rfl (any_of HT_.out (by kernel_rfl)) (fun _ _ _ h => h) (Or.inl ⟨by rfl, ?_⟩) ?_ ?_
          rotate_left
          · intro w'
            go_simp
            with_reducible rfl
          rotate_left
          · simp only [Act.put, List.setIfInBounds_toArray, List.set_cons_zero, List.set_cons_succ, i64_w, i32_w]
            rfl
          refine pure_ (i := 12) (N := some 81) (v := ?_) (a' := ?_) #[true, true, true, true, true, true, true, true, true, true, true, true, true, false, false, false, false, false, false] rfl rfl (any_of HT_.out (by kernel_rfl)) (fun _ _ _ h => h) (Or.inl ⟨by rfl, ?_⟩) ?_ ?_
          rotate_left
          · intro w'
            go_simp
            with_reducible rfl
          rotate_left
          · simp only [Act.put, List.setIfInBounds_toArray, List.set_cons_zero, List.set_cons_succ, i64_w, i32_w]
            rfl
          refine pure_ (i := 13) (N := some 82) (v := ?_) (a' := ?_) #[true, true, true, true, true, true, true, true, true, true, true, true, true, true, false, false, false, false, false] rfl rfl (any_of HT_.out (by kernel_rfl)) (fun _ _ _ h => h) (Or.inl ⟨by rfl, ?_⟩) ?_ ?_
          rotate_left
          · intro w'
            go_simp
            with_reducible rfl
          rotate_left
          · simp only [Act.put, List.setIfInBounds_toArray, List.set_cons_zero, List.set_cons_succ, i64_w, i32_w]
            rfl
          refine pure_ (i := 14) (N := some 83) (v := ?_) (a' := ?_) #[true, true, true, true, true, true, true, true, true, true, true, true, true, true, true, false, false, false, false] rfl rfl (any_of HT_.out (by kernel_rfl)) (fun _ _ _ h => h) (Or.inl ⟨by rfl, ?_⟩) ?_ ?_
          rotate_left
          · intro w'
            go_simp
            with_reducible rfl
          rotate_left
          · simp only [Act.put, List.setIfInBounds_toArray, List.set_cons_zero, List.set_cons_succ, i64_w, i32_w]
            rfl
          clear hHeld
          refine last_ (i := 15) (N := none) #[true, true, true, true, true, true, true, true, true, true, true, true, true, true, true, true, false, false, false] rfl rfl (one_of HT_.out (by kernel_rfl)) (by decide) (fun K hK => ?_)
          have hs : V5.cell? ⟨g, 6, none⟩ = some (.int .i64 (c6)) := (blk_cell BK.out 6).trans rfl
          have hfs := blk_frozen BK.out 6
          refine skip_ (w1 := V5.setCell ⟨g, 6, none⟩ (.int .i64 (wrap64 (c6 + 1)))) (by rfl) rfl ?_ ?_
          · go_simp
            try rfl
          refine hK.out _ _ ?_
          clear hK K hs hfs
          have n0_ := blk_put (cs' := #[.int .i64 c0, .int .i64 c1, .int .i64 c2, .int .i64 (wrap64 (c3 + 1)), .int .i64 c4, .int .i64 c5, .int .i64 (wrap64 (c6 + 1)), .int .i64 c7, .int .i64 c8, .int .i64 c9, .int .i64 c10, .int .i64 c11]) BK.out 6 (.int .i64 (wrap64 (c6 + 1))) rfl
          have n1_ := Below.setCell (p := ⟨g, 6, none⟩) HB.out (Nat.le_refl g) (.int .i64 (wrap64 (c6 + 1)))
          have n2_ := blk_far (p := ⟨g, 6, none⟩) BX.out (Ne.symm hne) (.int .i64 (wrap64 (c6 + 1)))
          generalize V5.setCell ⟨g, 6, none⟩ (.int .i64 (wrap64 (c6 + 1))) = V5_1 at n0_ n1_ n2_ ⊢
          clear HB BK BX
          have HB := Aside0.mk n1_
          have BK := Aside0.mk n0_
          have BX := Aside0.mk n2_
          clear n0_ n1_ n2_
          refine pure_ (i := 16) (N := some 84) (v := ?_) (a' := ?_) #[true, true, true, true, true, true, true, true, true, true, true, true, true, true, true, true, true, false, false] rfl rfl (any_of HT_.out (by kernel_rfl)) (fun _ _ _ h => h) (Or.inl ⟨by rfl, ?_⟩) ?_ ?_
          rotate_left
          · intro w'
            go_simp
            with_reducible rfl
          rotate_left
          · simp only [Act.put, List.setIfInBounds_toArray, List.set_cons_zero, List.set_cons_succ, i64_w, i32_w]
            rfl
          refine pure_ (i := 17) (N := some 85) (v := ?_) (a' := ?_) #[true, true, true, true, true, true, true, true, true, true, true, true, true, true, true, true, true, true, false] rfl rfl (any_of HT_.out (by kernel_rfl)) (fun _ _ _ h => h) (Or.inl ⟨by rfl, ?_⟩) ?_ ?_
          rotate_left
          · intro w'
            go_simp
            with_reducible rfl
          rotate_left
          · simp only [Act.put, List.setIfInBounds_toArray, List.set_cons_zero, List.set_cons_succ, i64_w, i32_w]
            rfl
          refine last_ (i := 18) (N := none) #[true, true, true, true, true, true, true, true, true, true, true, true, true, true, true, true, true, true, true] rfl rfl (one_of HT_.out (by kernel_rfl)) (by decide) (fun K hK => ?_)
          have hs : V5_1.cell? ⟨g, 10, none⟩ = some (.int .i64 (c10)) := (blk_cell BK.out 10).trans rfl
          have hfs := blk_frozen BK.out 10
          refine skip_ (w1 := V5_1.setCell ⟨g, 10, none⟩ (.int .i64 (wrap64 (c10 + n)))) (by rfl) rfl ?_ ?_
          · go_simp
            try rfl
          refine hK.out _ _ ?_
          clear hK K hs hfs
          have n0_ := blk_put (cs' := #[.int .i64 c0, .int .i64 c1, .int .i64 c2, .int .i64 (wrap64 (c3 + 1)), .int .i64 c4, .int .i64 c5, .int .i64 (wrap64 (c6 + 1)), .int .i64 c7, .int .i64 c8, .int .i64 c9, .int .i64 (wrap64 (c10 + n)), .int .i64 c11]) BK.out 10 (.int .i64 (wrap64 (c10 + n))) rfl
          have n1_ := Below.setCell (p := ⟨g, 10, none⟩) HB.out (Nat.le_refl g) (.int .i64 (wrap64 (c10 + n)))
          have n2_ := blk_far (p := ⟨g, 10, none⟩) BX.out (Ne.symm hne) (.int .i64 (wrap64 (c10 + n)))
          generalize V5_1.setCell ⟨g, 10, none⟩ (.int .i64 (wrap64 (c10 + n))) = V5_2 at n0_ n1_ n2_ ⊢
          clear HB BK BX
          have HB := Aside0.mk n1_
          have BK := Aside0.mk n0_
          have BX := Aside0.mk n2_
          clear n0_ n1_ n2_
          refine done_ (done_of HT_.out (by kernel_rfl)) ?_
          clear HT_ HW_
          have hb4_0 := (blk_cell BX.out 0)
          have hb4_1 := (blk_cell BX.out 1)
          have hf4_0 := blk_frozen BX.out 0
          have hf4_1 := blk_frozen BX.out 1
          try go_wp2
          (try simp only [Exit.inBlock, Exit.then])
          first | refine bodyPost_ret (results_none rfl _ _ _) rfl ?_ | refine bodyPost_end (results_none rfl _ _ _) rfl ?_
          refine ⟨rfl, by repeat (first | (with_reducible first | exact HB.out | apply below_alloc | apply pw_below_drewN | apply below_drew1 | apply below_gset)), ?_⟩
          show _ = some (Obj.cells #[.int .i64 c0, .int .i64 c1, .int .i64 c2, .int .i64 (wrap64 (c3 + 1)), .int .i64 c4, .int .i64 c5, .int .i64 (wrap64 (c6 + 1)), .int .i64 c7, .int .i64 c8, .int .i64 c9, .int .i64 (wrap64 (c10 + n)), .int .i64 c11] 60 (0, 0))
          ((with_reducible repeat (first | refine blk_drewN ?_ _ | refine blk_drew ?_ | refine blk_alloc ?_ _)); first | exact BK.out | (apply blk3; (with_reducible repeat (first | refine blk_drewN ?_ _ | refine blk_drew ?_ | refine blk_alloc ?_ _)); exact BK.out))
        · skip
          refine start_cell (w := w) (g := g) (cs := #[.int .i64 c0, .int .i64 c1, .int .i64 c2, .int .i64 (wrap64 (c3 + 1)), .int .i64 c4, .int .i64 c5, .int .i64 c6, .int .i64 c7, .int .i64 c8, .int .i64 c9, .int .i64 c10, .int .i64 c11]) (i := 4) (j := 8) (u := .int .i64 (c4)) (v := .int .i64 (c8)) (n := 19) (ds := [15, 18]) #[false, false, false, false, false, false, false, false, false, false, false, false, false, false, false, false, false, false, false] (by kernel_rfl) rfl rfl (by repeat (first | (with_reducible first | exact HB.out | apply below_alloc | apply pw_below_drewN | apply below_drew1 | apply below_gset))) (by ((with_reducible repeat (first | refine blk_drewN ?_ _ | refine blk_drew ?_ | refine blk_alloc ?_ _)); first | exact BK.out | (apply blk3; (with_reducible repeat (first | refine blk_drewN ?_ _ | refine blk_drew ?_ | refine blk_alloc ?_ _)); exact BK.out))) rfl rfl (fun V6 HBv BKv hall hHeld => ?_)
          have BXv := hall gb _ (by ((with_reducible repeat (first | refine blk_drewN ?_ _ | refine blk_drew ?_ | refine blk_alloc ?_ _ | refine blk_far ?_ (Ne.symm hne) _)); first | exact BX.out | (refine blk_far ?_ (Ne.symm hne) _; (with_reducible repeat (first | refine blk_drewN ?_ _ | refine blk_drew ?_ | refine blk_alloc ?_ _)); exact BX.out)))
          clear HB BK BX hall
          have HB := Aside0.mk HBv
          have BK := Aside0.mk BKv
          have BX := Aside0.mk BXv
          clear HBv BKv BXv
          refine with_tabW count_tab16 count_bits16 (fun HT_ HW_ => ?_)
          refine pure_ (i := 0) (N := some 110) (v := ?_) (a' := ?_) #[true, false, false, false, false, false, false, false, false, false, false, false, false, false, false, false, false, false, false] rfl rfl (any_of HT_.out (by kernel_rfl)) (fun _ _ _ h => h) (Or.inl ⟨by rfl, ?_⟩) ?_ ?_
          rotate_left
          · intro w'
            go_simp
            with_reducible rfl
          rotate_left
          · simp only [Act.put, List.setIfInBounds_toArray, List.set_cons_zero, List.set_cons_succ, i64_w, i32_w]
            rfl
          refine pure_ (i := 1) (N := some 111) (v := ?_) (a' := ?_) #[true, true, false, false, false, false, false, false, false, false, false, false, false, false, false, false, false, false, false] rfl rfl (any_of HT_.out (by kernel_rfl)) (fun _ _ _ h => h) (Or.inl ⟨by rfl, ?_⟩) ?_ ?_
          rotate_left
          · intro w'
            go_simp
            with_reducible rfl
          rotate_left
          · simp only [Act.put, List.setIfInBounds_toArray, List.set_cons_zero, List.set_cons_succ, i64_w, i32_w]
            rfl
          refine pure_ (i := 2) (N := some 112) (v := ?_) (a' := ?_) #[true, true, true, false, false, false, false, false, false, false, false, false, false, false, false, false, false, false, false] rfl rfl (any_of HT_.out (by kernel_rfl)) (fun _ _ _ h => h) (Or.inl ⟨by rfl, ?_⟩) ?_ ?_
          rotate_left
          · intro w'
            go_simp
            with_reducible rfl
          rotate_left
          · simp only [Act.put, List.setIfInBounds_toArray, List.set_cons_zero, List.set_cons_succ, i64_w, i32_w]
            rfl
          refine pure_ (i := 3) (N := some 113) (v := ?_) (a' := ?_) #[true, true, true, true, false, false, false, false, false, false, false, false, false, false, false, false, false, false, false] rfl rfl (any_of HT_.out (by kernel_rfl)) (fun _ _ _ h => h) (Or.inl ⟨by rfl, ?_⟩) ?_ ?_
          rotate_left
          · intro w'
            go_simp
            with_reducible rfl
          rotate_left
          · simp only [Act.put, List.setIfInBounds_toArray, List.set_cons_zero, List.set_cons_succ, i64_w, i32_w]
            rfl
          refine pure_ (i := 4) (N := some 114) (v := ?_) (a' := ?_) #[true, true, true, true, true, false, false, false, false, false, false, false, false, false, false, false, false, false, false] rfl rfl (any_of HT_.out (by kernel_rfl)) (fun _ _ _ h => h) (Or.inl ⟨by rfl, ?_⟩) ?_ ?_
          rotate_left
          · intro w'
            go_simp
            with_reducible rfl
          rotate_left
          · simp only [Act.put, List.setIfInBounds_toArray, List.set_cons_zero, List.set_cons_succ, i64_w, i32_w]
            rfl
          refine take_ (i := 5) (N := some 115) (v := ?_) (a' := ?_) #[true, true, true, true, true, true, false, false, false, false, false, false, false, false, false, false, false, false, false] rfl rfl (take_ofW HT_.out HW_.out (by kernel_rfl)) (fun _ _ _ h => h) (Or.inl ⟨by rfl, ?_⟩) hHeld ?_ ?_
          rotate_left
          · rintro w' ⟨s0, s1⟩
            go_simp
            with_reducible rfl
          rotate_left
          · simp only [Act.put, List.setIfInBounds_toArray, List.set_cons_zero, List.set_cons_succ, i64_w, i32_w]
            rfl
          refine pure_ (i := 6) (N := some 116) (v := ?_) (a' := ?_) #[true, true, true, true, true, true, true, false, false, false, false, false, false, false, false, false, false, false, false] rfl rfl (any_of HT_.out (by kernel_rfl)) (fun _ _ _ h => h) (Or.inl ⟨by rfl, ?_⟩) ?_ ?_
          rotate_left
          · intro w'
            go_simp
            with_reducible rfl
          rotate_left
          · simp only [Act.put, List.setIfInBounds_toArray, List.set_cons_zero, List.set_cons_succ, i64_w, i32_w]
            rfl
          refine pure_ (i := 7) (N := some 117) (v := ?_) (a' := ?_) #[true, true, true, true, true, true, true, true, false, false, false, false, false, false, false, false, false, false, false] rfl rfl (any_of HT_.out (by kernel_rfl)) (fun _ _ _ h => h) (Or.inl ⟨by rfl, ?_⟩) ?_ ?_
          rotate_left
          · intro w'
            go_simp
            with_reducible rfl
          rotate_left
          · simp only [Act.put, List.setIfInBounds_toArray, List.set_cons_zero, List.set_cons_succ, i64_w, i32_w]
            rfl
          refine pure_ (i := 8) (N := some 118) (v := ?_) (a' := ?_) #[true, true, true, true, true, true, true, true, true, false, false, false, false, false, false, false, false, false, false] rfl rfl (any_of HT_.out (by kernel_rfl)) (fun _ _ _ h => h) (Or.inl ⟨by rfl, ?_⟩) ?_ ?_
          rotate_left
          · intro w'
            go_simp
            with_reducible rfl
          rotate_left
          · simp only [Act.put, List.setIfInBounds_toArray, List.set_cons_zero, List.set_cons_succ, i64_w, i32_w]
            rfl
          refine pure_ (i := 9) (N := some 119) (v := ?_) (a' := ?_) #[true, true, true, true, true, true, true, true, true, true, false, false, false, false, false, false, false, false, false] rfl rfl (any_of HT_.out (by kernel_rfl)) (fun _ _ _ h => h) (Or.inl ⟨by rfl, ?_⟩) ?_ ?_
          rotate_left
          · intro w'
            go_simp
            with_reducible rfl
          rotate_left
          · simp only [Act.put, List.setIfInBounds_toArray, List.set_cons_zero, List.set_cons_succ, i64_w, i32_w]
            rfl
          refine take_ (i := 10) (N := some 120) (v := ?_) (a' := ?_) #[true, true, true, true, true, true, true, true, true, true, true, false, false, false, false, false, false, false, false] rfl rfl (take_ofW HT_.out HW_.out (by kernel_rfl)) (fun _ _ _ h => h) (Or.inl ⟨by rfl, ?_⟩) hHeld ?_ ?_
          rotate_left
          · rintro w' ⟨s0, s1⟩
            go_simp
            with_reducible rfl
          rotate_left
          · simp only [Act.put, List.setIfInBounds_toArray, List.set_cons_zero, List.set_cons_succ, i64_w, i32_w]
            rfl
          refine pure_ (i := 11) (N := some 121) (v := ?_) (a' := ?_) #[true, true, true, true, true, true, true, true, true, true, true, true, false, false, false, false, false, false, false] rfl rfl (any_of HT_.out (by kernel_rfl)) (fun _ _ _ h => h) (Or.inl ⟨by rfl, ?_⟩) ?_ ?_
          rotate_left
          · intro w'
            go_simp
            with_reducible rfl
          rotate_left
          · simp only [Act.put, List.setIfInBounds_toArray, List.set_cons_zero, List.set_cons_succ, i64_w, i32_w]
            rfl
          refine pure_ (i := 12) (N := some 122) (v := ?_) (a' := ?_) #[true, true, true, true, true, true, true, true, true, true, true, true, true, false, false, false, false, false, false] rfl rfl (any_of HT_.out (by kernel_rfl)) (fun _ _ _ h => h) (Or.inl ⟨by rfl, ?_⟩) ?_ ?_
          rotate_left
          · intro w'
            go_simp
            with_reducible rfl
          rotate_left
          · simp only [Act.put, List.setIfInBounds_toArray, List.set_cons_zero, List.set_cons_succ, i64_w, i32_w]
            rfl
          refine pure_ (i := 13) (N := some 123) (v := ?_) (a' := ?_) #[true, true, true, true, true, true, true, true, true, true, true, true, true, true, false, false, false, false, false] rfl rfl (any_of HT_.out (by kernel_rfl)) (fun _ _ _ h => h) (Or.inl ⟨by rfl, ?_⟩) ?_ ?_
          rotate_left
          · intro w'
            go_simp
            with_reducible rfl
          rotate_left
          · simp only [Act.put, List.setIfInBounds_toArray, List.set_cons_zero, List.set_cons_succ, i64_w, i32_w]
            rfl
          refine pure_ (i := 14) (N := some 124) (v := ?_) (a' := ?_) #[true, true, true, true, true, true, true, true, true, true, true, true, true, true, true, false, false, false, false] rfl rfl (any_of HT_.out (by kernel_rfl)) (fun _ _ _ h => h) (Or.inl ⟨by rfl, ?_⟩) ?_ ?_
          rotate_left
          · intro w'
            go_simp
            with_reducible rfl
          rotate_left
          · simp only [Act.put, List.setIfInBounds_toArray, List.set_cons_zero, List.set_cons_succ, i64_w, i32_w]
            rfl
          clear hHeld
          refine last_ (i := 15) (N := none) #[true, true, true, true, true, true, true, true, true, true, true, true, true, true, true, true, false, false, false] rfl rfl (one_of HT_.out (by kernel_rfl)) (by decide) (fun K hK => ?_)
          have hs : V6.cell? ⟨g, 4, none⟩ = some (.int .i64 (c4)) := (blk_cell BK.out 4).trans rfl
          have hfs := blk_frozen BK.out 4
          refine skip_ (w1 := V6.setCell ⟨g, 4, none⟩ (.int .i64 (wrap64 (c4 + 1)))) (by rfl) rfl ?_ ?_
          · go_simp
            try rfl
          refine hK.out _ _ ?_
          clear hK K hs hfs
          have n0_ := blk_put (cs' := #[.int .i64 c0, .int .i64 c1, .int .i64 c2, .int .i64 (wrap64 (c3 + 1)), .int .i64 (wrap64 (c4 + 1)), .int .i64 c5, .int .i64 c6, .int .i64 c7, .int .i64 c8, .int .i64 c9, .int .i64 c10, .int .i64 c11]) BK.out 4 (.int .i64 (wrap64 (c4 + 1))) rfl
          have n1_ := Below.setCell (p := ⟨g, 4, none⟩) HB.out (Nat.le_refl g) (.int .i64 (wrap64 (c4 + 1)))
          have n2_ := blk_far (p := ⟨g, 4, none⟩) BX.out (Ne.symm hne) (.int .i64 (wrap64 (c4 + 1)))
          generalize V6.setCell ⟨g, 4, none⟩ (.int .i64 (wrap64 (c4 + 1))) = V6_1 at n0_ n1_ n2_ ⊢
          clear HB BK BX
          have HB := Aside0.mk n1_
          have BK := Aside0.mk n0_
          have BX := Aside0.mk n2_
          clear n0_ n1_ n2_
          refine pure_ (i := 16) (N := some 125) (v := ?_) (a' := ?_) #[true, true, true, true, true, true, true, true, true, true, true, true, true, true, true, true, true, false, false] rfl rfl (any_of HT_.out (by kernel_rfl)) (fun _ _ _ h => h) (Or.inl ⟨by rfl, ?_⟩) ?_ ?_
          rotate_left
          · intro w'
            go_simp
            with_reducible rfl
          rotate_left
          · simp only [Act.put, List.setIfInBounds_toArray, List.set_cons_zero, List.set_cons_succ, i64_w, i32_w]
            rfl
          refine pure_ (i := 17) (N := some 126) (v := ?_) (a' := ?_) #[true, true, true, true, true, true, true, true, true, true, true, true, true, true, true, true, true, true, false] rfl rfl (any_of HT_.out (by kernel_rfl)) (fun _ _ _ h => h) (Or.inl ⟨by rfl, ?_⟩) ?_ ?_
          rotate_left
          · intro w'
            go_simp
            with_reducible rfl
          rotate_left
          · simp only [Act.put, List.setIfInBounds_toArray, List.set_cons_zero, List.set_cons_succ, i64_w, i32_w]
            rfl
          refine last_ (i := 18) (N := none) #[true, true, true, true, true, true, true, true, true, true, true, true, true, true, true, true, true, true, true] rfl rfl (one_of HT_.out (by kernel_rfl)) (by decide) (fun K hK => ?_)
          have hs : V6_1.cell? ⟨g, 8, none⟩ = some (.int .i64 (c8)) := (blk_cell BK.out 8).trans rfl
          have hfs := blk_frozen BK.out 8
          refine skip_ (w1 := V6_1.setCell ⟨g, 8, none⟩ (.int .i64 (wrap64 (c8 + n)))) (by rfl) rfl ?_ ?_
          · go_simp
            try rfl
          refine hK.out _ _ ?_
          clear hK K hs hfs
          have n0_ := blk_put (cs' := #[.int .i64 c0, .int .i64 c1, .int .i64 c2, .int .i64 (wrap64 (c3 + 1)), .int .i64 (wrap64 (c4 + 1)), .int .i64 c5, .int .i64 c6, .int .i64 c7, .int .i64 (wrap64 (c8 + n)), .int .i64 c9, .int .i64 c10, .int .i64 c11]) BK.out 8 (.int .i64 (wrap64 (c8 + n))) rfl
          have n1_ := Below.setCell (p := ⟨g, 8, none⟩) HB.out (Nat.le_refl g) (.int .i64 (wrap64 (c8 + n)))
          have n2_ := blk_far (p := ⟨g, 8, none⟩) BX.out (Ne.symm hne) (.int .i64 (wrap64 (c8 + n)))
          generalize V6_1.setCell ⟨g, 8, none⟩ (.int .i64 (wrap64 (c8 + n))) = V6_2 at n0_ n1_ n2_ ⊢
          clear HB BK BX
          have HB := Aside0.mk n1_
          have BK := Aside0.mk n0_
          have BX := Aside0.mk n2_
          clear n0_ n1_ n2_
          refine done_ (done_of HT_.out (by kernel_rfl)) ?_
          clear HT_ HW_
          have hb4_0 := (blk_cell BX.out 0)
          have hb4_1 := (blk_cell BX.out 1)
          have hf4_0 := blk_frozen BX.out 0
          have hf4_1 := blk_frozen BX.out 1
          try go_wp2
          (try simp only [Exit.inBlock, Exit.then])
          first | refine bodyPost_ret (results_none rfl _ _ _) rfl ?_ | refine bodyPost_end (results_none rfl _ _ _) rfl ?_
          refine ⟨rfl, by repeat (first | (with_reducible first | exact HB.out | apply below_alloc | apply pw_below_drewN | apply below_drew1 | apply below_gset)), ?_⟩
          show _ = some (Obj.cells #[.int .i64 c0, .int .i64 c1, .int .i64 c2, .int .i64 (wrap64 (c3 + 1)), .int .i64 (wrap64 (c4 + 1)), .int .i64 c5, .int .i64 c6, .int .i64 c7, .int .i64 (wrap64 (c8 + n)), .int .i64 c9, .int .i64 c10, .int .i64 c11] 60 (0, 0))
          ((with_reducible repeat (first | refine blk_drewN ?_ _ | refine blk_drew ?_ | refine blk_alloc ?_ _)); first | exact BK.out | (apply blk3; (with_reducible repeat (first | refine blk_drewN ?_ _ | refine blk_drew ?_ | refine blk_alloc ?_ _)); exact BK.out))
  · cases yes
    · go_enter Try.func46, Try.ntmps46
      go_wp2_with (first | ((with_reducible refine gate_dst (N := 4) rfl ?_); refine box_event ?hg (N := 4) ?hd (cs := #[.string m, .slice A l.length c]) (t := 33) ?hr ?_; (case hd => rfl); (case hg => rfl); (case hr => first | (go_simp; done) | (go_simp; rfl)); intro gb hg w4 hbox hb; have hne : g ≠ gb := (by have := blk_lt BK.out; omega); have n0_ := Aside0.mk (blk_below (g := g) (by ((with_reducible repeat (first | refine blk_drewN ?_ _ | refine blk_drew ?_ | refine blk_alloc ?_ _)); first | exact BK.out | (apply blk3; (with_reducible repeat (first | refine blk_drewN ?_ _ | refine blk_drew ?_ | refine blk_alloc ?_ _)); exact BK.out))) hb); have n2_ := Aside0.mk (below_then (by repeat (first | (with_reducible first | exact HB.out | apply below_alloc | apply pw_below_drewN | apply below_drew1 | apply below_gset))) (Nat.le_of_lt (blk_lt (g := g) (by ((with_reducible repeat (first | refine blk_drewN ?_ _ | refine blk_drew ?_ | refine blk_alloc ?_ _)); first | exact BK.out | (apply blk3; (with_reducible repeat (first | refine blk_drewN ?_ _ | refine blk_drew ?_ | refine blk_alloc ?_ _)); exact BK.out))))) hb); clear BK HB; have BK := n0_; have BX := Aside0.mk hbox; have HB := n2_; clear n0_ n2_ hb hbox hg; have hk_3 := (blk_cell BK.out 3); have hfk := blk_frozen BK.out 3; have hb4_0 := (blk_cell BX.out 0); have hb4_1 := (blk_cell BX.out 1); have hf4_0 := blk_frozen BX.out 0; have hf4_1 := blk_frozen BX.out 1) | ((with_reducible refine gate_callee (f := 64) rfl ?_); refine goesL_ (some 11) rfl rfl Try.func64 (by kernel_rfl) rfl #[.agg #[.string m, .slice A l.length c]] rfl (by (try simp only [List.map_toArray, List.map_cons, List.map_nil]); first | done | rfl) ?_; (with_reducible refine (totals_amount.calls k m _ _ l n _ (Kd.C_below HR.out (H0.out.trans (Below.mono (by repeat (first | (with_reducible first | exact HB.out | apply below_alloc | apply pw_below_drewN | apply below_drew1 | apply below_gset))) HG0.out))) hc AA.out).mono ?_); rintro e w' ⟨rfl, hb⟩; refine ⟨_, rfl, ?_⟩; have n0_ := Aside0.mk (blk_below (g := g) (by ((with_reducible repeat (first | refine blk_drewN ?_ _ | refine blk_drew ?_ | refine blk_alloc ?_ _)); first | exact BK.out | (apply blk3; (with_reducible repeat (first | refine blk_drewN ?_ _ | refine blk_drew ?_ | refine blk_alloc ?_ _)); exact BK.out))) hb); have n1_ := Aside0.mk (blk_below (g := gb) (o := .cells #[.string m, .slice A l.length c] 33 (0, 0)) (by ((with_reducible repeat (first | refine blk_drewN ?_ _ | refine blk_drew ?_ | refine blk_alloc ?_ _ | refine blk_far ?_ (Ne.symm hne) _)); first | exact BX.out | (refine blk_far ?_ (Ne.symm hne) _; (with_reducible repeat (first | refine blk_drewN ?_ _ | refine blk_drew ?_ | refine blk_alloc ?_ _)); exact BX.out))) hb); have n2_ := Aside0.mk (below_then (by repeat (first | (with_reducible first | exact HB.out | apply below_alloc | apply pw_below_drewN | apply below_drew1 | apply below_gset))) (Nat.le_of_lt (blk_lt (g := g) (by ((with_reducible repeat (first | refine blk_drewN ?_ _ | refine blk_drew ?_ | refine blk_alloc ?_ _)); first | exact BK.out | (apply blk3; (with_reducible repeat (first | refine blk_drewN ?_ _ | refine blk_drew ?_ | refine blk_alloc ?_ _)); exact BK.out))))) hb); clear BK BX HB; have BK := n0_; have BX := n1_; have HB := n2_; clear n0_ n1_ n2_ hb; have hk_3 := (blk_cell BK.out 3); have hfk := blk_frozen BK.out 3; have hb4_0 := (blk_cell BX.out 0); have hb4_1 := (blk_cell BX.out 1); have hf4_0 := blk_frozen BX.out 0; have hf4_1 := blk_frozen BX.out 1) | ((with_reducible refine gate_callee (f := 38) rfl ?_); refine goesL_ (some 14) rfl rfl Try.func38 (by kernel_rfl) rfl #[.string m] rfl (by (try simp only [List.map_toArray, List.map_cons, List.map_nil]); first | done | rfl) ?_; (with_reducible refine (message_Class.calls k m cl _ AC.out).mono ?_); rintro e w' ⟨rfl, ⟨nd, rfl⟩⟩; refine ⟨_, rfl, ?_⟩) | ((with_reducible refine gate_callee (f := 39) rfl ?_); refine goesL_ (some 20) rfl rfl Try.func39 (by kernel_rfl) rfl #[.string m] rfl (by (try simp only [List.map_toArray, List.map_cons, List.map_nil]); first | done | rfl) ?_; (with_reducible refine (message_Function.calls k m fn _ AF.out).mono ?_); rintro e w' ⟨rfl, ⟨nd, rfl⟩⟩; refine ⟨_, rfl, ?_⟩) | ((with_reducible refine gate_callee (f := 65) rfl ?_); refine goesL_ (some 68) rfl rfl Try.func65 (by kernel_rfl) rfl #[.agg #[.string m, .slice A l.length c]] rfl (by (try simp only [List.map_toArray, List.map_cons, List.map_nil]); first | done | rfl) ?_; (with_reducible refine (totals_credit.calls k m _ _ l _ _ (Kd.C_below HR.out (H0.out.trans (Below.mono (by repeat (first | (with_reducible first | exact HB.out | apply below_alloc | apply pw_below_drewN | apply below_drew1 | apply below_gset))) HG0.out))) hc AR.out).mono ?_); rintro e w' ⟨rfl, hb⟩; refine ⟨_, rfl, ?_⟩; have n0_ := Aside0.mk (blk_below (g := g) (by ((with_reducible repeat (first | refine blk_drewN ?_ _ | refine blk_drew ?_ | refine blk_alloc ?_ _)); first | exact BK.out | (apply blk3; (with_reducible repeat (first | refine blk_drewN ?_ _ | refine blk_drew ?_ | refine blk_alloc ?_ _)); exact BK.out))) hb); have n1_ := Aside0.mk (blk_below (g := gb) (o := .cells #[.string m, .slice A l.length c] 33 (0, 0)) (by ((with_reducible repeat (first | refine blk_drewN ?_ _ | refine blk_drew ?_ | refine blk_alloc ?_ _ | refine blk_far ?_ (Ne.symm hne) _)); first | exact BX.out | (refine blk_far ?_ (Ne.symm hne) _; (with_reducible repeat (first | refine blk_drewN ?_ _ | refine blk_drew ?_ | refine blk_alloc ?_ _)); exact BX.out))) hb); have n2_ := Aside0.mk (below_then (by repeat (first | (with_reducible first | exact HB.out | apply below_alloc | apply pw_below_drewN | apply below_drew1 | apply below_gset))) (Nat.le_of_lt (blk_lt (g := g) (by ((with_reducible repeat (first | refine blk_drewN ?_ _ | refine blk_drew ?_ | refine blk_alloc ?_ _)); first | exact BK.out | (apply blk3; (with_reducible repeat (first | refine blk_drewN ?_ _ | refine blk_drew ?_ | refine blk_alloc ?_ _)); exact BK.out))))) hb); clear BK BX HB; have BK := n0_; have BX := n1_; have HB := n2_; clear n0_ n1_ n2_ hb; have hk_3 := (blk_cell BK.out 3); have hfk := blk_frozen BK.out 3; have hb4_0 := (blk_cell BX.out 0); have hb4_1 := (blk_cell BX.out 1); have hf4_0 := blk_frozen BX.out 0; have hf4_1 := blk_frozen BX.out 1))
      all_goals cases cr
      all_goals (try cases adv)
      all_goals (try simp only [Exit.inBlock, Exit.then])
      all_goals first | refine bodyPost_ret (results_none rfl _ _ _) rfl ?_ | refine bodyPost_end (results_none rfl _ _ _) rfl ?_
      all_goals refine ⟨rfl, by repeat (first | (with_reducible first | exact HB.out | apply below_alloc | apply pw_below_drewN | apply below_drew1 | apply below_gset)), ?_⟩
      all_goals show _ = some (Obj.cells #[.int .i64 c0, .int .i64 c1, .int .i64 c2, .int .i64 c3, .int .i64 c4, .int .i64 c5, .int .i64 c6, .int .i64 c7, .int .i64 c8, .int .i64 c9, .int .i64 c10, .int .i64 c11] 60 (0, 0))
      all_goals ((with_reducible repeat (first | refine blk_drewN ?_ _ | refine blk_drew ?_ | refine blk_alloc ?_ _)); first | exact BK.out | (apply blk3; (with_reducible repeat (first | refine blk_drewN ?_ _ | refine blk_drew ?_ | refine blk_alloc ?_ _)); exact BK.out))
    · cases cr
      all_goals go_enter Try.func46, Try.ntmps46
      all_goals go_wp2_with (first | ((with_reducible refine gate_dst (N := 4) rfl ?_); refine box_event ?hg (N := 4) ?hd (cs := #[.string m, .slice A l.length c]) (t := 33) ?hr ?_; (case hd => rfl); (case hg => rfl); (case hr => first | (go_simp; done) | (go_simp; rfl)); intro gb hg w4 hbox hb; have hne : g ≠ gb := (by have := blk_lt BK.out; omega); have n0_ := Aside0.mk (blk_below (g := g) (by ((with_reducible repeat (first | refine blk_drewN ?_ _ | refine blk_drew ?_ | refine blk_alloc ?_ _)); first | exact BK.out | (apply blk3; (with_reducible repeat (first | refine blk_drewN ?_ _ | refine blk_drew ?_ | refine blk_alloc ?_ _)); exact BK.out))) hb); have n2_ := Aside0.mk (below_then (by repeat (first | (with_reducible first | exact HB.out | apply below_alloc | apply pw_below_drewN | apply below_drew1 | apply below_gset))) (Nat.le_of_lt (blk_lt (g := g) (by ((with_reducible repeat (first | refine blk_drewN ?_ _ | refine blk_drew ?_ | refine blk_alloc ?_ _)); first | exact BK.out | (apply blk3; (with_reducible repeat (first | refine blk_drewN ?_ _ | refine blk_drew ?_ | refine blk_alloc ?_ _)); exact BK.out))))) hb); clear BK HB; have BK := n0_; have BX := Aside0.mk hbox; have HB := n2_; clear n0_ n2_ hb hbox hg; have hk_3 := (blk_cell BK.out 3); have hfk := blk_frozen BK.out 3; have hb4_0 := (blk_cell BX.out 0); have hb4_1 := (blk_cell BX.out 1); have hf4_0 := blk_frozen BX.out 0; have hf4_1 := blk_frozen BX.out 1) | ((with_reducible refine gate_callee (f := 64) rfl ?_); refine goesL_ (some 11) rfl rfl Try.func64 (by kernel_rfl) rfl #[.agg #[.string m, .slice A l.length c]] rfl (by (try simp only [List.map_toArray, List.map_cons, List.map_nil]); first | done | rfl) ?_; (with_reducible refine (totals_amount.calls k m _ _ l n _ (Kd.C_below HR.out (H0.out.trans (Below.mono (by repeat (first | (with_reducible first | exact HB.out | apply below_alloc | apply pw_below_drewN | apply below_drew1 | apply below_gset))) HG0.out))) hc AA.out).mono ?_); rintro e w' ⟨rfl, hb⟩; refine ⟨_, rfl, ?_⟩; have n0_ := Aside0.mk (blk_below (g := g) (by ((with_reducible repeat (first | refine blk_drewN ?_ _ | refine blk_drew ?_ | refine blk_alloc ?_ _)); first | exact BK.out | (apply blk3; (with_reducible repeat (first | refine blk_drewN ?_ _ | refine blk_drew ?_ | refine blk_alloc ?_ _)); exact BK.out))) hb); have n1_ := Aside0.mk (blk_below (g := gb) (o := .cells #[.string m, .slice A l.length c] 33 (0, 0)) (by ((with_reducible repeat (first | refine blk_drewN ?_ _ | refine blk_drew ?_ | refine blk_alloc ?_ _ | refine blk_far ?_ (Ne.symm hne) _)); first | exact BX.out | (refine blk_far ?_ (Ne.symm hne) _; (with_reducible repeat (first | refine blk_drewN ?_ _ | refine blk_drew ?_ | refine blk_alloc ?_ _)); exact BX.out))) hb); have n2_ := Aside0.mk (below_then (by repeat (first | (with_reducible first | exact HB.out | apply below_alloc | apply pw_below_drewN | apply below_drew1 | apply below_gset))) (Nat.le_of_lt (blk_lt (g := g) (by ((with_reducible repeat (first | refine blk_drewN ?_ _ | refine blk_drew ?_ | refine blk_alloc ?_ _)); first | exact BK.out | (apply blk3; (with_reducible repeat (first | refine blk_drewN ?_ _ | refine blk_drew ?_ | refine blk_alloc ?_ _)); exact BK.out))))) hb); clear BK BX HB; have BK := n0_; have BX := n1_; have HB := n2_; clear n0_ n1_ n2_ hb; have hk_3 := (blk_cell BK.out 3); have hfk := blk_frozen BK.out 3; have hb4_0 := (blk_cell BX.out 0); have hb4_1 := (blk_cell BX.out 1); have hf4_0 := blk_frozen BX.out 0; have hf4_1 := blk_frozen BX.out 1) | ((with_reducible refine gate_callee (f := 38) rfl ?_); refine goesL_ (some 14) rfl rfl Try.func38 (by kernel_rfl) rfl #[.string m] rfl (by (try simp only [List.map_toArray, List.map_cons, List.map_nil]); first | done | rfl) ?_; (with_reducible refine (message_Class.calls k m cl _ AC.out).mono ?_); rintro e w' ⟨rfl, ⟨nd, rfl⟩⟩; refine ⟨_, rfl, ?_⟩) | ((with_reducible refine gate_callee (f := 39) rfl ?_); refine goesL_ (some 20) rfl rfl Try.func39 (by kernel_rfl) rfl #[.string m] rfl (by (try simp only [List.map_toArray, List.map_cons, List.map_nil]); first | done | rfl) ?_; (with_reducible refine (message_Function.calls k m fn _ AF.out).mono ?_); rintro e w' ⟨rfl, ⟨nd, rfl⟩⟩; refine ⟨_, rfl, ?_⟩) | ((with_reducible refine gate_callee (f := 65) rfl ?_); refine goesL_ (some 68) rfl rfl Try.func65 (by kernel_rfl) rfl #[.agg #[.string m, .slice A l.length c]] rfl (by (try simp only [List.map_toArray, List.map_cons, List.map_nil]); first | done | rfl) ?_; (with_reducible refine (totals_credit.calls k m _ _ l _ _ (Kd.C_below HR.out (H0.out.trans (Below.mono (by repeat (first | (with_reducible first | exact HB.out | apply below_alloc | apply pw_below_drewN | apply below_drew1 | apply below_gset))) HG0.out))) hc AR.out).mono ?_); rintro e w' ⟨rfl, hb⟩; refine ⟨_, rfl, ?_⟩; have n0_ := Aside0.mk (blk_below (g := g) (by ((with_reducible repeat (first | refine blk_drewN ?_ _ | refine blk_drew ?_ | refine blk_alloc ?_ _)); first | exact BK.out | (apply blk3; (with_reducible repeat (first | refine blk_drewN ?_ _ | refine blk_drew ?_ | refine blk_alloc ?_ _)); exact BK.out))) hb); have n1_ := Aside0.mk (blk_below (g := gb) (o := .cells #[.string m, .slice A l.length c] 33 (0, 0)) (by ((with_reducible repeat (first | refine blk_drewN ?_ _ | refine blk_drew ?_ | refine blk_alloc ?_ _ | refine blk_far ?_ (Ne.symm hne) _)); first | exact BX.out | (refine blk_far ?_ (Ne.symm hne) _; (with_reducible repeat (first | refine blk_drewN ?_ _ | refine blk_drew ?_ | refine blk_alloc ?_ _)); exact BX.out))) hb); have n2_ := Aside0.mk (below_then (by repeat (first | (with_reducible first | exact HB.out | apply below_alloc | apply pw_below_drewN | apply below_drew1 | apply below_gset))) (Nat.le_of_lt (blk_lt (g := g) (by ((with_reducible repeat (first | refine blk_drewN ?_ _ | refine blk_drew ?_ | refine blk_alloc ?_ _)); first | exact BK.out | (apply blk3; (with_reducible repeat (first | refine blk_drewN ?_ _ | refine blk_drew ?_ | refine blk_alloc ?_ _)); exact BK.out))))) hb); clear BK BX HB; have BK := n0_; have BX := n1_; have HB := n2_; clear n0_ n1_ n2_ hb; have hk_3 := (blk_cell BK.out 3); have hfk := blk_frozen BK.out 3; have hb4_0 := (blk_cell BX.out 0); have hb4_1 := (blk_cell BX.out 1); have hf4_0 := blk_frozen BX.out 0; have hf4_1 := blk_frozen BX.out 1))
      · skip
        refine start_cell (w := w) (g := g) (cs := #[.int .i64 c0, .int .i64 c1, .int .i64 c2, .int .i64 c3, .int .i64 c4, .int .i64 c5, .int .i64 c6, .int .i64 c7, .int .i64 c8, .int .i64 c9, .int .i64 c10, .int .i64 c11]) (i := 7) (j := 11) (u := .int .i64 (c7)) (v := .int .i64 (c11)) (n := 19) (ds := [15, 18]) #[false, false, false, false, false, false, false, false, false, false, false, false, false, false, false, false, false, false, false] (by kernel_rfl) rfl rfl (by repeat (first | (with_reducible first | exact HB.out | apply below_alloc | apply pw_below_drewN | apply below_drew1 | apply below_gset))) (by ((with_reducible repeat (first | refine blk_drewN ?_ _ | refine blk_drew ?_ | refine blk_alloc ?_ _)); first | exact BK.out | (apply blk3; (with_reducible repeat (first | refine blk_drewN ?_ _ | refine blk_drew ?_ | refine blk_alloc ?_ _)); exact BK.out))) rfl rfl (fun V7 HBv BKv hall hHeld => ?_)
        have BXv := hall gb _ (by ((with_reducible repeat (first | refine blk_drewN ?_ _ | refine blk_drew ?_ | refine blk_alloc ?_ _ | refine blk_far ?_ (Ne.symm hne) _)); first | exact BX.out | (refine blk_far ?_ (Ne.symm hne) _; (with_reducible repeat (first | refine blk_drewN ?_ _ | refine blk_drew ?_ | refine blk_alloc ?_ _)); exact BX.out)))
        clear HB BK BX hall
        have HB := Aside0.mk HBv
        have BK := Aside0.mk BKv
        have BX := Aside0.mk BXv
        clear HBv BKv BXv
        refine with_tabW count_tab18 count_bits18 (fun HT_ HW_ => ?_)
        refine pure_ (i := 0) (N := some 129) (v := ?_) (a' := ?_) #[true, false, false, false, false, false, false, false, false, false, false, false, false, false, false, false, false, false, false] rfl rfl (any_of HT_.out (by kernel_rfl)) (fun _ _ _ h => h) (Or.inl ⟨by rfl, ?_⟩) ?_ ?_
        rotate_left
        · intro w'
          go_simp
          with_reducible rfl
        rotate_left
        · simp only [Act.put, List.setIfInBounds_toArray, List.set_cons_zero, List.set_cons_succ, i64_w, i32_w]
          rfl
        refine pure_ (i := 1) (N := some 130) (v := ?_) (a' := ?_) #[true, true, false, false, false, false, false, false, false, false, false, false, false, false, false, false, false, false, false] rfl rfl (any_of HT_.out (by kernel_rfl)) (fun _ _ _ h => h) (Or.inl ⟨by rfl, ?_⟩) ?_ ?_
        rotate_left
        · intro w'
          go_simp
          with_reducible rfl
        rotate_left
        · simp only [Act.put, List.setIfInBounds_toArray, List.set_cons_zero, List.set_cons_succ, i64_w, i32_w]
          rfl
        refine pure_ (i := 2) (N := some 131) (v := ?_) (a' := ?_) #[true, true, true, false, false, false, false, false, false, false, false, false, false, false, false, false, false, false, false] rfl rfl (any_of HT_.out (by kernel_rfl)) (fun _ _ _ h => h) (Or.inl ⟨by rfl, ?_⟩) ?_ ?_
        rotate_left
        · intro w'
          go_simp
          with_reducible rfl
        rotate_left
        · simp only [Act.put, List.setIfInBounds_toArray, List.set_cons_zero, List.set_cons_succ, i64_w, i32_w]
          rfl
        refine pure_ (i := 3) (N := some 132) (v := ?_) (a' := ?_) #[true, true, true, true, false, false, false, false, false, false, false, false, false, false, false, false, false, false, false] rfl rfl (any_of HT_.out (by kernel_rfl)) (fun _ _ _ h => h) (Or.inl ⟨by rfl, ?_⟩) ?_ ?_
        rotate_left
        · intro w'
          go_simp
          with_reducible rfl
        rotate_left
        · simp only [Act.put, List.setIfInBounds_toArray, List.set_cons_zero, List.set_cons_succ, i64_w, i32_w]
          rfl
        refine pure_ (i := 4) (N := some 133) (v := ?_) (a' := ?_) #[true, true, true, true, true, false, false, false, false, false, false, false, false, false, false, false, false, false, false] rfl rfl (any_of HT_.out (by kernel_rfl)) (fun _ _ _ h => h) (Or.inl ⟨by rfl, ?_⟩) ?_ ?_
        rotate_left
        · intro w'
          go_simp
          with_reducible rfl
        rotate_left
        · simp only [Act.put, List.setIfInBounds_toArray, List.set_cons_zero, List.set_cons_succ, i64_w, i32_w]
          rfl
        refine take_ (i := 5) (N := some 134) (v := ?_) (a' := ?_) #[true, true, true, true, true, true, false, false, false, false, false, false, false, false, false, false, false, false, false] rfl rfl (take_ofW HT_.out HW_.out (by kernel_rfl)) (fun _ _ _ h => h) (Or.inl ⟨by rfl, ?_⟩) hHeld ?_ ?_
        rotate_left
        · rintro w' ⟨s0, s1⟩
          go_simp
          with_reducible rfl
        rotate_left
        · simp only [Act.put, List.setIfInBounds_toArray, List.set_cons_zero, List.set_cons_succ, i64_w, i32_w]
          rfl
        refine pure_ (i := 6) (N := some 135) (v := ?_) (a' := ?_) #[true, true, true, true, true, true, true, false, false, false, false, false, false, false, false, false, false, false, false] rfl rfl (any_of HT_.out (by kernel_rfl)) (fun _ _ _ h => h) (Or.inl ⟨by rfl, ?_⟩) ?_ ?_
        rotate_left
        · intro w'
          go_simp
          with_reducible rfl
        rotate_left
        · simp only [Act.put, List.setIfInBounds_toArray, List.set_cons_zero, List.set_cons_succ, i64_w, i32_w]
          rfl
        refine pure_ (i := 7) (N := some 136) (v := ?_) (a' := ?_) #[true, true, true, true, true, true, true, true, false, false, false, false, false, false, false, false, false, false, false] rfl rfl (any_of HT_.out (by kernel_rfl)) (fun _ _ _ h => h) (Or.inl ⟨by rfl, ?_⟩) ?_ ?_
        rotate_left
        · intro w'
          go_simp
          with_reducible rfl
        rotate_left
        · simp only [Act.put, List.setIfInBounds_toArray, List.set_cons_zero, List.set_cons_succ, i64_w, i32_w]
          rfl
        refine pure_ (i := 8) (N := some 137) (v := ?_) (a' := ?_) #[true, true, true, true, true, true, true, true, true, false, false, false, false, false, false, false, false, false, false] rfl rfl (any_of HT_.out (by kernel_rfl)) (fun _ _ _ h => h) (Or.inl ⟨by rfl, ?_⟩) ?_ ?_
        rotate_left
        · intro w'
          go_simp
          with_reducible rfl
        rotate_left
        · simp only [Act.put, List.setIfInBounds_toArray, List.set_cons_zero, List.set_cons_succ, i64_w, i32_w]
          rfl
        refine pure_ (i := 9) (N := some 138) (v := ?_) (a' := ?_) #[true, true, true, true, true, true, true, true, true, true, false, false, false, false, false, false, false, false, false] rfl rfl (any_of HT_.out (by kernel_rfl)) (fun _ _ _ h => h) (Or.inl ⟨by rfl, ?_⟩) ?_ ?_
        rotate_left
        · intro w'
          go_simp
          with_reducible rfl
        rotate_left
        · simp only [Act.put, List.setIfInBounds_toArray, List.set_cons_zero, List.set_cons_succ, i64_w, i32_w]
          rfl
        refine take_ (i := 10) (N := some 139) (v := ?_) (a' := ?_) #[true, true, true, true, true, true, true, true, true, true, true, false, false, false, false, false, false, false, false] rfl rfl (take_ofW HT_.out HW_.out (by kernel_rfl)) (fun _ _ _ h => h) (Or.inl ⟨by rfl, ?_⟩) hHeld ?_ ?_
        rotate_left
        · rintro w' ⟨s0, s1⟩
          go_simp
          with_reducible rfl
        rotate_left
        · simp only [Act.put, List.setIfInBounds_toArray, List.set_cons_zero, List.set_cons_succ, i64_w, i32_w]
          rfl
        refine pure_ (i := 11) (N := some 140) (v := ?_) (a' := ?_) #[true, true, true, true, true, true, true, true, true, true, true, true, false, false, false, false, false, false, false] rfl rfl (any_of HT_.out (by kernel_rfl)) (fun _ _ _ h => h) (Or.inl ⟨by rfl, ?_⟩) ?_ ?_
        rotate_left
        · intro w'
          go_simp
          with_reducible rfl
        rotate_left
        · simp only [Act.put, List.setIfInBounds_toArray, List.set_cons_zero, List.set_cons_succ, i64_w, i32_w]
          rfl
        refine pure_ (i := 12) (N := some 141) (v := ?_) (a' := ?_) #[true, true, true, true, true, true, true, true, true, true, true, true, true, false, false, false, false, false, false] rfl rfl (any_of HT_.out (by kernel_rfl)) (fun _ _ _ h => h) (Or.inl ⟨by rfl, ?_⟩) ?_ ?_
        rotate_left
        · intro w'
          go_simp
          with_reducible rfl
        rotate_left
        · simp only [Act.put, List.setIfInBounds_toArray, List.set_cons_zero, List.set_cons_succ, i64_w, i32_w]
          rfl
        refine pure_ (i := 13) (N := some 142) (v := ?_) (a' := ?_) #[true, true, true, true, true, true, true, true, true, true, true, true, true, true, false, false, false, false, false] rfl rfl (any_of HT_.out (by kernel_rfl)) (fun _ _ _ h => h) (Or.inl ⟨by rfl, ?_⟩) ?_ ?_
        rotate_left
        · intro w'
          go_simp
          with_reducible rfl
        rotate_left
        · simp only [Act.put, List.setIfInBounds_toArray, List.set_cons_zero, List.set_cons_succ, i64_w, i32_w]
          rfl
        refine pure_ (i := 14) (N := some 143) (v := ?_) (a' := ?_) #[true, true, true, true, true, true, true, true, true, true, true, true, true, true, true, false, false, false, false] rfl rfl (any_of HT_.out (by kernel_rfl)) (fun _ _ _ h => h) (Or.inl ⟨by rfl, ?_⟩) ?_ ?_
        rotate_left
        · intro w'
          go_simp
          with_reducible rfl
        rotate_left
        · simp only [Act.put, List.setIfInBounds_toArray, List.set_cons_zero, List.set_cons_succ, i64_w, i32_w]
          rfl
        clear hHeld
        refine last_ (i := 15) (N := none) #[true, true, true, true, true, true, true, true, true, true, true, true, true, true, true, true, false, false, false] rfl rfl (one_of HT_.out (by kernel_rfl)) (by decide) (fun K hK => ?_)
        have hs : V7.cell? ⟨g, 7, none⟩ = some (.int .i64 (c7)) := (blk_cell BK.out 7).trans rfl
        have hfs := blk_frozen BK.out 7
        refine skip_ (w1 := V7.setCell ⟨g, 7, none⟩ (.int .i64 (wrap64 (c7 + 1)))) (by rfl) rfl ?_ ?_
        · go_simp
          try rfl
        refine hK.out _ _ ?_
        clear hK K hs hfs
        have n0_ := blk_put (cs' := #[.int .i64 c0, .int .i64 c1, .int .i64 c2, .int .i64 c3, .int .i64 c4, .int .i64 c5, .int .i64 c6, .int .i64 (wrap64 (c7 + 1)), .int .i64 c8, .int .i64 c9, .int .i64 c10, .int .i64 c11]) BK.out 7 (.int .i64 (wrap64 (c7 + 1))) rfl
        have n1_ := Below.setCell (p := ⟨g, 7, none⟩) HB.out (Nat.le_refl g) (.int .i64 (wrap64 (c7 + 1)))
        have n2_ := blk_far (p := ⟨g, 7, none⟩) BX.out (Ne.symm hne) (.int .i64 (wrap64 (c7 + 1)))
        generalize V7.setCell ⟨g, 7, none⟩ (.int .i64 (wrap64 (c7 + 1))) = V7_1 at n0_ n1_ n2_ ⊢
        clear HB BK BX
        have HB := Aside0.mk n1_
        have BK := Aside0.mk n0_
        have BX := Aside0.mk n2_
        clear n0_ n1_ n2_
        refine pure_ (i := 16) (N := some 144) (v := ?_) (a' := ?_) #[true, true, true, true, true, true, true, true, true, true, true, true, true, true, true, true, true, false, false] rfl rfl (any_of HT_.out (by kernel_rfl)) (fun _ _ _ h => h) (Or.inl ⟨by rfl, ?_⟩) ?_ ?_
        rotate_left
        · intro w'
          go_simp
          with_reducible rfl
        rotate_left
        · simp only [Act.put, List.setIfInBounds_toArray, List.set_cons_zero, List.set_cons_succ, i64_w, i32_w]
          rfl
        refine pure_ (i := 17) (N := some 145) (v := ?_) (a' := ?_) #[true, true, true, true, true, true, true, true, true, true, true, true, true, true, true, true, true, true, false] rfl rfl (any_of HT_.out (by kernel_rfl)) (fun _ _ _ h => h) (Or.inl ⟨by rfl, ?_⟩) ?_ ?_
        rotate_left
        · intro w'
          go_simp
          with_reducible rfl
        rotate_left
        · simp only [Act.put, List.setIfInBounds_toArray, List.set_cons_zero, List.set_cons_succ, i64_w, i32_w]
          rfl
        refine last_ (i := 18) (N := none) #[true, true, true, true, true, true, true, true, true, true, true, true, true, true, true, true, true, true, true] rfl rfl (one_of HT_.out (by kernel_rfl)) (by decide) (fun K hK => ?_)
        have hs : V7_1.cell? ⟨g, 11, none⟩ = some (.int .i64 (c11)) := (blk_cell BK.out 11).trans rfl
        have hfs := blk_frozen BK.out 11
        refine skip_ (w1 := V7_1.setCell ⟨g, 11, none⟩ (.int .i64 (wrap64 (c11 + n)))) (by rfl) rfl ?_ ?_
        · go_simp
          try rfl
        refine hK.out _ _ ?_
        clear hK K hs hfs
        have n0_ := blk_put (cs' := #[.int .i64 c0, .int .i64 c1, .int .i64 c2, .int .i64 c3, .int .i64 c4, .int .i64 c5, .int .i64 c6, .int .i64 (wrap64 (c7 + 1)), .int .i64 c8, .int .i64 c9, .int .i64 c10, .int .i64 (wrap64 (c11 + n))]) BK.out 11 (.int .i64 (wrap64 (c11 + n))) rfl
        have n1_ := Below.setCell (p := ⟨g, 11, none⟩) HB.out (Nat.le_refl g) (.int .i64 (wrap64 (c11 + n)))
        have n2_ := blk_far (p := ⟨g, 11, none⟩) BX.out (Ne.symm hne) (.int .i64 (wrap64 (c11 + n)))
        generalize V7_1.setCell ⟨g, 11, none⟩ (.int .i64 (wrap64 (c11 + n))) = V7_2 at n0_ n1_ n2_ ⊢
        clear HB BK BX
        have HB := Aside0.mk n1_
        have BK := Aside0.mk n0_
        have BX := Aside0.mk n2_
        clear n0_ n1_ n2_
        refine done_ (done_of HT_.out (by kernel_rfl)) ?_
        clear HT_ HW_
        have hb4_0 := (blk_cell BX.out 0)
        have hb4_1 := (blk_cell BX.out 1)
        have hf4_0 := blk_frozen BX.out 0
        have hf4_1 := blk_frozen BX.out 1
        try go_wp2
        (try simp only [Exit.inBlock, Exit.then])
        first | refine bodyPost_ret (results_none rfl _ _ _) rfl ?_ | refine bodyPost_end (results_none rfl _ _ _) rfl ?_
        refine ⟨rfl, by repeat (first | (with_reducible first | exact HB.out | apply below_alloc | apply pw_below_drewN | apply below_drew1 | apply below_gset)), ?_⟩
        show _ = some (Obj.cells #[.int .i64 c0, .int .i64 c1, .int .i64 c2, .int .i64 c3, .int .i64 c4, .int .i64 c5, .int .i64 c6, .int .i64 (wrap64 (c7 + 1)), .int .i64 c8, .int .i64 c9, .int .i64 c10, .int .i64 (wrap64 (c11 + n))] 60 (0, 0))
        ((with_reducible repeat (first | refine blk_drewN ?_ _ | refine blk_drew ?_ | refine blk_alloc ?_ _)); first | exact BK.out | (apply blk3; (with_reducible repeat (first | refine blk_drewN ?_ _ | refine blk_drew ?_ | refine blk_alloc ?_ _)); exact BK.out))
      · skip
        refine start_cell (w := w) (g := g) (cs := #[.int .i64 c0, .int .i64 c1, .int .i64 c2, .int .i64 c3, .int .i64 c4, .int .i64 c5, .int .i64 c6, .int .i64 c7, .int .i64 c8, .int .i64 c9, .int .i64 c10, .int .i64 c11]) (i := 5) (j := 9) (u := .int .i64 (c5)) (v := .int .i64 (c9)) (n := 19) (ds := [15, 18]) #[false, false, false, false, false, false, false, false, false, false, false, false, false, false, false, false, false, false, false] (by kernel_rfl) rfl rfl (by repeat (first | (with_reducible first | exact HB.out | apply below_alloc | apply pw_below_drewN | apply below_drew1 | apply below_gset))) (by ((with_reducible repeat (first | refine blk_drewN ?_ _ | refine blk_drew ?_ | refine blk_alloc ?_ _)); first | exact BK.out | (apply blk3; (with_reducible repeat (first | refine blk_drewN ?_ _ | refine blk_drew ?_ | refine blk_alloc ?_ _)); exact BK.out))) rfl rfl (fun V8 HBv BKv hall hHeld => ?_)
        have BXv := hall gb _ (by ((with_reducible repeat (first | refine blk_drewN ?_ _ | refine blk_drew ?_ | refine blk_alloc ?_ _ | refine blk_far ?_ (Ne.symm hne) _)); first | exact BX.out | (refine blk_far ?_ (Ne.symm hne) _; (with_reducible repeat (first | refine blk_drewN ?_ _ | refine blk_drew ?_ | refine blk_alloc ?_ _)); exact BX.out)))
        clear HB BK BX hall
        have HB := Aside0.mk HBv
        have BK := Aside0.mk BKv
        have BX := Aside0.mk BXv
        clear HBv BKv BXv
        refine with_tabW count_tab14 count_bits14 (fun HT_ HW_ => ?_)
        refine pure_ (i := 0) (N := some 91) (v := ?_) (a' := ?_) #[true, false, false, false, false, false, false, false, false, false, false, false, false, false, false, false, false, false, false] rfl rfl (any_of HT_.out (by kernel_rfl)) (fun _ _ _ h => h) (Or.inl ⟨by rfl, ?_⟩) ?_ ?_
        rotate_left
        · intro w'
          go_simp
          with_reducible rfl
        rotate_left
        · simp only [Act.put, List.setIfInBounds_toArray, List.set_cons_zero, List.set_cons_succ, i64_w, i32_w]
          rfl
        refine pure_ (i := 1) (N := some 92) (v := ?_) (a' := ?_) #[true, true, false, false, false, false, false, false, false, false, false, false, false, false, false, false, false, false, false] rfl rfl (any_of HT_.out (by kernel_rfl)) (fun _ _ _ h => h) (Or.inl ⟨by rfl, ?_⟩) ?_ ?_
        rotate_left
        · intro w'
          go_simp
          with_reducible rfl
        rotate_left
        · simp only [Act.put, List.setIfInBounds_toArray, List.set_cons_zero, List.set_cons_succ, i64_w, i32_w]
          rfl
        refine pure_ (i := 2) (N := some 93) (v := ?_) (a' := ?_) #[true, true, true, false, false, false, false, false, false, false, false, false, false, false, false, false, false, false, false] rfl rfl (any_of HT_.out (by kernel_rfl)) (fun _ _ _ h => h) (Or.inl ⟨by rfl, ?_⟩) ?_ ?_
        rotate_left
        · intro w'
          go_simp
          with_reducible rfl
        rotate_left
        · simp only [Act.put, List.setIfInBounds_toArray, List.set_cons_zero, List.set_cons_succ, i64_w, i32_w]
          rfl
        refine pure_ (i := 3) (N := some 94) (v := ?_) (a' := ?_) #[true, true, true, true, false, false, false, false, false, false, false, false, false, false, false, false, false, false, false] rfl rfl (any_of HT_.out (by kernel_rfl)) (fun _ _ _ h => h) (Or.inl ⟨by rfl, ?_⟩) ?_ ?_
        rotate_left
        · intro w'
          go_simp
          with_reducible rfl
        rotate_left
        · simp only [Act.put, List.setIfInBounds_toArray, List.set_cons_zero, List.set_cons_succ, i64_w, i32_w]
          rfl
        refine pure_ (i := 4) (N := some 95) (v := ?_) (a' := ?_) #[true, true, true, true, true, false, false, false, false, false, false, false, false, false, false, false, false, false, false] rfl rfl (any_of HT_.out (by kernel_rfl)) (fun _ _ _ h => h) (Or.inl ⟨by rfl, ?_⟩) ?_ ?_
        rotate_left
        · intro w'
          go_simp
          with_reducible rfl
        rotate_left
        · simp only [Act.put, List.setIfInBounds_toArray, List.set_cons_zero, List.set_cons_succ, i64_w, i32_w]
          rfl
        refine take_ (i := 5) (N := some 96) (v := ?_) (a' := ?_) #[true, true, true, true, true, true, false, false, false, false, false, false, false, false, false, false, false, false, false] rfl rfl (take_ofW HT_.out HW_.out (by kernel_rfl)) (fun _ _ _ h => h) (Or.inl ⟨by rfl, ?_⟩) hHeld ?_ ?_
        rotate_left
        · rintro w' ⟨s0, s1⟩
          go_simp
          with_reducible rfl
        rotate_left
        · simp only [Act.put, List.setIfInBounds_toArray, List.set_cons_zero, List.set_cons_succ, i64_w, i32_w]
          rfl
        refine pure_ (i := 6) (N := some 97) (v := ?_) (a' := ?_) #[true, true, true, true, true, true, true, false, false, false, false, false, false, false, false, false, false, false, false] rfl rfl (any_of HT_.out (by kernel_rfl)) (fun _ _ _ h => h) (Or.inl ⟨by rfl, ?_⟩) ?_ ?_
        rotate_left
        · intro w'
          go_simp
          with_reducible rfl
        rotate_left
        · simp only [Act.put, List.setIfInBounds_toArray, List.set_cons_zero, List.set_cons_succ, i64_w, i32_w]
          rfl
        refine pure_ (i := 7) (N := some 98) (v := ?_) (a' := ?_) #[true, true, true, true, true, true, true, true, false, false, false, false, false, false, false, false, false, false, false] rfl rfl (any_of HT_.out (by kernel_rfl)) (fun _ _ _ h => h) (Or.inl ⟨by rfl, ?_⟩) ?_ ?_
        rotate_left
        · intro w'
          go_simp
          with_reducible rfl
        rotate_left
        · simp only [Act.put, List.setIfInBounds_toArray, List.set_cons_zero, List.set_cons_succ, i64_w, i32_w]
          rfl
        refine pure_ (i := 8) (N := some 99) (v := ?_) (a' := ?_) #[true, true, true, true, true, true, true, true, true, false, false, false, false, false, false, false, false, false, false] rfl rfl (any_of HT_.out (by kernel_rfl)) (fun _ _ _ h => h) (Or.inl ⟨by rfl, ?_⟩) ?_ ?_
        rotate_left
        · intro w'
          go_simp
          with_reducible rfl
        rotate_left
        · simp only [Act.put, List.setIfInBounds_toArray, List.set_cons_zero, List.set_cons_succ, i64_w, i32_w]
          rfl
        refine pure_ (i := 9) (N := some 100) (v := ?_) (a' := ?_) #[true, true, true, true, true, true, true, true, true, true, false, false, false, false, false, false, false, false, false] rfl rfl (any_of HT_.out (by kernel_rfl)) (fun _ _ _ h => h) (Or.inl ⟨by rfl, ?_⟩) ?_ ?_
        rotate_left
        · intro w'
          go_simp
          with_reducible rfl
        rotate_left
        · simp only [Act.put, List.setIfInBounds_toArray, List.set_cons_zero, List.set_cons_succ, i64_w, i32_w]
          rfl
        refine take_ (i := 10) (N := some 101) (v := ?_) (a' := ?_) #[true, true, true, true, true, true, true, true, true, true, true, false, false, false, false, false, false, false, false] rfl rfl (take_ofW HT_.out HW_.out (by kernel_rfl)) (fun _ _ _ h => h) (Or.inl ⟨by rfl, ?_⟩) hHeld ?_ ?_
        rotate_left
        · rintro w' ⟨s0, s1⟩
          go_simp
          with_reducible rfl
        rotate_left
        · simp only [Act.put, List.setIfInBounds_toArray, List.set_cons_zero, List.set_cons_succ, i64_w, i32_w]
          rfl
        refine pure_ (i := 11) (N := some 102) (v := ?_) (a' := ?_) #[true, true, true, true, true, true, true, true, true, true, true, true, false, false, false, false, false, false, false] rfl rfl (any_of HT_.out (by kernel_rfl)) (fun _ _ _ h => h) (Or.inl ⟨by rfl, ?_⟩) ?_ ?_
        rotate_left
        · intro w'
          go_simp
          with_reducible rfl
        rotate_left
        · simp only [Act.put, List.setIfInBounds_toArray, List.set_cons_zero, List.set_cons_succ, i64_w, i32_w]
          rfl
        refine pure_ (i := 12) (N := some 103) (v := ?_) (a' := ?_) #[true, true, true, true, true, true, true, true, true, true, true, true, true, false, false, false, false, false, false] rfl rfl (any_of HT_.out (by kernel_rfl)) (fun _ _ _ h => h) (Or.inl ⟨by rfl, ?_⟩) ?_ ?_
        rotate_left
        · intro w'
          go_simp
          with_reducible rfl
        rotate_left
        · simp only [Act.put, List.setIfInBounds_toArray, List.set_cons_zero, List.set_cons_succ, i64_w, i32_w]
          rfl
        refine pure_ (i := 13) (N := some 104) (v := ?_) (a' := ?_) #[true, true, true, true, true, true, true, true, true, true, true, true, true, true, false, false, false, false, false] rfl rfl (any_of HT_.out (by kernel_rfl)) (fun _ _ _ h => h) (Or.inl ⟨by rfl, ?_⟩) ?_ ?_
        rotate_left
        · intro w'
          go_simp
          with_reducible rfl
        rotate_left
        · simp only [Act.put, List.setIfInBounds_toArray, List.set_cons_zero, List.set_cons_succ, i64_w, i32_w]
          rfl
        refine pure_ (i := 14) (N := some 105) (v := ?_) (a' := ?_) #[true, true, true, true, true, true, true, true, true, true, true, true, true, true, true, false, false, false, false] rfl rfl (any_of HT_.out (by kernel_rfl)) (fun _ _ _ h => h) (Or.inl ⟨by rfl, ?_⟩) ?_ ?_
        rotate_left
        · intro w'
          go_simp
          with_reducible rfl
        rotate_left
        · simp only [Act.put, List.setIfInBounds_toArray, List.set_cons_zero, List.set_cons_succ, i64_w, i32_w]
          rfl
        clear hHeld
        refine last_ (i := 15) (N := none) #[true, true, true, true, true, true, true, true, true, true, true, true, true, true, true, true, false, false, false] rfl rfl (one_of HT_.out (by kernel_rfl)) (by decide) (fun K hK => ?_)
        have hs : V8.cell? ⟨g, 5, none⟩ = some (.int .i64 (c5)) := (blk_cell BK.out 5).trans rfl
        have hfs := blk_frozen BK.out 5
        refine skip_ (w1 := V8.setCell ⟨g, 5, none⟩ (.int .i64 (wrap64 (c5 + 1)))) (by rfl) rfl ?_ ?_
        · go_simp
          try rfl
        refine hK.out _ _ ?_
        clear hK K hs hfs
        have n0_ := blk_put (cs' := #[.int .i64 c0, .int .i64 c1, .int .i64 c2, .int .i64 c3, .int .i64 c4, .int .i64 (wrap64 (c5 + 1)), .int .i64 c6, .int .i64 c7, .int .i64 c8, .int .i64 c9, .int .i64 c10, .int .i64 c11]) BK.out 5 (.int .i64 (wrap64 (c5 + 1))) rfl
        have n1_ := Below.setCell (p := ⟨g, 5, none⟩) HB.out (Nat.le_refl g) (.int .i64 (wrap64 (c5 + 1)))
        have n2_ := blk_far (p := ⟨g, 5, none⟩) BX.out (Ne.symm hne) (.int .i64 (wrap64 (c5 + 1)))
        generalize V8.setCell ⟨g, 5, none⟩ (.int .i64 (wrap64 (c5 + 1))) = V8_1 at n0_ n1_ n2_ ⊢
        clear HB BK BX
        have HB := Aside0.mk n1_
        have BK := Aside0.mk n0_
        have BX := Aside0.mk n2_
        clear n0_ n1_ n2_
        refine pure_ (i := 16) (N := some 106) (v := ?_) (a' := ?_) #[true, true, true, true, true, true, true, true, true, true, true, true, true, true, true, true, true, false, false] rfl rfl (any_of HT_.out (by kernel_rfl)) (fun _ _ _ h => h) (Or.inl ⟨by rfl, ?_⟩) ?_ ?_
        rotate_left
        · intro w'
          go_simp
          with_reducible rfl
        rotate_left
        · simp only [Act.put, List.setIfInBounds_toArray, List.set_cons_zero, List.set_cons_succ, i64_w, i32_w]
          rfl
        refine pure_ (i := 17) (N := some 107) (v := ?_) (a' := ?_) #[true, true, true, true, true, true, true, true, true, true, true, true, true, true, true, true, true, true, false] rfl rfl (any_of HT_.out (by kernel_rfl)) (fun _ _ _ h => h) (Or.inl ⟨by rfl, ?_⟩) ?_ ?_
        rotate_left
        · intro w'
          go_simp
          with_reducible rfl
        rotate_left
        · simp only [Act.put, List.setIfInBounds_toArray, List.set_cons_zero, List.set_cons_succ, i64_w, i32_w]
          rfl
        refine last_ (i := 18) (N := none) #[true, true, true, true, true, true, true, true, true, true, true, true, true, true, true, true, true, true, true] rfl rfl (one_of HT_.out (by kernel_rfl)) (by decide) (fun K hK => ?_)
        have hs : V8_1.cell? ⟨g, 9, none⟩ = some (.int .i64 (c9)) := (blk_cell BK.out 9).trans rfl
        have hfs := blk_frozen BK.out 9
        refine skip_ (w1 := V8_1.setCell ⟨g, 9, none⟩ (.int .i64 (wrap64 (c9 + n)))) (by rfl) rfl ?_ ?_
        · go_simp
          try rfl
        refine hK.out _ _ ?_
        clear hK K hs hfs
        have n0_ := blk_put (cs' := #[.int .i64 c0, .int .i64 c1, .int .i64 c2, .int .i64 c3, .int .i64 c4, .int .i64 (wrap64 (c5 + 1)), .int .i64 c6, .int .i64 c7, .int .i64 c8, .int .i64 (wrap64 (c9 + n)), .int .i64 c10, .int .i64 c11]) BK.out 9 (.int .i64 (wrap64 (c9 + n))) rfl
        have n1_ := Below.setCell (p := ⟨g, 9, none⟩) HB.out (Nat.le_refl g) (.int .i64 (wrap64 (c9 + n)))
        have n2_ := blk_far (p := ⟨g, 9, none⟩) BX.out (Ne.symm hne) (.int .i64 (wrap64 (c9 + n)))
        generalize V8_1.setCell ⟨g, 9, none⟩ (.int .i64 (wrap64 (c9 + n))) = V8_2 at n0_ n1_ n2_ ⊢
        clear HB BK BX
        have HB := Aside0.mk n1_
        have BK := Aside0.mk n0_
        have BX := Aside0.mk n2_
        clear n0_ n1_ n2_
        refine done_ (done_of HT_.out (by kernel_rfl)) ?_
        clear HT_ HW_
        have hb4_0 := (blk_cell BX.out 0)
        have hb4_1 := (blk_cell BX.out 1)
        have hf4_0 := blk_frozen BX.out 0
        have hf4_1 := blk_frozen BX.out 1
        try go_wp2
        (try simp only [Exit.inBlock, Exit.then])
        first | refine bodyPost_ret (results_none rfl _ _ _) rfl ?_ | refine bodyPost_end (results_none rfl _ _ _) rfl ?_
        refine ⟨rfl, by repeat (first | (with_reducible first | exact HB.out | apply below_alloc | apply pw_below_drewN | apply below_drew1 | apply below_gset)), ?_⟩
        show _ = some (Obj.cells #[.int .i64 c0, .int .i64 c1, .int .i64 c2, .int .i64 c3, .int .i64 c4, .int .i64 (wrap64 (c5 + 1)), .int .i64 c6, .int .i64 c7, .int .i64 c8, .int .i64 (wrap64 (c9 + n)), .int .i64 c10, .int .i64 c11] 60 (0, 0))
        ((with_reducible repeat (first | refine blk_drewN ?_ _ | refine blk_drew ?_ | refine blk_alloc ?_ _)); first | exact BK.out | (apply blk3; (with_reducible repeat (first | refine blk_drewN ?_ _ | refine blk_drew ?_ | refine blk_alloc ?_ _)); exact BK.out))
end Go.Proofs.Ytdiodnjkejogdaa.All
