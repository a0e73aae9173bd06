/- Fields in memory: a row of them of the call's own, known whole. -/
import Derived.Test.YtdiodnjkejogdaaHf
import Derived.Test.YtdiodnjkejogdaaQd
namespace Go.Proofs.Ytdiodnjkejogdaa.All
open Go.RowKit Go.Proofs.YtdiodnjkejogdaaW.PrintWords Go.Proofs.YtdiodnjkejogdaaW.PrintLast Go.Proofs.YtdiodnjkejogdaaW.PrintMore Go.Proofs.Ytdiodnjkejogdaa.Pure
set_option linter.unusedVariables false
set_option linter.unusedSimpArgs false
def fcells (L : List (Int × ByteArray)) : List Value := L.flatMap fun p => [.int .i64 p.1, .string p.2, .slice none 0 0]
theorem fcells_length (L : List (Int × ByteArray)) : (fcells L).length = 3 * L.length := by
  induction L with
  | nil => rfl
  | cons p r ih => simp only [fcells, List.flatMap_cons, List.length_append, List.length_cons, List.length_nil] at ih ⊢; omega
theorem fcells_drop : ∀ (L : List (Int × ByteArray)) (k : Nat) (p : Int × ByteArray), L[k]? = some p → (fcells L).drop (3 * k) = [.int .i64 p.1, .string p.2, .slice none 0 0] ++ fcells (L.drop (k + 1))
  | [], k, p, h => by simp at h
  | q :: r, 0, p, h => by
    simp at h
    subst h
    rfl
  | q :: r, k + 1, p, h => by
    have h2 := fcells_drop r k p (by simpa using h)
    have : (fcells (q :: r)).drop (3 * (k + 1)) = (fcells r).drop (3 * k) := by
      rw [show 3 * (k + 1) = 3 + 3 * k by omega, ← List.drop_drop]
      rfl
    rw [this, h2]
    rfl
theorem fcells_get {L : List (Int × ByteArray)} {k : Nat} {p : Int × ByteArray} (h : L[k]? = some p) (j : Nat) (v : Value) (hv : ([.int .i64 p.1, .string p.2, .slice none 0 0] : List Value)[j]? = some v) : (fcells L)[k * 3 + j]? = some v := by
  have hd := fcells_drop L k p h
  have hj : j < 3 := (List.getElem?_eq_some_iff.1 hv).1
  rw [show k * 3 + j = 3 * k + j by omega, ← List.getElem?_drop, hd, List.getElem?_append_left hj]
  exact hv
theorem fcells_set : ∀ (L : List (Int × ByteArray)) (k : Nat) (p : Int × ByteArray) (s : ByteArray), L[k]? = some p → (fcells L).set (k * 3 + 1) (.string s) = fcells (L.set k (p.1, s))
  | [], k, p, s, h => by simp at h
  | q :: r, 0, p, s, h => by
    simp at h
    subst h
    rfl
  | q :: r, k + 1, p, s, h => by
    have ih := fcells_set r k p s (by simpa using h)
    rw [List.set_cons_succ]
    show ([Value.int .i64 q.1, .string q.2, .slice none 0 0] ++ fcells r).set ((k + 1) * 3 + 1) _ = [Value.int .i64 q.1, .string q.2, .slice none 0 0] ++ fcells (r.set k (p.1, s))
    rw [← ih, show (k + 1) * 3 + 1 = (k * 3 + 1) + 3 by omega]
    rfl
/-- block g holds these fields -/
def FldAt (w : World) (g : Nat) (L : List (Int × ByteArray)) : Prop := ∃ rest : List Value, w.heap[g]? = some (.cells (fcells L ++ rest).toArray 70 (0, 0))
variable {w : World} {g : Nat} {L : List (Int × ByteArray)}
theorem FldAt.cell (h : FldAt w g L) {k : Nat} {p : Int × ByteArray} (hk : L[k]? = some p) (j : Nat) (v : Value) (hv : ([.int .i64 p.1, .string p.2, .slice none 0 0] : List Value)[j]? = some v) : w.cell? ⟨g, k * 3 + j, none⟩ = some v := by
  obtain ⟨rest, h⟩ := h
  have h1 := fcells_get hk j v hv
  rw [cell_of_row w g _ _ 70 (0, 0) h, List.getElem?_toArray, List.getElem?_append_left (List.getElem?_eq_some_iff.1 h1).1]
  exact h1
theorem FldAt.range (h : FldAt w g L) {k : Nat} {p : Int × ByteArray} (hk : L[k]? = some p) : w.rangeAt g (k * 3) [.int .i64 p.1, .string p.2, .slice none 0 0] := fun j v hv => h.cell hk j v hv
theorem FldAt.frozen (h : FldAt w g L) (j : Nat) : w.frozen? ⟨g, j, none⟩ = false := by
  obtain ⟨rest, h⟩ := h
  exact blk_frozen h j
theorem FldAt.store (h : FldAt w g L) {k : Nat} {p : Int × ByteArray} (hk : L[k]? = some p) (s : ByteArray) : FldAt (w.setCell ⟨g, k * 3 + 1, none⟩ (.string s)) g (L.set k (p.1, s)) := by
  obtain ⟨rest, h⟩ := h
  have hlt : k * 3 + 1 < (fcells L).length := by
    have := (List.getElem?_eq_some_iff.1 hk).1
    rw [fcells_length]
    omega
  refine ⟨rest, ?_⟩
  have e := blk_put (cs' := (fcells (L.set k (p.1, s)) ++ rest).toArray) h (k * 3 + 1) (.string s) (by rw [← fcells_set L k p s hk, ← List.set_append_left _ _ hlt]; simp)
  exact e
theorem FldAt.below {w' : World} (h : FldAt w g L) (hb : Below w.heap.size w w') : FldAt w' g L := by
  obtain ⟨rest, h⟩ := h
  exact ⟨rest, blk_below h hb⟩
theorem FldAt.lt (h : FldAt w g L) : g < w.heap.size := by
  obtain ⟨rest, h⟩ := h
  exact blk_lt h
theorem FldAt.keep {w' : World} (h : FldAt w g L) (hb : w'.heap[g]? = w.heap[g]?) : FldAt w' g L := by
  obtain ⟨rest, h⟩ := h
  exact ⟨rest, hb.trans h⟩
theorem FldAt.reads (h : FldAt w g L) (hl : L.length ≤ 1000) : Kd.C k70 w (some ⟨g, 0, none⟩) (L.map fld).length (L.map fld) := by
  refine ⟨rfl, by rw [List.length_map]; omega, fun _ => ⟨_, rfl, fun j p hp => ?_⟩⟩
  rw [List.getElem?_map] at hp
  obtain ⟨q, hq, rfl⟩ := Option.map_eq_some_iff.1 hp
  refine ⟨[.int .i64 q.1, .string q.2, .slice none 0 0], rfl, k70_mk w (fld q) (A2 := none) (c2 := 0) (Nat.le_refl _) ⟨rfl, Nat.zero_le _, fun h => absurd h (Nat.lt_irrefl 0)⟩, fun i u hu => ?_⟩
  rw [Addr.add_mid, Nat.zero_add]
  exact h.cell hq i u hu
theorem one3 (a : Int) (s : ByteArray) (A : Option Addr) (n c : Nat) : (#[.int .i64 a, .string s, .slice A n c] : Array Value).all (·.oneCell') = true := by simp [Value.oneCell']
theorem size70 : (Try.prog.info? 70).map (·.size) = some 3 := by kernel_rfl
theorem reads_none (w : World) : Kd.C k70 w none ([] : List S70).length [] := ⟨rfl, Nat.zero_le _, fun h => absurd h (Nat.lt_irrefl 0)⟩
end Go.Proofs.Ytdiodnjkejogdaa.All
/- Bytes of a string, one of them written over; the row of what was. -/
namespace Go.Proofs.Ytdiodnjkejogdaa.All
open Go.RowKit Go.Proofs.YtdiodnjkejogdaaW.PrintWords Go.Proofs.YtdiodnjkejogdaaW.PrintLast Go.Proofs.YtdiodnjkejogdaaW.PrintMore Go.Proofs.Ytdiodnjkejogdaa.Pure
set_option linter.unusedVariables false
set_option linter.unusedSimpArgs false
theorem want_step (L : List (List Int)) (i : Nat) (x : List Int) (hx : L[i]? = some x) : (L.take i ++ List.replicate (L.length - i) zeros12).set i x = L.take (i + 1) ++ List.replicate (L.length - (i + 1)) zeros12 := by
  have hi : i < L.length := (List.getElem?_eq_some_iff.1 hx).1
  rw [List.set_append_right _ _ (by rw [List.length_take]; omega), List.length_take, show i - min i L.length = 0 by omega, show L.length - i = (L.length - (i + 1)) + 1 by omega, List.replicate_succ, List.set_cons_zero, List.take_add_one, hx, Option.toList_some, List.append_assoc]
  rfl
/-- a row of bytes, known so far as it is read -/
structure BytesAt (w : World) (g : Nat) (l : List Int) : Prop where
  cell : ∀ i, i < l.length → w.cell? ⟨g, i, none⟩ = some (.int .u8 (l.getD i 0))
  free : ∀ i, i < l.length → w.frozen? ⟨g, i, none⟩ = false
theorem bytesWorld_bytes (W : World) (s : ByteArray) : BytesAt (Lib.bytesWorld W 5 s) W.heap.size (bytesOf s) := by
  refine ⟨fun i hi => ?_, fun i hi => ?_⟩
  · rw [bytesOf_length] at hi
    rw [Lib.bytesWorld_cell W 5 s i hi]
    have h' : i < s.data.toList.length := by rw [data_length]; exact hi
    simp [bytesOf, List.getD_eq_getElem?_getD, List.getElem?_eq_getElem h']
  · rw [bytesOf_length] at hi
    unfold World.frozen?
    rw [Lib.bytesWorld_at_new]
    have : (Lib.bytesCells W 5 s).size ≥ s.size := by
      unfold Lib.bytesCells
      rw [Array.size_append, Array.size_map]
      exact Nat.le_add_right _ _
    simp
    omega
theorem BytesAt.set {w : World} {g : Nat} {l : List Int} (h : BytesAt w g l) (a : Nat) (ha : a < l.length) (d : Int) : BytesAt (w.setCell ⟨g, a, none⟩ (.int .u8 d)) g (l.set a d) := by
  refine ⟨fun i hi => ?_, fun i hi => ?_⟩
  · rw [List.length_set] at hi
    by_cases hia : a = i
    · subst hia
      rw [World.cell?_setCell_same _ _ _ (h.cell a ha)]
      simp [List.getD_eq_getElem?_getD, List.getElem?_set_self ha]
    · rw [World.cell?_setCell_other _ _ _ _ (fun e => hia (by injection e)), h.cell i hi]
      simp [List.getD_eq_getElem?_getD, List.getElem?_set_ne hia]
  · rw [List.length_set] at hi
    rw [World.frozen?_setCell]
    exact h.free i hi
theorem BytesAt.string {w : World} {g : Nat} {l : List Int} (h : BytesAt w g l) (cap : Nat) : (convert 67 9 (.slice (some ⟨g, 0, none⟩) l.length cap)).run Try.prog w = .ok (.string (strOfNums l)) w :=
  run_convert_bytes_arg w 67 5 Try.underlying67 Try.underlying5 g 0 l.length cap l rfl (fun i hi => by rw [Nat.zero_add]; exact h.cell i hi) 9 Try.underlying9
theorem fcells_one (L : List (Int × ByteArray)) : ∀ u ∈ fcells L, u.oneCell' = true := by
  intro u hu
  simp only [fcells, List.mem_flatMap] at hu
  obtain ⟨p, _, hu⟩ := hu
  simp at hu
  rcases hu with rfl | rfl | rfl <;> rfl
theorem FldAt.cells {w : World} {g : Nat} {L : List (Int × ByteArray)} (h : FldAt w g L) : ∀ (j : Nat) (u : Value), (fcells L)[j]? = some u → w.cell? ((⟨g, 0, none⟩ : Addr).add j) = some u := fun j u hu => by
  obtain ⟨rest, h⟩ := h
  rw [Addr.add_mid, Nat.zero_add, cell_of_row w g _ _ 70 (0, 0) h, List.getElem?_toArray, List.getElem?_append_left (List.getElem?_eq_some_iff.1 hu).1]
  exact hu
/-- a new row that append made: the fields, whatever room is behind them -/
theorem own_fld {w : World} {base n : Nat} {v : Value} {L : List (Int × ByteArray)} (h : w.ownsRow base 70 3 v n (fcells L)) (hn : 0 < n) : ∃ g cap, v = .slice (some ⟨g, 0, none⟩) n cap ∧ base ≤ g ∧ n ≤ cap ∧ FldAt w g L := by
  obtain ⟨hl, h⟩ := h
  rcases h with ⟨_, h0⟩ | ⟨g, cap, cur, rfl, hb, hg, hc, hm, hs, ht⟩
  · omega
  · refine ⟨g, cap, rfl, hb, hc, cur.toList.drop (n * 3), ?_⟩
    rw [← ht, List.take_append_drop]
    simpa using hg
end Go.Proofs.Ytdiodnjkejogdaa.All
