/- An argument that is a slice of structs: opened to deals, and read behind the call as it was read before. -/
import Derived.Test.YtdiodnjkejogdaaH15
import Derived.Deep.Slices
import Derived.Deep.Fields
import Derived.Deep.Modes
import Derived.ChangeSame
import Derived.OpenShut
namespace Go.Proofs.Ytdiodnjkejogdaa.All
open Go.ChangeShapes Go.WideShapes Go.Deep Go.RowKit
set_option linter.unusedVariables false
set_option linter.unusedSimpArgs false
section
variable {H : Type} {enc : TypeId × Value → H} {P : Program} {w : World} {base : Nat} {spare : Nat → Bool} {held : Bool}
theorem open_slice_fields {t e : TypeId} {fs : Array Field} {fuel : Nat} {cs : List Value} {x : DataW H × List MemPlace} (ht : P.underlying t = some (.slice e)) (he : P.underlying e = some (.struct fs))
    (hone : oneCellFields P fs = true) (hC : P.cellsOf e = fs.size) (h : DataW.trod enc P w base spare held fuel t cs = some x) :
    cs = [.slice none 0 0] ∨
    ∃ (a : Addr) (len cap m : Nat), cs = [.slice (some a) len cap] ∧ len ≤ cap ∧ cap ≤ maxLen ∧ m = (if spare a.block then cap else len) ∧
      ∀ i, i < m → ∃ n, ∀ (j : Nat) (f : Field), fs[j]? = some f → ∃ (v : Value) (y : DataW H × List MemPlace), w.cell? (a.add (i * fs.size + j)) = some v ∧ DataW.trod enc P w base spare held n f.type [v] = some y := by
  rcases open_slice ht h with h0 | ⟨a, len, cap, m, n, D, Pl, hcs, hb, hl, hm, hmm, hx, hi⟩
  · exact .inl h0.1
  · refine .inr ⟨a, len, cap, m, hcs, hl, hm, hmm, fun i him => ?_⟩
    obtain ⟨cs', hc, ht'⟩ := hi i him
    rw [hC] at hc
    obtain ⟨ys, n', hn', hy, hlen, hyl, hf⟩ := DataW.trod_struct he ht'
    obtain ⟨_, hcl, hat⟩ := World.cells?_some hc
    refine ⟨n', fun j f hj => ?_⟩
    obtain ⟨ho, hk⟩ := hone_of hone j f hj
    have hjl : j < fs.size := (Array.getElem?_eq_some_iff.1 hj).1
    have hcell := hat j hjl
    have hv : cs'[j]? = some (cs'[j]'(by omega)) := List.getElem?_eq_getElem (by omega)
    have h1 := hf j f hj
    rw [ho, hk] at h1
    have hone' : (cs'.drop j).take 1 = [cs'[j]'(by omega)] := by
      rw [List.drop_eq_getElem_cons (by omega)]
      rfl
    rw [hone'] at h1
    have hys : ys[j]? = some (ys[j]'(by omega)) := List.getElem?_eq_getElem (by omega)
    refine ⟨_, _, ?_, h1.trans hys⟩
    rw [← Go.Deep.add_add, hcell, hv]
/-- the argument reads behind the call as it read before -/
theorem slice_stays {t e : TypeId} {W W' : World} {A0 : Option Addr} {n0 c0 : Nat} {d : DataW H} {ps : List MemPlace} (hl : laidOutB P = true) (ht : P.underlying t = some (.slice e)) (hr : P.readableRec e = true) (hrow : e < P.types.size) (hs : P.slicesRec e = false) (hi : P.ifacesRec e = false) (hv : P.veiledRec e = false) (hpos : 0 < P.cellsOf e)
    (h : DataW.Trod enc P W 0 (fun _ => true) true t (.slice A0 n0 c0) d ps) (hlt : ∀ p ∈ ps, p.block < W.heap.size) (hb : Below W.heap.size W W') : DataW.Trod enc P W' 0 (fun b => decide (b < W.heap.size)) true t (.slice A0 n0 c0) d ps := by
  obtain ⟨n, hn⟩ := h
  have same : ∀ p : MemPlace, p.block < W.heap.size → W.sameAt W' p := fun p hp => by
    cases p with
    | cell b off => exact hb.cell hp
    | map b => exact hb.block b hp
  rcases open_slice ht hn with ⟨h0, h1⟩ | ⟨a, len, cap, m, n', D, Pl, hcs, hba, hle, hm, hmm, hx, hel⟩
  · have h0 : (Value.slice A0 n0 c0).cells.toList = [.slice none 0 0] := h0
    rw [h0] at hn
    refine ⟨1, ?_⟩
    rw [h0, DataW.trod_step]
    unfold DataW.trodStep
    simp only [ht]
    exact congrArg some h1.symm
  · simp only [if_true] at hmm
    subst hmm
    simp only [Prod.mk.injEq] at hx
    obtain ⟨hd, hp⟩ := hx
    simp only [Value.cells, List.cons.injEq, and_true, Value.slice.injEq] at hcs
    obtain ⟨rfl, rfl, rfl⟩ := hcs
    by_cases hlt' : a.block < W.heap.size
    · have h2 := shut_slice_whole_cells (enc := enc) (P := P) (w := W') (base := 0) (held := true) (spare := fun b => decide (b < W.heap.size)) (a := a) (len := n0) (cap := c0) ht (Nat.zero_le _) hle hm (decide_eq_true hlt') D Pl (fun i hi' => by
        obtain ⟨cs', hc, htr⟩ := hel i hi'
        have hin : ∀ p ∈ MemPlace.row (a.add (i * P.cellsOf e)) (P.cellsOf e), W.sameAt W' p := fun p hp' => same p (by
          obtain ⟨j, hj, rfl⟩ := MemPlace.mem_row.1 hp'
          have : (a.add (i * P.cellsOf e)).block = a.block := by unfold Addr.add; split <;> rfl
          show (a.add (i * P.cellsOf e)).block < _
          rw [this]; exact hlt')
        exact ⟨cs', n', World.cells?_carry hc hin, trod_any hl hr hrow hs hi htr (fun p hp' => same p (hlt p (by rw [hp]; exact List.mem_append_right _ (List.mem_flatMap.2 ⟨i, List.mem_range.2 hi', hp'⟩)))) hv⟩)
      rw [hd, hp]
      obtain ⟨k, hk⟩ := h2
      exact ⟨k, by simpa [Value.cells] using hk⟩
    · have hm0 : c0 = 0 := by
        rcases Nat.eq_zero_or_pos c0 with h | h
        · exact h
        · exfalso
          apply hlt'
          have := hlt (.cell a.block (a.off + 0)) (by
            rw [hp]
            exact List.mem_append_left _ (MemPlace.mem_row.2 ⟨0, Nat.mul_pos h hpos, rfl⟩))
          exact this
      subst hm0
      have hl0 : n0 = 0 := by omega
      subst hl0
      have h2 := shut_slice_cells (enc := enc) (P := P) (w := W') (base := 0) (held := true) (spare := fun b => decide (b < W.heap.size)) (a := a) (len := 0) (cap := 0) ht (Nat.zero_le _) hle hm (decide_eq_false hlt') D Pl (fun i hi' => absurd hi' (Nat.not_lt_zero i))
      rw [hd, hp]
      obtain ⟨k, hk⟩ := h2
      exact ⟨k, by simpa [Value.cells] using hk⟩
end
theorem cells58 : Try.prog.cellsOf 58 = 5 := by kernel_rfl
theorem laidOut : laidOutB Try.prog = true := by kernel_rfl
set_option maxRecDepth 100000 in
/-- an argument []Deal, opened -/
theorem open_deals {H : Type} {enc : TypeId × Value → H} {w : World} {r : Reach} {b0 : Nat} {v : Value} {d : DataW H} {ps : List MemPlace} (hval : Value.okWide Try.prog w r b0 54 v) (h : DataW.Trod enc Try.prog w 0 (fun _ => true) true 54 v d ps) :
    ∃ (A : Option Addr) (c : Nat) (l : List Dl), v = .slice A l.length c ∧ l.length ≤ c ∧ c ≤ maxLen ∧ DealsAt w A l ∧ ∀ d ∈ l, d.ok := by
  obtain ⟨A0, n0, c0, rfl⟩ := okWide_slice Try.underlying54 hval
  obtain ⟨n, hn⟩ := h
  rcases open_slice_fields Try.underlying54 Try.underlying58 (by kernel_rfl) cells58 hn with h0 | ⟨a, len, cap, m, hcs, hle, hm, hmm, hel⟩
  · refine ⟨none, 0, [], ?_, Nat.le_refl _, Nat.zero_le _, fun i d hi => by simp at hi, fun d hd => by cases hd⟩
    simpa [Value.cells] using h0
  · simp only [if_true] at hmm
    subst hmm
    have hv : (Value.slice A0 n0 c0) = .slice (some a) len m := by simpa [Value.cells] using hcs
    have hone : ∀ i, i < m → ∃ d : Dl, d.ok ∧ ∀ (j : Nat) (v : Value), d.cells[j]? = some v → w.cell? ((a.add (i * 5)).add j) = some v := fun i hi => by
      obtain ⟨n', hf⟩ := hel i hi
      obtain ⟨v0, y0, c0, t0⟩ := hf 0 _ rfl
      obtain ⟨v1, y1, c1, t1⟩ := hf 1 _ rfl
      obtain ⟨v2, y2, c2, t2⟩ := hf 2 _ rfl
      obtain ⟨v3, y3, c3, t3⟩ := hf 3 _ rfl
      obtain ⟨v4, y4, c4, t4⟩ := hf 4 _ rfl
      obtain ⟨x0, e0, _, w0⟩ := DataW.trod_int Try.underlying3 t0
      obtain ⟨x1, e1, _, w1⟩ := DataW.trod_int Try.underlying3 t1
      obtain ⟨x2, e2, _, w2⟩ := DataW.trod_int Try.underlying3 t2
      obtain ⟨b3, e3, _⟩ := DataW.trod_bool Try.underlying4 t3
      obtain ⟨b4, e4, _⟩ := DataW.trod_bool Try.underlying4 t4
      simp only [List.cons.injEq, and_true] at e0 e1 e2 e3 e4
      subst e0 e1 e2 e3 e4
      have r0 := bounds_i64 w0
      have r1 := bounds_i64 w1
      have r2 := bounds_i64 w2
      refine ⟨⟨x0, x1, x2, b3, b4⟩, ⟨r0, r1, r2⟩, fun j v hj => ?_⟩
      rw [add_add]
      match j, hj with
      | 0, hj => rw [← Option.some.inj hj]; exact c0
      | 1, hj => rw [← Option.some.inj hj]; exact c1
      | 2, hj => rw [← Option.some.inj hj]; exact c2
      | 3, hj => rw [← Option.some.inj hj]; exact c3
      | 4, hj => rw [← Option.some.inj hj]; exact c4
      | j + 5, hj => cases hj
    haveI : Inhabited Dl := ⟨⟨0, 0, 0, false, false⟩⟩
    obtain ⟨D, hD⟩ := choose_lt hone
    refine ⟨some a, m, (List.range len).map D, ?_, by simpa using hle, hm, fun i d hi => ?_, fun d hd => ?_⟩
    · rw [hv, List.length_map, List.length_range]
    · rw [List.getElem?_map] at hi
      obtain ⟨q, hq, rfl⟩ := Option.map_eq_some_iff.1 hi
      have hil : i < len := by have := (List.getElem?_eq_some_iff.1 hq).1; simpa using this
      rw [List.getElem?_range hil] at hq
      obtain rfl := Option.some.inj hq
      exact ⟨a, rfl, (hD i (by omega)).2⟩
    · obtain ⟨i, hi, rfl⟩ := List.mem_map.1 hd
      exact (hD i (by have := List.mem_range.1 hi; omega)).1
theorem deals_stay {H : Type} {enc : TypeId × Value → H} {W W' : World} {A0 : Option Addr} {n0 c0 : Nat} {d : DataW H} {ps : List MemPlace} (h : DataW.Trod enc Try.prog W 0 (fun _ => true) true 54 (.slice A0 n0 c0) d ps) (hlt : ∀ p ∈ ps, p.block < W.heap.size) (hb : Below W.heap.size W W') : DataW.Trod enc Try.prog W' 0 (fun b => decide (b < W.heap.size)) true 54 (.slice A0 n0 c0) d ps :=
  slice_stays laidOut Try.underlying54 (by kernel_rfl) (of_decide_eq_true (by kernel_rfl)) (by kernel_rfl) (by kernel_rfl) (by kernel_rfl) (by rw [cells58]; decide) h hlt hb
end Go.Proofs.Ytdiodnjkejogdaa.All
