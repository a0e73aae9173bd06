/- Plain lemmas of the totals seat: a book of deals, counted one by one; bounds; in whatever order. -/
import Derived.Test.YtdiodnjkejogdaaQb
import Derived.Test.YtdiodnjkejogdaaH44
import Derived.Test.YtdiodnjkejogdaaHb
namespace Go.Proofs.Ytdiodnjkejogdaa.Pure
open Go.RowKit Go.Proofs.Ytdiodnjkejogdaa.All Go.Proofs.YtdiodnjkejogdaaW.PrintWords Go.Proofs.YtdiodnjkejogdaaW.PrintLast Go.Proofs.YtdiodnjkejogdaaW.PrintMore
set_option linter.unusedVariables false
set_option linter.unusedSimpArgs false

def nD (d : Dl) : Int := pickZ d.am 1000000000
def tD (d : Dl) : Int := pickZ d.what 6
def kD (n : Nat) (d : Dl) : Nat := (pickZ d.link (n : Int)).toNat
theorem nD_range (d : Dl) : 0 ≤ nD d ∧ nD d < 1000000000 := pickZ_range _ _ (by decide)
theorem tD_range (d : Dl) : 0 ≤ tD d ∧ tD d < 6 := pickZ_range _ _ (by decide)
def cntDl (x : List Int) (d : Dl) : List Int := cntD x (nD d) (tD d) d.yes d.cr
/-- a deal more in a book -/
def stepL (n : Nat) (L : List (List Int)) (d : Dl) : List (List Int) := L.set (kD n d) (cntDl (L.getD (kD n d) zeros12) d)
def bookL (n : Nat) (ds : List Dl) : List (List Int) := ds.foldl (stepL n) (List.replicate n zeros12)
/-- a link's numbers behind at most m deals -/
def Bnd (m : Nat) (x : List Int) : Prop := ∃ x0 x1 x2 x3 x4 x5 x6 x7 x8 x9 x10 x11 : Int, x = [x0, x1, x2, x3, x4, x5, x6, x7, x8, x9, x10, x11] ∧
  (0 ≤ x0 ∧ x0 ≤ m) ∧ (0 ≤ x1 ∧ x1 ≤ m) ∧ (0 ≤ x2 ∧ x2 ≤ m) ∧ (0 ≤ x3 ∧ x3 ≤ m) ∧ (0 ≤ x4 ∧ x4 ≤ m) ∧ (0 ≤ x5 ∧ x5 ≤ m) ∧ (0 ≤ x6 ∧ x6 ≤ m) ∧ (0 ≤ x7 ∧ x7 ≤ m) ∧
  (0 ≤ x8 ∧ x8 ≤ m * 1000000000) ∧ (0 ≤ x9 ∧ x9 ≤ m * 1000000000) ∧ (0 ≤ x10 ∧ x10 ≤ m * 1000000000) ∧ (0 ≤ x11 ∧ x11 ≤ m * 1000000000) ∧ x0 = x1 + x2
theorem Bnd.len {m : Nat} {x : List Int} (h : Bnd m x) : x.length = 12 := by
  obtain ⟨x0, x1, x2, x3, x4, x5, x6, x7, x8, x9, x10, x11, rfl, _⟩ := h
  rfl
theorem Bnd.mono {m k : Nat} {x : List Int} (h : Bnd m x) (hk : m ≤ k) : Bnd k x := by
  obtain ⟨x0, x1, x2, x3, x4, x5, x6, x7, x8, x9, x10, x11, rfl, h⟩ := h
  refine ⟨x0, x1, x2, x3, x4, x5, x6, x7, x8, x9, x10, x11, rfl, ?_⟩
  omega
theorem Bnd.zero : Bnd 0 zeros12 := ⟨0, 0, 0, 0, 0, 0, 0, 0, 0, 0, 0, 0, rfl, by decide⟩
theorem Bnd.within {m : Nat} {x : List Int} (h : Bnd m x) (hm : m ≤ 9999999) : withinL x = true := by
  obtain ⟨x0, x1, x2, x3, x4, x5, x6, x7, x8, x9, x10, x11, rfl, h⟩ := h
  unfold withinL
  simp only [Bool.and_eq_true, decide_eq_true_eq, mx8_le, mx4_le]
  simp only [List.getD_cons_zero, List.getD_cons_succ]
  omega
/-- two counts as one -/
def addL (x y : List Int) : List Int := List.zipWith (· + ·) x y
theorem cntD_add (m : Nat) (x : List Int) (n t : Int) (yes cr : Bool) (h : Bnd m x) (hm : m ≤ 9000000) (hn : 0 ≤ n ∧ n < 1000000000) : cntD x n t yes cr = addL x (cntD zeros12 n t yes cr) := by
  obtain ⟨x0, x1, x2, x3, x4, x5, x6, x7, x8, x9, x10, x11, rfl, h⟩ := h
  have w0 : ∀ a : Int, 0 ≤ a ∧ a ≤ m → wrap64 (a + 1) = a + 1 := fun a ha => w64 (by omega)
  have w1 : ∀ a : Int, 0 ≤ a ∧ a ≤ m * 1000000000 → wrap64 (a + n) = a + n := fun a ha => w64 (by omega)
  have w2 : wrap64 (0 + 1) = 1 := w64 (n := 1) (by omega)
  have w4 : wrap64 1 = 1 := w2
  have w5 : wrap64 n = n := w64 (by omega)
  have w3 : wrap64 (0 + n) = n := by rw [Int.zero_add]; exact w64 (by omega)
  unfold cntD
  generalize decide (3 < t) = back
  generalize (t == 3) = adv
  obtain ⟨h0, h1, h2, h3, h4, h5, h6, h7, h8, h9, h10, h11, hr⟩ := h
  have e0 := w0 _ h0; have e1 := w0 _ h1; have e2 := w0 _ h2; have e3 := w0 _ h3; have e4 := w0 _ h4; have e5 := w0 _ h5; have e6 := w0 _ h6; have e7 := w0 _ h7
  have e8 := w1 _ h8; have e9 := w1 _ h9; have e10 := w1 _ h10; have e11 := w1 _ h11
  clear h0 h1 h2 h3 h4 h5 h6 h7 h8 h9 h10 h11 hr w0 w1 hm hn
  cases back <;> cases adv <;> cases yes <;> cases cr <;> (delta countL zeros12 addL; simp [e0, e1, e2, e3, e4, e5, e6, e7, e8, e9, e10, e11, w2, w3, w4, w5])
theorem cntD_bnd (m : Nat) (x : List Int) (n t : Int) (yes cr : Bool) (h : Bnd m x) (hm : m ≤ 9000000) (hn : 0 ≤ n ∧ n < 1000000000) : Bnd (m + 1) (cntD x n t yes cr) := by
  rw [cntD_add m x n t yes cr h hm hn]
  obtain ⟨x0, x1, x2, x3, x4, x5, x6, x7, x8, x9, x10, x11, rfl, h⟩ := h
  have w2 : wrap64 (0 + 1) = 1 := w64 (n := 1) (by omega)
  have w4 : wrap64 1 = 1 := w2
  have w5 : wrap64 n = n := w64 (by omega)
  have w3 : wrap64 (0 + n) = n := by rw [Int.zero_add]; exact w64 (by omega)
  unfold cntD
  generalize decide (3 < t) = back
  generalize (t == 3) = adv
  cases back <;> cases adv <;> cases yes <;> cases cr <;> (delta countL zeros12 addL; simp only [List.set_cons_zero, List.set_cons_succ, List.getD_cons_zero, List.getD_cons_succ, List.zipWith_cons_cons, List.zipWith_nil_left, w2, w3, Int.add_zero]; exact ⟨_, _, _, _, _, _, _, _, _, _, _, _, rfl, by omega⟩)
/-- a book's rows behind at most m deals -/
def BndL (m : Nat) (L : List (List Int)) : Prop := ∀ x ∈ L, Bnd m x
theorem BndL.getD {m : Nat} {L : List (List Int)} (h : BndL m L) (k : Nat) : Bnd m (L.getD k zeros12) := by
  rw [List.getD_eq_getElem?_getD]
  cases hk : L[k]? with
  | none => exact Bnd.zero.mono (Nat.zero_le _)
  | some x => exact h x (List.mem_of_getElem? hk)
theorem stepL_bnd (n m : Nat) (L : List (List Int)) (d : Dl) (h : BndL m L) (hm : m ≤ 9000000) : BndL (m + 1) (stepL n L d) := fun x hx => by
  rcases List.mem_or_eq_of_mem_set hx with hx | rfl
  · exact (h x hx).mono (by omega)
  · exact cntD_bnd m _ _ _ _ _ (h.getD _) hm (nD_range d)
theorem foldL_bnd (n : Nat) : ∀ (ds : List Dl) (m : Nat) (L : List (List Int)), BndL m L → m + ds.length ≤ 9000000 → BndL (m + ds.length) (ds.foldl (stepL n) L)
  | [], m, L, h, _ => h
  | d :: r, m, L, h, hm => by
    simp only [List.length_cons] at hm ⊢
    have := foldL_bnd n r (m + 1) _ (stepL_bnd n m L d h (by omega)) (by omega)
    rw [show m + (r.length + 1) = m + 1 + r.length by omega]
    exact this
theorem zeros_bnd (n : Nat) : BndL 0 (List.replicate n zeros12) := fun x hx => by rw [List.eq_of_mem_replicate hx]; exact Bnd.zero
theorem bookL_bnd (n : Nat) (ds : List Dl) (h : ds.length ≤ 9000000) : BndL ds.length (bookL n ds) := by
  have := foldL_bnd n ds 0 _ (zeros_bnd n) (by omega)
  rwa [Nat.zero_add] at this
theorem stepL_length (n : Nat) (L : List (List Int)) (d : Dl) : (stepL n L d).length = L.length := by unfold stepL; rw [List.length_set]
theorem foldL_length (n : Nat) : ∀ (ds : List Dl) (L : List (List Int)), (ds.foldl (stepL n) L).length = L.length
  | [], L => rfl
  | d :: r, L => by rw [List.foldl_cons, foldL_length n r, stepL_length]
theorem bookL_length (n : Nat) (ds : List Dl) : (bookL n ds).length = n := by unfold bookL; rw [foldL_length, List.length_replicate]
theorem kD_lt (n : Nat) (d : Dl) (h : 1 ≤ n) : kD n d < n := by
  have := pickZ_range d.link (n : Int) (by omega)
  unfold kD
  omega
theorem bookL_snoc (n : Nat) (ds : List Dl) (d : Dl) : bookL n (ds ++ [d]) = stepL n (bookL n ds) d := by unfold bookL; rw [List.foldl_append]; rfl
/-! in whatever order -/
def vecD (d : Dl) : List Int := cntDl zeros12 d
def plusL (n : Nat) (L : List (List Int)) (d : Dl) : List (List Int) := L.set (kD n d) (addL (L.getD (kD n d) zeros12) (vecD d))
theorem stepL_plus (n m : Nat) (L : List (List Int)) (d : Dl) (h : BndL m L) (hm : m ≤ 9000000) : stepL n L d = plusL n L d := by
  unfold stepL plusL vecD cntDl
  rw [cntD_add m _ _ _ _ _ (h.getD _) hm (nD_range d)]
theorem foldL_plus (n : Nat) : ∀ (ds : List Dl) (m : Nat) (L : List (List Int)), BndL m L → m + ds.length ≤ 9000000 → ds.foldl (stepL n) L = ds.foldl (plusL n) L
  | [], m, L, h, _ => rfl
  | d :: r, m, L, h, hm => by
    simp only [List.length_cons] at hm
    rw [List.foldl_cons, List.foldl_cons, foldL_plus n r (m + 1) _ (stepL_bnd n m L d h (by omega)) (by omega), stepL_plus n m L d h (by omega)]
theorem addL_right (x a b : List Int) : addL (addL x a) b = addL (addL x b) a := by
  unfold addL
  apply List.ext_getElem?
  intro i
  simp only [List.getElem?_zipWith]
  cases x[i]? <;> cases a[i]? <;> cases b[i]? <;> simp
  omega
theorem plusL_comm (n : Nat) (L : List (List Int)) (d e : Dl) : plusL n (plusL n L d) e = plusL n (plusL n L e) d := by
  unfold plusL
  generalize kD n d = i
  generalize kD n e = j
  generalize vecD d = v
  generalize vecD e = u
  by_cases hij : i = j
  · subst hij
    rw [List.set_set, List.set_set]
    by_cases hi : i < L.length
    · simp only [List.getD_eq_getElem?_getD, List.getElem?_set_self hi, Option.getD_some]
      rw [addL_right]
    · rw [List.set_eq_of_length_le (by omega), List.set_eq_of_length_le (by omega)]
  · simp only [List.getD_eq_getElem?_getD, List.getElem?_set_ne hij, List.getElem?_set_ne (Ne.symm hij)]
    rw [List.set_comm _ _ hij]
theorem bookL_perm (n : Nat) {ds es : List Dl} (hp : ds.Perm es) (h : ds.length ≤ 9000000) : bookL n ds = bookL n es := by
  have hl := hp.length_eq
  unfold bookL
  rw [foldL_plus n ds 0 _ (zeros_bnd n) (by omega), foldL_plus n es 0 _ (zeros_bnd n) (by omega)]
  exact hp.foldl_eq' (fun x _ y _ z => plusL_comm n z x y) _
theorem bookL_reverse (n : Nat) (ds : List Dl) (h : ds.length ≤ 9000000) : bookL n ds.reverse = bookL n ds := bookL_perm n (List.reverse_perm ds) (by rw [List.length_reverse]; exact h)
end Go.Proofs.Ytdiodnjkejogdaa.Pure
