/- Plain lemmas of the totals seat: a number in so many digits; what Get finds; a reconciliation's fields. -/
import Derived.Test.YtdiodnjkejogdaaQc
import Derived.Test.YtdiodnjkejogdaaAx25
namespace Go.Proofs.Ytdiodnjkejogdaa.Pure
open Go.RowKit Go.Proofs.Ytdiodnjkejogdaa.All Go.Proofs.YtdiodnjkejogdaaW.PrintWords Go.Proofs.YtdiodnjkejogdaaW.PrintLast Go.Proofs.YtdiodnjkejogdaaW.PrintMore
set_option linter.unusedVariables false
set_option linter.unusedSimpArgs false

theorem write_l0 : ∀ (i : Nat) (n : Int) (l : List Int), i ≤ l.length → l.length ≤ 1000 → 0 ≤ n → n < 10 ^ i → n ≤ 9223372036854775807 →
    Ev (fun k => digits_Write.l0 k n l ((i : Int) - 1)) (strOfNums (decT i n ++ l.drop i), 0)
  | 0, n, l, hi, hl, h0, h1, h2 => by
    have hn : n = 0 := by simp at h1; omega
    subst hn
    refine Ev.step (f := fun _ => some (strOfNums l, 0)) (fun k => ?_) ?_
    · simp only [digits_Write.l0]
      rw [if_neg (by omega), if_neg (by omega)]
    · simp only [decT, List.nil_append, List.drop_zero]
      exact Ev.now _
  | i + 1, n, l, hi, hl, h0, h1, h2 => by
    have hp : (10 : Int) ^ (i + 1) = 10 * 10 ^ i := by rw [Int.pow_succ]; omega
    have e1 : Int.tmod n 10 = n % 10 := Int.tmod_eq_emod_of_nonneg h0
    have e2 : Int.tdiv n 10 = n / 10 := Int.tdiv_eq_ediv_of_nonneg h0
    have ih := write_l0 i (n / 10) (l.set i (48 + n % 10)) (by rw [List.length_set]; omega) (by rw [List.length_set]; omega) (by omega) (by rw [hp] at h1; omega) (by omega)
    have er : decT i (n / 10) ++ (l.set i (48 + n % 10)).drop i = decT (i + 1) n ++ l.drop (i + 1) := by
      rw [decT, List.append_assoc]
      congr 1
      rw [List.drop_eq_getElem_cons (by rw [List.length_set]; omega), List.getElem_set_self, List.drop_set_of_lt (by omega)]
      rfl
    rw [er] at ih
    refine Ev.step (fun k => ?_) ih
    simp only [digits_Write.l0]
    have e3 : wrap64 (48 + n % 10) % 256 = 48 + n % 10 := by rw [w64 (by omega : -9223372036854775808 ≤ 48 + n % 10 ∧ 48 + n % 10 ≤ 9223372036854775807)]; omega
    have e4 : wrap64 (((i + 1 : Nat) : Int) - 1 - 1) = (i : Int) - 1 := by rw [w64 (by omega)]; omega
    rw [if_pos (by omega), if_pos (by omega), if_pos (by omega), e1, e2, e3, e4, w64 (by omega : -9223372036854775808 ≤ n / 10 ∧ n / 10 ≤ 9223372036854775807), show (((i + 1 : Nat) : Int) - 1).toNat = i by omega]
theorem write_ev (w : Nat) (n : Int) (hw : 1 ≤ w ∧ w ≤ 18) (h0 : 0 ≤ n) (h1 : n < 10 ^ w) (h2 : n ≤ 9223372036854775807) : Ev (fun k => digits_Write.f k n (w : Int)) (strOfNums (decT w n), 0) := by
  have h := write_l0 w n (List.replicate w 0) (by rw [List.length_replicate]; omega) (by rw [List.length_replicate]; omega) h0 h1 h2
  rw [List.drop_eq_nil_of_le (by rw [List.length_replicate]; omega), List.append_nil] at h
  refine Ev.step (fun k => ?_) h
  unfold digits_Write.f
  rw [if_neg (by omega), if_neg (by omega), show decide ((w : Int) > 18) = false from decide_eq_false (by omega)]
  simp only [digits_Write.j0]
  rw [if_neg (by decide), if_pos (by omega), if_pos (by omega), w64 (n := (w : Int) - 1) (by omega), show ((w : Int)).toNat = w by omega]
theorem wide_ev (a : Int) (w : Nat) (n : Int) (hw : 1 ≤ w ∧ w ≤ 18) (h0 : 0 ≤ n) (h1 : n < 10 ^ w) (h2 : n ≤ 9223372036854775807) : Ev (fun k => totals_wide.f k a n (w : Int)) (a, strOfNums (decT w n), []) := by
  obtain ⟨k0, h⟩ := write_ev w n hw h0 h1 h2
  refine ⟨k0, fun k hk => ?_⟩
  have e := h k hk
  simp only at e ⊢
  unfold totals_wide.f
  rw [e]
  rfl
/-- what Get finds -/
def getP (n : Int) : List S70 → ByteArray × Bool
  | [] => (⟨#[]⟩, false)
  | x :: r => if x.f0 = n then (x.f1, true) else getP n r
theorem get_l0 (n : Int) (l : List S70) (hl : l.length ≤ 9223372036854775800) : ∀ (d i : Nat), i + d = l.length → Ev (fun k => message_Get.l0 k n l (l.length : Int) (i : Int)) (getP n (l.drop i))
  | 0, i, hi => by
    rw [List.drop_eq_nil_of_le (by omega)]
    refine Ev.step (f := fun _ => some (⟨#[]⟩, false)) (fun k => ?_) (Ev.now _)
    simp only [message_Get.l0]
    rw [if_neg (by omega)]
  | d + 1, i, hi => by
    have hd : l.drop i = l[i]'(by omega) :: l.drop (i + 1) := List.drop_eq_getElem_cons (by omega)
    have hr : rd_T70 l (i : Int) = l[i]'(by omega) := by
      simp only [rd_T70, Int.toNat_natCast, List.getD_eq_getElem?_getD]
      rw [List.getElem?_eq_getElem (by omega), Option.getD_some]
    rw [hd, getP]
    by_cases hc : (l[i]'(by omega)).f0 = n
    · rw [if_pos hc]
      refine Ev.step (f := fun _ => some ((l[i]'(by omega)).f1, true)) (fun k => ?_) (Ev.now _)
      simp only [message_Get.l0]
      rw [if_pos (by omega), if_pos (by omega), if_pos (by omega), hr, if_pos hc]
    · rw [if_neg hc]
      refine Ev.step (fun k => ?_) (get_l0 n l hl d (i + 1) (by omega))
      simp only [message_Get.l0]
      rw [if_pos (by omega), if_pos (by omega), if_pos (by omega), hr, if_neg hc, w64 (by omega)]
      rfl
theorem get_ev (m : ByteArray) (n : Int) (l : List S70) (hl : l.length ≤ 9223372036854775800) : Ev (fun k => message_Get.f k m l n) (getP n l) := get_l0 n l hl l.length 0 (by omega)
/-- a reconciliation's fields -/
def dgt (w : Nat) (n : Int) : ByteArray := strOfNums (decT w n)
def fldsOf (x : List Int) : List (Int × ByteArray) :=
  [(74, dgt 10 (x.getD 4 0)), (75, dgt 10 (x.getD 5 0)), (76, dgt 10 (x.getD 6 0)), (77, dgt 10 (x.getD 7 0)), (86, dgt 16 (x.getD 8 0)), (87, dgt 16 (x.getD 9 0)), (88, dgt 16 (x.getD 10 0)), (89, dgt 16 (x.getD 11 0))]
def fld (p : Int × ByteArray) : S70 := ⟨p.1, p.2, []⟩
def okF (lm : List S70) (p : Int × ByteArray) : Bool := !((getP p.1 lm).2 && ((getP p.1 lm).1.toList != p.2.toList))
theorem dgt_size (w : Nat) (n : Int) : (dgt w n).size = w := by unfold dgt; rw [strOfNums_size, decT_length]
end Go.Proofs.Ytdiodnjkejogdaa.Pure
/- Plain lemmas of the totals seat: reconciliations that agree and one that does not. -/
namespace Go.Proofs.Ytdiodnjkejogdaa.Pure
open Go.RowKit Go.Proofs.Ytdiodnjkejogdaa.All Go.Proofs.YtdiodnjkejogdaaW.PrintWords Go.Proofs.YtdiodnjkejogdaaW.PrintLast Go.Proofs.YtdiodnjkejogdaaW.PrintMore
set_option linter.unusedVariables false
set_option linter.unusedSimpArgs false
def m0500 : ByteArray := ⟨#[48, 53, 48, 48]⟩
def m0510 : ByteArray := ⟨#[48, 53, 49, 48]⟩
def m1501 : ByteArray := ⟨#[49, 53, 48, 49]⟩
set_option maxRecDepth 100000 in
theorem kinds : message_Class.f 9 m0500 = some 5 ∧ message_Function.f 9 m0500 = some 0 ∧ message_Class.f 9 m0510 = some 5 ∧ message_Function.f 9 m0510 = some 1 ∧ message_Class.f 9 m1501 = some 5 ∧ message_Function.f 9 m1501 = some 0 := by decide +kernel
theorem agree_self (x : List Int) : (fldsOf x).all (okF ((fldsOf x).map fld)) = true := by
  simp [fldsOf, okF, getP, fld]
theorem agree_none (x : List Int) : (fldsOf x).all (okF []) = true := by
  simp [fldsOf, okF, getP]
theorem differ (x : List Int) (i : Nat) (p : Int × ByteArray) (s : ByteArray) (hi : (fldsOf x)[i]? = some p) (hs : s.toList ≠ p.2.toList) : (fldsOf x).all (okF (((fldsOf x).set i (p.1, s)).map fld)) = false := by
  have h8 : i < 8 := (List.getElem?_eq_some_iff.1 hi).1
  have hc : i = 0 ∨ i = 1 ∨ i = 2 ∨ i = 3 ∨ i = 4 ∨ i = 5 ∨ i = 6 ∨ i = 7 := by omega
  rw [List.all_eq_false]
  refine ⟨p, List.mem_of_getElem? hi, ?_⟩
  rcases hc with rfl | rfl | rfl | rfl | rfl | rfl | rfl | rfl <;> (obtain rfl := Option.some.inj hi; simpa [fldsOf, okF, getP, fld] using hs)
/-- a digit is turned into the next -/
theorem turned (d : Nat) (n : Int) (a : Nat) (ha : a < d) : (strOfNums ((bytesOf (strOfNums (decT d n))).set a ((48 + (bt (strOfNums (decT d n)) a - 48 + 1) % 10)))).toList ≠ (strOfNums (decT d n)).toList := by
  have hr : ∀ x ∈ decT d n, 0 ≤ x ∧ x ≤ 255 := fun x hx => by have := decT_range d n x hx; omega
  have hb := nums_bytes _ hr
  have hbt : bt (strOfNums (decT d n)) (a : Int) = (decT d n)[a]'(by rw [decT_length]; exact ha) := by
    rw [← rd_bytesOf, hb]
    simp [rd, List.getD, ha, decT_length]
  have hc := decT_range d n _ (List.getElem_mem (show a < (decT d n).length by rw [decT_length]; exact ha))
  rw [hb, hbt]
  generalize hcc : (decT d n)[a]'(by rw [decT_length]; exact ha) = c at hc ⊢
  intro h
  have h2 : strOfNums ((decT d n).set a (48 + (c - 48 + 1) % 10)) = strOfNums (decT d n) := by
    apply ByteArray.ext
    rw [ByteArray.toList_eq, ByteArray.toList_eq] at h
    exact Array.ext' h
  have h3 := congrArg bytesOf h2
  rw [hb, nums_bytes _ (fun x hx => by
    rcases List.mem_or_eq_of_mem_set hx with hx | hx
    · exact hr x hx
    · omega)] at h3
  have h4 := congrArg (fun l => l[a]?) h3
  simp only [List.getElem?_set_self (show a < (decT d n).length by rw [decT_length]; exact ha), List.getElem?_eq_getElem (show a < (decT d n).length by rw [decT_length]; exact ha), hcc] at h4
  have h5 := Option.some.inj h4
  omega
theorem fldsOf_dgt (x : List Int) (i : Nat) (p : Int × ByteArray) (hi : (fldsOf x)[i]? = some p) : ∃ d n, p.2 = dgt d n ∧ (d = 10 ∨ d = 16) := by
  have h8 : i < 8 := (List.getElem?_eq_some_iff.1 hi).1
  have hc : i = 0 ∨ i = 1 ∨ i = 2 ∨ i = 3 ∨ i = 4 ∨ i = 5 ∨ i = 6 ∨ i = 7 := by omega
  rcases hc with rfl | rfl | rfl | rfl | rfl | rfl | rfl | rfl <;> (obtain rfl := Option.some.inj hi; exact ⟨_, _, rfl, by decide⟩)
theorem bnd_tells {m : Nat} {x : List Int} (h : Bnd m x) (hm : m ≤ 300) : ∃ x0 x1 x2 x3 x4 x5 x6 x7 x8 x9 x10 x11 : Int, x = [x0, x1, x2, x3, x4, x5, x6, x7, x8, x9, x10, x11] ∧ (0 ≤ x4 ∧ x4 < 10000000000) ∧ (0 ≤ x5 ∧ x5 < 10000000000) ∧ (0 ≤ x6 ∧ x6 < 10000000000) ∧ (0 ≤ x7 ∧ x7 < 10000000000) ∧ (0 ≤ x8 ∧ x8 < 10000000000000000) ∧ (0 ≤ x9 ∧ x9 < 10000000000000000) ∧ (0 ≤ x10 ∧ x10 < 10000000000000000) ∧ (0 ≤ x11 ∧ x11 < 10000000000000000) := by
  obtain ⟨x0, x1, x2, x3, x4, x5, x6, x7, x8, x9, x10, x11, rfl, h⟩ := h
  refine ⟨x0, x1, x2, x3, x4, x5, x6, x7, x8, x9, x10, x11, rfl, ?_⟩
  omega
end Go.Proofs.Ytdiodnjkejogdaa.Pure
