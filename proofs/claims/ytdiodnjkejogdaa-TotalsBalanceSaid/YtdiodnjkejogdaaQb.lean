/- Plain lemmas of the totals seat: what a deal's two messages tell. -/
import Derived.Test.YtdiodnjkejogdaaQa
import Derived.Test.YtdiodnjkejogdaaAx19
import Derived.Test.YtdiodnjkejogdaaH45
import Derived.Test.YtdiodnjkejogdaaAx14
import Derived.Test.YtdiodnjkejogdaaAx15
import Derived.Test.YtdiodnjkejogdaaH46
namespace Go.Proofs.Ytdiodnjkejogdaa.Pure
open Go.RowKit Go.Proofs.Ytdiodnjkejogdaa.All Go.Proofs.YtdiodnjkejogdaaW.PrintWords Go.Proofs.YtdiodnjkejogdaaW.PrintLast Go.Proofs.YtdiodnjkejogdaaW.PrintMore
set_option linter.unusedVariables false
set_option linter.unusedSimpArgs false

def mtis : List ByteArray := [⟨#[48, 50, 48, 48]⟩, ⟨#[48, 49, 48, 48]⟩, ⟨#[49, 50, 48, 48]⟩, ⟨#[48, 50, 50, 48]⟩, ⟨#[48, 52, 50, 48]⟩, ⟨#[49, 52, 50, 49]⟩]
def mtiOf (t : Int) : ByteArray := rdOf ByteArray.empty mtis t
/-- the type that answers -/
def ansOf (t : Int) : ByteArray := rdOf ByteArray.empty [⟨#[48, 50, 49, 48]⟩, ⟨#[48, 49, 49, 48]⟩, ⟨#[49, 50, 49, 48]⟩, ⟨#[48, 50, 51, 48]⟩, ⟨#[48, 52, 51, 48]⟩, ⟨#[49, 52, 51, 48]⟩] t
def clsOf (t : Int) : Int := if t = 1 then 1 else if t > 3 then 4 else 2
def funOf (t : Int) : Int := if t > 2 then 2 else 0
set_option maxRecDepth 100000 in
theorem mti_facts : ∀ t : Fin 6, message_Class.f 9 (mtiOf t.val) = some (clsOf t.val) ∧ message_Function.f 9 (mtiOf t.val) = some (funOf t.val) ∧ (message_Answer.f 9 (mtiOf t.val)).map (fun b => (b.1.toList, b.2)) = some ((ansOf t.val).toList, 0) := by decide +kernel

/-- pick, plain -/
def pickZ (c n : Int) : Int := if c < 0 then (-(c + 1)) % n else c % n
theorem pickZ_f (c n : Int) (hn : 0 < n) (h : -9223372036854775808 ≤ c ∧ c ≤ 9223372036854775807) : turnstilelaw22_pick.f c n = some (pickZ c n) := by
  unfold turnstilelaw22_pick.f pickZ
  by_cases h0 : c < 0
  · rw [if_pos h0, if_neg (by omega), if_pos h0, w64 (n := c + 1) (by omega), w64 (by omega), Int.tmod_eq_emod_of_nonneg (by omega)]
  · rw [if_neg h0, if_neg (by omega), if_neg h0, Int.tmod_eq_emod_of_nonneg (by omega)]
theorem pickZ_range (c n : Int) (hn : 0 < n) : 0 ≤ pickZ c n ∧ pickZ c n < n := by
  unfold pickZ
  split
  · exact ⟨Int.emod_nonneg _ (by omega), Int.emod_lt_of_pos _ hn⟩
  · exact ⟨Int.emod_nonneg _ (by omega), Int.emod_lt_of_pos _ hn⟩
theorem class_ev (t : Int) (h : 0 ≤ t ∧ t < 6) : Ev (fun k => message_Class.f k (mtiOf t)) (clsOf t) := by
  have h1 := (mti_facts ⟨t.toNat, by omega⟩).1
  simp only [Int.toNat_of_nonneg h.1] at h1
  exact Ev.of (fun k => message_Class.mono _ k) h1
theorem function_ev (t : Int) (h : 0 ≤ t ∧ t < 6) : Ev (fun k => message_Function.f k (mtiOf t)) (funOf t) := by
  have h1 := (mti_facts ⟨t.toNat, by omega⟩).2.1
  simp only [Int.toNat_of_nonneg h.1] at h1
  exact Ev.of (fun k => message_Function.mono _ k) h1
theorem answer_ev (t : Int) (h : 0 ≤ t ∧ t < 6) : ∃ b : ByteArray, Ev (fun k => message_Answer.f k (mtiOf t)) (b, 0) := by
  have h1 := (mti_facts ⟨t.toNat, by omega⟩).2.2
  simp only [Int.toNat_of_nonneg h.1] at h1
  obtain ⟨⟨b, e⟩, hb, h2⟩ := Option.map_eq_some_iff.1 h1
  simp only [Prod.mk.injEq] at h2
  refine ⟨b, ?_⟩
  rw [h2.2] at hb
  exact Ev.of (fun k => message_Answer.mono _ k) hb
def s70 (n : Int) (s : ByteArray) : S70 := ⟨n, s, []⟩
theorem get_4 (m p s : ByteArray) : Ev (fun k => message_Get.f k m [s70 3 p, s70 4 s] 4) (s, true) := by
  refine Ev.of (fun k => message_Get.mono _ _ _ k) (k := 3) ?_
  simp [message_Get.f, message_Get.l0, rd_T70, s70, wrap64]
theorem get_3 (m p s : ByteArray) : Ev (fun k => message_Get.f k m [s70 3 p, s70 4 s] 3) (p, true) := by
  refine Ev.of (fun k => message_Get.mono _ _ _ k) (k := 3) ?_
  simp [message_Get.f, message_Get.l0, rd_T70, s70, wrap64]
theorem get_39 (m s : ByteArray) : Ev (fun k => message_Get.f k m [s70 39 s] 39) (s, true) := by
  refine Ev.of (fun k => message_Get.mono _ _ _ k) (k := 3) ?_
  simp [message_Get.f, message_Get.l0, rd_T70, s70, wrap64]
theorem digits_ev (n : Int) (h0 : 0 ≤ n) (h1 : n ≤ 9223372036854775807) : Ev (fun k => turnstilelaw22_digits.f k n) (strOfNums (decT 12 n)) := by
  have h := digits_l0 12 0 n (⟨#[]⟩ : ByteArray) rfl h0 h1 (by decide)
  have e : strOfNums (decT 12 n) ++ (⟨#[]⟩ : ByteArray) = strOfNums (decT 12 n) := by apply ByteArray.ext; apply Array.ext'; simp
  rw [e] at h
  exact h
theorem amount_ev (m p : ByteArray) (n : Int) (h0 : 0 ≤ n) (h1 : n < 10 ^ 12) : Ev (fun k => totals_amount.f k m [s70 3 p, s70 4 (strOfNums (decT 12 n))]) n := by
  have hr : ∀ x ∈ decT 12 n, 0 ≤ x ∧ x ≤ 255 := fun x hx => by have := decT_range 12 n x hx; omega
  have hb := nums_bytes _ hr
  have hs : (strOfNums (decT 12 n)).size = 12 := by rw [strOfNums_size, decT_length]
  obtain ⟨k0, e0⟩ := get_4 m p (strOfNums (decT 12 n))
  have hN := number_l0 (strOfNums (decT 12 n)) (by omega) 12 0 0 (by omega) (by omega) (by decide) (by rw [hb]; intro c hc; exact decT_range 12 n c (by simpa using hc))
  rw [hb, List.drop_zero, numV_decT 12 n h0 h1] at hN
  obtain ⟨k1, e1⟩ := hN
  refine ⟨k0 + k1 + 1, fun k hk => ?_⟩
  obtain ⟨k', rfl⟩ : ∃ k', k = k' + 1 := ⟨k - 1, by omega⟩
  have e0 := e0 (k' + 1) (by omega)
  have e1 := e1 k' (by omega)
  simp only at e0 e1 ⊢
  unfold totals_amount.f
  rw [e0, Option.bind_some]
  have hne : ¬ (strOfNums (decT 12 n)).toList = ([] : List UInt8) := by
    intro h
    have : (strOfNums (decT 12 n)).toList.length = 12 := by rw [ByteArray.toList_eq, Array.length_toList]; exact hs
    rw [h] at this
    cases this
  simp only [hs]
  rw [if_neg (by decide)]
  unfold digits_Number.f
  rw [if_neg hne]
  simp only [digits_Number.j0, hs]
  simp only [hs] at e1
  replace e1 : digits_Number.l0 k' (strOfNums (decT 12 n)) 0 ((12 : Nat) : Int) 0 = some (n, 0) := e1
  rw [show decide (((12 : Nat) : Int) > 18) = false by decide, if_neg (by decide), e1]
  rfl
def procOf (cr : Bool) : ByteArray := if cr then ⟨#[50, 48, 48, 48, 48, 48]⟩ else ⟨#[48, 48, 48, 48, 48, 48]⟩
def codeOf (yes : Bool) : ByteArray := if yes then ⟨#[48, 48]⟩ else ⟨#[48, 53]⟩
theorem credit_ev (m s : ByteArray) (cr : Bool) : Ev (fun k => totals_credit.f k m [s70 3 (procOf cr), s70 4 s]) cr := by
  obtain ⟨k0, e0⟩ := get_3 m (procOf cr) s
  refine ⟨k0, fun k hk => ?_⟩
  have e0 := e0 k hk
  simp only at e0 ⊢
  unfold totals_credit.f
  rw [e0, Option.bind_some]
  cases cr <;> rfl
theorem yes_code (yes : Bool) : ((codeOf yes).toList == [48, 48]) = yes := by cases yes <;> decide +kernel
/-- what the walks know of a deal -/
structure DealFacts (lk wh am : Int) (cr yes : Bool) (n t : Int) (k : Nat) (m1 m2 : ByteArray) (l1 l2 : List S70) : Prop where
  deal : turnstilelaw22_deal.f k lk wh am cr yes = some (m1, l1, m2, l2)
  ans : message_Answer.f k m1 = some (m2, 0)
  code : message_Get.f k m2 l2 39 = some (codeOf yes, true)
  amount : totals_amount.f k m1 l1 = some n
  cls : message_Class.f k m1 = some (clsOf t)
  func : message_Function.f k m1 = some (funOf t)
  credit : totals_credit.f k m1 l1 = some cr
theorem deal_facts (lk wh am : Int) (cr yes : Bool) (hw : -9223372036854775808 ≤ wh ∧ wh ≤ 9223372036854775807) (ha : -9223372036854775808 ≤ am ∧ am ≤ 9223372036854775807) :
    ∃ k m1 m2 l1 l2, DealFacts lk wh am cr yes (pickZ am 1000000000) (pickZ wh 6) k m1 m2 l1 l2 := by
  have ht := pickZ_range wh 6 (by decide)
  have hn := pickZ_range am 1000000000 (by decide)
  have pt := pickZ_f wh 6 (by decide) hw
  have pn := pickZ_f am 1000000000 (by decide) ha
  generalize pickZ wh 6 = t at ht pt ⊢
  generalize pickZ am 1000000000 = n at hn pn ⊢
  obtain ⟨b, hb⟩ := answer_ev t ht
  obtain ⟨k0, e0⟩ := class_ev t ht
  obtain ⟨k1, e1⟩ := function_ev t ht
  obtain ⟨k3, e3⟩ := get_39 b (codeOf yes)
  obtain ⟨k4, e4⟩ := amount_ev (mtiOf t) (procOf cr) n hn.1 (by have := hn.2; omega)
  obtain ⟨k5, e5⟩ := credit_ev (mtiOf t) (strOfNums (decT 12 n)) cr
  obtain ⟨k6, e6⟩ := digits_ev n hn.1 (by have := hn.2; omega)
  obtain ⟨k7, e7⟩ := hb
  have k2 : Nat := 0
  refine ⟨k0 + k1 + k2 + k3 + k4 + k5 + k6 + k7 + 1, mtiOf t, b, [s70 3 (procOf cr), s70 4 (strOfNums (decT 12 n))], [s70 39 (codeOf yes)], ?_, e7 _ (by omega), e3 _ (by omega), e4 _ (by omega), e0 _ (by omega), e1 _ (by omega), e5 _ (by omega)⟩
  have f6 := e6 (k0 + k1 + k2 + k3 + k4 + k5 + k6 + k7) (by omega)
  have f7 := e7 (k0 + k1 + k2 + k3 + k4 + k5 + k6 + k7) (by omega)
  simp only at f6 f7
  unfold turnstilelaw22_deal.f
  rw [Option.bind_some, pt, Option.bind_some, if_pos ht.1]
  simp only [List.length_cons, List.length_nil]
  rw [if_pos (by omega)]
  change (if cr = true then turnstilelaw22_deal.j0 _ (mtiOf t) _ _ _ _ _ _ else turnstilelaw22_deal.j0 _ (mtiOf t) _ _ _ _ _ _) = _
  simp only [turnstilelaw22_deal.j0, pn, Option.bind_some, f6, f7]
  cases cr <;> cases yes <;> rfl
theorem cls_back (t : Int) (h : 0 ≤ t ∧ t < 6) : (clsOf t == 4) = decide (3 < t) := by
  have ht : t = 0 ∨ t = 1 ∨ t = 2 ∨ t = 3 ∨ t = 4 ∨ t = 5 := by omega
  rcases ht with rfl | rfl | rfl | rfl | rfl | rfl <;> decide
theorem counted_kind (t : Int) (h : 0 ≤ t ∧ t < 6) : countedK (clsOf t) (funOf t) := by
  have ht : t = 0 ∨ t = 1 ∨ t = 2 ∨ t = 3 ∨ t = 4 ∨ t = 5 := by omega
  rcases ht with rfl | rfl | rfl | rfl | rfl | rfl <;> (unfold countedK clsOf funOf; simp)
theorem fun_adv (t : Int) (h : 0 ≤ t ∧ t < 6) : (funOf t == 2) = decide (2 < t) := by
  have ht : t = 0 ∨ t = 1 ∨ t = 2 ∨ t = 3 ∨ t = 4 ∨ t = 5 := by omega
  rcases ht with rfl | rfl | rfl | rfl | rfl | rfl <;> decide
/-- a deal counted -/
def cntD (x : List Int) (n t : Int) (yes cr : Bool) : List Int := countL x n (decide (3 < t)) (t == 3) yes cr
theorem cntD_adv (x : List Int) (n t : Int) (yes cr : Bool) (h : 0 ≤ t ∧ t < 6) : countL x n (decide (3 < t)) (decide (2 < t)) yes cr = cntD x n t yes cr := by
  have ht : t = 0 ∨ t = 1 ∨ t = 2 ∨ t = 3 ∨ t = 4 ∨ t = 5 := by omega
  rcases ht with rfl | rfl | rfl | rfl | rfl | rfl <;> rfl
end Go.Proofs.Ytdiodnjkejogdaa.Pure
