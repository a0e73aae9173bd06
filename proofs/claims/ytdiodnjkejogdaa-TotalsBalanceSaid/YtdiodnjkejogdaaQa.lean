/- Plain lemmas of the totals seat: the digits of an amount, there and back. -/
import Derived.Test.YtdiodnjkejogdaaAx18
import Derived.Test.YtdiodnjkejogdaaAx13
import Derived.OpenShut
namespace Go.Proofs.Ytdiodnjkejogdaa.Pure
open Go.RowKit Go.Proofs.Ytdiodnjkejogdaa.All Go.Proofs.YtdiodnjkejogdaaW.PrintWords Go.Proofs.YtdiodnjkejogdaaW.PrintLast Go.Proofs.YtdiodnjkejogdaaW.PrintMore
set_option linter.unusedVariables false
set_option linter.unusedSimpArgs false

theorem w64 {n : Int} (h : -9223372036854775808 ≤ n ∧ n ≤ 9223372036854775807) : wrap64 n = n := by
  unfold wrap64
  omega
theorem evb {α β : Type} {g : Nat → Option α} {f : Nat → α → Option β} {a : α} {r : β} (h : Ev g a) (k : Ev (fun n => f n a) r) : Ev (fun n => (g n).bind (f n)) r := Ev.bind h k
/-- d digits of n -/
def decT : Nat → Int → List Int
  | 0, _ => []
  | d + 1, n => decT d (n / 10) ++ [48 + n % 10]
theorem decT_length : ∀ d n, (decT d n).length = d
  | 0, _ => rfl
  | d + 1, n => by simp [decT, decT_length d]
theorem nums_append (a b : List Int) : strOfNums (a ++ b) = strOfNums a ++ strOfNums b := by
  apply ByteArray.ext
  apply Array.ext'
  simp [strOfNums_data]
theorem digits_l0 : ∀ (d i : Nat) (n : Int) (s : ByteArray), i + d = 12 → 0 ≤ n → n ≤ 9223372036854775807 → s.size + d ≤ 1000 →
    Ev (fun k => turnstilelaw22_digits.l0 k n s (i : Int)) (strOfNums (decT d n) ++ s)
  | 0, i, n, s, hi, h0, h1, hs => by
    refine Ev.step (f := fun _ => some s) (fun k => ?_) ?_
    · simp only [turnstilelaw22_digits.l0]; rw [if_neg (by omega)]
    · have : strOfNums (decT 0 n) ++ s = s := by apply ByteArray.ext; apply Array.ext'; simp [decT, strOfNums_data]
      rw [this]
      exact Ev.now _
  | d + 1, i, n, s, hi, h0, h1, hs => by
    have e1 : Int.tmod n 10 = n % 10 := Int.tmod_eq_emod_of_nonneg h0
    have e2 : Int.tdiv n 10 = n / 10 := Int.tdiv_eq_ediv_of_nonneg h0
    have hz : (strOfNums [48 + n % 10]).size = 1 := strOfNums_size _
    have ih := digits_l0 d (i + 1) (n / 10) (strOfNums [48 + n % 10] ++ s) (by omega) (by omega) (by omega) (by rw [ByteArray.size_append, hz]; omega)
    have er : strOfNums (decT d (n / 10)) ++ (strOfNums [48 + n % 10] ++ s) = strOfNums (decT (d + 1) n) ++ s := by
      rw [decT, nums_append, ByteArray.append_assoc]
    rw [er] at ih
    refine Ev.step (fun k => ?_) ih
    simp only [turnstilelaw22_digits.l0]
    have e3 : wrap64 (48 + n % 10) % 256 = 48 + n % 10 := by rw [w64 (by omega : -9223372036854775808 ≤ 48 + n % 10 ∧ 48 + n % 10 ≤ 9223372036854775807)]; omega
    rw [e1, e2, e3, if_pos (by omega), Option.bind_some, hz, if_pos (by omega), w64 (by omega : -9223372036854775808 ≤ n / 10 ∧ n / 10 ≤ 9223372036854775807), w64 (by omega : -9223372036854775808 ≤ (i : Int) + 1 ∧ (i : Int) + 1 ≤ 9223372036854775807)]
    rfl
theorem dropBt (s : ByteArray) (i : Nat) (h : i < s.size) : (bytesOf s).drop i = bt s i :: (bytesOf s).drop (i + 1) := by
  have hl : (bytesOf s).length = s.size := bytesOf_length s
  rw [List.drop_eq_getElem_cons (by omega)]
  congr 1
  have h2 := rd_bytesOf s (i : Int)
  simp only [rd, Int.toNat_natCast, List.getD, List.getElem?_eq_getElem (show i < (bytesOf s).length by omega), Option.getD_some] at h2
  exact h2
theorem dropAll (s : ByteArray) (i : Nat) (h : s.size ≤ i) : (bytesOf s).drop i = [] := by
  rw [List.drop_eq_nil_iff, bytesOf_length]; exact h
theorem nums_bytes (l : List Int) (h : ∀ x ∈ l, 0 ≤ x ∧ x ≤ 255) : bytesOf (strOfNums l) = l := by
  unfold bytesOf
  rw [strOfNums_data, List.map_map]
  have : ∀ x ∈ l, ((fun b : UInt8 => (b.toNat : Int)) ∘ fun n : Int => UInt8.ofNat n.toNat) x = id x := by
    intro x hx
    have := h x hx
    simp
    omega
  rw [List.map_congr_left this, List.map_id]
def numV (a : Int) (l : List Int) : Int := l.foldl (fun a c => 10 * a + (c - 48)) a
theorem number_l0 (s : ByteArray) (hs : s.size ≤ 18) : ∀ (d i : Nat) (a : Int), i + d = s.size → 0 ≤ a → a < 10 ^ i → (∀ c ∈ (bytesOf s).drop i, 48 ≤ c ∧ c ≤ 57) →
    Ev (fun k => digits_Number.l0 k s a (s.size : Int) (i : Int)) (numV a ((bytesOf s).drop i), 0)
  | 0, i, a, hi, h0, h1, hc => by
    rw [dropAll s i (by omega)]
    refine Ev.step (f := fun _ => some (a, 0)) (fun k => ?_) (Ev.now _)
    simp only [digits_Number.l0]; rw [if_neg (by omega)]
  | d + 1, i, a, hi, h0, h1, hc => by
    rw [dropBt s i (by omega)] at hc ⊢
    have hb := hc (bt s i) (by simp)
    have hp : (10 : Int) ^ i ≤ 10 ^ 17 := by
      have : i ≤ 17 := by omega
      have h2 : (10 : Nat) ^ i ≤ 10 ^ 17 := Nat.pow_le_pow_right (by decide) this
      exact_mod_cast h2
    have hp2 : (10 : Int) ^ (i + 1) = 10 * 10 ^ i := by rw [Int.pow_succ]; omega
    have e17 : (10 : Int) ^ 17 = 100000000000000000 := by decide
    have ih := number_l0 s hs d (i + 1) (10 * a + (bt s i - 48)) (by omega) (by omega) (by rw [hp2]; omega) (fun c h => hc c (by simp [h]))
    refine Ev.step (fun k => ?_) ih
    simp only [digits_Number.l0]
    have e1 : (bt s (i : Int) - 48) % 256 = bt s i - 48 := by omega
    rw [if_pos (by omega), if_pos (by omega), if_pos (by omega), if_neg (by omega), if_neg (by omega), e1, w64 (by omega : -9223372036854775808 ≤ 10 * a ∧ 10 * a ≤ 9223372036854775807), w64 (by omega : -9223372036854775808 ≤ 10 * a + (bt s (i : Int) - 48) ∧ 10 * a + (bt s (i : Int) - 48) ≤ 9223372036854775807), w64 (by omega : -9223372036854775808 ≤ (i : Int) + 1 ∧ (i : Int) + 1 ≤ 9223372036854775807)]
    rfl
theorem numV_decT : ∀ (d : Nat) (n : Int), 0 ≤ n → n < 10 ^ d → numV 0 (decT d n) = n
  | 0, n, h0, h1 => by simp [decT, numV] at *; omega
  | d + 1, n, h0, h1 => by
    have hp : (10 : Int) ^ (d + 1) = 10 * 10 ^ d := by rw [Int.pow_succ]; omega
    have ih := numV_decT d (n / 10) (by omega) (by rw [hp] at h1; omega)
    unfold numV at ih ⊢
    rw [decT, List.foldl_append, ih]
    simp
    omega
theorem decT_range : ∀ (d : Nat) (n : Int), ∀ c ∈ decT d n, 48 ≤ c ∧ c ≤ 57
  | 0, n, c, h => by simp [decT] at h
  | d + 1, n, c, h => by
    rw [decT, List.mem_append] at h
    rcases h with h | h
    · exact decT_range d _ c h
    · simp at h; omega
end Go.Proofs.Ytdiodnjkejogdaa.Pure
