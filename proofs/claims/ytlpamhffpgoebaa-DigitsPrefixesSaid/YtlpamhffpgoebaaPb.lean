/- Number and Write of digits and of the reference, told with enough rounds. Conditions: numbers of 64 bits; strings as long as an int tells. -/
import Derived.Test.YtlpamhffpgoebaaAx11
import Derived.Test.YtlpamhffpgoebaaAx13
import Derived.Test.YtlpamhffpgoebaaAx14
import Derived.Test.YtlpamhffpgoebaaAx16
import Derived.Test.YtlpamhffpgoebaaPa
namespace Go.Proofs.Ytlpamhffpgoebaa.Pure
open Go.RowKit Go.Proofs.Ytlpamhffpgoebaa.All Go.Proofs.YtlpamhffpgoebaaW.PrintWords Go.Proofs.YtlpamhffpgoebaaW.PrintLast Go.Proofs.YtlpamhffpgoebaaW.PrintMore

/-! ### Number -/
theorem number_l0_same (s : ByteArray) (hs : s.size ≤ 9223372036854775806) : ∀ (d : Nat) (n i : Int), 0 ≤ i → (s.size : Int) - i = d →
    Same (fun k => digits_Number.l0 k s n (s.size : Int) i) (fun k => turnstileref1_Number.l0 k s n i) := by
  intro d
  induction d with
  | zero =>
    intro n i h0 hd
    refine Same.step (g' := fun _ => some (n, 0)) (f' := fun _ => some (n, 0)) (fun k => ?_) (fun k => ?_) (Same.of (Ev.now _) (Ev.now _))
    · simp only [digits_Number.l0]; rw [if_neg (by omega)]
    · simp only [turnstileref1_Number.l0]; rw [if_neg (by omega)]
  | succ d ih =>
    intro n i h0 hd
    have hlt : i < (s.size : Int) := by omega
    by_cases c1 : bt s i < 48
    · refine Same.step (g' := fun _ => some (0, 11)) (f' := fun _ => some (0, 11)) (fun k => ?_) (fun k => ?_) (Same.of (Ev.now _) (Ev.now _))
      · simp only [digits_Number.l0]; rw [if_pos hlt, if_pos h0, if_pos hlt, if_pos c1]
      · simp only [turnstileref1_Number.l0, turnstileref1_digit.f]; rw [if_pos hlt, if_pos h0, if_neg (by omega)]; rfl
    · by_cases c2 : bt s i > 57
      · refine Same.step (g' := fun _ => some (0, 11)) (f' := fun _ => some (0, 11)) (fun k => ?_) (fun k => ?_) (Same.of (Ev.now _) (Ev.now _))
        · simp only [digits_Number.l0]; rw [if_pos hlt, if_pos h0, if_pos hlt, if_neg c1, if_pos c2]
        · simp only [turnstileref1_Number.l0, turnstileref1_digit.f]; rw [if_pos hlt, if_pos h0, if_pos (by omega), decide_eq_false (by omega)]; rfl
      · refine Same.step (fun k => ?_) (fun k => ?_) (ih (wrap64 ((wrap64 (10 * n)) + (((bt s i) - 48) % 256))) (i + 1) (by omega) (by omega))
        · simp only [digits_Number.l0]; rw [if_pos hlt, if_pos h0, if_pos hlt, if_neg c1, if_neg c2, w64 (by omega : -9223372036854775808 ≤ i + 1 ∧ i + 1 ≤ 9223372036854775807)]
        · simp only [turnstileref1_Number.l0, turnstileref1_digit.f]; rw [if_pos hlt, if_pos h0, if_pos (by omega), decide_eq_true (by omega), Option.bind_some, if_pos rfl, w64 (by omega : -9223372036854775808 ≤ i + 1 ∧ i + 1 ≤ 9223372036854775807)]

theorem toList_nil (s : ByteArray) : s.toList = ([] : List UInt8) ↔ s.size = 0 := by
  have e : s.toList.length = s.size := by
    rw [ByteArray.toList_eq]; exact data_length s
  constructor
  · intro h; rw [h] at e; simpa using e.symm
  · intro h; rw [h] at e; exact List.eq_nil_of_length_eq_zero e

theorem number_same (s : ByteArray) (hs : s.size ≤ 9223372036854775806) : Same (fun k => digits_Number.f k s) (fun k => turnstileref1_Number.f k s) := by
  by_cases h0 : s.size = 0
  · refine Same.of (r := (0, 1)) ?_ ?_
    · refine Ev.step (f := fun _ => some (0, 1)) (fun k => ?_) (Ev.now _)
      unfold digits_Number.f
      rw [if_pos ((toList_nil s).2 h0)]
      simp only [digits_Number.j0]; rfl
    · refine Ev.step (f := fun _ => some (0, 1)) (fun k => ?_) (Ev.now _)
      unfold turnstileref1_Number.f
      rw [if_pos (by omega)]
      simp only [turnstileref1_Number.j0]; rfl
  · by_cases h18 : (s.size : Int) > 18
    · refine Same.of (r := (0, 1)) ?_ ?_
      · refine Ev.step (f := fun _ => some (0, 1)) (fun k => ?_) (Ev.now _)
        unfold digits_Number.f
        rw [if_neg (fun h => h0 ((toList_nil s).1 h)), decide_eq_true h18]
        simp only [digits_Number.j0]; rfl
      · refine Ev.step (f := fun _ => some (0, 1)) (fun k => ?_) (Ev.now _)
        unfold turnstileref1_Number.f
        rw [if_neg (by omega), decide_eq_true h18]
        simp only [turnstileref1_Number.j0]; rfl
    · refine Same.step (fun k => ?_) (fun k => ?_) (number_l0_same s hs s.size 0 0 (by omega) (by omega))
      · unfold digits_Number.f
        rw [if_neg (fun h => h0 ((toList_nil s).1 h)), decide_eq_false h18]
        simp only [digits_Number.j0]; rfl
      · unfold turnstileref1_Number.f
        rw [if_neg (by omega), decide_eq_false h18]
        simp only [turnstileref1_Number.j0]; rfl

/-! ### Write -/
/-- the w last digits of n, as bytes -/
def decL : Nat → Int → List Int
  | 0, _ => []
  | w + 1, n => decL w (n / 10) ++ [48 + n % 10]
theorem decL_length : ∀ (w : Nat) (n : Int), (decL w n).length = w
  | 0, _ => rfl
  | w + 1, n => by simp [decL, decL_length w (n / 10)]
theorem strOfNums_append (a b : List Int) : strOfNums (a ++ b) = strOfNums a ++ strOfNums b := by
  apply ByteArray.ext
  simp [strOfNums]

theorem div_pow (n : Int) (m : Nat) : n / 10 / 10 ^ m = n / 10 ^ (m + 1) := by
  rw [Int.ediv_ediv_of_nonneg (by decide), Int.pow_succ, Int.mul_comm]

/-- what Write tells behind its loop -/
def writeR (m : Nat) (n : Int) (suf : List Int) : ByteArray × Int := if n / 10 ^ m > 0 then ((⟨#[]⟩ : ByteArray), 13) else (strOfNums (decL m n ++ suf), 0)
theorem writeR_succ (m : Nat) (n : Int) (suf : List Int) : writeR (m + 1) n suf = writeR m (n / 10) ((48 + n % 10) :: suf) := by
  unfold writeR
  rw [div_pow, decL]
  simp

theorem write_l0 : ∀ (m : Nat) (zs suf : List Int) (n : Int), 0 ≤ n → n ≤ 9223372036854775807 → zs.length = m → m ≤ 18 →
    Ev (fun k => digits_Write.l0 k n (zs ++ suf) ((m : Int) - 1)) (writeR m n suf) := by
  intro m
  induction m with
  | zero =>
    intro zs suf n h0 h1 hz hm
    obtain rfl := List.eq_nil_of_length_eq_zero hz
    refine Ev.step (f := fun _ => some (writeR 0 n suf)) (fun k => ?_) (Ev.now _)
    simp only [digits_Write.l0]
    rw [if_neg (by decide)]
    unfold writeR
    simp only [Int.pow_zero, Int.ediv_one, decL, List.nil_append]
    split <;> rfl
  | succ m ih =>
    intro zs suf n h0 h1 hz hm
    obtain ⟨ys, z, rfl⟩ : ∃ ys z, zs = ys ++ [z] := ⟨zs.dropLast, zs.getLast (by intro h; rw [h] at hz; simp at hz), (List.dropLast_concat_getLast _).symm⟩
    have hy : ys.length = m := by simpa using hz
    rw [writeR_succ]
    refine Ev.step (fun k => ?_) (ih ys ((48 + n % 10) :: suf) (n / 10) (by omega) (by omega) hy (by omega))
    simp only [digits_Write.l0]
    rw [if_pos (by omega), if_pos (by omega), if_pos (by simp; omega)]
    have e1 : wrap64 (Int.tdiv n 10) = n / 10 := by rw [Int.tdiv_eq_ediv_of_nonneg h0, w64 (by omega)]
    have e2 : (wrap64 (48 + Int.tmod n 10)) % 256 = 48 + n % 10 := by rw [Int.tmod_eq_emod_of_nonneg h0, w64 (by omega)]; omega
    have e3 : wrap64 (((m + 1 : Nat) : Int) - 1 - 1) = (m : Int) - 1 := by rw [w64 (by omega)]; omega
    have e4 : ((((m + 1 : Nat) : Int) - 1) : Int).toNat = m := by omega
    rw [e1, e2, e3, e4]
    congr 1
    rw [List.append_assoc, List.set_append_right _ _ (by omega), hy, Nat.sub_self]
    rfl

theorem write_is (n : Int) (w : Nat) (h0 : 0 ≤ n) (h1 : n ≤ 9223372036854775807) (hw0 : 1 ≤ w) (hw : w ≤ 18) : Ev (fun k => digits_Write.f k n (w : Int)) (writeR w n []) := by
  refine Ev.step (fun k => ?_) (write_l0 w (List.replicate w 0) [] n h0 h1 (by simp) hw)
  unfold digits_Write.f
  rw [if_neg (by omega), if_neg (by omega), decide_eq_false (by omega)]
  simp only [digits_Write.j0]
  rw [if_neg (by decide), if_pos (by omega), if_pos (by omega), w64 (by omega)]
  simp
theorem write_arg (n w : Int) (h : n < 0 ∨ w < 1 ∨ w > 18) : Ev (fun k => digits_Write.f k n w) ((⟨#[]⟩ : ByteArray), 1) := by
  refine Ev.step (f := fun _ => some ((⟨#[]⟩ : ByteArray), 1)) (fun k => ?_) (Ev.now _)
  unfold digits_Write.f
  by_cases c1 : n < 0
  · rw [if_pos c1]; simp only [digits_Write.j0]; rfl
  · rw [if_neg c1]
    by_cases c2 : w < 1
    · rw [if_pos c2]; simp only [digits_Write.j0]; rfl
    · rw [if_neg c2, decide_eq_true (by omega)]; simp only [digits_Write.j0]; rfl

/-! ### the reference's -/
theorem pow_le18 (i : Nat) (h : i ≤ 18) : (10 : Int) ^ i ≤ 1000000000000000000 := by
  have := Nat.pow_le_pow_right (show 0 < 10 by decide) h
  have e : ((10 ^ i : Nat) : Int) = (10 : Int) ^ i := by simp
  rw [← e]
  omega
theorem pow_pos10 (i : Nat) : (0 : Int) < 10 ^ i := by
  have : 0 < 10 ^ i := Nat.pow_pos (by decide)
  have e : ((10 ^ i : Nat) : Int) = (10 : Int) ^ i := by simp
  rw [← e]
  omega
theorem power_l0 (w : Nat) (hw : w ≤ 18) : ∀ (d i : Nat), i + d = w → Ev (fun k => turnstileref1_power.l0 k (w : Int) (10 ^ i) (i : Int)) (10 ^ w) := by
  intro d
  induction d with
  | zero =>
    intro i hi
    obtain rfl : i = w := by omega
    refine Ev.step (f := fun _ => some (10 ^ i)) (fun k => ?_) (Ev.now _)
    simp only [turnstileref1_power.l0]
    rw [if_neg (by omega)]
  | succ d ih =>
    intro i hi
    refine Ev.step (fun k => ?_) (ih (i + 1) (by omega))
    simp only [turnstileref1_power.l0]
    rw [if_pos (by omega), w64 (by omega : -9223372036854775808 ≤ (i : Int) + 1 ∧ (i : Int) + 1 ≤ 9223372036854775807)]
    have hp := pow_le18 (i + 1) (by omega)
    have hq := pow_pos10 (i + 1)
    have e : (10 : Int) * 10 ^ i = 10 ^ (i + 1) := by rw [Int.pow_succ, Int.mul_comm]
    rw [e, w64 (by omega)]
    rfl
theorem power_is (w : Nat) (hw : w ≤ 18) : Ev (fun k => turnstileref1_power.f k (w : Int)) (10 ^ w) := by
  have := power_l0 w hw w 0 (by omega)
  simpa [turnstileref1_power.f] using this

def hexs : ByteArray := ⟨#[48, 49, 50, 51, 52, 53, 54, 55, 56, 57, 65, 66, 67, 68, 69, 70]⟩
theorem hexs_digit (d : Nat) (h : d < 10) : hexs.extract d (d + 1) = strOfNums [48 + (d : Int)] := by
  have : ∀ e : Fin 10, hexs.extract e.val (e.val + 1) = strOfNums [48 + (e.val : Int)] := by decide +kernel
  exact this ⟨d, h⟩

theorem rwrite_l0 (w : Nat) (hw : w ≤ 18) : ∀ (d i : Nat) (n : Int) (s : List Int), i + d = w → 0 ≤ n → n ≤ 9223372036854775807 → s.length = i →
    Ev (fun k => turnstileref1_Write.l0 k n (w : Int) (strOfNums s) (i : Int)) (strOfNums (decL d n ++ s), 0) := by
  intro d
  induction d with
  | zero =>
    intro i n s hi h0 h1 hs
    refine Ev.step (f := fun _ => some (strOfNums (decL 0 n ++ s), 0)) (fun k => ?_) (Ev.now _)
    simp only [turnstileref1_Write.l0]
    rw [if_neg (by omega)]
    rfl
  | succ d ih =>
    intro i n s hi h0 h1 hs
    have e0 : Int.tmod n 10 = n % 10 := Int.tmod_eq_emod_of_nonneg h0
    have ih' := ih (i + 1) (n / 10) ((48 + n % 10) :: s) (by omega) (by omega) (by omega) (by simp [hs])
    have er : decL (d + 1) n ++ s = decL d (n / 10) ++ ((48 + n % 10) :: s) := by simp [decL]
    rw [er]
    refine Ev.step (fun k => ?_) ih'
    simp only [turnstileref1_Write.l0]
    have e1 : wrap64 (n % 10 + 1) = n % 10 + 1 := w64 (by omega)
    have e2 : (n % 10 + 1 : Int).toNat = (n % 10).toNat + 1 := by omega
    have e3 : (⟨#[48, 49, 50, 51, 52, 53, 54, 55, 56, 57, 65, 66, 67, 68, 69, 70]⟩ : ByteArray).extract (n % 10 : Int).toNat ((n % 10).toNat + 1) = strOfNums [48 + n % 10] := by
      have := hexs_digit (n % 10).toNat (by omega)
      rw [show (((n % 10).toNat : Nat) : Int) = n % 10 by omega] at this
      exact this
    rw [if_pos (by omega), e0, if_pos (by omega), e1, if_pos (by omega), if_pos (by omega), e2, e3, if_pos (by rw [strOfNums_size, strOfNums_size]; simp; omega), ← strOfNums_append, Int.tdiv_eq_ediv_of_nonneg h0, w64 (by omega), w64 (by omega)]
    rfl
theorem rwrite_is (n : Int) (w : Nat) (h0 : 0 ≤ n) (h1 : n ≤ 9223372036854775807) (hw0 : 1 ≤ w) (hw : w ≤ 18) : Ev (fun k => turnstileref1_Write.f k n (w : Int)) (writeR w n []) := by
  have hp := pow_pos10 w
  have hc : n ≥ 10 ^ w ↔ n / 10 ^ w > 0 := by
    constructor
    · intro h
      have := Int.ediv_le_ediv hp h
      rw [Int.ediv_self (by omega)] at this
      omega
    · intro h
      have := Int.ediv_mul_le n (show (10 : Int) ^ w ≠ 0 by omega)
      have h3 : (1 : Int) * 10 ^ w ≤ n / 10 ^ w * 10 ^ w := Int.mul_le_mul_of_nonneg_right (by omega) (by omega)
      omega
  by_cases hb : n ≥ 10 ^ w
  · have e : writeR w n [] = ((⟨#[]⟩ : ByteArray), 13) := by unfold writeR; rw [if_pos (hc.1 hb)]
    rw [e]
    refine Ev.step (f := fun k => (turnstileref1_power.f k (w : Int)).bind fun t => if n ≥ t then some ((⟨#[]⟩ : ByteArray), 13) else turnstileref1_Write.l0 k n (w : Int) (⟨#[]⟩ : ByteArray) 0) (fun k => ?_) (Ev.bind (f := fun k t => if n ≥ t then some ((⟨#[]⟩ : ByteArray), 13) else turnstileref1_Write.l0 k n (w : Int) (⟨#[]⟩ : ByteArray) 0) (power_is w hw) ?_)
    · unfold turnstileref1_Write.f
      rw [if_neg (by omega), if_neg (by omega), decide_eq_false (by omega)]
      simp only [turnstileref1_Write.j0]
      rfl
    · exact ev_some fun k => if_pos hb
  · have e : writeR w n [] = (strOfNums (decL w n ++ []), 0) := by unfold writeR; rw [if_neg (fun h => hb (hc.2 h))]
    rw [e]
    refine Ev.step (f := fun k => (turnstileref1_power.f k (w : Int)).bind fun t => if n ≥ t then some ((⟨#[]⟩ : ByteArray), 13) else turnstileref1_Write.l0 k n (w : Int) (⟨#[]⟩ : ByteArray) 0) (fun k => ?_) (Ev.bind (f := fun k t => if n ≥ t then some ((⟨#[]⟩ : ByteArray), 13) else turnstileref1_Write.l0 k n (w : Int) (⟨#[]⟩ : ByteArray) 0) (power_is w hw) ?_)
    · unfold turnstileref1_Write.f
      rw [if_neg (by omega), if_neg (by omega), decide_eq_false (by omega)]
      simp only [turnstileref1_Write.j0]
      rfl
    · refine Ev.congr (fun k => if_neg hb) ?_
      have := rwrite_l0 w hw w 0 n [] (by omega) h0 h1 rfl
      exact this
theorem rwrite_arg (n w : Int) (h : n < 0 ∨ w < 1 ∨ w > 18) : Ev (fun k => turnstileref1_Write.f k n w) ((⟨#[]⟩ : ByteArray), 1) := by
  refine Ev.step (f := fun _ => some ((⟨#[]⟩ : ByteArray), 1)) (fun k => ?_) (Ev.now _)
  unfold turnstileref1_Write.f
  by_cases c1 : n < 0
  · rw [if_pos c1]; simp only [turnstileref1_Write.j0]; rfl
  · rw [if_neg c1]
    by_cases c2 : w < 1
    · rw [if_pos c2]; simp only [turnstileref1_Write.j0]; rfl
    · rw [if_neg c2, decide_eq_true (by omega)]; simp only [turnstileref1_Write.j0]; rfl
theorem write_same (n w : Int) (hn : -9223372036854775808 ≤ n ∧ n ≤ 9223372036854775807) : Same (fun k => digits_Write.f k n w) (fun k => turnstileref1_Write.f k n w) := by
  by_cases h : n < 0 ∨ w < 1 ∨ w > 18
  · exact Same.of (write_arg n w h) (rwrite_arg n w h)
  · obtain ⟨m, rfl⟩ := Int.eq_ofNat_of_zero_le (show 0 ≤ w by omega)
    exact Same.of (write_is n m (by omega) hn.2 (by omega) (by omega)) (rwrite_is n m (by omega) hn.2 (by omega) (by omega))
end Go.Proofs.Ytlpamhffpgoebaa.Pure
