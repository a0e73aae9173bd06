/- DigitsLetters of the package turnstilelaw1: the characters of the invariant set have each a byte of their own, in order where the book says so, and the other bytes are no characters. No condition. -/
import Derived.Test.YtlpamhffpgoebaaAx63
import Derived.Test.YtlpamhffpgoebaaPg
namespace Go.Proofs.Ytlpamhffpgoebaa.Pure
open Go.RowKit Go.Proofs.Ytlpamhffpgoebaa.All Go.Proofs.YtlpamhffpgoebaaW.PrintWords Go.Proofs.YtlpamhffpgoebaaW.PrintLast Go.Proofs.YtlpamhffpgoebaaW.PrintMore

set_option linter.unusedVariables false
theorem pickN (c n : Int) (h : -9223372036854775808 ≤ c ∧ c ≤ 9223372036854775807) (hn : 1 ≤ n) : ∃ r, turnstilelaw1_pick.f c n = some r ∧ 0 ≤ r ∧ r < n := by
  unfold turnstilelaw1_pick.f
  by_cases hc : c < 0
  · rw [if_pos hc, if_neg (by omega), w64 (by omega : -9223372036854775808 ≤ c + 1 ∧ c + 1 ≤ 9223372036854775807), w64 (by omega)]
    refine ⟨_, rfl, ?_⟩
    rw [Int.tmod_eq_emod_of_nonneg (by omega)]
    exact ⟨Int.emod_nonneg _ (by omega), Int.emod_lt_of_pos _ (by omega)⟩
  · rw [if_neg hc, if_neg (by omega)]
    refine ⟨_, rfl, ?_⟩
    rw [Int.tmod_eq_emod_of_nonneg (by omega)]
    exact ⟨Int.emod_nonneg _ (by omega), Int.emod_lt_of_pos _ (by omega)⟩
theorem nums_bytesL (l : List Int) (h : ∀ x ∈ l, 0 ≤ x ∧ x ≤ 255) : bytesOf (strOfNums l) = l := by
  unfold bytesOf
  rw [strOfNums_data, List.map_map]
  have : ∀ x ∈ l, ((fun b : UInt8 => (b.toNat : Int)) ∘ fun n : Int => UInt8.ofNat n.toNat) x = id x := by
    intro x hx
    have := h x hx
    simp
    omega
  rw [List.map_congr_left this, List.map_id]
theorem one_bytes (x : Int) (h : 0 ≤ x ∧ x ≤ 255) : bytesOf (strOfNums [x]) = [x] := nums_bytesL [x] (by simp; exact h)
theorem one_size (x : Int) : (strOfNums [x]).size = 1 := strOfNums_size [x]
theorem one_bt (x : Int) (h : 0 ≤ x ∧ x ≤ 255) : bt (strOfNums [x]) 0 = x := by
  have h1 := dropBt (strOfNums [x]) 0 (by rw [one_size]; decide)
  rw [one_bytes x h] at h1
  simp at h1
  exact h1.symm

/-- the bytes seen, of the first n characters -/
def seenL : Nat → List Bool
  | 0 => List.replicate 256 false
  | n + 1 => (seenL n).set (rd ebL (n : Int)).toNat true
def lastL (n : Nat) : Int := if n = 0 then 0 else rd ebL ((n - 1 : Nat) : Int)
theorem seenL_len : ∀ n, (seenL n).length = 256
  | 0 => List.length_replicate
  | n + 1 => by rw [seenL, List.length_set]; exact seenL_len n
def rowB (i : Int) : Bool := (decide (48 < i) && decide (i ≤ 57)) || (decide (65 < i) && decide (i ≤ 90)) || (decide (97 < i) && decide (i ≤ 122))
def ebB (n : Nat) : Bool := decide (0 ≤ rd ebL (n : Int)) && decide (rd ebL (n : Int) ≤ 255) && (wr 4 (32 + (n : Int)) == some (rd ebL (n : Int))) && !(rdOf false (seenL n) (rd ebL (n : Int))) && (!(rowB (32 + (n : Int))) || decide (lastL n < rd ebL (n : Int)))
set_option maxRecDepth 100000 in
theorem ebB_all : ∀ e : Fin 95, ebB e.val = true := by decide +kernel
def enB (p : Int) : Bool := match rdS 4 p with | some c => rdOf false (seenL 95) p && (decide (0 ≤ c) && (decide (c ≤ 255) && (wr 4 c == some p))) | none => !(rdOf false (seenL 95) p)
set_option maxRecDepth 100000 in
theorem enB_all : ∀ e : Fin 256, enB (e.val : Int) = true := by decide +kernel

theorem pack_one (c v : Int) (hc : 0 ≤ c ∧ c ≤ 255) (h : wr 4 c = some v) : Ev (fun k => digits_Pack.f k 4 (strOfNums [c])) (strOfNums [v], 0) := by
  have hp := pack_is 4 (strOfNums [c]) (by rw [one_size]; decide)
  have e : packS 4 (bytesOf (strOfNums [c])) = (strOfNums [v], 0) := by
    rw [one_bytes c hc]
    unfold packS
    rw [if_neg (by decide), if_pos (by decide)]
    simp [mapO, h, packEnd]
  rw [e] at hp
  exact hp

theorem round_core (c : Int) (n : Nat) (hn : n < 95) (R : Bool) (L : List Bool) (eln : L.length = 256) (la e : Int) (b0 : 0 ≤ e) (b1 : e ≤ 255) (bw : wr 4 (32 + (n : Int)) = some e) (bs : rdOf false L e = false)
    (bo : rowB (32 + (n : Int)) = false ∨ la < e)
    (h : Ev (fun k => turnstilelaw1_DigitsLetters.l0 k c (L.set e.toNat true) e (32 + ((n + 1 : Nat) : Int))) R) :
    Ev (fun k => turnstilelaw1_DigitsLetters.l0 k c L la (32 + (n : Int))) R := by
  obtain ⟨K, hK⟩ := pack_one (32 + (n : Int)) e (by omega) bw
  obtain ⟨M, hM⟩ := h
  have ebt := one_bt e ⟨b0, b1⟩
  have esz := one_size e
  refine ⟨max K M + 2, fun k hk => ?_⟩
  obtain ⟨k', rfl⟩ : ∃ k', k = k' + 2 := ⟨k - 2, by omega⟩
  have h1 : digits_Pack.f (k' + 1) 4 (strOfNums [32 + (n : Int)]) = some (strOfNums [e], 0) := hK (k' + 1) (by omega)
  have h2 : turnstilelaw1_DigitsLetters.l0 k' c (L.set e.toNat true) e (32 + ((n + 1 : Nat) : Int)) = some R := hM k' (by omega)
  clear hK hM
  have em : (32 + (n : Int)) % 256 = 32 + (n : Int) := by omega
  have ew : wrap64 (32 + (n : Int) + 1) = 32 + ((n + 1 : Nat) : Int) := by rw [w64 (by omega)]; omega
  have c1 : 32 + (n : Int) ≤ 126 := by omega
  have c2 : e < (L.length : Int) := by omega
  have c3 : ((strOfNums [e]).size : Int) = 1 := by omega
  have c4 : 0 < ((strOfNums [e]).size : Int) := by omega
  simp only [turnstilelaw1_DigitsLetters.l0]
  rw [if_pos c1, em, h1, Option.bind_some]
  simp only [ebt]
  rw [if_pos trivial, if_pos c3, if_pos c4, if_pos b0, if_pos c2, bs]
  simp only [turnstilelaw1_DigitsLetters.j1, ebt]
  rw [if_neg (by decide), if_pos c4, if_pos b0, if_pos c2, Option.bind_some, ew, h2]
  generalize 32 + (n : Int) = i at *
  clear h1 h2 ew em c1 c2 c3 c4 bw
  rcases bo with hro | hlt
  · simp only [rowB, Bool.or_eq_false_iff, Bool.and_eq_false_iff, decide_eq_false_iff_not] at hro
    repeat' split
    all_goals first | rfl | (exfalso; omega)
  · have hne : ¬ (e ≤ la) := by omega
    simp only [if_neg hne]
    repeat' split
    all_goals rfl
theorem letters_round (c : Int) (n : Nat) (hn : n < 95) (R : Bool) (h : Ev (fun k => turnstilelaw1_DigitsLetters.l0 k c (seenL (n + 1)) (lastL (n + 1)) (32 + ((n + 1 : Nat) : Int))) R) :
    Ev (fun k => turnstilelaw1_DigitsLetters.l0 k c (seenL n) (lastL n) (32 + (n : Int))) R := by
  have hb := ebB_all ⟨n, hn⟩
  simp only [ebB, Bool.and_eq_true, Bool.or_eq_true, Bool.not_eq_true', decide_eq_true_eq, beq_iff_eq] at hb
  obtain ⟨⟨⟨⟨b0, b1⟩, bw⟩, bs⟩, bo⟩ := hb
  have el : lastL (n + 1) = rd ebL (n : Int) := by unfold lastL; rw [if_neg (by omega), Nat.add_sub_cancel]
  rw [el, seenL] at h
  exact round_core c n hn R (seenL n) (seenL_len n) (lastL n) _ b0 b1 bw bs bo h

theorem letters_from (c : Int) (R : Bool) (h : Ev (fun k => turnstilelaw1_DigitsLetters.l0 k c (seenL 95) (lastL 95) (32 + ((95 : Nat) : Int))) R) :
    ∀ d n : Nat, n + d = 95 → Ev (fun k => turnstilelaw1_DigitsLetters.l0 k c (seenL n) (lastL n) (32 + (n : Int))) R := by
  intro d
  induction d with
  | zero => intro n hn; rw [show n = 95 by omega]; exact h
  | succ d ih => intro n hn; exact letters_round c n (by omega) R (ih (n + 1) (by omega))

theorem unpack_one (p : Int) (hp : 0 ≤ p ∧ p ≤ 255) : Ev (fun k => digits_Unpack.f k 4 (strOfNums [p]) 1) (match rdS 4 p with | some c => (strOfNums [c], 0, 0) | none => ((⟨#[]⟩ : ByteArray), 11, 0)) := by
  have hu := unpack_is 4 (strOfNums [p]) 1 (by rw [one_size]; decide) (by decide) (.inr (by decide))
  have e : unpackS 4 (strOfNums [p]) 1 = (match rdS 4 p with | some c => (strOfNums [c], 0, 0) | none => ((⟨#[]⟩ : ByteArray), 11, 0)) := by
    unfold unpackS
    rw [if_neg (by decide), if_neg (by rw [one_size]; decide), one_bytes p hp]
    have : (widthS 4 1).toNat = 1 := by decide
    rw [this]
    simp only [List.take, unpS, byteS_one 4 p 0 1 (by decide)]
    cases rdS 4 p <;> simp
  rw [e] at hu
  exact hu

theorem DigitsLetters : turnstilelaw1_DigitsLetters.Pure := by
  intro c hc
  refine Ev.rounds (?_ : Ev (fun k => turnstilelaw1_DigitsLetters.f k c) true)
  unfold turnstilelaw1_DigitsLetters.f
  refine Ev.congr (fun k => if_pos (by decide)) ?_
  refine letters_from c true ?_ 95 0 rfl
  obtain ⟨p, hp, p0, p1⟩ := pickN c 256 (wf64 hc) (by decide)
  have hen := enB_all ⟨p.toNat, by omega⟩
  simp only [show ((p.toNat : Nat) : Int) = p by omega] at hen
  unfold enB at hen
  have hu := unpack_one p ⟨p0, by omega⟩
  have em : p % 256 = p := by omega
  have eln := seenL_len 95
  have e0 : (⟨#[]⟩ : ByteArray).toList = ([] : List UInt8) := by rw [ByteArray.toList_eq]
  cases hr : rdS 4 p with
  | none =>
    rw [hr] at hen hu
    simp only [Bool.not_eq_true'] at hen
    obtain ⟨K, hK⟩ := hu
    refine ⟨K + 1, fun k hk => ?_⟩
    obtain ⟨k', rfl⟩ : ∃ k', k = k' + 1 := ⟨k - 1, by omega⟩
    have hk1 := hK k' (by omega)
    try have hk2 := hM k' (by omega)
    simp only at hk1
    try simp only at hk2
    simp only [turnstilelaw1_DigitsLetters.l0]
    rw [if_neg (by decide), hp, Option.bind_some, em, hk1, Option.bind_some, if_pos p0, if_pos (by omega), hen, if_neg (by decide)]
    simp [e0]
  | some ch =>
    rw [hr] at hen hu
    simp only [Bool.and_eq_true, decide_eq_true_eq, beq_iff_eq] at hen
    obtain ⟨hs, h0, h1, hw⟩ := hen
    obtain ⟨K, hK⟩ := hu
    obtain ⟨M, hM⟩ := pack_one ch p ⟨h0, h1⟩ hw
    refine ⟨max K M + 1, fun k hk => ?_⟩
    obtain ⟨k', rfl⟩ : ∃ k', k = k' + 1 := ⟨k - 1, by omega⟩
    have hk1 := hK k' (by omega)
    try have hk2 := hM k' (by omega)
    simp only at hk1
    try simp only at hk2
    simp only [turnstilelaw1_DigitsLetters.l0]
    rw [if_neg (by decide), hp, Option.bind_some, em, hk1, Option.bind_some, if_pos p0, if_pos (by omega), hs, if_pos rfl, hk2, Option.bind_some]
    simp [one_size]
end Go.Proofs.Ytlpamhffpgoebaa.Pure
