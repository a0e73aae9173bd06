/- DigitsPrefixes of the package turnstilelaw1: of every three integers digits.Prefix tells what the reference's does; of BCD, 3 and 42 it tells the bytes 00 42. No condition. -/
import Derived.Test.YtlpamhffpgoebaaAx58
import Derived.Test.YtlpamhffpgoebaaPe
import Derived.Test.YtlpamhffpgoebaaPf
namespace Go.Proofs.Ytlpamhffpgoebaa.Pure
open Go.RowKit Go.Proofs.Ytlpamhffpgoebaa.All Go.Proofs.YtlpamhffpgoebaaW.PrintWords Go.Proofs.YtlpamhffpgoebaaW.PrintLast Go.Proofs.YtlpamhffpgoebaaW.PrintMore

theorem length_is (enc d : Int) : turnstileref1_length.f enc d = some (decide (okLen enc d)) := by
  by_cases h : okLen enc d
  · rw [decide_eq_true h]
    obtain ⟨he, h1, h4⟩ := h
    unfold turnstileref1_length.f
    rcases he with e | e | e | e <;> subst e
    · rw [if_pos rfl, if_pos h1, decide_eq_true h4]
    · rw [if_neg (by decide), if_pos rfl, if_pos h1, decide_eq_true h4]
    · rw [if_neg (by decide), if_neg (by decide), if_pos rfl, if_pos h1, decide_eq_true h4]
    · rw [if_neg (by decide), if_neg (by decide), if_neg (by decide), if_pos rfl, if_pos h1, decide_eq_true h4]
  · rw [decide_eq_false h]
    unfold turnstileref1_length.f
    have hd : enc = 1 ∨ enc = 2 ∨ enc = 4 ∨ enc = 5 → ¬ (1 ≤ d ∧ d ≤ 4) := fun a b => h ⟨a, b⟩
    by_cases c1 : d ≥ 1
    · by_cases c4 : d ≤ 4
      · have hn : ¬ (enc = 1 ∨ enc = 2 ∨ enc = 4 ∨ enc = 5) := fun a => hd a ⟨c1, c4⟩
        rw [if_neg (fun e => hn (.inl e)), if_neg (fun e => hn (.inr (.inl e))), if_neg (fun e => hn (.inr (.inr (.inl e)))), if_neg (fun e => hn (.inr (.inr (.inr e))))]
      · rw [if_pos c1, decide_eq_false c4]
        split <;> (try split) <;> (try split) <;> (try split) <;> rfl
    · rw [if_neg c1]
      split <;> (try split) <;> (try split) <;> (try split) <;> rfl

theorem rprefix_is (enc d n : Int) (hn : -9223372036854775808 ≤ n ∧ n ≤ 9223372036854775807) : Ev (fun k => turnstileref1_Prefix.f k enc d n) (prefS enc d n) := by
  unfold turnstileref1_Prefix.f
  rw [length_is]
  by_cases ho : okLen enc d
  · rw [decide_eq_true ho]
    by_cases h0 : n < 0
    · have e : prefS enc d n = ((⟨#[]⟩ : ByteArray), 1) := by unfold prefS; rw [if_pos (.inr h0)]
      rw [e]
      refine Ev.step (f := fun _ => some ((⟨#[]⟩ : ByteArray), 1)) (fun k => ?_) (Ev.now _)
      rw [Option.bind_some, if_pos rfl, decide_eq_true h0]; simp only [turnstileref1_Prefix.j0]; rfl
    · obtain ⟨he, h1, h4⟩ := ho
      obtain ⟨m, rfl⟩ := Int.eq_ofNat_of_zero_le (show 0 ≤ d by omega)
      have hm : m ≤ 4 := by omega
      have hp := pow_pos10 m
      refine Ev.step (f := fun k => (turnstileref1_Write.f k n m).bind fun b => (if b.2 = 0 then (if enc = 5 then (if (m : Int) ≤ 2 then (some (strOfNums (([(n) % 256] : List Int)), 0)) else (some (strOfNums (([(wrap64 (Int.tdiv n 256)) % 256, (Int.tmod n 256) % 256] : List Int)), 0))) else ((turnstileref1_Pack.f k enc b.1).bind fun c => (some (c.1, c.2)))) else (some ((⟨#[]⟩ : ByteArray), b.2)))) (fun k => ?_) ?_
      · rw [Option.bind_some, if_pos rfl, decide_eq_false h0]; simp only [turnstileref1_Prefix.j0]; rfl
      · refine evb (rwrite_is n m (by omega) hn.2 (by omega) (by omega)) ?_
        rw [prefS_ok enc m n ⟨he, h1, h4⟩ h0, Int.toNat_natCast]
        by_cases hb : n ≥ 10 ^ m
        · rw [if_pos hb]
          have ew : writeR m n [] = ((⟨#[]⟩ : ByteArray), 13) := by
            unfold writeR
            have := Int.ediv_le_ediv hp hb
            rw [Int.ediv_self (by omega)] at this
            rw [if_pos (by omega)]
          rw [ew]
          exact ev_some fun k => rfl
        · rw [if_neg hb]
          have ew : writeR m n [] = (strOfNums (decL m n), 0) := by
            unfold writeR
            have : n / 10 ^ m = 0 := Int.ediv_eq_zero_of_lt (by omega) (by omega)
            rw [this, if_neg (by decide), List.append_nil]
          rw [ew]
          refine Ev.congr (fun k => if_pos rfl) ?_
          by_cases c5 : enc = 5
          · rw [if_pos c5]
            refine ev_some fun k => (if_pos c5).trans ?_
            by_cases h2 : (m : Int) ≤ 2
            · rw [if_pos h2, if_pos h2]
            · rw [if_neg h2, if_neg h2, Int.tdiv_eq_ediv_of_nonneg (by omega), Int.tmod_eq_emod_of_nonneg (by omega), w64 (by omega)]
              have : n % 256 % 256 = n % 256 := by omega
              rw [this]
          · rw [if_neg c5]
            refine Ev.congr (fun k => if_neg c5) ?_
            exact evb (rpack_is enc _ (by rw [strOfNums_size, decL_length]; omega)) (Ev.now _)
  · rw [decide_eq_false ho]
    have e : prefS enc d n = ((⟨#[]⟩ : ByteArray), 1) := by unfold prefS; rw [if_pos (.inl ho)]
    rw [e]
    refine Ev.step (f := fun _ => some ((⟨#[]⟩ : ByteArray), 1)) (fun k => ?_) (Ev.now _)
    rw [Option.bind_some, if_neg (by decide)]; simp only [turnstileref1_Prefix.j0]; rfl

theorem DigitsPrefixes : turnstilelaw1_DigitsPrefixes.Pure := by
  intro enc d n he hd hn
  refine Ev.rounds (?_ : Ev (fun k => turnstilelaw1_DigitsPrefixes.f k enc d n) true)
  unfold turnstilelaw1_DigitsPrefixes.f
  refine Ev.bind (prefix_is 2 3 42 (by decide)) (Ev.bind (prefix_is enc d n (wf64 hn)) (Ev.bind (rprefix_is enc d n (wf64 hn)) (ev_some fun k => ?_)))
  have e1 : prefS 2 3 42 = (strOfNums [0, 66], 0) := by decide +kernel
  have e2 : (strOfNums [0, 66]).toList = ([0, 66] : List UInt8) := by rw [ByteArray.toList_eq]; rfl
  rw [e1]
  simp [e2]
end Go.Proofs.Ytlpamhffpgoebaa.Pure
