/- DigitsLengths of the package turnstilelaw1: of every two integers and every text digits.Length tells what the reference's does, its place too; of BINARY, 4 and the bytes 04 d2 it tells 1234 in 2 bytes. No condition. Texts of this claim laid together by merge.py: PureDigitsLengths -/
import Derived.Test.YtlpamhffpgoebaaMLengthsa
import Derived.Test.YtlpamhffpgoebaaMLengthsb
import Derived.Test.YtlpamhffpgoebaaMLengthsc
/- DigitsLengths of the package turnstilelaw1: of every two integers and every text digits.Length tells what the reference's does, its place too; of BINARY, 4 and the bytes 04 d2 it tells 1234 in 2 bytes. No condition. -/
namespace Go.Proofs.Ytlpamhffpgoebaa.Pure
open Go.RowKit Go.Proofs.Ytlpamhffpgoebaa.All Go.Proofs.YtlpamhffpgoebaaW.PrintWords Go.Proofs.YtlpamhffpgoebaaW.PrintLast Go.Proofs.YtlpamhffpgoebaaW.PrintMore

theorem rlength_is (enc d : Int) : turnstileref1_length.f enc d = some (decide (okLen enc d)) := by
  by_cases h : okLen enc d
  · rw [decide_eq_true h]
    obtain ⟨he, h1, h4⟩ := h
    unfold turnstileref1_length.f
    rcases he with e | e | e | e <;> subst e
    · rw [if_pos rfl, if_pos h1, decide_eq_true h4]
    · rw [if_neg (by decide), if_pos rfl, if_pos h1, decide_eq_true h4]
    · rw [if_neg (by decide), if_neg (by decide), if_pos rfl, if_pos h1, decide_eq_true h4]
    · rw [if_neg (by decide), if_neg (by decide), if_neg (by decide), if_pos rfl, if_pos h1, decide_eq_true h4]
  · rw [decide_eq_false h]
    unfold turnstileref1_length.f
    have hd : enc = 1 ∨ enc = 2 ∨ enc = 4 ∨ enc = 5 → ¬ (1 ≤ d ∧ d ≤ 4) := fun a b => h ⟨a, b⟩
    by_cases c1 : d ≥ 1
    · by_cases c4 : d ≤ 4
      · have hn : ¬ (enc = 1 ∨ enc = 2 ∨ enc = 4 ∨ enc = 5) := fun a => hd a ⟨c1, c4⟩
        rw [if_neg (fun e => hn (.inl e)), if_neg (fun e => hn (.inr (.inl e))), if_neg (fun e => hn (.inr (.inr (.inl e)))), if_neg (fun e => hn (.inr (.inr (.inr e))))]
      · rw [if_pos c1, decide_eq_false c4]
        split <;> (try split) <;> (try split) <;> (try split) <;> rfl
    · rw [if_neg c1]
      split <;> (try split) <;> (try split) <;> (try split) <;> rfl
theorem lengthWidth_is (enc d : Int) (h : okLen enc d) : Ev (fun k => turnstileref1_LengthWidth.f k enc d) (wideS enc d) := by
  unfold turnstileref1_LengthWidth.f
  obtain ⟨he, h1, h4⟩ := h
  by_cases c5 : enc = 5
  · refine ev_some fun k => (if_pos c5).trans ?_
    rw [wide_half enc d ⟨he, h1, h4⟩ (.inl c5), w64 (by omega : -9223372036854775808 ≤ d + 1 ∧ d + 1 ≤ 9223372036854775807), Int.tdiv_eq_ediv_of_nonneg (by omega), w64 (by omega)]
  · refine Ev.congr (fun k => if_neg c5) ?_
    have e : wideS enc d = widthS enc d := by
      unfold widthS
      rw [if_neg (by omega)]
      by_cases c2 : enc = 2
      · rw [wide_half enc d ⟨he, h1, h4⟩ (.inr c2), if_pos (.inl c2)]; omega
      · rw [wide_full enc d ⟨he, h1, h4⟩ (by omega), if_neg (show ¬ (enc = 2 ∨ enc = 3) by omega), if_pos (show enc = 1 ∨ enc = 4 ∨ enc = 5 by omega)]
    rw [e]
    exact evb (rwidth_is enc d (by omega)) (Ev.now _)

theorem rlen_bin (d : Nat) (hd : d ≤ 4) (s : ByteArray) (w : Nat) (hw : w ≤ s.size) (hw2 : w ≤ 2) : ∀ (m i : Nat) (n : Int), i + m = w → 0 ≤ n → n < 256 ^ i → ∀ (R : Int × Int × Int),
    (binS ((((bytesOf s).take w).drop i)) n ≥ 10 ^ d → R = (0, 13, 0)) → (¬ binS ((((bytesOf s).take w).drop i)) n ≥ 10 ^ d → R = (binS ((((bytesOf s).take w).drop i)) n, 0, (w : Int))) →
    Ev (fun k => turnstileref1_Length.l0 k (d : Int) s (w : Int) n (i : Int)) R := by
  have hlen : ((bytesOf s).take w).length = w := by rw [List.length_take, bytesOf_length]; omega
  intro m
  induction m with
  | zero =>
    intro i n hi h0 h1 R hb hg
    rw [List.drop_eq_nil_iff.2 (by omega)] at hb hg
    refine Ev.step (f := fun k => (turnstileref1_power.f k (d : Int)).bind fun t => (if n ≥ t then (some (0, 13, 0)) else (some (n, 0, (w : Int))))) (fun k => ?_) (evb (power_is d (by omega)) ?_)
    · simp only [turnstileref1_Length.l0]; rw [if_neg (by omega)]
    · by_cases h : n ≥ 10 ^ d
      · rw [hb h]; exact ev_some fun k => if_pos h
      · rw [hg h]; exact ev_some fun k => if_neg h
  | succ m ih =>
    intro i n hi h0 h1 R hb hg
    have hc : ((bytesOf s).take w).drop i = bt s (i : Int) :: ((bytesOf s).take w).drop (i + 1) := by
      rw [List.drop_take, List.drop_take, dropBt s i (by omega), show w - i = (w - (i + 1)) + 1 by omega, List.take_succ_cons]
    rw [hc] at hb hg
    have b0 := bt_lo s i
    have b1 := bt_hi s i
    have n1 : n < 65536 := by
      have : i = 0 ∨ i = 1 := by omega
      rcases this with e | e <;> subst e <;> simp at h1 <;> omega
    have n2' : ∀ b : Int, b ≤ 255 → 256 * n + b < 256 ^ (i + 1) := by
      intro b hb
      have : i = 0 ∨ i = 1 := by omega
      rcases this with e | e <;> subst e <;> simp at h1 ⊢ <;> omega
    have n2 := n2' _ b1
    refine Ev.step (fun k => ?_) (ih (i + 1) (256 * n + bt s i) (by omega) (by omega) n2 R hb hg)
    simp only [turnstileref1_Length.l0]
    rw [if_pos (by omega), if_pos (by omega), if_pos (by omega), w64 (by omega : -9223372036854775808 ≤ 256 * n ∧ 256 * n ≤ 9223372036854775807), w64 (by omega : -9223372036854775808 ≤ bt s (i : Int) ∧ bt s (i : Int) ≤ 9223372036854775807), w64 (by omega), w64 (by omega)]
    rfl

/-- the inner loop: what is left of the byte's characters -/
theorem rlen_inner (enc d : Int) (s : ByteArray) (w i e : Int) (hi : wrap64 (i + 1) = i + 1) (R : Int × Int × Int) (t : ByteArray) (ht : t.size ≤ 100) : ∀ (m j : Nat) (n : Int), j + m = t.size →
    (((bytesOf t).drop j).all (fun c => decide (48 ≤ c) && decide (c ≤ 57)) = true → e = 0 → Ev (fun k => turnstileref1_Length.l1 k enc d s w (addD n ((bytesOf t).drop j)) (i + 1)) R) →
    (((bytesOf t).drop j).all (fun c => decide (48 ≤ c) && decide (c ≤ 57)) = true → ¬ e = 0 → R = (0, e, i)) → (¬ ((bytesOf t).drop j).all (fun c => decide (48 ≤ c) && decide (c ≤ 57)) = true → R = (0, 11, i)) →
    Ev (fun k => turnstileref1_Length.l2 k enc d s w n i t e (j : Int)) R := by
  intro m
  induction m with
  | zero =>
    intro j n hj h1 h2 h3
    rw [dropAll t j (by omega)] at h1 h2 h3
    by_cases he : e = 0
    · refine Ev.step (fun k => ?_) (h1 rfl he)
      simp only [turnstileref1_Length.l2]; rw [if_neg (by omega), if_pos he, hi]; rfl
    · rw [h2 rfl he]
      refine Ev.step (f := fun _ => some (0, e, i)) (fun k => ?_) (Ev.now _)
      simp only [turnstileref1_Length.l2]; rw [if_neg (by omega), if_neg he]
  | succ m ih =>
    intro j n hj h1 h2 h3
    rw [dropBt t j (by omega)] at h1 h2 h3
    by_cases hd : 48 ≤ bt t (j : Int) ∧ bt t (j : Int) ≤ 57
    · have e1 : (decide (48 ≤ bt t (j : Int)) && decide (bt t (j : Int) ≤ 57)) = true := by rw [decide_eq_true hd.1, decide_eq_true hd.2]; rfl
      simp only [List.all_cons, e1, Bool.true_and] at h1 h2 h3
      refine Ev.step (fun k => ?_) (ih (j + 1) (wrap64 ((wrap64 (10 * n)) + (((bt t j) - 48) % 256))) (by omega) h1 h2 h3)
      simp only [turnstileref1_Length.l2, turnstileref1_digit.f]; rw [if_pos (by omega), if_pos (by omega), if_pos hd.1, decide_eq_true hd.2, Option.bind_some, if_pos rfl, w64 (by omega : -9223372036854775808 ≤ (j : Int) + 1 ∧ (j : Int) + 1 ≤ 9223372036854775807)]; rfl
    · have e1 : (decide (48 ≤ bt t (j : Int)) && decide (bt t (j : Int) ≤ 57)) = false := by
        by_cases c : 48 ≤ bt t (j : Int)
        · rw [decide_eq_false (show ¬ bt t (j : Int) ≤ 57 from fun h => hd ⟨c, h⟩), Bool.and_false]
        · rw [decide_eq_false c, Bool.false_and]
      rw [h3 (by simp only [List.all_cons, e1, Bool.false_and]; decide)]
      refine Ev.step (f := fun _ => some (0, 11, i)) (fun k => ?_) (Ev.now _)
      simp only [turnstileref1_Length.l2, turnstileref1_digit.f]; rw [if_pos (by omega), if_pos (by omega)]
      by_cases c : 48 ≤ bt t (j : Int)
      · rw [if_pos c, decide_eq_false (show ¬ bt t (j : Int) ≤ 57 from fun h => hd ⟨c, h⟩)]; rfl
      · rw [if_neg c]; rfl

theorem rlen_l1 (enc d : Int) (he : enc = 1 ∨ enc = 2 ∨ enc = 4) (hd : 1 ≤ d ∧ d ≤ 4) (s : ByteArray) (w : Nat) (hw : w ≤ s.size) (hw2 : w ≤ 4) : ∀ (m i : Nat) (n : Int), i + m = w →
    Ev (fun k => turnstileref1_Length.l1 k enc d s (w : Int) n (i : Int)) (lenR enc d w (((bytesOf s).take w).drop i) i n) := by
  have hlen : ((bytesOf s).take w).length = w := by rw [List.length_take, bytesOf_length]; omega
  intro m
  induction m with
  | zero =>
    intro i n hi
    rw [List.drop_eq_nil_iff.2 (by omega)]
    refine Ev.step (f := fun _ => some (n, 0, (w : Int))) (fun k => ?_) (Ev.now _)
    simp only [turnstileref1_Length.l1]; rw [if_neg (by omega)]
  | succ m ih =>
    intro i n hi
    have hc : ((bytesOf s).take w).drop i = bt s (i : Int) :: ((bytesOf s).take w).drop (i + 1) := by
      rw [List.drop_take, List.drop_take, dropBt s i (by omega), show w - i = (w - (i + 1)) + 1 by omega, List.take_succ_cons]
    rw [hc]
    simp only [lenR]
    have hb := byte_is enc (bt s i) i d (by omega) (bt_lo _ _) (bt_hi _ _) (by omega) (by omega)
    have hr := byteS_range enc (bt s i) i d (bt_lo _ _) (bt_hi _ _)
    have hl := byteS_len enc (bt s i) i d
    refine Ev.step (f := fun k => (turnstileref1_Byte.f k enc (bt s i) i d).bind fun b => (if b.2 = 11 then (some (0, 11, (i : Int))) else (turnstileref1_Length.l2 k enc d s w n i b.1 b.2 0))) (fun k => ?_) (evb hb ?_)
    · simp only [turnstileref1_Length.l1]; rw [if_pos (by omega), if_pos (by omega), if_pos (by omega)]
    · unfold ldS ldF
      by_cases h11 : (byteS enc (bt s i) i d).2 = 11
      · rw [if_pos h11, if_neg (show ¬ ((11 : Int) = 0) by decide)]
        exact ev_some fun k => if_pos h11
      · rw [if_neg h11]
        refine Ev.congr (fun k => if_neg h11) ?_
        refine rlen_inner enc d s w i _ (w64 (by omega)) _ (strOfNums (byteS enc (bt s i) i d).1) (by rw [strOfNums_size]; omega) _ 0 n (Nat.zero_add _) (fun ha hz => ?_) (fun ha hz => ?_) (fun ha => ?_)
        · rw [List.drop_zero, bytesOf_strOfNums _ hr] at ha ⊢
          rw [if_pos ha, if_pos hz, if_pos rfl]
          exact ih (i + 1) _ (by omega)
        · rw [List.drop_zero, bytesOf_strOfNums _ hr] at ha
          rw [if_pos ha, if_neg hz, if_neg hz]
        · rw [List.drop_zero, bytesOf_strOfNums _ hr] at ha
          rw [if_neg ha, if_neg (show ¬ ((11 : Int) = 0) by decide)]

theorem rlen_is (enc d : Int) (s : ByteArray) : Ev (fun k => turnstileref1_Length.f k enc d s) (lengthS enc d s) := by
  unfold turnstileref1_Length.f
  rw [rlength_is]
  unfold lengthS
  by_cases ho : okLen enc d
  · have hw := wide_range enc d ho
    rw [if_neg (fun h => h ho), decide_eq_true ho]
    refine Ev.congr (f := fun k => (turnstileref1_LengthWidth.f k enc d).bind fun t => (if (s.size : Int) < t then (some (0, 10, (s.size : Int))) else (if enc = 5 then (turnstileref1_Length.l0 k d s t 0 0) else (turnstileref1_Length.l1 k enc d s t 0 0)))) (fun k => by rw [Option.bind_some, if_pos rfl]) (evb (lengthWidth_is enc d ho) ?_)
    by_cases hs2 : (s.size : Int) < wideS enc d
    · rw [if_pos hs2]; exact ev_some fun k => if_pos hs2
    · rw [if_neg hs2]
      refine Ev.congr (fun k => if_neg hs2) ?_
      have ew : (((wideS enc d).toNat : Nat) : Int) = wideS enc d := by omega
      by_cases c5 : enc = 5
      · rw [if_pos c5]
        refine Ev.congr (fun k => if_pos c5) ?_
        have ed : ((d.toNat : Nat) : Int) = d := by have := ho.2.1; omega
        have h := rlen_bin d.toNat (by have := ho.2.2; omega) s (wideS enc d).toNat (by omega) (by have := hw.2.2 c5; omega) (wideS enc d).toNat 0 0 (by omega) (by omega) (by simp) (binR d ((bytesOf s).take (wideS enc d).toNat)) (fun h => by unfold binR; rw [if_pos (by simpa using h)]) (fun h => by
          unfold binR; rw [if_neg (by simpa using h)]
          simp only [List.drop_zero, List.length_take, bytesOf_length]
          congr 2
          omega)
        rw [ew, ed] at h
        exact h
      · rw [if_neg c5]
        refine Ev.congr (fun k => if_neg c5) ?_
        have he : enc = 1 ∨ enc = 2 ∨ enc = 4 := by have := ho.1; omega
        have h := rlen_l1 enc d he ho.2 s (wideS enc d).toNat (by omega) (by omega) (wideS enc d).toNat 0 0 (by omega)
        rw [ew] at h
        exact h
  · rw [if_pos ho, decide_eq_false ho]
    exact ev_some fun k => rfl

theorem DigitsLengths : turnstilelaw1_DigitsLengths.Pure := by
  intro enc d b he hd hb
  refine Ev.rounds (?_ : Ev (fun k => turnstilelaw1_DigitsLengths.f k enc d b) true)
  unfold turnstilelaw1_DigitsLengths.f
  refine Ev.bind (dlength_is 5 4 _) (Ev.bind (dlength_is enc d b) (Ev.bind (rlen_is enc d b) (ev_some fun k => ?_)))
  have e1 : lengthS 5 4 ⟨#[4, 210]⟩ = (1234, 0, 2) := by decide +kernel
  rw [e1]
  simp
end Go.Proofs.Ytlpamhffpgoebaa.Pure
