/- Prefix of digits and of the reference, told with enough rounds as one plain function. Condition: numbers of 64 bits. -/
import Derived.Test.YtlpamhffpgoebaaAx25
import Derived.Test.YtlpamhffpgoebaaPb
import Derived.Test.YtlpamhffpgoebaaPd
namespace Go.Proofs.Ytlpamhffpgoebaa.Pure
open Go.RowKit Go.Proofs.Ytlpamhffpgoebaa.All Go.Proofs.YtlpamhffpgoebaaW.PrintWords Go.Proofs.YtlpamhffpgoebaaW.PrintLast Go.Proofs.YtlpamhffpgoebaaW.PrintMore

/-- may a length be so? -/
def okLen (enc d : Int) : Prop := (enc = 1 ∨ enc = 2 ∨ enc = 4 ∨ enc = 5) ∧ 1 ≤ d ∧ d ≤ 4
instance (enc d : Int) : Decidable (okLen enc d) := by unfold okLen; infer_instance
/-- how many bytes a length has -/
def wideS (enc d : Int) : Int := if okLen enc d then (if enc = 5 ∨ enc = 2 then (d + 1) / 2 else d) else 0
theorem wide_half (enc d : Int) (h : okLen enc d) (h2 : enc = 5 ∨ enc = 2) : wideS enc d = (d + 1) / 2 := by unfold wideS; rw [if_pos h, if_pos h2]
theorem wide_full (enc d : Int) (h : okLen enc d) (h2 : ¬ (enc = 5 ∨ enc = 2)) : wideS enc d = d := by unfold wideS; rw [if_pos h, if_neg h2]
theorem wide_none (enc d : Int) (h : ¬ okLen enc d) : wideS enc d = 0 := by unfold wideS; rw [if_neg h]
theorem wide_is (enc d : Int) : Ev (fun k => digits_wide.f k enc d) (wideS enc d) := by
  by_cases hd : 1 ≤ d ∧ d ≤ 4
  · refine Ev.step (f := fun k => if enc = 5 then (digits_wide.j1 k d enc (enc == 5)) else (digits_wide.j1 k d enc (enc == 2))) (fun k => ?_) (Ev.step (f := fun _ => some (wideS enc d)) (fun k => ?_) (Ev.now _))
    · unfold digits_wide.f
      rw [if_neg (by omega), decide_eq_false (by omega)]
      simp only [digits_wide.j0]; rfl
    · by_cases c5 : enc = 5
      · rw [if_pos c5, wide_half enc d ⟨by simp [c5], hd⟩ (.inl c5), beq_iff_eq.mpr c5]; simp only [digits_wide.j1]
        rw [if_pos trivial, w64 (by omega : -9223372036854775808 ≤ d + 1 ∧ d + 1 ≤ 9223372036854775807), Int.tdiv_eq_ediv_of_nonneg (by omega), w64 (by omega)]
      · rw [if_neg c5]
        by_cases c2 : enc = 2
        · rw [wide_half enc d ⟨by simp [c2], hd⟩ (.inr c2), beq_iff_eq.mpr c2]; simp only [digits_wide.j1]
          rw [if_pos trivial, w64 (by omega : -9223372036854775808 ≤ d + 1 ∧ d + 1 ≤ 9223372036854775807), Int.tdiv_eq_ediv_of_nonneg (by omega), w64 (by omega)]
        · have e : (enc == 2) = false := beq_eq_false_iff_ne.mpr c2
          rw [e]; simp only [digits_wide.j1]
          rw [if_neg (by decide)]
          by_cases c1 : enc = 1
          · rw [if_pos c1, wide_full enc d ⟨by simp [c1], hd⟩ (by simp [c2, c5])]
          · rw [if_neg c1]
            by_cases c4 : enc = 4
            · rw [if_pos c4, wide_full enc d ⟨by simp [c4], hd⟩ (by simp [c2, c5])]
            · rw [if_neg c4, wide_none enc d (by simp [okLen, c1, c2, c4, c5])]
  · have e : wideS enc d = 0 := wide_none enc d (fun h => hd h.2)
    rw [e]
    refine Ev.step (f := fun _ => some 0) (fun k => ?_) (Ev.now _)
    unfold digits_wide.f
    by_cases c1 : d < 1
    · rw [if_pos c1]; simp only [digits_wide.j0]; rfl
    · rw [if_neg c1, decide_eq_true (by omega)]; simp only [digits_wide.j0]; rfl

theorem ten_l0 (w : Nat) (hw : w ≤ 4) : ∀ (d i : Nat), i + d = w → Ev (fun k => digits_ten.l0 k (10 ^ i) (w : Int) (i : Int)) (10 ^ w) := by
  intro d
  induction d with
  | zero =>
    intro i hi
    obtain rfl : i = w := by omega
    refine Ev.step (f := fun _ => some (10 ^ i)) (fun k => ?_) (Ev.now _)
    simp only [digits_ten.l0]
    rw [if_neg (by omega)]
  | succ d ih =>
    intro i hi
    refine Ev.step (fun k => ?_) (ih (i + 1) (by omega))
    simp only [digits_ten.l0]
    rw [if_pos (by omega), w64 (by omega : -9223372036854775808 ≤ (i : Int) + 1 ∧ (i : Int) + 1 ≤ 9223372036854775807)]
    have hp := pow_le18 (i + 1) (by omega)
    have hq := pow_pos10 (i + 1)
    have e : (10 : Int) ^ i * 10 = 10 ^ (i + 1) := by rw [Int.pow_succ]
    rw [e, w64 (by omega)]
    rfl
theorem ten_is (w : Nat) (hw : w ≤ 4) : Ev (fun k => digits_ten.f k (w : Int)) (10 ^ w) := by
  have := ten_l0 w hw w 0 (by omega)
  simpa [digits_ten.f] using this

/-- a length in front of what has it -/
def prefS (enc d n : Int) : ByteArray × Int :=
  if ¬ okLen enc d ∨ n < 0 then ((⟨#[]⟩ : ByteArray), 1) else if n ≥ 10 ^ d.toNat then ((⟨#[]⟩ : ByteArray), 13)
  else if enc = 5 then (if d ≤ 2 then (strOfNums [n % 256], 0) else (strOfNums [(n / 256) % 256, n % 256], 0))
  else packS enc (bytesOf (strOfNums (decL d.toNat n)))

theorem prefS_ok (enc d n : Int) (ho : okLen enc d) (h0 : ¬ n < 0) : prefS enc d n = if n ≥ 10 ^ d.toNat then ((⟨#[]⟩ : ByteArray), 13)
    else if enc = 5 then (if d ≤ 2 then (strOfNums [n % 256], 0) else (strOfNums [(n / 256) % 256, n % 256], 0)) else packS enc (bytesOf (strOfNums (decL d.toNat n))) := by
  unfold prefS
  rw [if_neg (by intro h; rcases h with h | h; exact h ho; exact h0 h)]

theorem prefix_is (enc d n : Int) (hn : -9223372036854775808 ≤ n ∧ n ≤ 9223372036854775807) : Ev (fun k => digits_Prefix.f k enc d n) (prefS enc d n) := by
  by_cases ho : okLen enc d
  · have hw : 1 ≤ wideS enc d ∧ wideS enc d ≤ 4 := by
      obtain ⟨_, h1, h4⟩ := ho
      unfold wideS; rw [if_pos ⟨by assumption, h1, h4⟩]; split <;> omega
    by_cases h0 : n < 0
    · have e : prefS enc d n = ((⟨#[]⟩ : ByteArray), 1) := by unfold prefS; rw [if_pos (.inr h0)]
      rw [e]
      refine Ev.bind (f := fun k t => if t = 0 then digits_Prefix.j0 k enc d n t true else digits_Prefix.j0 k enc d n t (decide (n < 0))) (wide_is enc d) (Ev.step (f := fun _ => some ((⟨#[]⟩ : ByteArray), 1)) (fun k => ?_) (Ev.now _))
      rw [if_neg (by omega), decide_eq_true h0]; simp only [digits_Prefix.j0]; rfl
    · obtain ⟨he, h1, h4⟩ := ho
      obtain ⟨m, rfl⟩ := Int.eq_ofNat_of_zero_le (show 0 ≤ d by omega)
      have hm : m ≤ 4 := by omega
      have hp := pow_pos10 m
      refine Ev.bind (f := fun k t => if t = 0 then digits_Prefix.j0 k enc m n t true else digits_Prefix.j0 k enc m n t (decide (n < 0))) (wide_is enc m) ?_
      refine Ev.step (f := fun k => (digits_ten.f k (m : Int)).bind fun t => (if n ≥ t then (some ((⟨#[]⟩ : ByteArray), 13)) else (if enc = 5 then ((some (([(n / 256) % 256, n % 256] : List Int) : List Int)).bind fun y => (if 0 ≤ (wrap64 (2 - wideS enc m)) then (if (wrap64 (2 - wideS enc m)) ≤ (y.length : Int) then (some (strOfNums (y.drop ((wrap64 (2 - wideS enc m)) : Int).toNat), 0)) else (none)) else (none))) else ((digits_Write.f k n m).bind fun b => (if b.2 = 0 then ((digits_Pack.f k enc b.1).bind fun c => (some (c.1, c.2))) else (some ((⟨#[]⟩ : ByteArray), b.2))))))) (fun k => ?_) ?_
      · rw [if_neg (by omega), decide_eq_false h0]; simp only [digits_Prefix.j0]; rfl
      · refine evb (ten_is m hm) ?_
        unfold prefS
        rw [if_neg (by intro h; rcases h with h | h; exact h ⟨he, h1, h4⟩; exact h0 h), Int.toNat_natCast]
        by_cases hb : n ≥ 10 ^ m
        · rw [if_pos hb]; exact ev_some fun k => if_pos hb
        · rw [if_neg hb]
          refine Ev.congr (fun k => if_neg hb) ?_
          by_cases c5 : enc = 5
          · rw [if_pos c5]
            refine ev_some fun k => (if_pos c5).trans ?_
            have ew : wideS enc m = ((m : Int) + 1) / 2 := by unfold wideS; rw [if_pos ⟨he, h1, h4⟩, if_pos (.inl c5)]
            rw [ew, Option.bind_some]
            by_cases h2 : (m : Int) ≤ 2
            · rw [if_pos h2, w64 (by omega), if_pos (by omega), if_pos (by simp; omega)]
              have : (2 - ((m : Int) + 1) / 2 : Int).toNat = 1 := by omega
              rw [this]; rfl
            · rw [if_neg h2, w64 (by omega), if_pos (by omega), if_pos (by simp; omega)]
              have : (2 - ((m : Int) + 1) / 2 : Int).toNat = 0 := by omega
              rw [this]; rfl
          · rw [if_neg c5]
            refine Ev.congr (fun k => if_neg c5) ?_
            have hw := write_is n m (by omega) hn.2 (by omega) (by omega)
            have ew : writeR m n [] = (strOfNums (decL m n), 0) := by
              unfold writeR
              have : n / 10 ^ m = 0 := Int.ediv_eq_zero_of_lt (by omega) (by omega)
              rw [this, if_neg (by decide), List.append_nil]
            rw [ew] at hw
            refine evb hw ?_
            refine Ev.congr (f := fun k => (digits_Pack.f k enc (strOfNums (decL m n))).bind fun c => some (c.1, c.2)) (fun k => if_pos rfl) ?_
            refine evb (pack_is enc _ (by rw [strOfNums_size, decL_length]; omega)) (Ev.now _)
  · have e : prefS enc d n = ((⟨#[]⟩ : ByteArray), 1) := by unfold prefS; rw [if_pos (.inl ho)]
    rw [e]
    have ew : wideS enc d = 0 := by unfold wideS; rw [if_neg ho]
    refine Ev.bind (f := fun k t => if t = 0 then digits_Prefix.j0 k enc d n t true else digits_Prefix.j0 k enc d n t (decide (n < 0))) (wide_is enc d) (Ev.step (f := fun _ => some ((⟨#[]⟩ : ByteArray), 1)) (fun k => ?_) (Ev.now _))
    rw [if_pos ew]; simp only [digits_Prefix.j0]; rfl
end Go.Proofs.Ytlpamhffpgoebaa.Pure
