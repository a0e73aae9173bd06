/- Pack of the reference, told with enough rounds as the same plain function as that of digits. Condition: a text whose halves, eight bytes each, an append in the model can bear. -/
import Derived.Test.YtlpamhffpgoebaaAx43
import Derived.Test.YtlpamhffpgoebaaPd
namespace Go.Proofs.Ytlpamhffpgoebaa.Pure
open Go.RowKit Go.Proofs.Ytlpamhffpgoebaa.All Go.Proofs.YtlpamhffpgoebaaW.PrintWords Go.Proofs.YtlpamhffpgoebaaW.PrintLast Go.Proofs.YtlpamhffpgoebaaW.PrintMore

theorem code4 : ∀ e : Fin 256, turnstileref1_Code.f 100 4 (e.val : Int) = some (match wr 4 (e.val : Int) with | some v => (v, true) | none => (0, false)) := by decide +kernel
/-- the reference's byte of a character -/
theorem code_is (enc c : Int) (he : enc = 1 ∨ enc = 4 ∨ enc = 5) (h0 : 0 ≤ c) (h1 : c ≤ 255) : ∃ u, Ev (fun k => turnstileref1_Code.f k enc c) (match wr enc c with | some v => (v, true) | none => (u, false)) := by
  rcases he with h | h | h
  · subst h
    refine ⟨c, ev_some fun k => ?_⟩
    unfold turnstileref1_Code.f wr
    rw [if_pos rfl, if_neg (show ¬ (1 : Int) = 5 by decide)]
    by_cases c1 : c < 32
    · rw [if_neg (by omega), if_pos c1]
    · rw [if_pos (by omega), if_neg c1]
      by_cases c2 : c > 126
      · rw [if_pos c2, decide_eq_false (by omega)]
      · rw [if_neg c2, if_neg (show ¬ (1 : Int) = 4 by decide), decide_eq_true (by omega)]
  · subst h
    refine ⟨0, ?_⟩
    have h := code4 ⟨c.toNat, by omega⟩
    simp only [show ((c.toNat : Nat) : Int) = c by omega] at h
    exact Ev.of (fun k => turnstileref1_Code.mono _ _ k) h
  · subst h
    refine ⟨0, ev_some fun k => ?_⟩
    unfold turnstileref1_Code.f wr
    rw [if_neg (by decide), if_neg (by decide), if_pos rfl]
    rfl

theorem rpack_l0 (enc : Int) (he : enc = 1 ∨ enc = 4 ∨ enc = 5) (s : ByteArray) (hs : s.size ≤ 140737488355300) : ∀ (d i : Nat) (xs : List Int), i + d = s.size → xs.length = i →
    Ev (fun k => turnstileref1_Pack.l0 k enc s xs (i : Int)) (packEnd xs (mapO (wr enc) ((bytesOf s).drop i))) := by
  intro d
  induction d with
  | zero =>
    intro i xs hi hx
    rw [dropAll s i (by omega)]
    refine Ev.step (f := fun _ => some (packEnd xs (mapO (wr enc) []))) (fun k => ?_) (Ev.now _)
    simp only [turnstileref1_Pack.l0]; rw [if_neg (by omega)]; simp [packEnd, mapO]
  | succ d ih =>
    intro i xs hi hx
    rw [dropBt s i (by omega)]
    have q1 : (i : Int) < (s.size : Int) := by omega
    have q2 : (0 : Int) ≤ (i : Int) := by omega
    obtain ⟨u, hu⟩ := code_is enc (bt s (i : Int)) he (bt_lo _ _) (bt_hi _ _)
    refine Ev.step (f := fun k => (turnstileref1_Code.f k enc (bt s (i : Int))).bind fun b => if b.2 = true then turnstileref1_Pack.l0 k enc s (xs ++ [b.1]) ((i + 1 : Nat) : Int) else some ((⟨#[]⟩ : ByteArray), 11)) (fun k => ?_) ?_
    · have q3 : xs.length < 140737488355328 := by omega
      simp only [turnstileref1_Pack.l0]; rw [if_pos q1, if_pos q2, w64 (by omega)]
      simp only [if_pos q3]
      rfl
    · refine Ev.bind (f := fun k b => if b.2 = true then turnstileref1_Pack.l0 k enc s (xs ++ [b.1]) ((i + 1 : Nat) : Int) else some ((⟨#[]⟩ : ByteArray), 11)) hu ?_
      cases hw : wr enc (bt s (i : Int)) with
      | none => rw [packEnd_none _ _ _ _ hw]; exact ev_some fun k => rfl
      | some v =>
        rw [packEnd_cons _ _ v _ _ hw]
        exact ih (i + 1) (xs ++ [v]) (by omega) (by simp [hx])

theorem rhalves_l1 (l : List Int) (hl : l.length ≤ 140737488355320) (hev : l.length % 2 = 0) (hr : ∀ v ∈ l, 0 ≤ v ∧ v < 16) : ∀ (d j : Nat) (xs : List Int), 2 * j + 2 * d = l.length → xs.length = j →
    Ev (fun k => turnstileref1_halves.l1 k l xs ((2 * j : Nat) : Int)) (strOfNums (xs ++ pairs (l.drop (2 * j))), 0) := by
  intro d
  induction d with
  | zero =>
    intro j xs hj hx
    rw [List.drop_eq_nil_iff.2 (by omega)]
    refine Ev.step (f := fun _ => some (strOfNums (xs ++ pairs []), 0)) (fun k => ?_) (Ev.now _)
    simp only [turnstileref1_halves.l1]
    rw [if_neg (by omega)]
    simp [pairs]
  | succ d ih =>
    intro j xs hj hx
    rw [dropTwo l (2 * j) (by omega)]
    have ra := rdRange l hr (2 * j) (by omega)
    have rb := rdRange l hr (2 * j + 1) (by omega)
    have e : xs ++ pairs (rd l ((2 * j : Nat) : Int) :: rd l ((2 * j + 1 : Nat) : Int) :: l.drop (2 * j + 2)) = (xs ++ [16 * rd l ((2 * j : Nat) : Int) + rd l ((2 * j + 1 : Nat) : Int)]) ++ pairs (l.drop (2 * (j + 1))) := by
      simp [pairs]; rfl
    rw [e]
    refine Ev.step (fun k => ?_) (ih (j + 1) (xs ++ [16 * rd l ((2 * j : Nat) : Int) + rd l ((2 * j + 1 : Nat) : Int)]) (by omega) (by simp [hx]))
    have e1 : wrap64 (((2 * j : Nat) : Int) + 1) = ((2 * j + 1 : Nat) : Int) := by rw [w64 (by omega)]; omega
    have e2 : wrap64 (((2 * j : Nat) : Int) + 2) = ((2 * (j + 1) : Nat) : Int) := by rw [w64 (by omega)]; omega
    have e3 : (wrap64 ((wrap64 (16 * (rd l ((2 * j : Nat) : Int)))) + (rd l ((2 * j + 1 : Nat) : Int)))) % 256 = 16 * rd l ((2 * j : Nat) : Int) + rd l ((2 * j + 1 : Nat) : Int) := by
      generalize rd l ((2 * j : Nat) : Int) = a at ra ⊢
      generalize rd l ((2 * j + 1 : Nat) : Int) = b at rb ⊢
      rw [w64 (by omega : -9223372036854775808 ≤ 16 * a ∧ 16 * a ≤ 9223372036854775807), w64 (by omega)]
      omega
    simp only [turnstileref1_halves.l1]
    rw [e1, e2, e3, if_pos (by omega), if_pos (by omega), if_pos (by omega), if_pos (by omega), if_pos (by omega)]

theorem rhalves_j3 (l : List Int) (hl : l.length ≤ 17592186044400) (hr : ∀ v ∈ l, 0 ≤ v ∧ v < 16) :
    Ev (fun k => if ((l.length : Int) % 2) = 1 then (if l.length < 17592186044416 then (turnstileref1_halves.j3 k (l ++ [15])) else (none)) else (turnstileref1_halves.j3 k l)) (strOfNums (pairs (padL l)), 0) := by
  have hp := rhalves_l1 (padL l) (by have := padL_len l; omega) (padL_even l) (padL_range l hr) ((padL l).length / 2) 0 [] (by have := padL_even l; omega) rfl
  refine Ev.step (fun k => ?_) hp
  unfold padL
  by_cases h : l.length % 2 = 1
  · rw [if_pos (by omega), if_pos (by omega), if_pos h]
    simp only [turnstileref1_halves.j3]; rfl
  · rw [if_neg (by omega), if_neg h]
    simp only [turnstileref1_halves.j3]; rfl

theorem rhalf_is (c : Int) : turnstileref1_half.f c = some (match halfS c with | some v => v | none => -1) := by
  unfold turnstileref1_half.f halfS
  by_cases c1 : c = 61
  · rw [if_pos c1, if_pos c1]
  · rw [if_neg c1, if_neg c1]
    by_cases c2 : c < 48
    · rw [if_pos c2, if_pos c2]
    · rw [if_neg c2, if_neg c2]
      by_cases c3 : c > 57
      · rw [if_pos c3, if_pos c3]
      · rw [if_neg c3, if_neg c3]; simp; omega

theorem rhalves_l0 (s : ByteArray) (hs : s.size ≤ 17592186044390) (z : Nat) (hz : z ≤ 1) : ∀ (d i : Nat) (xs : List Int), i + d = s.size → xs.length = i + z → (∀ v ∈ xs, 0 ≤ v ∧ v < 16) →
    Ev (fun k => turnstileref1_halves.l0 k s xs (i : Int)) (halfEnd xs (mapO halfS ((bytesOf s).drop i))) := by
  intro d
  induction d with
  | zero =>
    intro i xs hi hx hr
    rw [dropAll s i (by omega)]
    have h := rhalves_j3 xs (by omega) hr
    have e : halfEnd xs (mapO halfS []) = (strOfNums (pairs (padL xs)), 0) := by simp [halfEnd, mapO]
    rw [e]
    refine Ev.step (fun k => ?_) h
    simp only [turnstileref1_halves.l0]; rw [if_neg (by omega)]
  | succ d ih =>
    intro i xs hi hx hr
    rw [dropBt s i (by omega)]
    have q1 : (i : Int) < (s.size : Int) := by omega
    have q2 : (0 : Int) ≤ (i : Int) := by omega
    cases hw : halfS (bt s (i : Int)) with
    | none =>
      rw [halfEnd_none _ _ _ hw]
      refine Ev.step (f := fun _ => some ((⟨#[]⟩ : ByteArray), 11)) (fun k => ?_) (Ev.now _)
      simp only [turnstileref1_halves.l0, rhalf_is, hw]; rw [if_pos q1, if_pos q2]; rfl
    | some v =>
      rw [halfEnd_cons _ v _ _ hw]
      have hv := halfS_range hw
      refine Ev.step (fun k => ?_) (ih (i + 1) (xs ++ [v]) (by omega) (by simp [hx]; omega) (fun x hx => by
        rcases List.mem_append.1 hx with h | h
        · exact hr x h
        · simp at h; subst h; exact hv))
      simp only [turnstileref1_halves.l0, rhalf_is, hw]; rw [if_pos q1, if_pos q2, w64 (by omega)]
      simp only [Option.bind_some]
      rw [if_neg (by omega), if_pos (by omega)]
      rfl

theorem rhalves_is (enc : Int) (s : ByteArray) (hs : s.size ≤ 17592186044390) : Ev (fun k => turnstileref1_halves.f k enc s) (halfPackS enc (bytesOf s)) := by
  unfold halfPackS
  rw [bytesOf_length]
  by_cases h2 : enc = 2 ∧ s.size % 2 = 1
  · rw [if_pos h2]
    have h := rhalves_l0 s hs 1 (by omega) s.size 0 [0] (by omega) rfl (fun v hv => by simp at hv; omega)
    refine Ev.step (f := fun k => turnstileref1_halves.j1 k s [0]) (fun k => ?_) (Ev.step (fun k => ?_) h)
    · unfold turnstileref1_halves.f
      rw [if_pos h2.1]
      have e : (((s.size : Int) % 2) == 1) = true := by rw [beq_iff_eq]; omega
      rw [e]
      simp only [turnstileref1_halves.j0]; rfl
    · simp only [turnstileref1_halves.j1]; rfl
  · rw [if_neg h2]
    have h := rhalves_l0 s hs 0 (by omega) s.size 0 [] (by omega) rfl (fun v hv => by cases hv)
    refine Ev.step (f := fun k => turnstileref1_halves.j1 k s []) (fun k => ?_) (Ev.step (fun k => ?_) h)
    · unfold turnstileref1_halves.f
      by_cases c2 : enc = 2
      · rw [if_pos c2]
        have e : (((s.size : Int) % 2) == 1) = false := by rw [beq_eq_false_iff_ne]; intro h; exact h2 ⟨c2, by omega⟩
        rw [e]
        simp only [turnstileref1_halves.j0]; rfl
      · rw [if_neg c2]
        simp only [turnstileref1_halves.j0]; rfl
    · simp only [turnstileref1_halves.j1]; rfl

theorem rpack_is (enc : Int) (s : ByteArray) (hs : s.size ≤ 17592186044390) : Ev (fun k => turnstileref1_Pack.f k enc s) (packS enc (bytesOf s)) := by
  unfold packS turnstileref1_Pack.f turnstileref1_known.f turnstileref1_Packed.f
  by_cases h23 : enc = 2 ∨ enc = 3
  · rw [if_pos h23]
    refine Ev.congr (f := fun k => (turnstileref1_halves.f k enc s).bind fun b => some (b.1, b.2)) (fun k => ?_) (Ev.bind (rhalves_is enc s hs) (Ev.now _))
    rcases h23 with h | h <;> subst h <;> rfl
  · rw [if_neg h23]
    by_cases h145 : enc = 1 ∨ enc = 4 ∨ enc = 5
    · rw [if_pos h145]
      refine Ev.congr (fun k => ?_) (rpack_l0 enc h145 s (by omega) s.size 0 [] (by omega) rfl)
      rcases h145 with h | h | h <;> subst h <;> rfl
    · rw [if_neg h145]
      refine ev_some fun k => ?_
      by_cases c1 : enc ≥ 1
      · rw [if_pos c1, decide_eq_false (by omega)]; rfl
      · rw [if_neg c1]; rfl
end Go.Proofs.Ytlpamhffpgoebaa.Pure
