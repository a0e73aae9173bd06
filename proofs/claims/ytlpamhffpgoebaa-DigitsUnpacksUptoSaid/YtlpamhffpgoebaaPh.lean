/- Byte, Char and Unpack of the reference, told with enough rounds as the same plain functions as those of digits. Condition: a text and a number of characters that an append in the model can bear. -/
import Derived.Test.YtlpamhffpgoebaaAx51
import Derived.Test.YtlpamhffpgoebaaPe
import Derived.Test.YtlpamhffpgoebaaPg
namespace Go.Proofs.Ytlpamhffpgoebaa.Pure
open Go.RowKit Go.Proofs.Ytlpamhffpgoebaa.All Go.Proofs.YtlpamhffpgoebaaW.PrintWords Go.Proofs.YtlpamhffpgoebaaW.PrintLast Go.Proofs.YtlpamhffpgoebaaW.PrintMore

/-- the first character from c on whose byte is b -/
def seekC (enc b : Int) : Nat → Int → Option Int
  | 0, _ => none
  | d + 1, c => if wr enc c = some b then some c else seekC enc b d (c + 1)
theorem seek1 : ∀ e : Fin 256, seekC 1 (e.val : Int) 256 0 = rdS 1 (e.val : Int) := by decide +kernel
theorem seek4 : ∀ e : Fin 256, seekC 4 (e.val : Int) 256 0 = rdS 4 (e.val : Int) := by decide +kernel
theorem seek5 : ∀ e : Fin 256, seekC 5 (e.val : Int) 256 0 = rdS 5 (e.val : Int) := by decide +kernel
theorem seek_is (enc b : Int) (he : enc = 1 ∨ enc = 4 ∨ enc = 5) (h0 : 0 ≤ b) (h1 : b ≤ 255) : seekC enc b 256 0 = rdS enc b := by
  have e : ((b.toNat : Nat) : Int) = b := by omega
  rcases he with h | h | h <;> subst h
  · have h := seek1 ⟨b.toNat, by omega⟩; simp only [e] at h; exact h
  · have h := seek4 ⟨b.toNat, by omega⟩; simp only [e] at h; exact h
  · have h := seek5 ⟨b.toNat, by omega⟩; simp only [e] at h; exact h
theorem char_l0 (enc b : Int) (he : enc = 1 ∨ enc = 4 ∨ enc = 5) : ∀ (d : Nat) (c : Int), 0 ≤ c → c + d = 256 →
    Ev (fun k => turnstileref1_Char.l0 k enc b c) (match seekC enc b d c with | some c => (c, true) | none => (0, false)) := by
  intro d
  induction d with
  | zero =>
    intro c h0 hc
    refine Ev.step (f := fun _ => some (0, false)) (fun k => ?_) (Ev.now _)
    simp only [turnstileref1_Char.l0]; rw [if_neg (by omega)]
  | succ d ih =>
    intro c h0 hc
    obtain ⟨u, hu⟩ := code_is enc c he h0 (by omega)
    have e : c % 256 = c := by omega
    refine Ev.step (f := fun k => (turnstileref1_Code.f k enc c).bind fun t => if t.2 = true then (if t.1 = b then some (c, true) else turnstileref1_Char.l0 k enc b (c + 1)) else turnstileref1_Char.l0 k enc b (c + 1)) (fun k => ?_) (evb hu ?_)
    · simp only [turnstileref1_Char.l0]; rw [if_pos (by omega), e, w64 (by omega)]
    · simp only [seekC]
      cases hw : wr enc c with
      | none =>
        rw [if_neg (by simp)]
        exact ih (c + 1) (by omega) (by omega)
      | some v =>
        by_cases hv : v = b
        · subst hv
          rw [if_pos rfl]
          exact ev_some fun k => by simp
        · rw [if_neg (by simpa using hv)]
          refine Ev.congr (fun k => ?_) (ih (c + 1) (by omega) (by omega))
          simp [hv]
theorem char_is (enc b : Int) (he : enc = 1 ∨ enc = 4 ∨ enc = 5) (h0 : 0 ≤ b) (h1 : b ≤ 255) : Ev (fun k => turnstileref1_Char.f k enc b) (match rdS enc b with | some c => (c, true) | none => (0, false)) := by
  have h := char_l0 enc b he 256 0 (by omega) (by omega)
  rw [seek_is enc b he h0 h1] at h
  exact h

theorem chS_pos {h c : Int} (h0 : 0 ≤ h) (hc : chS h = some c) : 48 ≤ c ∧ c ≤ 61 := by
  unfold chS at hc
  by_cases c1 : h = 13
  · rw [if_pos c1] at hc; injection hc; omega
  · rw [if_neg c1] at hc
    by_cases c2 : h ≤ 9
    · rw [if_pos c2] at hc; injection hc; omega
    · rw [if_neg c2] at hc; cases hc
theorem rchar_is (h : Int) (h0 : 0 ≤ h) (h1 : h < 16) : turnstileref1_char.f h = some (match chS h with | some c => c | none => 0) := by
  unfold turnstileref1_char.f chS
  by_cases c1 : h = 13
  · rw [if_pos c1, if_pos c1]
  · rw [if_neg c1, if_neg c1]
    by_cases c2 : h ≤ 9
    · rw [if_neg (by omega), if_pos c2, w64 (by omega)]; simp; omega
    · rw [if_pos (by omega), if_neg c2]

/-- the end of a byte's loop -/
def endB (a b f : Int) (cs : List Int) : ByteArray × Int := if f = 0 then (strOfNums cs, if a = 0 then 0 else 12) else if f = 1 then (strOfNums cs, if b = 15 then 0 else 12) else (strOfNums cs, 0)
theorem byte_end (a b f : Int) (cs : List Int) : Ev (fun k => turnstileref1_Byte.l0 k [a, b] f cs 2) (endB a b f cs) := by
  refine Ev.step (f := fun _ => some (endB a b f cs)) (fun k => ?_) (Ev.now _)
  simp only [turnstileref1_Byte.l0]
  have ra : rd [a, b] 0 = a := rfl
  have rb : rd [a, b] 1 = b := rfl
  rw [if_neg (by decide), ra, rb]
  unfold endB
  by_cases f0 : f = 0
  · rw [if_pos f0, if_pos f0, if_pos (by simp)]
    by_cases a0 : a = 0
    · rw [if_pos a0, if_pos a0, if_neg (by omega)]
    · rw [if_neg a0, if_neg a0]
  · rw [if_neg f0, if_neg f0]
    by_cases f1 : f = 1
    · rw [if_pos f1, if_pos f1, if_pos (by simp)]
      by_cases b0 : b = 15
      · rw [if_pos b0, if_pos b0]
      · rw [if_neg b0, if_neg b0]
    · rw [if_neg f1, if_neg f1]
theorem byte_step (a b f : Int) (i : Nat) (hi : i < 2) (cs : List Int) (hcs : cs.length < 140737488355328) (r : Int) (hr : rd [a, b] (i : Int) = r) (r0 : 0 ≤ r) (r1 : r < 16) (R : ByteArray × Int) (hf : ¬ (i : Int) = f)
    (h : ∀ c, chS r = some c → Ev (fun k => turnstileref1_Byte.l0 k [a, b] f (cs ++ [c]) ((i + 1 : Nat) : Int)) R) (hN : chS r = none → R = ((⟨#[]⟩ : ByteArray), 11)) :
    Ev (fun k => turnstileref1_Byte.l0 k [a, b] f cs (i : Int)) R := by
  have hc := rchar_is r r0 r1
  have q : (i : Int) < (([a, b] : List Int).length : Int) := by simp; omega
  cases hs : chS r with
  | none =>
    rw [hs] at hc
    rw [hN hs]
    refine Ev.step (f := fun _ => some ((⟨#[]⟩ : ByteArray), 11)) (fun k => ?_) (Ev.now _)
    simp only [turnstileref1_Byte.l0]; rw [if_pos (by omega), if_neg hf, if_pos (by omega), if_pos q, hr, hc]; rfl
  | some c =>
    rw [hs] at hc
    have hp := chS_pos r0 hs
    refine Ev.step (fun k => ?_) (h c hs)
    simp only [turnstileref1_Byte.l0]; rw [if_pos (by omega), if_neg hf, if_pos (by omega), if_pos q, hr, hc, w64 (by omega)]
    simp only [Option.bind_some]
    rw [if_neg (by omega), if_pos hcs]; rfl
theorem byte_skip (a b : Int) (i : Nat) (hi : i < 2) (cs : List Int) (R : ByteArray × Int) (h : Ev (fun k => turnstileref1_Byte.l0 k [a, b] (i : Int) cs ((i + 1 : Nat) : Int)) R) :
    Ev (fun k => turnstileref1_Byte.l0 k [a, b] (i : Int) cs (i : Int)) R := by
  refine Ev.step (fun k => ?_) h
  simp only [turnstileref1_Byte.l0]; rw [if_pos (by omega), if_pos trivial, w64 (by omega)]; rfl

theorem fillS_cases (enc i n : Int) : fillS enc i n = 0 ∨ fillS enc i n = 1 ∨ fillS enc i n = -1 := by
  unfold fillS
  split
  · exact .inl rfl
  · split
    · exact .inr (.inl rfl)
    · exact .inr (.inr rfl)
theorem byte_is (enc b i n : Int) (he : 1 ≤ enc ∧ enc ≤ 5) (h0 : 0 ≤ b) (h1 : b ≤ 255) (hn : 0 ≤ n) (hn2 : n ≤ 9223372036854775807) :
    Ev (fun k => turnstileref1_Byte.f k enc b i n) (strOfNums (byteS enc b i n).1, (byteS enc b i n).2) := by
  unfold turnstileref1_Byte.f turnstileref1_Packed.f
  by_cases h23 : enc = 2 ∨ enc = 3
  · -- to the loop, with what is filling
    have hl : Ev (fun k => turnstileref1_Byte.l0 k [b / 16, b % 16] (fillS enc i n) [] 0) (strOfNums (byteS enc b i n).1, (byteS enc b i n).2) := by
      have ha : 0 ≤ b / 16 ∧ b / 16 < 16 := by omega
      have hb : 0 ≤ b % 16 ∧ b % 16 < 16 := by omega
      unfold byteS
      rw [if_pos h23]
      by_cases f0 : fillS enc i n = 0
      · rw [if_pos f0, f0]
        refine byte_skip _ _ 0 (by omega) [] _ (byte_step _ _ _ 1 (by omega) [] (by decide) _ rfl hb.1 hb.2 _ (by decide) (fun c hc => ?_) (fun hc => ?_))
        · have hc' : chS (b % 16) = some c := hc
          rw [hc']
          have := byte_end (b / 16) (b % 16) 0 [c]
          unfold endB at this
          rw [if_pos rfl] at this
          exact this
        · have hc' : chS (b % 16) = none := hc
          rw [hc']; rfl
      · rw [if_neg f0]
        by_cases f1 : fillS enc i n = 1
        · rw [if_pos f1, f1]
          refine byte_step _ _ _ 0 (by omega) [] (by decide) _ rfl ha.1 ha.2 _ (by decide) (fun c hc => ?_) (fun hc => ?_)
          · have hc' : chS (b / 16) = some c := hc
            rw [hc']
            have := byte_end (b / 16) (b % 16) 1 [c]
            unfold endB at this
            rw [if_neg (by decide), if_pos rfl] at this
            exact byte_skip _ _ 1 (by omega) [c] _ this
          · have hc' : chS (b / 16) = none := hc
            rw [hc']; rfl
        · rw [if_neg f1]
          have fm : fillS enc i n = -1 := by have := fillS_cases enc i n; omega
          rw [fm]
          refine byte_step _ _ _ 0 (by omega) [] (by decide) _ rfl ha.1 ha.2 _ (by decide) (fun c hc => ?_) (fun hc => ?_)
          · have hc' : chS (b / 16) = some c := hc
            rw [hc']
            refine byte_step _ _ _ 1 (by omega) [c] (by simp) _ rfl hb.1 hb.2 _ (by decide) (fun d hd => ?_) (fun hd => ?_)
            · have hd' : chS (b % 16) = some d := hd
              rw [hd']
              have := byte_end (b / 16) (b % 16) (-1) [c, d]
              unfold endB at this
              rw [if_neg (by decide), if_neg (by decide)] at this
              exact this
            · have hd' : chS (b % 16) = none := hd
              rw [hd']; rfl
          · have hc' : chS (b / 16) = none := hc
            rw [hc']; rfl
    have e1 : wrap64 (Int.tdiv (wrap64 b) 16) = b / 16 := by rw [w64 (by omega : -9223372036854775808 ≤ b ∧ b ≤ 9223372036854775807), Int.tdiv_eq_ediv_of_nonneg h0, w64 (by omega)]
    have e2 : Int.tmod (wrap64 b) 16 = b % 16 := by rw [w64 (by omega : -9223372036854775808 ≤ b ∧ b ≤ 9223372036854775807), Int.tmod_eq_emod_of_nonneg h0]
    have e3 : wrap64 (Int.tdiv n 2) = Int.tdiv n 2 := by rw [Int.tdiv_eq_ediv_of_nonneg hn, w64 (by omega)]
    have hj3 : Ev (fun k => turnstileref1_Byte.j3 k [b / 16, b % 16] (fillS enc i n)) (strOfNums (byteS enc b i n).1, (byteS enc b i n).2) :=
      Ev.step (fun k => by simp only [turnstileref1_Byte.j3]) hl
    by_cases f0 : Int.tmod n 2 = 1 ∧ enc = 2 ∧ i = 0
    · obtain ⟨g1, g2, g3⟩ := f0
      have hf : fillS enc i n = 0 := by unfold fillS; rw [if_pos ⟨g1, g2, g3⟩]
      rw [hf] at hj3
      have hj1 : Ev (fun k => turnstileref1_Byte.j1 k enc i n [b / 16, b % 16] 0) (strOfNums (byteS enc b i n).1, (byteS enc b i n).2) := by
        refine Ev.step (f := fun k => turnstileref1_Byte.j2 k [b / 16, b % 16] 0 false) (fun k => ?_) (Ev.step (fun k => by simp only [turnstileref1_Byte.j2]; rfl) hj3)
        simp only [turnstileref1_Byte.j1]; rw [if_pos g1, if_neg (by omega)]
      refine Ev.congr (f := fun k => turnstileref1_Byte.j0 k enc i n [b / 16, b % 16] (-1) true) (fun k => ?_) (Ev.step (fun k => by simp only [turnstileref1_Byte.j0]; rfl) hj1)
      rw [e1, e2, g2]
      simp only [if_true, Option.bind_some]
      rw [if_pos g1, beq_iff_eq.mpr g3]
    · have hj1 : Ev (fun k => turnstileref1_Byte.j1 k enc i n [b / 16, b % 16] (-1)) (strOfNums (byteS enc b i n).1, (byteS enc b i n).2) := by
        by_cases f1 : Int.tmod n 2 = 1 ∧ enc = 3 ∧ i = Int.tdiv n 2
        · obtain ⟨g1, g2, g3⟩ := f1
          have hf : fillS enc i n = 1 := by unfold fillS; rw [if_neg f0, if_pos ⟨g1, g2, g3⟩]
          rw [hf] at hj3
          refine Ev.step (f := fun k => turnstileref1_Byte.j2 k [b / 16, b % 16] (-1) true) (fun k => ?_) (Ev.step (fun k => by simp only [turnstileref1_Byte.j2]; rfl) hj3)
          simp only [turnstileref1_Byte.j1]; rw [if_pos g1, if_pos g2, e3, beq_iff_eq.mpr g3]
        · have hf : fillS enc i n = -1 := by unfold fillS; rw [if_neg f0, if_neg f1]
          rw [hf] at hj3
          refine Ev.step (f := fun k => turnstileref1_Byte.j2 k [b / 16, b % 16] (-1) false) (fun k => ?_) (Ev.step (fun k => by simp only [turnstileref1_Byte.j2]; rfl) hj3)
          simp only [turnstileref1_Byte.j1]
          by_cases g1 : Int.tmod n 2 = 1
          · rw [if_pos g1]
            by_cases g2 : enc = 3
            · have e : (i == Int.tdiv n 2) = false := beq_eq_false_iff_ne.mpr fun h => f1 ⟨g1, g2, h⟩
              rw [if_pos g2, e3, e]
            · rw [if_neg g2]
          · rw [if_neg g1]
      refine Ev.congr (f := fun k => turnstileref1_Byte.j0 k enc i n [b / 16, b % 16] (-1) false) (fun k => ?_) (Ev.step (fun k => by simp only [turnstileref1_Byte.j0]; rfl) hj1)
      rw [e1, e2]
      have ep : (if enc = 2 then (some true) else (some (enc == 3))) = some true := by
        rcases h23 with h | h <;> subst h <;> rfl
      rw [ep]
      simp only [if_true, Option.bind_some]
      by_cases g1 : Int.tmod n 2 = 1
      · rw [if_pos g1]
        by_cases g2 : enc = 2
        · have e : (i == 0) = false := beq_eq_false_iff_ne.mpr fun h => f0 ⟨g1, g2, h⟩
          rw [if_pos g2, e]
        · rw [if_neg g2]
      · rw [if_neg g1]
  · have he' : enc = 1 ∨ enc = 4 ∨ enc = 5 := by omega
    rw [byteS_one _ _ _ _ h23]
    refine Ev.congr (f := fun k => (turnstileref1_Char.f k enc b).bind fun t => if t.2 = true then some (strOfNums (([t.1] : List Int)), 0) else some ((⟨#[]⟩ : ByteArray), 11)) (fun k => ?_) (evb (char_is enc b he' h0 h1) ?_)
    · rcases he' with h | h | h <;> subst h <;> rfl
    · cases rdS enc b with
      | none => exact ev_some fun k => rfl
      | some c => exact ev_some fun k => rfl

theorem bytesOf_strOfNums (l : List Int) (h : ∀ x ∈ l, 0 ≤ x ∧ x ≤ 255) : bytesOf (strOfNums l) = l := by
  unfold bytesOf
  rw [strOfNums_data, List.map_map]
  have : ∀ x ∈ l, ((fun b : UInt8 => (b.toNat : Int)) ∘ fun n : Int => UInt8.ofNat n.toNat) x = id x := by
    intro x hx
    have := h x hx
    simp
    omega
  rw [List.map_congr_left this, List.map_id]
theorem rdS_range {enc b c : Int} (h0 : 0 ≤ b) (h1 : b ≤ 255) (h : rdS enc b = some c) : 0 ≤ c ∧ c ≤ 255 := by
  unfold rdS at h
  by_cases c4 : enc = 4
  · rw [if_pos c4] at h
    cases hf : ebFind b with
    | none => rw [hf] at h; cases h
    | some i =>
      rw [hf] at h
      simp at h
      unfold ebFind at hf
      obtain ⟨hl, _⟩ := List.findIdx?_eq_some_iff_getElem.1 hf
      have : i < 95 := hl
      omega
  · rw [if_neg c4] at h
    split at h
    · injection h; omega
    · cases h
theorem byteS_range (enc b i n : Int) (h0 : 0 ≤ b) (h1 : b ≤ 255) : ∀ x ∈ (byteS enc b i n).1, 0 ≤ x ∧ x ≤ 255 := by
  intro x hx
  unfold byteS at hx
  split at hx
  · split at hx
    · cases hc : chS (b % 16) with
      | none => rw [hc] at hx; cases hx
      | some c => rw [hc] at hx; have := chS_pos (by omega) hc; simp at hx; omega
    · split at hx
      · cases hc : chS (b / 16) with
        | none => rw [hc] at hx; cases hx
        | some c => rw [hc] at hx; have := chS_pos (by omega) hc; simp at hx; omega
      · cases hc : chS (b / 16) with
        | none => rw [hc] at hx; cases hx
        | some c =>
          have p := chS_pos (by omega) hc
          rw [hc] at hx
          cases hd : chS (b % 16) with
          | none => rw [hd] at hx; cases hx
          | some d =>
            have q := chS_pos (by omega) hd
            rw [hd] at hx
            simp at hx
            omega
  · cases hc : rdS enc b with
    | none => rw [hc] at hx; cases hx
    | some c => rw [hc] at hx; have := rdS_range h0 h1 hc; simp at hx; omega

theorem runpack_l0 (enc n : Int) (he : 1 ≤ enc ∧ enc ≤ 5) (hn : 0 ≤ n) (hn2 : n ≤ 9223372036854775807) (s : ByteArray) (hs : s.size ≤ 281474976710656) (w : Nat) (hw : w ≤ s.size) (hw2 : w ≤ 70368744177600) : ∀ (d i : Nat) (xs : List Int), i + d = w → xs.length ≤ 2 * i →
    Ev (fun k => turnstileref1_Unpack.l0 k enc s n (w : Int) xs (i : Int)) (unpS enc n (((bytesOf s).take w).drop i) i xs) := by
  have hlen : ((bytesOf s).take w).length = w := by rw [List.length_take, bytesOf_length]; omega
  intro d
  induction d with
  | zero =>
    intro i xs hi hx
    rw [List.drop_eq_nil_iff.2 (by omega)]
    refine Ev.step (f := fun _ => some (unpS enc n [] i xs)) (fun k => ?_) (Ev.now _)
    simp only [turnstileref1_Unpack.l0]; rw [if_neg (by omega)]; rfl
  | succ d ih =>
    intro i xs hi hx
    have hc : ((bytesOf s).take w).drop i = bt s (i : Int) :: ((bytesOf s).take w).drop (i + 1) := by
      rw [List.drop_take, List.drop_take, dropBt s i (by omega), show w - i = (w - (i + 1)) + 1 by omega, List.take_succ_cons]
    rw [hc]
    simp only [unpS]
    have q1 : (i : Int) < (w : Int) := by omega
    have q2 : (0 : Int) ≤ (i : Int) := by omega
    have q3 : (i : Int) < (s.size : Int) := by omega
    have hb := byte_is enc (bt s i) i n he (bt_lo _ _) (bt_hi _ _) hn hn2
    have hl := byteS_len enc (bt s i) i n
    have hr := byteS_range enc (bt s i) i n (bt_lo _ _) (bt_hi _ _)
    refine Ev.step (f := fun k => (turnstileref1_Byte.f k enc (bt s i) i n).bind fun b => (if b.2 = 0 then (if xs.length + b.1.size < 140737488355328 then (turnstileref1_Unpack.l0 k enc s n w (xs ++ bytesOf b.1) ((i + 1 : Nat) : Int)) else (none)) else (some ((⟨#[]⟩ : ByteArray), b.2, (i : Int))))) (fun k => ?_) (evb hb ?_)
    · simp only [turnstileref1_Unpack.l0]; rw [if_pos q1, if_pos q2, if_pos q3, w64 (by omega)]; rfl
    · by_cases h : (byteS enc (bt s i) i n).2 = 0
      · rw [if_pos h]
        refine Ev.congr (fun k => (if_pos h).trans (if_pos (by rw [strOfNums_size]; omega))) ?_
        rw [bytesOf_strOfNums _ hr]
        exact ih (i + 1) (xs ++ (byteS enc (bt s i) i n).1) (by omega) (by simp; omega)
      · rw [if_neg h]
        exact ev_some fun k => if_neg h

theorem rknown_is (enc : Int) : turnstileref1_known.f enc = some (decide (1 ≤ enc ∧ enc ≤ 5)) := by
  unfold turnstileref1_known.f
  by_cases c1 : enc ≥ 1
  · rw [if_pos c1]; congr 1; simp; omega
  · rw [if_neg c1, decide_eq_false (by omega)]
theorem rwidth_is (enc n : Int) (hn : n ≤ 9223372036854775807) : Ev (fun k => turnstileref1_Width.f k enc n) (widthS enc n) := by
  unfold turnstileref1_Width.f
  rw [rknown_is]
  by_cases hk : 1 ≤ enc ∧ enc ≤ 5
  · rw [decide_eq_true hk]
    refine Ev.step (f := fun _ => some (widthS enc n)) (fun k => ?_) (Ev.now _)
    rw [Option.bind_some, if_pos rfl]
    simp only [turnstileref1_Width.j0]
    unfold widthS
    by_cases h0 : n < 0
    · rw [decide_eq_true h0, if_pos rfl, if_pos h0]
    · rw [decide_eq_false h0, if_neg (by decide), if_neg h0]
      have e : wrap64 ((wrap64 (Int.tdiv n 2)) + (Int.tmod n 2)) = n / 2 + n % 2 := by
        rw [Int.tdiv_eq_ediv_of_nonneg (by omega), Int.tmod_eq_emod_of_nonneg (by omega), w64 (by omega : -9223372036854775808 ≤ n / 2 ∧ n / 2 ≤ 9223372036854775807), w64 (by omega)]
      rw [e]
      unfold turnstileref1_Packed.f
      by_cases h23 : enc = 2 ∨ enc = 3
      · rw [if_pos h23]; rcases h23 with h | h <;> subst h <;> rfl
      · have h145 : enc = 1 ∨ enc = 4 ∨ enc = 5 := by omega
        rw [if_neg h23, if_pos h145]; rcases h145 with h | h | h <;> subst h <;> rfl
  · rw [decide_eq_false hk]
    refine Ev.step (f := fun _ => some (widthS enc n)) (fun k => ?_) (Ev.now _)
    rw [Option.bind_some, if_neg (by decide)]
    simp only [turnstileref1_Width.j0]
    unfold widthS
    rw [if_pos trivial]
    by_cases h0 : n < 0
    · rw [if_pos h0]
    · rw [if_neg h0, if_neg (show ¬ (enc = 2 ∨ enc = 3) by omega), if_neg (show ¬ (enc = 1 ∨ enc = 4 ∨ enc = 5) by omega)]
theorem runpack_is (enc : Int) (s : ByteArray) (n : Int) (hs : s.size ≤ 281474976710656) (hn : n ≤ 9223372036854775807) (hw : (s.size : Int) < widthS enc n ∨ widthS enc n ≤ 70368744177600) : Ev (fun k => turnstileref1_Unpack.f k enc s n) (unpackS enc s n) := by
  unfold unpackS turnstileref1_Unpack.f
  rw [rknown_is]
  by_cases ha : enc < 1 ∨ enc > 5 ∨ n < 0
  · rw [if_pos ha]
    refine Ev.step (f := fun _ => some ((⟨#[]⟩ : ByteArray), 1, 0)) (fun k => ?_) (Ev.now _)
    by_cases hk : 1 ≤ enc ∧ enc ≤ 5
    · rw [decide_eq_true hk, Option.bind_some, if_pos rfl, decide_eq_true (by omega)]; simp only [turnstileref1_Unpack.j0]; rfl
    · rw [decide_eq_false hk, Option.bind_some, if_neg (by decide)]; simp only [turnstileref1_Unpack.j0]; rfl
  · rw [if_neg ha]
    refine Ev.step (f := fun k => (turnstileref1_Width.f k enc n).bind fun t => (if (s.size : Int) < t then (some ((⟨#[]⟩ : ByteArray), 10, (s.size : Int))) else (turnstileref1_Unpack.l0 k enc s n t ([] : List Int) 0))) (fun k => ?_) (evb (rwidth_is enc n hn) ?_)
    · rw [decide_eq_true (by omega), Option.bind_some, if_pos rfl, decide_eq_false (by omega)]; simp only [turnstileref1_Unpack.j0]; rfl
    · by_cases hs2 : (s.size : Int) < widthS enc n
      · rw [if_pos hs2]; exact ev_some fun k => if_pos hs2
      · rw [if_neg hs2]
        refine Ev.congr (fun k => if_neg hs2) ?_
        have w0 : 0 ≤ widthS enc n := by unfold widthS; split; omega; split; omega; split <;> omega
        have h := runpack_l0 enc n (by omega) (by omega) hn s hs (widthS enc n).toNat (by omega) (by omega) (widthS enc n).toNat 0 [] (by omega) (by simp)
        rw [show (((widthS enc n).toNat : Nat) : Int) = widthS enc n by omega] at h
        exact h
end Go.Proofs.Ytlpamhffpgoebaa.Pure
