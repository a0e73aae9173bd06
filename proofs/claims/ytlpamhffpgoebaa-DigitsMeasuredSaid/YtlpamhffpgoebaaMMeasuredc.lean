/- DigitsMeasured of the package turnstilelaw1: of every three integers and every text: a number is written, and read, as what it is, in each length that has room for it; a length that was read is written so again. No condition. Texts of this claim laid together by merge.py: Pg, Pi, Pl, PureDigitsMeasured -/
import Derived.Test.YtlpamhffpgoebaaMMeasureda
import Derived.Test.YtlpamhffpgoebaaMMeasuredb
import Derived.Laws.BitsAllLaws
/- Unpack of digits, told with enough rounds as a plain function on lists of numbers. Condition: a text, and a number of characters, that an append in the model can bear. -/
namespace Go.Proofs.Ytlpamhffpgoebaa.Pure
open Go.RowKit Go.Proofs.Ytlpamhffpgoebaa.All Go.Proofs.YtlpamhffpgoebaaW.PrintWords Go.Proofs.YtlpamhffpgoebaaW.PrintLast Go.Proofs.YtlpamhffpgoebaaW.PrintMore

/-- the character of a half -/
def chS (h : Int) : Option Int := if h = 13 then some 61 else if h ≤ 9 then some (48 + h) else none
/-- the character of a byte, of ASCII, EBCDIC, BINARY -/
def rdS (enc b : Int) : Option Int := if enc = 4 then (ebFind b).map (fun i => 32 + (i : Int)) else if enc = 5 ∨ (32 ≤ b ∧ b ≤ 126) then some b else none
/-- which half of the i-th byte of n characters is filling: 0, 1; -1: none -/
def fillS (enc i n : Int) : Int := if Int.tmod n 2 = 1 ∧ enc = 2 ∧ i = 0 then 0 else if Int.tmod n 2 = 1 ∧ enc = 3 ∧ i = Int.tdiv n 2 then 1 else -1
/-- the characters of the i-th byte of n characters, and what is wrong with it -/
def byteS (enc b i n : Int) : List Int × Int :=
  if enc = 2 ∨ enc = 3 then
    (if fillS enc i n = 0 then (match chS (b % 16) with | none => ([], 11) | some c => ([c], if b / 16 = 0 then 0 else 12))
     else if fillS enc i n = 1 then (match chS (b / 16) with | none => ([], 11) | some c => ([c], if b % 16 = 15 then 0 else 12))
     else match chS (b / 16) with | none => ([], 11) | some c => match chS (b % 16) with | none => ([], 11) | some d => ([c, d], 0))
  else match rdS enc b with | none => ([], 11) | some c => ([c], 0)
/-- what Unpack tells of the bytes from place i on, behind what it has made -/
def unpS (enc n : Int) : List Int → Int → List Int → ByteArray × Int × Int
  | [], _, xs => (strOfNums xs, 0, 0)
  | b :: r, i, xs => if (byteS enc b i n).2 = 0 then unpS enc n r (i + 1) (xs ++ (byteS enc b i n).1) else ((⟨#[]⟩ : ByteArray), (byteS enc b i n).2, i)

theorem and15' (x : Int) (h0 : 0 ≤ x) (h1 : x ≤ 255) : Go.bits .and .u8 x 15 = x % 16 := by
  have : ∀ e : Fin 256, Go.bits .and .u8 (e.val : Int) 15 = (e.val : Int) % 16 := by decide +kernel
  have h := this ⟨x.toNat, by omega⟩
  simp only [show ((x.toNat : Nat) : Int) = x by omega] at h
  exact h
theorem character_is (h : Int) (h0 : 0 ≤ h) (h1 : h < 16) : ∃ u, digits_character.f h = some (match chS h with | some c => (c, true) | none => (u, false)) := by
  unfold digits_character.f chS
  by_cases c1 : h = 13
  · rw [if_pos c1, if_pos c1]; exact ⟨0, rfl⟩
  · rw [if_neg c1, if_neg c1]
    by_cases c2 : h ≤ 9
    · rw [if_pos c2, decide_eq_true c2]; exact ⟨0, by simp; omega⟩
    · rw [if_neg c2, decide_eq_false c2]; exact ⟨_, rfl⟩
theorem read_is (enc b : Int) : ∃ u, digits_read.f enc b = some (match rdS enc b with | some c => (c, true) | none => (u, false)) := by
  unfold digits_read.f rdS
  by_cases c4 : enc = 4
  · rw [if_pos c4, if_pos c4]
    refine ⟨0, ?_⟩
    cases ebFind b <;> rfl
  · rw [if_neg c4, if_neg c4]
    by_cases c5 : enc = 5
    · rw [if_pos c5, if_pos (.inl c5)]; exact ⟨0, rfl⟩
    · rw [if_neg c5]
      by_cases h : 32 ≤ b ∧ b ≤ 126
      · rw [if_pos (.inr h), decide_eq_true h.1, decide_eq_true h.2]; exact ⟨0, rfl⟩
      · rw [if_neg (by simp [c5]; omega)]
        refine ⟨b, ?_⟩
        by_cases h1 : 32 ≤ b
        · rw [decide_eq_false (show ¬ b ≤ 126 by omega)]; simp
        · rw [decide_eq_false h1]; simp

/-! ### two characters a byte -/
section
variable (enc n : Int) (s : ByteArray) (S i : Int)
/-- one half, the last of its byte -/
theorem inner_last (hs : List Int) (p : Nat) (hp : p + 1 = hs.length) (hp4 : p < 4) (xs : List Int) (hx : xs.length < 140737488355328) (filled : Bool) (h0 : 0 ≤ rd hs p) (h1 : rd hs p < 16)
    (hi : wrap64 (i + 1) = i + 1) (R : ByteArray × Int × Int) (hR : ∀ c, chS (rd hs p) = some c → filled = false → Ev (fun k => digits_unpackHalves.l0 k enc s n (xs ++ [c]) S (i + 1)) R)
    (hF : ∀ c, chS (rd hs p) = some c → filled = true → R = ((⟨#[]⟩ : ByteArray), 12, i)) (hN : chS (rd hs p) = none → R = ((⟨#[]⟩ : ByteArray), 11, i)) :
    Ev (fun k => digits_unpackHalves.l1 k enc s n xs i filled S i hs (hs.length : Int) (p : Int)) R := by
  obtain ⟨u, hu⟩ := character_is _ h0 h1
  have q1 : (p : Int) < (hs.length : Int) := by omega
  have q2 : (0 : Int) ≤ (p : Int) := by omega
  cases hc : chS (rd hs p) with
  | none =>
    rw [hc] at hu
    rw [hN hc]
    refine Ev.step (f := fun _ => some ((⟨#[]⟩ : ByteArray), 11, i)) (fun k => ?_) (Ev.now _)
    simp only [digits_unpackHalves.l1]; rw [if_pos q1, if_pos q2, if_pos q1, hu]; rfl
  | some c =>
    rw [hc] at hu
    refine Ev.step (f := fun k => digits_unpackHalves.l1 k enc s n (xs ++ [c]) i filled S i hs (hs.length : Int) ((p + 1 : Nat) : Int)) (fun k => ?_) ?_
    · simp only [digits_unpackHalves.l1]; rw [if_pos q1, if_pos q2, if_pos q1, hu, w64 (by omega)]
      simp only [Option.bind_some, if_true]
      rw [if_pos hx]; rfl
    · cases hf : filled with
      | true =>
        rw [hF c hc hf]
        refine Ev.step (f := fun _ => some ((⟨#[]⟩ : ByteArray), 12, i)) (fun k => ?_) (Ev.now _)
        simp only [digits_unpackHalves.l1]; rw [if_neg (by omega)]; rfl
      | false =>
        refine Ev.step (fun k => ?_) (hR c hc hf)
        simp only [digits_unpackHalves.l1]; rw [if_neg (by omega), hi]; rfl
theorem inner_two (a b : Int) (ha : 0 ≤ a ∧ a < 16) (hb : 0 ≤ b ∧ b < 16) (xs : List Int) (hx : xs.length + 1 < 140737488355328)
    (hi : wrap64 (i + 1) = i + 1) (R : ByteArray × Int × Int) (hR : ∀ c d, chS a = some c → chS b = some d → Ev (fun k => digits_unpackHalves.l0 k enc s n (xs ++ [c, d]) S (i + 1)) R)
    (hN1 : chS a = none → R = ((⟨#[]⟩ : ByteArray), 11, i)) (hN2 : chS b = none → R = ((⟨#[]⟩ : ByteArray), 11, i)) :
    Ev (fun k => digits_unpackHalves.l1 k enc s n xs i false S i [a, b] (([a, b] : List Int).length : Int) 0) R := by
  obtain ⟨u, hu⟩ := character_is a ha.1 ha.2
  have er : rd [a, b] 0 = a := rfl
  cases hc : chS a with
  | none =>
    rw [hc] at hu
    rw [hN1 hc]
    refine Ev.step (f := fun _ => some ((⟨#[]⟩ : ByteArray), 11, i)) (fun k => ?_) (Ev.now _)
    simp only [digits_unpackHalves.l1]; rw [er, hu]; rfl
  | some c =>
    rw [hc] at hu
    refine Ev.step (f := fun k => digits_unpackHalves.l1 k enc s n (xs ++ [c]) i false S i [a, b] (([a, b] : List Int).length : Int) ((1 : Nat) : Int)) (fun k => ?_) ?_
    · simp only [digits_unpackHalves.l1]; rw [er, hu]
      simp only [Option.bind_some, if_true]
      rw [if_pos (by simp), if_pos (by omega), if_pos (by simp), if_pos (by omega), w64 (by decide)]; rfl
    · refine inner_last enc n s S i [a, b] 1 rfl (by omega) (xs ++ [c]) (by simp; omega) false hb.1 hb.2 hi R (fun d hd _ => ?_) (fun _ _ h => by cases h) hN2
      have := hR c d hc hd
      simpa using this
end

theorem tmod01 (n : Int) (h : 0 ≤ n) : Int.tmod n 2 = n % 2 := Int.tmod_eq_emod_of_nonneg h

section
variable (enc n : Int) (s : ByteArray) (S i : Int) (xs : List Int) (R : ByteArray × Int × Int)
theorem j4_of (hs : List Int) (filled : Bool) (h : Ev (fun k => digits_unpackHalves.l1 k enc s n xs i filled S i hs (hs.length : Int) 0) R) : Ev (fun k => digits_unpackHalves.j4 k enc s n xs i hs filled S i) R :=
  Ev.step (fun k => by simp only [digits_unpackHalves.j4]) h
theorem j3_no (hs : List Int) (filled : Bool) (h : Ev (fun k => digits_unpackHalves.l1 k enc s n xs i filled S i hs (hs.length : Int) 0) R) : Ev (fun k => digits_unpackHalves.j3 k enc s n xs i hs filled S i false) R :=
  Ev.step (fun k => by simp only [digits_unpackHalves.j3]; rfl) (j4_of enc n s S i xs R hs filled h)
theorem j2_no (hs : List Int) (filled : Bool) (hc : ¬ (Int.tmod n 2 = 1 ∧ enc = 3 ∧ i = wrap64 ((s.size : Int) - 1))) (h : Ev (fun k => digits_unpackHalves.l1 k enc s n xs i filled S i hs (hs.length : Int) 0) R) : Ev (fun k => digits_unpackHalves.j2 k enc s n xs i hs filled S i) R := by
  refine Ev.step (f := fun k => digits_unpackHalves.j3 k enc s n xs i hs filled S i false) (fun k => ?_) (j3_no enc n s S i xs R hs filled h)
  simp only [digits_unpackHalves.j2]
  by_cases c1 : Int.tmod n 2 = 1
  · rw [if_pos c1]
    by_cases c3 : enc = 3
    · rw [if_pos c3]
      have e : (i == wrap64 ((s.size : Int) - 1)) = false := beq_eq_false_iff_ne.mpr fun h => hc ⟨c1, c3, h⟩
      rw [e]
    · rw [if_neg c3]
  · rw [if_neg c1]
theorem j1_no (hs : List Int) (filled : Bool) (hc : ¬ (Int.tmod n 2 = 1 ∧ enc = 3 ∧ i = wrap64 ((s.size : Int) - 1))) (h : Ev (fun k => digits_unpackHalves.l1 k enc s n xs i filled S i hs (hs.length : Int) 0) R) : Ev (fun k => digits_unpackHalves.j1 k enc s n xs i hs filled S i false) R :=
  Ev.step (fun k => by simp only [digits_unpackHalves.j1]; rfl) (j2_no enc n s S i xs R hs filled hc h)
end

/-- one byte: what it tells, and on -/
theorem halves_round (enc n : Int) (he : enc = 2 ∨ enc = 3) (s : ByteArray) (hs : s.size ≤ 281474976710656) (i : Nat) (hi : i < s.size) (hn : 0 ≤ n) (hn2 : (s.size : Int) = n / 2 + n % 2) (xs : List Int) (hx : xs.length + 1 < 140737488355328)
    (R : ByteArray × Int × Int) (hR : (byteS enc (bt s i) i n).2 = 0 → Ev (fun k => digits_unpackHalves.l0 k enc s n (xs ++ (byteS enc (bt s i) i n).1) (s.size : Int) ((i : Int) + 1)) R)
    (hN : (byteS enc (bt s i) i n).2 ≠ 0 → R = ((⟨#[]⟩ : ByteArray), (byteS enc (bt s i) i n).2, (i : Int))) :
    Ev (fun k => digits_unpackHalves.l0 k enc s n xs (s.size : Int) (i : Int)) R := by
  have b0 := bt_lo s i
  have b1 := bt_hi s i
  have q1 : (i : Int) < (s.size : Int) := by omega
  have q2 : (0 : Int) ≤ (i : Int) := by omega
  have e15 := and15' _ b0 b1
  have ha : 0 ≤ bt s (i : Int) / 16 ∧ bt s (i : Int) / 16 < 16 := by omega
  have hb : 0 ≤ bt s (i : Int) % 16 ∧ bt s (i : Int) % 16 < 16 := by omega
  have hw : wrap64 ((i : Int) + 1) = (i : Int) + 1 := w64 (by omega)
  have hw1 : wrap64 ((s.size : Int) - 1) = (s.size : Int) - 1 := w64 (by omega)
  have hen : (enc = 2 ∨ enc = 3) := he
  -- to the first meeting point
  have start : ∀ (g : Nat → Option (ByteArray × Int × Int)), (∀ k, (if (Int.tmod n 2) = 1 then (if enc = 2 then (digits_unpackHalves.j1 k enc s n xs i [bt s (i : Int) / 16, bt s (i : Int) % 16] false (s.size : Int) i ((i : Int) == 0)) else (digits_unpackHalves.j1 k enc s n xs i [bt s (i : Int) / 16, bt s (i : Int) % 16] false (s.size : Int) i false)) else (digits_unpackHalves.j1 k enc s n xs i [bt s (i : Int) / 16, bt s (i : Int) % 16] false (s.size : Int) i false)) = g k) → Ev g R → Ev (fun k => digits_unpackHalves.l0 k enc s n xs (s.size : Int) (i : Int)) R := by
    intro g hg h
    refine Ev.step (fun k => ?_) h
    simp only [digits_unpackHalves.l0]
    rw [if_pos q1, if_pos q2, if_pos q1, Option.bind_some, e15]
    exact hg k
  by_cases f0 : Int.tmod n 2 = 1 ∧ enc = 2 ∧ (i : Int) = 0
  · -- the first byte's high half is filling
    obtain ⟨f1, f2, f3⟩ := f0
    have hf : fillS enc i n = 0 := by unfold fillS; rw [if_pos ⟨f1, f2, f3⟩]
    have hby : byteS enc (bt s i) i n = (match chS (bt s i % 16) with | none => ([], 11) | some c => ([c], if bt s i / 16 = 0 then 0 else 12)) := by unfold byteS; rw [if_pos hen, if_pos hf]
    refine start (fun k => digits_unpackHalves.j1 k enc s n xs i [bt s (i : Int) / 16, bt s (i : Int) % 16] false (s.size : Int) i true) (fun k => by rw [if_pos f1, if_pos f2, beq_iff_eq.mpr f3]) ?_
    refine Ev.step (f := fun k => digits_unpackHalves.j2 k enc s n xs i [bt s (i : Int) % 16] ((bt s (i : Int) / 16) != 0) (s.size : Int) i) (fun k => ?_) ?_
    · simp only [digits_unpackHalves.j1]; rfl
    · refine j2_no enc n s _ i xs R _ _ (fun h => by omega) (inner_last enc n s _ i [bt s (i : Int) % 16] 0 rfl (by omega) xs (by omega) _ hb.1 hb.2 hw R (fun c hc hz => ?_) (fun c hc hz => ?_) (fun hc => ?_))
      · have hc' : chS (bt s (i : Int) % 16) = some c := hc
        have hz' : bt s (i : Int) / 16 = 0 := by simpa using hz
        rw [hby, hc'] at hR
        simp only [if_pos hz'] at hR
        exact hR trivial
      · have hc' : chS (bt s (i : Int) % 16) = some c := hc
        have hz' : ¬ bt s (i : Int) / 16 = 0 := by simpa using hz
        rw [hby, hc'] at hN
        simp only [if_neg hz'] at hN
        exact hN (by decide)
      · have hc' : chS (bt s (i : Int) % 16) = none := hc
        rw [hby, hc'] at hN
        exact hN (show ¬ ((11 : Int) = 0) by decide)
  · by_cases f1 : Int.tmod n 2 = 1 ∧ enc = 3 ∧ (i : Int) = Int.tdiv n 2
    · -- the last byte's low half is filling
      obtain ⟨f1, f2, f3⟩ := f1
      have f3' : (i : Int) = (s.size : Int) - 1 := by
        rw [Int.tdiv_eq_ediv_of_nonneg hn] at f3
        rw [tmod01 n hn] at f1
        omega
      have hf : fillS enc i n = 1 := by unfold fillS; rw [if_neg f0, if_pos ⟨f1, f2, f3⟩]
      have hby : byteS enc (bt s i) i n = (match chS (bt s i / 16) with | none => ([], 11) | some c => ([c], if bt s i % 16 = 15 then 0 else 12)) := by unfold byteS; rw [if_pos hen, if_neg (by omega), if_pos hf]
      refine start (fun k => digits_unpackHalves.j1 k enc s n xs i [bt s (i : Int) / 16, bt s (i : Int) % 16] false (s.size : Int) i false) (fun k => by rw [if_pos f1, if_neg (by omega)]) ?_
      refine Ev.step (f := fun k => digits_unpackHalves.j2 k enc s n xs i [bt s (i : Int) / 16, bt s (i : Int) % 16] false (s.size : Int) i) (fun k => by simp only [digits_unpackHalves.j1]; rfl) ?_
      refine Ev.step (f := fun k => digits_unpackHalves.j3 k enc s n xs i [bt s (i : Int) / 16, bt s (i : Int) % 16] false (s.size : Int) i true) (fun k => ?_) ?_
      · simp only [digits_unpackHalves.j2]; rw [if_pos f1, if_pos f2, hw1, beq_iff_eq.mpr f3']
      refine Ev.step (f := fun k => digits_unpackHalves.j4 k enc s n xs i [bt s (i : Int) / 16] ((bt s (i : Int) % 16) != 15) (s.size : Int) i) (fun k => ?_) ?_
      · simp only [digits_unpackHalves.j3]; rfl
      · refine j4_of enc n s _ i xs R _ _ (inner_last enc n s _ i [bt s (i : Int) / 16] 0 rfl (by omega) xs (by omega) _ ha.1 ha.2 hw R (fun c hc hz => ?_) (fun c hc hz => ?_) (fun hc => ?_))
        · have hc' : chS (bt s (i : Int) / 16) = some c := hc
          have hz' : bt s (i : Int) % 16 = 15 := by simpa using hz
          rw [hby, hc'] at hR
          simp only [if_pos hz'] at hR
          exact hR trivial
        · have hc' : chS (bt s (i : Int) / 16) = some c := hc
          have hz' : ¬ bt s (i : Int) % 16 = 15 := by simpa using hz
          rw [hby, hc'] at hN
          simp only [if_neg hz'] at hN
          exact hN (by decide)
        · have hc' : chS (bt s (i : Int) / 16) = none := hc
          rw [hby, hc'] at hN
          exact hN (show ¬ ((11 : Int) = 0) by decide)
    · -- both are characters
      have hf : fillS enc i n = -1 := by unfold fillS; rw [if_neg f0, if_neg f1]
      have hby : byteS enc (bt s i) i n = (match chS (bt s i / 16) with | none => ([], 11) | some c => match chS (bt s i % 16) with | none => ([], 11) | some d => ([c, d], 0)) := by
        unfold byteS; rw [if_pos hen, if_neg (by omega), if_neg (by omega)]
      have f1' : ¬ (Int.tmod n 2 = 1 ∧ enc = 3 ∧ (i : Int) = wrap64 ((s.size : Int) - 1)) := by
        rintro ⟨g1, g2, g3⟩
        refine f1 ⟨g1, g2, ?_⟩
        rw [hw1] at g3
        rw [Int.tdiv_eq_ediv_of_nonneg hn]
        rw [tmod01 n hn] at g1
        omega
      refine start (fun k => digits_unpackHalves.j1 k enc s n xs i [bt s (i : Int) / 16, bt s (i : Int) % 16] false (s.size : Int) i false) (fun k => ?_) ?_
      · by_cases g1 : Int.tmod n 2 = 1
        · rw [if_pos g1]
          by_cases g2 : enc = 2
          · have e : ((i : Int) == 0) = false := beq_eq_false_iff_ne.mpr fun h => f0 ⟨g1, g2, h⟩
            rw [if_pos g2, e]
          · rw [if_neg g2]
        · rw [if_neg g1]
      · refine j1_no enc n s _ i xs R _ _ f1' (inner_two enc n s _ i _ _ ha hb xs hx hw R (fun c d hc hd => ?_) (fun hc => ?_) (fun hd => ?_))
        · rw [hby, hc, hd] at hR
          exact hR rfl
        · rw [hby, hc] at hN
          exact hN (show ¬ ((11 : Int) = 0) by decide)
        · rw [hby, hd] at hN
          cases hc : chS (bt s (i : Int) / 16) <;> rw [hc] at hN <;> exact hN (show ¬ ((11 : Int) = 0) by decide)

theorem byteS_len (enc b i n : Int) : (byteS enc b i n).1.length ≤ 2 := by
  unfold byteS
  split
  · split
    · split <;> simp
    · split
      · split <;> simp
      · split
        · simp
        · split <;> simp
  · split <;> simp

theorem unpackHalves_l0 (enc n : Int) (he : enc = 2 ∨ enc = 3) (s : ByteArray) (hs : s.size ≤ 70368744177600) (hn : 0 ≤ n) (hn2 : (s.size : Int) = n / 2 + n % 2) : ∀ (d i : Nat) (xs : List Int), i + d = s.size → xs.length ≤ 2 * i →
    Ev (fun k => digits_unpackHalves.l0 k enc s n xs (s.size : Int) (i : Int)) (unpS enc n ((bytesOf s).drop i) i xs) := by
  intro d
  induction d with
  | zero =>
    intro i xs hi hx
    rw [dropAll s i (by omega)]
    refine Ev.step (f := fun _ => some (unpS enc n [] i xs)) (fun k => ?_) (Ev.now _)
    simp only [digits_unpackHalves.l0]; rw [if_neg (by omega)]; rfl
  | succ d ih =>
    intro i xs hi hx
    rw [dropBt s i (by omega)]
    have hl := byteS_len enc (bt s i) i n
    refine halves_round enc n he s (by omega) i (by omega) hn hn2 xs (by omega) _ (fun h => ?_) (fun h => ?_)
    · have := ih (i + 1) (xs ++ (byteS enc (bt s i) i n).1) (by omega) (by simp; omega)
      simp only [unpS]
      rw [if_pos h]
      exact this
    · simp only [unpS]
      rw [if_neg h]

/-! ### a character a byte -/
theorem byteS_one (enc b i n : Int) (he : ¬ (enc = 2 ∨ enc = 3)) : byteS enc b i n = match rdS enc b with | none => ([], 11) | some c => ([c], 0) := by
  unfold byteS; rw [if_neg he]
theorem unpack_l0 (enc n : Int) (he : ¬ (enc = 2 ∨ enc = 3)) (s : ByteArray) (hs : s.size ≤ 281474976710656) (w : Nat) (hw : w ≤ s.size) (hw2 : w ≤ 140737488355320) : ∀ (d i : Nat) (xs : List Int), i + d = w → xs.length = i →
    Ev (fun k => digits_Unpack.l0 k enc s xs (w : Int) (i : Int)) (unpS enc n (((bytesOf s).take w).drop i) i xs) := by
  have hlen : ((bytesOf s).take w).length = w := by rw [List.length_take, bytesOf_length]; omega
  intro d
  induction d with
  | zero =>
    intro i xs hi hx
    rw [List.drop_eq_nil_iff.2 (by omega)]
    refine Ev.step (f := fun _ => some (unpS enc n [] i xs)) (fun k => ?_) (Ev.now _)
    simp only [digits_Unpack.l0]; rw [if_neg (by omega)]; rfl
  | succ d ih =>
    intro i xs hi hx
    have hc : ((bytesOf s).take w).drop i = bt s (i : Int) :: ((bytesOf s).take w).drop (i + 1) := by
      rw [List.drop_take, List.drop_take, dropBt s i (by omega), show w - i = (w - (i + 1)) + 1 by omega, List.take_succ_cons]
    rw [hc]
    simp only [unpS]
    rw [byteS_one _ _ _ _ he]
    obtain ⟨u, hu⟩ := read_is enc (bt s i)
    have q1 : (i : Int) < (w : Int) := by omega
    have q2 : (0 : Int) ≤ (i : Int) := by omega
    have q3 : (i : Int) < (s.size : Int) := by omega
    cases hr : rdS enc (bt s i) with
    | none =>
      rw [hr] at hu
      refine Ev.step (f := fun _ => some ((⟨#[]⟩ : ByteArray), 11, (i : Int))) (fun k => ?_) (Ev.now _)
      simp only [digits_Unpack.l0]; rw [if_pos q1, if_pos q2, if_pos q3, hu]; rfl
    | some c =>
      rw [hr] at hu
      refine Ev.step (fun k => ?_) (ih (i + 1) (xs ++ [c]) (by omega) (by simp [hx]))
      simp only [digits_Unpack.l0]; rw [if_pos q1, if_pos q2, if_pos q3, hu, w64 (by omega)]
      simp only [Option.bind_some, if_true]
      rw [if_pos (by omega)]; rfl

/-! ### Unpack -/
/-- how many bytes n characters have -/
def widthS (enc n : Int) : Int := if n < 0 then 0 else if enc = 2 ∨ enc = 3 then n / 2 + n % 2 else if enc = 1 ∨ enc = 4 ∨ enc = 5 then n else 0
theorem width_is (enc n : Int) (hn : n ≤ 9223372036854775807) : digits_Width.f enc n = some (widthS enc n) := by
  unfold digits_Width.f widthS
  by_cases h0 : n < 0
  · rw [if_pos h0, if_pos h0]
  · rw [if_neg h0, if_neg h0]
    have e : wrap64 ((wrap64 (Int.tdiv n 2)) + (Int.tmod n 2)) = n / 2 + n % 2 := by
      rw [Int.tdiv_eq_ediv_of_nonneg (by omega), Int.tmod_eq_emod_of_nonneg (by omega), w64 (by omega : -9223372036854775808 ≤ n / 2 ∧ n / 2 ≤ 9223372036854775807), w64 (by omega)]
    rw [e]
    by_cases c2 : enc = 2
    · rw [if_pos c2, if_pos (.inl c2)]
    · rw [if_neg c2]
      by_cases c3 : enc = 3
      · rw [if_pos c3, if_pos (.inr c3)]
      · rw [if_neg c3, if_neg (show ¬ (enc = 2 ∨ enc = 3) by omega)]
        by_cases c1 : enc = 1
        · rw [if_pos c1, if_pos (.inl c1)]
        · rw [if_neg c1]
          by_cases c4 : enc = 4
          · rw [if_pos c4, if_pos (.inr (.inl c4))]
          · rw [if_neg c4]
            by_cases c5 : enc = 5
            · rw [if_pos c5, if_pos (.inr (.inr c5))]
            · rw [if_neg c5, if_neg (show ¬ (enc = 1 ∨ enc = 4 ∨ enc = 5) by omega)]
def unpackS (enc : Int) (s : ByteArray) (n : Int) : ByteArray × Int × Int :=
  if enc < 1 ∨ enc > 5 ∨ n < 0 then ((⟨#[]⟩ : ByteArray), 1, 0) else if (s.size : Int) < widthS enc n then ((⟨#[]⟩ : ByteArray), 10, (s.size : Int)) else unpS enc n ((bytesOf s).take (widthS enc n).toNat) 0 []
theorem bytesOf_extract (s : ByteArray) (w : Nat) : bytesOf (s.extract 0 w) = (bytesOf s).take w := by
  have h : (s.extract 0 w).data.toList = s.data.toList.take w := by rw [ByteArray.data_extract]; simp
  unfold bytesOf
  rw [h, List.map_take]
theorem unpack_is' (enc : Int) (s : ByteArray) (n : Int) (hs : s.size ≤ 281474976710656) (hn : n ≤ 9223372036854775807) (hw : (s.size : Int) < widthS enc n ∨ (widthS enc n ≤ 140737488355320 ∧ (enc = 2 ∨ enc = 3 → widthS enc n ≤ 70368744177600))) : Ev (fun k => digits_Unpack.f k enc s n) (unpackS enc s n) := by
  unfold unpackS
  by_cases ha : enc < 1 ∨ enc > 5 ∨ n < 0
  · rw [if_pos ha]
    refine Ev.step (f := fun _ => some ((⟨#[]⟩ : ByteArray), 1, 0)) (fun k => ?_) (Ev.now _)
    unfold digits_Unpack.f
    by_cases c1 : enc < 1
    · rw [if_pos c1]; simp only [digits_Unpack.j0]; rfl
    · rw [if_neg c1]
      by_cases c5 : enc > 5
      · rw [if_pos c5]; simp only [digits_Unpack.j0]; rfl
      · rw [if_neg c5, decide_eq_true (by omega)]; simp only [digits_Unpack.j0]; rfl
  · rw [if_neg ha]
    refine Ev.step (f := fun k => (if (s.size : Int) < widthS enc n then (some ((⟨#[]⟩ : ByteArray), 10, (s.size : Int))) else (if enc = 2 then (digits_Unpack.j1 k enc s n (widthS enc n) true) else (digits_Unpack.j1 k enc s n (widthS enc n) (enc == 3))))) (fun k => ?_) ?_
    · unfold digits_Unpack.f
      rw [if_neg (by omega), if_neg (by omega), decide_eq_false (by omega)]; simp only [digits_Unpack.j0]
      rw [if_neg (by decide), width_is enc n hn]; rfl
    · by_cases hs2 : (s.size : Int) < widthS enc n
      · rw [if_pos hs2]; exact ev_some fun k => if_pos hs2
      · rw [if_neg hs2]
        refine Ev.congr (fun k => if_neg hs2) ?_
        have hw' : widthS enc n ≤ 140737488355320 ∧ (enc = 2 ∨ enc = 3 → widthS enc n ≤ 70368744177600) := by rcases hw with h | h; exact absurd h hs2; exact h
        have w0 : 0 ≤ widthS enc n := by unfold widthS; split; omega; split; omega; split <;> omega
        by_cases h23 : enc = 2 ∨ enc = 3
        · have ew : widthS enc n = n / 2 + n % 2 := by unfold widthS; rw [if_neg (by omega), if_pos h23]
          have hw3 := hw'.2 h23
          refine Ev.congr (f := fun k => digits_Unpack.j1 k enc s n (widthS enc n) true) (fun k => ?_) ?_
          · rcases h23 with h | h
            · rw [if_pos h]
            · rw [if_neg (by omega), beq_iff_eq.mpr h]
          · have hsz : (s.extract 0 (widthS enc n).toNat).size = (widthS enc n).toNat := by rw [ByteArray.size_extract]; omega
            have h := unpackHalves_l0 enc n h23 (s.extract 0 (widthS enc n).toNat) (by omega) (by omega) (by omega) _ 0 [] (Nat.zero_add _) (by simp)
            rw [bytesOf_extract] at h
            refine Ev.step (f := fun k => (digits_unpackHalves.f k enc (s.extract 0 (widthS enc n).toNat) n).bind fun b => some (b.1, b.2.1, b.2.2)) (fun k => ?_) (evb (a := unpS enc n ((bytesOf s).take (widthS enc n).toNat) 0 []) h (Ev.now _))
            simp only [digits_Unpack.j1]; rw [if_pos trivial, if_pos w0, if_pos (by omega)]
        · refine Ev.congr (f := fun k => digits_Unpack.j1 k enc s n (widthS enc n) false) (fun k => ?_) ?_
          · have e3 : (enc == 3) = false := beq_eq_false_iff_ne.mpr fun h => h23 (.inr h)
            rw [if_neg (fun h => h23 (.inl h)), e3]
          · have hw3 := hw'.1
            have h := unpack_l0 enc n h23 s hs (widthS enc n).toNat (by omega) (by omega) (widthS enc n).toNat 0 [] (by omega) rfl
            refine Ev.step (fun k => ?_) h
            simp only [digits_Unpack.j1]; rw [if_neg (by decide), if_pos w0, if_pos (by omega)]
            congr 1
            omega
theorem unpack_is (enc : Int) (s : ByteArray) (n : Int) (hs : s.size ≤ 281474976710656) (hn : n ≤ 9223372036854775807) (hw : (s.size : Int) < widthS enc n ∨ widthS enc n ≤ 70368744177600) : Ev (fun k => digits_Unpack.f k enc s n) (unpackS enc s n) :=
  unpack_is' enc s n hs hn (by rcases hw with h | h; exact .inl h; exact .inr ⟨by omega, fun _ => h⟩)
end Go.Proofs.Ytlpamhffpgoebaa.Pure

/- Length of digits, told with enough rounds as a plain function on lists of numbers. Condition: a text whose places an int tells. -/
namespace Go.Proofs.Ytlpamhffpgoebaa.Pure
open Go.RowKit Go.Proofs.Ytlpamhffpgoebaa.All Go.Proofs.YtlpamhffpgoebaaW.PrintWords Go.Proofs.YtlpamhffpgoebaaW.PrintLast Go.Proofs.YtlpamhffpgoebaaW.PrintMore

/-! ### BINARY -/
theorem i64_or_nat (a b : Nat) (ha : a < 9223372036854775808) (hb : b < 9223372036854775808) : Go.bits .or .i64 (a : Int) (b : Int) = ((a ||| b : Nat) : Int) := by
  have hx : a ||| b < 2 ^ 63 := Nat.or_lt_two_pow (by omega) (by omega)
  show IntKind.i64.wrap ((BitVec.ofInt 64 (a : Int) ||| BitVec.ofInt 64 (b : Int)).toNat : Int) = _
  have e : ∀ x : Nat, x < 9223372036854775808 → (BitVec.ofInt 64 (x : Int)).toNat = x := by
    intro x hx
    rw [BitVec.ofInt_natCast, BitVec.toNat_ofNat]; exact Nat.mod_eq_of_lt (by omega)
  rw [BitVec.toNat_or, e a ha, e b hb, IntKind.wrap_i64]
  omega
theorem or256 (a b : Int) (ha : 0 ≤ a ∧ a < 65536) (hb : 0 ≤ b ∧ b < 256) : Go.bits .or .i64 (wrap64 (a * 256)) (wrap64 b) = 256 * a + b := by
  rw [w64 (by omega : -9223372036854775808 ≤ a * 256 ∧ a * 256 ≤ 9223372036854775807), w64 (by omega)]
  obtain ⟨m, rfl⟩ := Int.eq_ofNat_of_zero_le ha.1
  obtain ⟨n, rfl⟩ := Int.eq_ofNat_of_zero_le hb.1
  have h := i64_or_nat (m * 256) n (by omega) (by omega)
  have e : ((m * 256 : Nat) : Int) = (m : Int) * 256 := by omega
  rw [e] at h
  rw [h]
  have h3 : m * 256 ||| n = m * 256 + n := by
    have h2 := Nat.shiftLeft_add_eq_or_of_lt (i := 8) (b := n) (by omega) m
    rw [Nat.shiftLeft_eq] at h2
    exact h2.symm
  rw [h3, Int.natCast_add, Int.natCast_mul, Int.mul_comm]
  rfl
/-- the number that bytes say -/
def binS : List Int → Int → Int
  | [], n => n
  | b :: r, n => binS r (256 * n + b)
def binR (d : Int) (bs : List Int) : Int × Int × Int := if binS bs 0 ≥ 10 ^ d.toNat then (0, 13, 0) else (binS bs 0, 0, bs.length)
theorem len_bin (d : Nat) (hd : d ≤ 4) (s : ByteArray) (w : Nat) (hw : w ≤ s.size) (hw2 : w ≤ 2) : ∀ (m i : Nat) (n : Int), i + m = w → 0 ≤ n → n < 256 ^ i → ∀ (R : Int × Int × Int),
    (binS ((((bytesOf s).take w).drop i)) n ≥ 10 ^ d → R = (0, 13, 0)) → (¬ binS ((((bytesOf s).take w).drop i)) n ≥ 10 ^ d → R = (binS ((((bytesOf s).take w).drop i)) n, 0, (w : Int))) →
    Ev (fun k => digits_Length.l0 k (d : Int) s (w : Int) n (w : Int) (i : Int)) R := by
  have hlen : ((bytesOf s).take w).length = w := by rw [List.length_take, bytesOf_length]; omega
  intro m
  induction m with
  | zero =>
    intro i n hi h0 h1 R hb hg
    rw [List.drop_eq_nil_iff.2 (by omega)] at hb hg
    refine Ev.step (f := fun k => (digits_ten.f k (d : Int)).bind fun t => (if n ≥ t then (some (0, 13, 0)) else (some (n, 0, (w : Int))))) (fun k => ?_) (evb (ten_is d hd) ?_)
    · simp only [digits_Length.l0]; rw [if_neg (by omega)]
    · by_cases h : n ≥ 10 ^ d
      · rw [hb h]; exact ev_some fun k => if_pos h
      · rw [hg h]; exact ev_some fun k => if_neg h
  | succ m ih =>
    intro i n hi h0 h1 R hb hg
    have hc : ((bytesOf s).take w).drop i = bt s (i : Int) :: ((bytesOf s).take w).drop (i + 1) := by
      rw [List.drop_take, List.drop_take, dropBt s i (by omega), show w - i = (w - (i + 1)) + 1 by omega, List.take_succ_cons]
    rw [hc] at hb hg
    have b0 := bt_lo s i
    have b1 := bt_hi s i
    have n1 : n < 65536 := by
      have : i = 0 ∨ i = 1 := by omega
      rcases this with e | e <;> subst e <;> simp at h1 <;> omega
    have n2' : ∀ b : Int, b ≤ 255 → 256 * n + b < 256 ^ (i + 1) := by
      intro b hb
      have : i = 0 ∨ i = 1 := by omega
      rcases this with e | e <;> subst e <;> simp at h1 ⊢ <;> omega
    have n2 := n2' _ b1
    refine Ev.step (fun k => ?_) (ih (i + 1) (256 * n + bt s i) (by omega) (by omega) n2 R hb hg)
    simp only [digits_Length.l0]
    rw [if_pos (by omega), if_pos (by omega), if_pos (by omega), or256 n _ ⟨h0, n1⟩ ⟨b0, by omega⟩, w64 (by omega)]
    rfl

/-! ### the others -/
/-- the digits of the i-th byte of a length of d digits, and what is wrong with it -/
def ldF (p : List Int × Int) : List Int × Int := if p.2 = 11 then ([], 11) else if p.1.all (fun c => decide (48 ≤ c) && decide (c ≤ 57)) then (if p.2 = 0 then (p.1, 0) else ([], p.2)) else ([], 11)
def ldS (enc b i d : Int) : List Int × Int := ldF (byteS enc b i d)
theorem digitsOf2_odd : ∀ e : Fin 256, digits_digitsOf.f 3 2 (e.val : Int) true = some (strOfNums (ldS 2 (e.val : Int) 0 1).1, (ldS 2 (e.val : Int) 0 1).2) := by decide +kernel
theorem digitsOf2_even : ∀ e : Fin 256, digits_digitsOf.f 3 2 (e.val : Int) false = some (strOfNums (ldS 2 (e.val : Int) 0 2).1, (ldS 2 (e.val : Int) 0 2).2) := by decide +kernel
theorem digitsOf_is (enc b i d : Int) (he : enc = 1 ∨ enc = 2 ∨ enc = 4) (h0 : 0 ≤ b) (h1 : b ≤ 255) : Ev (fun k => digits_digitsOf.f k enc b (decide (i = 0 ∧ Int.tmod d 2 = 1))) (strOfNums (ldS enc b i d).1, (ldS enc b i d).2) := by
  by_cases h2 : enc = 2
  · subst h2
    have e : ((b.toNat : Nat) : Int) = b := by omega
    by_cases ho : i = 0 ∧ Int.tmod d 2 = 1
    · rw [decide_eq_true ho]
      have hf : ldS 2 b i d = ldS 2 b 0 1 := by
        have e1 : fillS 2 i d = 0 := by unfold fillS; rw [if_pos ⟨ho.2, rfl, ho.1⟩]
        have e2 : fillS 2 0 1 = 0 := by decide
        unfold ldS byteS
        rw [e1, e2]
      rw [hf]
      have h := digitsOf2_odd ⟨b.toNat, by omega⟩
      simp only [e] at h
      exact Ev.of (fun k => digits_digitsOf.mono _ _ _ k) h
    · rw [decide_eq_false ho]
      have hf : ldS 2 b i d = ldS 2 b 0 2 := by
        have e1 : fillS 2 i d = -1 := by unfold fillS; rw [if_neg (fun h => ho ⟨h.2.2, h.1⟩), if_neg (by omega)]
        have e2 : fillS 2 0 2 = -1 := by decide
        unfold ldS byteS
        rw [e1, e2]
      rw [hf]
      have h := digitsOf2_even ⟨b.toNat, by omega⟩
      simp only [e] at h
      exact Ev.of (fun k => digits_digitsOf.mono _ _ _ k) h
  · have h23 : ¬ (enc = 2 ∨ enc = 3) := by omega
    refine ev_some fun k => ?_
    unfold digits_digitsOf.f
    rw [if_neg h2]
    obtain ⟨u, hu⟩ := read_is enc b
    have hl : ldS enc b i d = ldF (match rdS enc b with | none => ([], 11) | some c => ([c], 0)) := by unfold ldS; rw [byteS_one _ _ _ _ h23]; try (cases rdS enc b <;> rfl)
    rw [hl, hu]
    cases rdS enc b with
    | none => rfl
    | some c =>
      simp only [Option.bind_some, if_true]
      by_cases c1 : c < 48
      · rw [if_pos c1]
        have : ldF ([c], 0) = ([], 11) := by unfold ldF; simp; omega
        rw [this]; rfl
      · rw [if_neg c1]
        by_cases c2 : c > 57
        · rw [if_pos c2]
          have : ldF ([c], 0) = ([], 11) := by unfold ldF; simp; omega
          rw [this]; rfl
        · rw [if_neg c2]
          have : ldF ([c], 0) = ([c], 0) := by unfold ldF; simp; omega
          rw [this]
theorem ldF_range (p : List Int × Int) : ∀ x ∈ (ldF p).1, 48 ≤ x ∧ x ≤ 57 := by
  intro x hx
  unfold ldF at hx
  split at hx
  · cases hx
  · split at hx
    · rename_i h
      split at hx
      · have := List.all_eq_true.1 h x hx
        simpa using this
      · cases hx
    · cases hx

/-- digits behind a number -/
def addD (n : Int) (l : List Int) : Int := l.foldl (fun n c => wrap64 ((wrap64 (10 * n)) + ((c - 48) % 256))) n
/-- what Length tells of the bytes from place i on -/
def lenR (enc d w : Int) : List Int → Int → Int → Int × Int × Int
  | [], _, n => (n, 0, w)
  | b :: r, i, n => if (ldS enc b i d).2 = 0 then lenR enc d w r (i + 1) (addD n (ldS enc b i d).1) else (0, (ldS enc b i d).2, i)

section
variable (enc d : Int) (s : ByteArray) (w S i : Int) (hi : wrap64 (i + 1) = i + 1) (R : Int × Int × Int)
theorem len_inner (hi : wrap64 (i + 1) = i + 1) (t : ByteArray) (ht : t.size ≤ 100) : ∀ (m j : Nat) (n : Int), j + m = t.size → Ev (fun k => digits_Length.l1 k enc d s w (addD n ((bytesOf t).drop j)) S (i + 1)) R →
    Ev (fun k => digits_Length.l2 k enc d s w n S i t (t.size : Int) (j : Int)) R := by
  intro m
  induction m with
  | zero =>
    intro j n hj h
    rw [dropAll t j (by omega)] at h
    refine Ev.step (fun k => ?_) h
    simp only [digits_Length.l2]; rw [if_neg (by omega), hi]; rfl
  | succ m ih =>
    intro j n hj h
    rw [dropBt t j (by omega)] at h
    refine Ev.step (fun k => ?_) (ih (j + 1) (wrap64 ((wrap64 (10 * n)) + (((bt t j) - 48) % 256))) (by omega) h)
    simp only [digits_Length.l2]; rw [if_pos (by omega), if_pos (by omega), if_pos (by omega), w64 (by omega : -9223372036854775808 ≤ (j : Int) + 1 ∧ (j : Int) + 1 ≤ 9223372036854775807)]; rfl
end

theorem bytesOf_nums (l : List Int) (h : ∀ x ∈ l, 0 ≤ x ∧ x ≤ 255) : bytesOf (strOfNums l) = l := by
  unfold bytesOf
  rw [strOfNums_data, List.map_map]
  have : ∀ x ∈ l, ((fun b : UInt8 => (b.toNat : Int)) ∘ fun n : Int => UInt8.ofNat n.toNat) x = id x := by
    intro x hx
    have := h x hx
    simp
    omega
  rw [List.map_congr_left this, List.map_id]
theorem ldF_len (p : List Int × Int) (h : p.1.length ≤ 2) : (ldF p).1.length ≤ 2 := by
  unfold ldF
  split
  · simp
  · split
    · split
      · exact h
      · simp
    · simp

theorem len_l1 (enc d : Int) (he : enc = 1 ∨ enc = 2 ∨ enc = 4) (s : ByteArray) (w : Nat) (hw : w ≤ s.size) (hw2 : w ≤ 4) : ∀ (m i : Nat) (n : Int), i + m = w →
    Ev (fun k => digits_Length.l1 k enc d s (w : Int) n (w : Int) (i : Int)) (lenR enc d w (((bytesOf s).take w).drop i) i n) := by
  have hlen : ((bytesOf s).take w).length = w := by rw [List.length_take, bytesOf_length]; omega
  intro m
  induction m with
  | zero =>
    intro i n hi
    rw [List.drop_eq_nil_iff.2 (by omega)]
    refine Ev.step (f := fun _ => some (n, 0, (w : Int))) (fun k => ?_) (Ev.now _)
    simp only [digits_Length.l1]; rw [if_neg (by omega)]
  | succ m ih =>
    intro i n hi
    have hc : ((bytesOf s).take w).drop i = bt s (i : Int) :: ((bytesOf s).take w).drop (i + 1) := by
      rw [List.drop_take, List.drop_take, dropBt s i (by omega), show w - i = (w - (i + 1)) + 1 by omega, List.take_succ_cons]
    rw [hc]
    simp only [lenR]
    have hd := digitsOf_is enc (bt s i) i d he (bt_lo _ _) (bt_hi _ _)
    have hr : ∀ x ∈ (ldS enc (bt s i) i d).1, 0 ≤ x ∧ x ≤ 255 := fun x hx => by have := ldF_range _ x hx; omega
    have hl : (ldS enc (bt s i) i d).1.length ≤ 2 := ldF_len _ (byteS_len _ _ _ _)
    refine Ev.step (f := fun k => (digits_digitsOf.f k enc (bt s i) (decide ((i : Int) = 0 ∧ Int.tmod d 2 = 1))).bind fun b => digits_Length.j2 k enc d s (w : Int) n (i : Int) b.1 b.2 (w : Int) (i : Int)) (fun k => ?_) (evb hd ?_)
    · simp only [digits_Length.l1]; rw [if_pos (by omega), if_pos (by omega), if_pos (by omega)]
      by_cases c0 : (i : Int) = 0
      · rw [if_pos c0]
        by_cases c1 : Int.tmod d 2 = 1
        · rw [beq_iff_eq.mpr c1, decide_eq_true ⟨c0, c1⟩]
        · rw [beq_eq_false_iff_ne.mpr c1, decide_eq_false (fun h => c1 h.2)]
      · rw [if_neg c0, decide_eq_false (fun h => c0 h.1)]
    · by_cases h : (ldS enc (bt s i) i d).2 = 0
      · rw [if_pos h]
        refine Ev.step (f := fun k => digits_Length.l2 k enc d s w n w i (strOfNums (ldS enc (bt s i) i d).1) ((strOfNums (ldS enc (bt s i) i d).1).size : Int) ((0 : Nat) : Int)) (fun k => ?_) ?_
        · simp only [digits_Length.j2]; rw [if_pos h]; rfl
        · refine len_inner enc d s w w i _ (w64 (by omega)) _ (by rw [strOfNums_size]; omega) _ 0 n (Nat.zero_add _) ?_
          rw [bytesOf_nums _ hr]
          exact ih (i + 1) (addD n (ldS enc (bt s i) i d).1) (by omega)
      · rw [if_neg h]
        refine Ev.step (f := fun _ => some (0, (ldS enc (bt s i) i d).2, (i : Int))) (fun k => ?_) (Ev.now _)
        simp only [digits_Length.j2]; rw [if_neg h]

/-- what Length tells -/
def lengthS (enc d : Int) (s : ByteArray) : Int × Int × Int :=
  if ¬ okLen enc d then (0, 1, 0) else if (s.size : Int) < wideS enc d then (0, 10, (s.size : Int))
  else if enc = 5 then binR d ((bytesOf s).take (wideS enc d).toNat) else lenR enc d (wideS enc d) ((bytesOf s).take (wideS enc d).toNat) 0 0
theorem wide_range (enc d : Int) (h : okLen enc d) : 1 ≤ wideS enc d ∧ wideS enc d ≤ 4 ∧ (enc = 5 → wideS enc d ≤ 2) := by
  have h1 := h.2.1
  have h4 := h.2.2
  unfold wideS
  rw [if_pos h]
  split <;> omega
theorem dlength_is (enc d : Int) (s : ByteArray) : Ev (fun k => digits_Length.f k enc d s) (lengthS enc d s) := by
  unfold digits_Length.f
  refine evb (wide_is enc d) ?_
  unfold lengthS
  by_cases ho : okLen enc d
  · have hw := wide_range enc d ho
    rw [if_neg (fun h => h ho)]
    refine Ev.congr (fun k => if_neg (show ¬ wideS enc d = 0 by omega)) ?_
    by_cases hs2 : (s.size : Int) < wideS enc d
    · rw [if_pos hs2]; exact ev_some fun k => if_pos hs2
    · rw [if_neg hs2]
      refine Ev.congr (fun k => if_neg hs2) ?_
      have ew : (((wideS enc d).toNat : Nat) : Int) = wideS enc d := by omega
      by_cases c5 : enc = 5
      · rw [if_pos c5]
        refine Ev.congr (fun k => if_pos c5) ?_
        have ed : ((d.toNat : Nat) : Int) = d := by have := ho.2.1; omega
        have h := len_bin d.toNat (by have := ho.2.2; omega) s (wideS enc d).toNat (by omega) (by have := hw.2.2 c5; omega) (wideS enc d).toNat 0 0 (by omega) (by omega) (by simp) (binR d ((bytesOf s).take (wideS enc d).toNat)) (fun h => by unfold binR; rw [if_pos (by simpa using h)]) (fun h => by
          unfold binR; rw [if_neg (by simpa using h)]
          simp only [List.drop_zero, List.length_take, bytesOf_length]
          congr 2
          omega)
        rw [ew, ed] at h
        exact h
      · rw [if_neg c5]
        refine Ev.congr (fun k => if_neg c5) ?_
        have he : enc = 1 ∨ enc = 2 ∨ enc = 4 := by have := ho.1; omega
        have h := len_l1 enc d he s (wideS enc d).toNat (by omega) (by omega) (wideS enc d).toNat 0 0 (by omega)
        rw [ew] at h
        exact h
  · rw [if_pos ho]
    exact ev_some fun k => if_pos (wide_none enc d ho)
end Go.Proofs.Ytlpamhffpgoebaa.Pure

/- Plain laws on lengths in front of what has them: Length of what Prefix made is the number; Prefix of what Length told is the bytes; Number of what Write made is the number. -/
namespace Go.Proofs.Ytlpamhffpgoebaa.Pure
open Go.RowKit Go.Proofs.Ytlpamhffpgoebaa.All Go.Proofs.YtlpamhffpgoebaaW.PrintWords Go.Proofs.YtlpamhffpgoebaaW.PrintLast Go.Proofs.YtlpamhffpgoebaaW.PrintMore
set_option linter.unusedVariables false
set_option linter.unusedSimpArgs false

/-! ### Number of Write -/
/-- the number that digits say, behind another -/
def numF (n : Int) (l : List Int) : Int := l.foldl (fun n c => 10 * n + (c - 48)) n
theorem numF_decL : ∀ (w : Nat) (m n0 : Int), 0 ≤ m → numF n0 (decL w m) = n0 * 10 ^ w + m % 10 ^ w
  | 0, m, n0, h => by simp [numF, decL, Int.emod_one]
  | w + 1, m, n0, h => by
    have ih := numF_decL w (m / 10) n0 (by omega)
    unfold numF at ih ⊢
    rw [decL, List.foldl_append, ih]
    simp only [List.foldl_cons, List.foldl_nil]
    have e1 : (10 : Int) ^ (w + 1) = 10 * 10 ^ w := by rw [Int.pow_succ, Int.mul_comm]
    have e2 : m % 10 ^ (w + 1) = 10 * (m / 10 % 10 ^ w) + m % 10 := by
      rw [e1]
      have hp := pow_pos10 w
      have h1 := Int.emod_add_mul_ediv m 10
      have h2 := Int.emod_add_mul_ediv (m / 10) (10 ^ w)
      have h3 := Int.emod_nonneg (m / 10) (show (10 : Int) ^ w ≠ 0 by omega)
      have h4 := Int.emod_lt_of_pos (m / 10) hp
      have key : m = (10 * (m / 10 % 10 ^ w) + m % 10) + (10 * 10 ^ w) * (m / 10 / 10 ^ w) := by
        have : (10 * 10 ^ w) * (m / 10 / 10 ^ w) = 10 * (10 ^ w * (m / 10 / 10 ^ w)) := by rw [Int.mul_assoc]
        rw [this]
        generalize 10 ^ w * (m / 10 / 10 ^ w) = X at h2 ⊢
        omega
      have hm : m % (10 * 10 ^ w) = (10 * (m / 10 % 10 ^ w) + m % 10) % (10 * 10 ^ w) := by
        conv => lhs; rw [key]
        rw [Int.add_mul_emod_self_left]
      rw [hm]
      exact Int.emod_eq_of_lt (by omega) (by omega)
    rw [e2, e1]
    have e3 : n0 * (10 * 10 ^ w) = 10 * (n0 * 10 ^ w) := by
      rw [← Int.mul_assoc, Int.mul_comm n0 10, Int.mul_assoc]
    rw [e3]
    omega
theorem decL_range : ∀ (w : Nat) (m : Int), ∀ x ∈ decL w m, 48 ≤ x ∧ x ≤ 57
  | 0, m, x, h => by cases h
  | w + 1, m, x, h => by
    rw [decL] at h
    rcases List.mem_append.1 h with e | e
    · exact decL_range w _ x e
    · simp at e; omega
theorem number_walk (s : ByteArray) (hs : s.size ≤ 18) (hd : ∀ j : Nat, j < s.size → 48 ≤ bt s j ∧ bt s j ≤ 57) : ∀ (d i : Nat) (n : Int), i + d = s.size → 0 ≤ n → n < 10 ^ i →
    Ev (fun k => digits_Number.l0 k s n (s.size : Int) (i : Int)) (numF n ((bytesOf s).drop i), 0) := by
  intro d
  induction d with
  | zero =>
    intro i n hi h0 h1
    rw [dropAll s i (by omega)]
    refine Ev.step (f := fun _ => some (n, 0)) (fun k => ?_) (Ev.now _)
    simp only [digits_Number.l0]; rw [if_neg (by omega)]
  | succ d ih =>
    intro i n hi h0 h1
    rw [dropBt s i (by omega)]
    have hb := hd i (by omega)
    have hp := pow_le18 (i + 1) (by omega)
    have e1 : (10 : Int) ^ (i + 1) = 10 * 10 ^ i := by rw [Int.pow_succ, Int.mul_comm]
    have h := ih (i + 1) (10 * n + (bt s i - 48)) (by omega) (by omega) (by omega)
    refine Ev.step (fun k => ?_) h
    simp only [digits_Number.l0]
    have e2 : wrap64 ((wrap64 (10 * n)) + (((bt s (i : Int)) - 48) % 256)) = 10 * n + (bt s i - 48) := by
      rw [w64 (by omega : -9223372036854775808 ≤ 10 * n ∧ 10 * n ≤ 9223372036854775807), w64 (by omega)]; omega
    rw [if_pos (by omega), if_pos (by omega), if_pos (by omega), if_neg (by omega), if_neg (by omega), e2, w64 (by omega)]
    rfl
theorem number_write (w : Nat) (hw0 : 1 ≤ w) (hw : w ≤ 18) (m : Int) (h0 : 0 ≤ m) (h1 : m < 10 ^ w) : Ev (fun k => digits_Number.f k (strOfNums (decL w m))) (m, 0) := by
  have hsz : (strOfNums (decL w m)).size = w := by rw [strOfNums_size, decL_length]
  have hby : bytesOf (strOfNums (decL w m)) = decL w m := bytesOf_nums _ (fun x hx => by have := decL_range w m x hx; omega)
  have h := number_walk (strOfNums (decL w m)) (by omega) (fun j hj => by
    have hl : j < (bytesOf (strOfNums (decL w m))).length := by rw [bytesOf_length]; exact hj
    have : bt (strOfNums (decL w m)) j = (bytesOf (strOfNums (decL w m)))[j] := by
      rw [← rd_bytesOf]; simp [rd, List.getD, List.getElem?_eq_getElem hl]
    rw [this]
    have hm := List.getElem_mem hl
    have hall : ∀ x ∈ bytesOf (strOfNums (decL w m)), 48 ≤ x ∧ x ≤ 57 := by rw [hby]; exact decL_range w m
    exact hall _ hm) w 0 0 (by omega) (by omega) (by omega)
  rw [List.drop_zero, hby, numF_decL w m 0 h0, Int.zero_mul, Int.zero_add, Int.emod_eq_of_lt h0 h1] at h
  refine Ev.step (fun k => ?_) h
  unfold digits_Number.f
  rw [if_neg (fun h => by have := (toList_nil _).1 h; omega), decide_eq_false (by omega)]
  simp only [digits_Number.j0]; rfl

/-! ### digits of a length, byte by byte -/
/-- the byte of a digit, of ASCII, EBCDIC -/
def dB (enc a : Int) : Int := if enc = 4 then 240 + a else 48 + a
def okD (a : Int) : Prop := 0 ≤ a ∧ a ≤ 9
theorem wr_digit (enc a : Int) (he : enc = 1 ∨ enc = 4) (ha : okD a) : wr enc (48 + a) = some (dB enc a) := by
  have : ∀ e : Fin 10, wr 1 (48 + (e.val : Int)) = some (dB 1 e.val) ∧ wr 4 (48 + (e.val : Int)) = some (dB 4 e.val) := by decide +kernel
  have h := this ⟨a.toNat, by have := ha.2; have := ha.1; omega⟩
  have e : ((a.toNat : Nat) : Int) = a := by have := ha.1; omega
  simp only [e] at h
  rcases he with g | g <;> subst g
  · exact h.1
  · exact h.2
theorem ldS_digit (enc a i d : Int) (he : enc = 1 ∨ enc = 4) (ha : okD a) : ldS enc (dB enc a) i d = ([48 + a], 0) := by
  have : ∀ e : Fin 10, ldS 1 (dB 1 e.val) 0 0 = ([48 + (e.val : Int)], 0) ∧ ldS 4 (dB 4 e.val) 0 0 = ([48 + (e.val : Int)], 0) := by decide +kernel
  have h := this ⟨a.toNat, by have := ha.2; have := ha.1; omega⟩
  have e : ((a.toNat : Nat) : Int) = a := by have := ha.1; omega
  simp only [e] at h
  have hi : ldS enc (dB enc a) i d = ldS enc (dB enc a) 0 0 := by
    unfold ldS; rw [byteS_one _ _ _ _ (by omega), byteS_one _ _ _ _ (by omega)]
  rw [hi]
  rcases he with g | g <;> subst g
  · exact h.1
  · exact h.2
def onB (enc b : Int) : Bool := if (ldS enc b 0 0).2 = 0 then (decide (0 ≤ b - dB enc 0) && (decide (b - dB enc 0 ≤ 9))) else true
theorem onB_all : ∀ e : Fin 256, onB 1 (e.val : Int) = true ∧ onB 4 (e.val : Int) = true := by decide +kernel
theorem ldS_only (enc b i d : Int) (he : enc = 1 ∨ enc = 4) (h0 : 0 ≤ b) (h1 : b ≤ 255) (h : (ldS enc b i d).2 = 0) : ∃ a, okD a ∧ b = dB enc a := by
  have hi : ldS enc b i d = ldS enc b 0 0 := by
    unfold ldS; rw [byteS_one _ _ _ _ (by omega), byteS_one _ _ _ _ (by omega)]
  rw [hi] at h
  have hall := onB_all ⟨b.toNat, by omega⟩
  have e : ((b.toNat : Nat) : Int) = b := by omega
  simp only [e] at hall
  refine ⟨b - dB enc 0, ?_, ?_⟩
  · rcases he with g | g <;> subst g
    · have := hall.1
      unfold onB at this
      rw [if_pos h] at this
      simpa [okD] using this
    · have := hall.2
      unfold onB at this
      rw [if_pos h] at this
      simpa [okD] using this
  · unfold dB; split <;> omega
/-! BCD -/
theorem ldS_two (a b i d : Int) (hf : ¬ (Int.tmod d 2 = 1 ∧ i = 0)) (ha : okD a) (hb : okD b) : ldS 2 (16 * a + b) i d = ([48 + a, 48 + b], 0) := by
  have : ∀ e f : Fin 10, ldS 2 (16 * (e.val : Int) + (f.val : Int)) 0 2 = ([48 + (e.val : Int), 48 + (f.val : Int)], 0) := by decide +kernel
  have h := this ⟨a.toNat, by have := ha.2; have := ha.1; omega⟩ ⟨b.toNat, by have := hb.2; have := hb.1; omega⟩
  have e : ((a.toNat : Nat) : Int) = a := by have := ha.1; omega
  have e' : ((b.toNat : Nat) : Int) = b := by have := hb.1; omega
  simp only [e, e'] at h
  have hi : ldS 2 (16 * a + b) i d = ldS 2 (16 * a + b) 0 2 := by
    have e1 : fillS 2 i d = -1 := by unfold fillS; rw [if_neg (fun q => hf ⟨q.1, q.2.2⟩), if_neg (by omega)]
    have e2 : fillS 2 0 2 = -1 := by decide
    unfold ldS byteS
    rw [e1, e2]
  rw [hi]
  exact h
theorem ldS_fst (b d : Int) (hf : Int.tmod d 2 = 1) (hb : okD b) : ldS 2 b 0 d = ([48 + b], 0) := by
  have : ∀ f : Fin 10, ldS 2 (f.val : Int) 0 1 = ([48 + (f.val : Int)], 0) := by decide +kernel
  have h := this ⟨b.toNat, by have := hb.2; have := hb.1; omega⟩
  have e' : ((b.toNat : Nat) : Int) = b := by have := hb.1; omega
  simp only [e'] at h
  have hi : ldS 2 b 0 d = ldS 2 b 0 1 := by
    have e1 : fillS 2 0 d = 0 := by unfold fillS; rw [if_pos ⟨hf, rfl, rfl⟩]
    have e2 : fillS 2 0 1 = 0 := by decide
    unfold ldS byteS
    rw [e1, e2]
  rw [hi]
  exact h
def onT (b : Int) : Bool := if (ldS 2 b 0 2).2 = 0 then (decide (b / 16 ≤ 9) && (decide (b % 16 ≤ 9))) else true
def onF (b : Int) : Bool := if (ldS 2 b 0 1).2 = 0 then decide (b ≤ 9) else true
theorem onTF_all : ∀ e : Fin 256, onT (e.val : Int) = true ∧ onF (e.val : Int) = true := by decide +kernel
theorem ldS_two_only (b i d : Int) (hf : ¬ (Int.tmod d 2 = 1 ∧ i = 0)) (h0 : 0 ≤ b) (h1 : b ≤ 255) (h : (ldS 2 b i d).2 = 0) : ∃ x y, okD x ∧ okD y ∧ b = 16 * x + y := by
  have hi : ldS 2 b i d = ldS 2 b 0 2 := by
    have e1 : fillS 2 i d = -1 := by unfold fillS; rw [if_neg (fun q => hf ⟨q.1, q.2.2⟩), if_neg (by omega)]
    have e2 : fillS 2 0 2 = -1 := by decide
    unfold ldS byteS
    rw [e1, e2]
  rw [hi] at h
  have hall := (onTF_all ⟨b.toNat, by omega⟩).1
  have e : ((b.toNat : Nat) : Int) = b := by omega
  simp only [e] at hall
  unfold onT at hall
  rw [if_pos h] at hall
  simp only [Bool.and_eq_true, decide_eq_true_eq] at hall
  exact ⟨b / 16, b % 16, ⟨by omega, hall.1⟩, ⟨by omega, hall.2⟩, by omega⟩
theorem ldS_fst_only (b d : Int) (hf : Int.tmod d 2 = 1) (h0 : 0 ≤ b) (h1 : b ≤ 255) (h : (ldS 2 b 0 d).2 = 0) : okD b := by
  have hi : ldS 2 b 0 d = ldS 2 b 0 1 := by
    have e1 : fillS 2 0 d = 0 := by unfold fillS; rw [if_pos ⟨hf, rfl, rfl⟩]
    have e2 : fillS 2 0 1 = 0 := by decide
    unfold ldS byteS
    rw [e1, e2]
  rw [hi] at h
  have hall := (onTF_all ⟨b.toNat, by omega⟩).2
  have e : ((b.toNat : Nat) : Int) = b := by omega
  simp only [e] at hall
  unfold onF at hall
  rw [if_pos h] at hall
  exact ⟨h0, by simpa using hall⟩
theorem half_digit (a : Int) (ha : okD a) : halfS (48 + a) = some a := by
  have h1 := ha.1
  have h2 := ha.2
  unfold halfS
  rw [if_neg (by omega), if_neg (by omega), if_neg (by omega)]
  congr 1; omega

/-! ### lists of digits -/
def chars (ds : List Int) : List Int := ds.map (48 + ·)
theorem chars_range {ds : List Int} (h : ∀ a ∈ ds, okD a) : ∀ c ∈ chars ds, 48 ≤ c ∧ c ≤ 57 := by
  intro c hc
  obtain ⟨a, ha, rfl⟩ := List.mem_map.1 hc
  have := h a ha
  exact ⟨by have := this.1; omega, by have := this.2; omega⟩
theorem chars_of {cs : List Int} (h : ∀ c ∈ cs, 48 ≤ c ∧ c ≤ 57) : ∃ ds : List Int, (∀ a ∈ ds, okD a) ∧ cs = chars ds ∧ ds.length = cs.length := by
  refine ⟨cs.map (· - 48), ?_, ?_, by simp⟩
  · intro a ha
    obtain ⟨c, hc, rfl⟩ := List.mem_map.1 ha
    have := h c hc
    exact ⟨by omega, by omega⟩
  · unfold chars
    rw [List.map_map]
    have : ∀ c ∈ cs, ((fun x : Int => 48 + x) ∘ fun x : Int => x - 48) c = id c := by intro c _; simp; omega
    rw [List.map_congr_left this, List.map_id]
theorem numF_range : ∀ (cs : List Int), (∀ c ∈ cs, 48 ≤ c ∧ c ≤ 57) → ∀ (n : Int) (i : Nat), 0 ≤ n → n < 10 ^ i → 0 ≤ numF n cs ∧ numF n cs < 10 ^ (i + cs.length)
  | [], _, n, i, h0, h1 => ⟨h0, h1⟩
  | c :: r, h, n, i, h0, h1 => by
    have hc := h c (by simp)
    have e1 : (10 : Int) ^ (i + 1) = 10 * 10 ^ i := by rw [Int.pow_succ, Int.mul_comm]
    have := numF_range r (fun x hx => h x (by simp [hx])) (10 * n + (c - 48)) (i + 1) (by omega) (by omega)
    rw [show i + 1 + r.length = i + (c :: r).length by simp; omega] at this
    exact this
theorem addD_numF : ∀ (cs : List Int), (∀ c ∈ cs, 48 ≤ c ∧ c ≤ 57) → ∀ (n : Int) (i : Nat), 0 ≤ n → n < 10 ^ i → i + cs.length ≤ 18 → addD n cs = numF n cs
  | [], _, n, i, h0, h1, hl => rfl
  | c :: r, h, n, i, h0, h1, hl => by
    have hc := h c (by simp)
    have e1 : (10 : Int) ^ (i + 1) = 10 * 10 ^ i := by rw [Int.pow_succ, Int.mul_comm]
    have hp := pow_le18 (i + 1) (by simp at hl; omega)
    have e2 : wrap64 ((wrap64 (10 * n)) + ((c - 48) % 256)) = 10 * n + (c - 48) := by
      rw [w64 (by omega : -9223372036854775808 ≤ 10 * n ∧ 10 * n ≤ 9223372036854775807), w64 (by omega)]; omega
    have := addD_numF r (fun x hx => h x (by simp [hx])) (10 * n + (c - 48)) (i + 1) (by omega) (by omega) (by simp at hl; omega)
    unfold addD at this ⊢
    unfold numF at this ⊢
    rw [List.foldl_cons, List.foldl_cons, e2]
    exact this
theorem addD_app (n : Int) (a b : List Int) : addD n (a ++ b) = addD (addD n a) b := by unfold addD; rw [List.foldl_append]
/-- the digits of what digits say -/
theorem decL_numF : ∀ (k : Nat) (cs : List Int), cs.length = k → (∀ c ∈ cs, 48 ≤ c ∧ c ≤ 57) → decL k (numF 0 cs) = cs
  | 0, cs, hl, h => by
    obtain rfl := List.eq_nil_of_length_eq_zero hl
    rfl
  | k + 1, cs, hl, h => by
    obtain ⟨r, c, rfl⟩ : ∃ r c, cs = r ++ [c] := ⟨cs.dropLast, cs.getLast (by intro e; rw [e] at hl; simp at hl), (List.dropLast_concat_getLast _).symm⟩
    have hc := h c (by simp)
    have hr := numF_range r (fun x hx => h x (by simp [hx])) 0 0 (by omega) (by simp)
    have e : numF 0 (r ++ [c]) = 10 * numF 0 r + (c - 48) := by unfold numF; rw [List.foldl_append]; rfl
    rw [e, decL]
    have e1 : (10 * numF 0 r + (c - 48)) / 10 = numF 0 r := by omega
    have e2 : 48 + (10 * numF 0 r + (c - 48)) % 10 = c := by omega
    rw [e1, e2, decL_numF k r (by simpa using hl) (fun x hx => h x (by simp [hx]))]

/-! ASCII, EBCDIC -/
theorem mapO_wr (enc : Int) (he : enc = 1 ∨ enc = 4) : ∀ ds : List Int, (∀ a ∈ ds, okD a) → mapO (wr enc) (chars ds) = some (ds.map (dB enc))
  | [], _ => rfl
  | a :: r, h => mapO_cons_mk' (wr_digit enc a he (h a (by simp))) (mapO_wr enc he r (fun x hx => h x (by simp [hx])))
where
  mapO_cons_mk' {f : Int → Option Int} {c v : Int} {r vs : List Int} (h : f c = some v) (hr : mapO f r = some vs) : mapO f (c :: r) = some (v :: vs) := by
    simp only [mapO, h, Option.bind_some, hr, Option.map_some]
theorem lenR_one (enc d w : Int) (he : enc = 1 ∨ enc = 4) : ∀ (ds : List Int), (∀ a ∈ ds, okD a) → ∀ (i n : Int), lenR enc d w (ds.map (dB enc)) i n = (addD n (chars ds), 0, w)
  | [], _, i, n => rfl
  | a :: r, h, i, n => by
    simp only [List.map_cons, lenR]
    rw [ldS_digit enc a i d he (h a (by simp)), if_pos rfl, lenR_one enc d w he r (fun x hx => h x (by simp [hx]))]
    rfl
theorem lenR_one_only (enc d w : Int) (he : enc = 1 ∨ enc = 4) : ∀ (bs : List Int), (∀ b ∈ bs, 0 ≤ b ∧ b ≤ 255) → ∀ (i n : Int), (lenR enc d w bs i n).2.1 = 0 → ∃ ds : List Int, (∀ a ∈ ds, okD a) ∧ bs = ds.map (dB enc)
  | [], _, i, n, _ => ⟨[], (fun a ha => by cases ha), rfl⟩
  | b :: r, hb, i, n, h => by
    simp only [lenR] at h
    by_cases h0 : (ldS enc b i d).2 = 0
    · rw [if_pos h0] at h
      have hbb := hb b (by simp)
      obtain ⟨a, ha, rfl⟩ := ldS_only enc b i d he hbb.1 hbb.2 h0
      obtain ⟨ds, hds, rfl⟩ := lenR_one_only enc d w he r (fun x hx => hb x (by simp [hx])) _ _ h
      refine ⟨a :: ds, fun x hx => ?_, rfl⟩
      rcases List.mem_cons.1 hx with e | e
      · subst e; exact ha
      · exact hds x e
    · rw [if_neg h0] at h; exact absurd h h0

/-! BCD -/
theorem mapO_half : ∀ ds : List Int, (∀ a ∈ ds, okD a) → mapO halfS (chars ds) = some ds
  | [], _ => rfl
  | a :: r, h => mapO_wr.mapO_cons_mk' (half_digit a (h a (by simp))) (mapO_half r (fun x hx => h x (by simp [hx])))
theorem lenR_two (d w : Int) : ∀ (m : Nat) (ds : List Int), ds.length = 2 * m → (∀ a ∈ ds, okD a) → ∀ (i n : Int), (∀ j : Nat, j < m → ¬ (Int.tmod d 2 = 1 ∧ i + j = 0)) → lenR 2 d w (pairs ds) i n = (addD n (chars ds), 0, w)
  | 0, ds, hl, h, i, n, hf => by
    obtain rfl := List.eq_nil_of_length_eq_zero hl
    rfl
  | m + 1, ds, hl, h, i, n, hf => by
    match ds, hl, h with
    | a :: b :: r, hl, h =>
      simp only [pairs, lenR]
      rw [ldS_two a b i d (by have := hf 0 (by omega); simpa using this) (h a (by simp)) (h b (by simp)), if_pos rfl,
        lenR_two d w m r (by simp at hl; omega) (fun x hx => h x (by simp [hx])) (i + 1) _ (fun j hj => by have := hf (j + 1) (by omega); rw [show i + 1 + (j : Int) = i + ((j + 1 : Nat) : Int) by omega]; exact this)]
      rfl
theorem lenR_two_only (d w : Int) : ∀ (bs : List Int), (∀ b ∈ bs, 0 ≤ b ∧ b ≤ 255) → ∀ (i n : Int), (∀ j : Nat, j < bs.length → ¬ (Int.tmod d 2 = 1 ∧ i + j = 0)) → (lenR 2 d w bs i n).2.1 = 0 → ∃ ds : List Int, (∀ a ∈ ds, okD a) ∧ bs = pairs ds ∧ ds.length = 2 * bs.length
  | [], _, i, n, _, _ => ⟨[], (fun a ha => by cases ha), rfl, rfl⟩
  | b :: r, hb, i, n, hf, h => by
    simp only [lenR] at h
    by_cases h0 : (ldS 2 b i d).2 = 0
    · rw [if_pos h0] at h
      have hbb := hb b (by simp)
      obtain ⟨x, y, hx, hy, rfl⟩ := ldS_two_only b i d (by have := hf 0 (by simp); simpa using this) hbb.1 hbb.2 h0
      obtain ⟨ds, hds, rfl, hl⟩ := lenR_two_only d w r (fun x hx => hb x (by simp [hx])) _ _ (fun j hj => by have := hf (j + 1) (by simp; omega); rw [show i + 1 + (j : Int) = i + ((j + 1 : Nat) : Int) by omega]; exact this) h
      refine ⟨x :: y :: ds, fun z hz => ?_, rfl, by simp [hl]; omega⟩
      simp only [List.mem_cons] at hz
      rcases hz with e | e | e
      · subst e; exact hx
      · subst e; exact hy
      · exact hds z e
    · rw [if_neg h0] at h; exact absurd h h0
theorem okD_range {ds : List Int} (h : ∀ a ∈ ds, okD a) : ∀ v ∈ ds, 0 ≤ v ∧ v < 16 := fun v hv => ⟨(h v hv).1, by have := (h v hv).2; omega⟩
theorem chars_length (ds : List Int) : (chars ds).length = ds.length := by simp [chars]

/-- the bytes of digits -/
def digB (enc : Int) (ds : List Int) : List Int := if enc = 2 then pairs (if ds.length % 2 = 1 then 0 :: ds else ds) else ds.map (dB enc)
theorem pack_digits (enc : Int) (he : enc = 1 ∨ enc = 2 ∨ enc = 4) (ds : List Int) (h : ∀ a ∈ ds, okD a) : packS enc (chars ds) = (strOfNums (digB enc ds), 0) := by
  unfold packS digB
  by_cases h2 : enc = 2
  · subst h2
    rw [if_pos (.inl rfl), if_pos rfl]
    unfold halfPackS
    rw [mapO_half ds h, chars_length]
    show (strOfNums (pairs (padL ((if (2 : Int) = 2 ∧ ds.length % 2 = 1 then [0] else []) ++ ds))), 0) = _
    by_cases ho : ds.length % 2 = 1
    · rw [if_pos ⟨rfl, ho⟩, if_pos ho]
      have : padL ([0] ++ ds) = 0 :: ds := by unfold padL; rw [if_neg (by simp; omega)]; rfl
      rw [this]
    · rw [if_neg (by omega), if_neg ho, List.nil_append]
      have : padL ds = ds := by unfold padL; rw [if_neg ho]
      rw [this]
  · rw [if_neg (by omega), if_pos (by omega), if_neg h2, mapO_wr enc (by omega) ds h]
    rfl
theorem len_digits (enc : Int) (he : enc = 1 ∨ enc = 2 ∨ enc = 4) (ds : List Int) (h : ∀ a ∈ ds, okD a) (k : Nat) (hk : ds.length = k) (w : Int) : lenR enc k w (digB enc ds) 0 0 = (addD 0 (chars ds), 0, w) := by
  unfold digB
  by_cases h2 : enc = 2
  · subst h2
    rw [if_pos rfl]
    by_cases ho : ds.length % 2 = 1
    · rw [if_pos ho]
      match ds, h, hk, ho with
      | a :: r, h, hk, ho =>
        have hodd : Int.tmod (k : Int) 2 = 1 := by rw [Int.tmod_eq_emod_of_nonneg (by omega)]; omega
        show lenR 2 k w (pairs (0 :: a :: r)) 0 0 = _
        simp only [pairs, lenR]
        have e0 : (16 * 0 + a : Int) = a := by omega
        rw [e0, ldS_fst a k hodd (h a (by simp)), if_pos rfl,
          lenR_two k w (r.length / 2) r (by simp at ho; omega) (fun x hx => h x (by simp [hx])) (0 + 1) _ (fun j hj q => by omega)]
        rfl
    · rw [if_neg ho]
      have hev : ¬ Int.tmod (k : Int) 2 = 1 := by rw [Int.tmod_eq_emod_of_nonneg (by omega)]; omega
      exact lenR_two k w (ds.length / 2) ds (by omega) h 0 0 (fun j hj q => hev q.1)
  · rw [if_neg h2]
    exact lenR_one enc k w (by omega) ds h 0 0
theorem pairs_len2 : ∀ (m : Nat) (ds : List Int), ds.length = 2 * m → (pairs ds).length = m
  | 0, ds, h => by
    obtain rfl := List.eq_nil_of_length_eq_zero h
    rfl
  | m + 1, ds, h => by
    match ds, h with
    | a :: b :: r, h =>
      simp only [pairs, List.length_cons]
      rw [pairs_len2 m r (by simp at h; omega)]
theorem digB_length (enc : Int) (he : enc = 1 ∨ enc = 2 ∨ enc = 4) (ds : List Int) (hk : 1 ≤ ds.length ∧ ds.length ≤ 4) : (((digB enc ds).length : Nat) : Int) = wideS enc (ds.length : Int) := by
  have ho : okLen enc (ds.length : Int) := ⟨by omega, by omega, by omega⟩
  unfold digB
  by_cases h2 : enc = 2
  · rw [if_pos h2, wide_half enc _ ho (.inr h2)]
    by_cases hod : ds.length % 2 = 1
    · rw [if_pos hod, pairs_len2 ((ds.length + 1) / 2) (0 :: ds) (by simp; omega)]; omega
    · rw [if_neg hod, pairs_len2 (ds.length / 2) ds (by omega)]; omega
  · rw [if_neg h2, wide_full enc _ ho (by omega), List.length_map]
theorem digB_range (enc : Int) (ds : List Int) (h : ∀ a ∈ ds, okD a) : ∀ b ∈ digB enc ds, 0 ≤ b ∧ b ≤ 255 := by
  have pr : ∀ (m : Nat) (l : List Int), l.length ≤ m → (∀ v ∈ l, okD v) → ∀ x ∈ pairs l, 0 ≤ x ∧ x ≤ 255 := by
    intro m
    induction m using Nat.strongRecOn with
    | _ m ih =>
    intro l hm hr x hx
    match l, hm, hr, hx with
    | [], _, _, hx => cases hx
    | [a], _, _, hx => cases hx
    | a :: b :: r, hm, hr, hx =>
      simp only [pairs] at hx
      have ha := hr a (by simp)
      have hb := hr b (by simp)
      rcases List.mem_cons.1 hx with e | e
      · have := ha.1; have := ha.2; have := hb.1; have := hb.2; omega
      · exact ih (m - 1) (by simp at hm; omega) r (by simp at hm; omega) (fun v hv => hr v (by simp [hv])) x e
  unfold digB
  split
  · split
    · refine pr _ _ (Nat.le_refl _) (fun v hv => ?_)
      rcases List.mem_cons.1 hv with e | e
      · subst e; exact ⟨by omega, by omega⟩
      · exact h v e
    · exact pr _ _ (Nat.le_refl _) h
  · intro b hb
    obtain ⟨a, ha, rfl⟩ := List.mem_map.1 hb
    have := h a ha
    have h1 := this.1
    have h2 := this.2
    unfold dB
    split <;> omega
/-- where bytes say a length, they are those of digits -/
theorem len_digits_only (enc : Int) (he : enc = 1 ∨ enc = 2 ∨ enc = 4) (k : Nat) (hk : 1 ≤ k ∧ k ≤ 4) (bs : List Int) (hb : ∀ b ∈ bs, 0 ≤ b ∧ b ≤ 255) (hl : ((bs.length : Nat) : Int) = wideS enc k) (w : Int) (h : (lenR enc k w bs 0 0).2.1 = 0) :
    ∃ ds : List Int, (∀ a ∈ ds, okD a) ∧ ds.length = k ∧ bs = digB enc ds := by
  have ho : okLen enc (k : Int) := ⟨by omega, by omega, by omega⟩
  by_cases h2 : enc = 2
  · subst h2
    rw [wide_half 2 _ ho (.inr rfl)] at hl
    by_cases hod : k % 2 = 1
    · have hodd : Int.tmod (k : Int) 2 = 1 := by rw [Int.tmod_eq_emod_of_nonneg (by omega)]; omega
      match bs, hb, hl, h with
      | [], hb, hl, h => simp at hl; omega
      | b :: r, hb, hl, h =>
        simp only [lenR] at h
        by_cases h0 : (ldS 2 b 0 k).2 = 0
        · rw [if_pos h0] at h
          have hbb := hb b (by simp)
          have hd := ldS_fst_only b k hodd hbb.1 hbb.2 h0
          obtain ⟨ds, hds, rfl, hdl⟩ := lenR_two_only k w r (fun x hx => hb x (by simp [hx])) (0 + 1) _ (fun j hj q => by omega) h
          refine ⟨b :: ds, fun x hx => ?_, by simp at hl ⊢; omega, ?_⟩
          · rcases List.mem_cons.1 hx with e | e
            · subst e; exact hd
            · exact hds x e
          · unfold digB
            rw [if_pos rfl, if_pos (by simp; omega)]
            simp only [pairs]
            congr 1
            omega
        · rw [if_neg h0] at h; exact absurd h h0
    · have hev : ¬ Int.tmod (k : Int) 2 = 1 := by rw [Int.tmod_eq_emod_of_nonneg (by omega)]; omega
      obtain ⟨ds, hds, rfl, hdl⟩ := lenR_two_only k w bs hb 0 0 (fun j hj q => hev q.1) h
      refine ⟨ds, hds, by omega, ?_⟩
      unfold digB
      rw [if_pos rfl, if_neg (by omega)]
  · rw [wide_full enc _ ho (by omega)] at hl
    obtain ⟨ds, hds, rfl⟩ := lenR_one_only enc k w (by omega) bs hb 0 0 h
    refine ⟨ds, hds, by simp at hl; omega, ?_⟩
    unfold digB
    rw [if_neg h2]
end Go.Proofs.Ytlpamhffpgoebaa.Pure

/- DigitsMeasured of the package turnstilelaw1: of every three integers and every text: a number is written, and read, as what it is, in each length that has room for it; a length that was read is written so again. No condition. -/
namespace Go.Proofs.Ytlpamhffpgoebaa.Pure
open Go.RowKit Go.Proofs.Ytlpamhffpgoebaa.All Go.Proofs.YtlpamhffpgoebaaW.PrintWords Go.Proofs.YtlpamhffpgoebaaW.PrintLast Go.Proofs.YtlpamhffpgoebaaW.PrintMore
set_option linter.unusedVariables false
set_option linter.unusedSimpArgs false

theorem pickN (c n : Int) (h : -9223372036854775808 ≤ c ∧ c ≤ 9223372036854775807) (hn : 1 ≤ n) : ∃ r, turnstilelaw1_pick.f c n = some r ∧ 0 ≤ r ∧ r < n := by
  unfold turnstilelaw1_pick.f
  by_cases hc : c < 0
  · rw [if_pos hc, if_neg (by omega), w64 (by omega : -9223372036854775808 ≤ c + 1 ∧ c + 1 ≤ 9223372036854775807), w64 (by omega)]
    refine ⟨_, rfl, ?_⟩
    rw [Int.tmod_eq_emod_of_nonneg (by omega)]
    exact ⟨Int.emod_nonneg _ (by omega), Int.emod_lt_of_pos _ (by omega)⟩
  · rw [if_neg hc, if_neg (by omega)]
    refine ⟨_, rfl, ?_⟩
    rw [Int.tmod_eq_emod_of_nonneg (by omega)]
    exact ⟨Int.emod_nonneg _ (by omega), Int.emod_lt_of_pos _ (by omega)⟩
theorem cat_bytes (a b : ByteArray) : bytesOf (a ++ b) = bytesOf a ++ bytesOf b := by
  have h : (a ++ b).data.toList = a.data.toList ++ b.data.toList := by simp
  unfold bytesOf; rw [h, List.map_append]
theorem numsBytes (s : ByteArray) : strOfNums (bytesOf s) = s := by
  apply ByteArray.ext
  apply Array.ext'
  rw [strOfNums_data]
  unfold bytesOf
  rw [List.map_map]
  have : ∀ x ∈ s.data.toList, ((fun n : Int => UInt8.ofNat n.toNat) ∘ fun b : UInt8 => (b.toNat : Int)) x = id x := by
    intro x _
    simp
  rw [List.map_congr_left this, List.map_id]

/-- the bytes of a length -/
theorem pref_is (enc : Int) (k : Nat) (ho : okLen enc k) (m : Int) (h0 : 0 ≤ m) (h1 : m < 10 ^ k) :
    ∃ bs, prefS enc k m = (strOfNums bs, 0) ∧ (∀ b ∈ bs, 0 ≤ b ∧ b ≤ 255) ∧ ((bs.length : Nat) : Int) = wideS enc k ∧
      (enc = 5 → binS bs 0 = m) ∧ (enc ≠ 5 → ∀ w, lenR enc k w bs 0 0 = (m, 0, w)) := by
  have hk := ho.2
  have hp := prefS_ok enc k m ho (by omega)
  rw [Int.toNat_natCast, if_neg (by omega)] at hp
  by_cases c5 : enc = 5
  · rw [if_pos c5] at hp
    by_cases h2 : (k : Int) ≤ 2
    · rw [if_pos h2] at hp
      have hm : m < 100 := by
        have : k = 1 ∨ k = 2 := by omega
        rcases this with e | e <;> subst e <;> omega
      refine ⟨_, hp, ?_, ?_, ?_, fun h => absurd c5 h⟩
      · intro b hb; simp at hb; omega
      · rw [wide_half enc _ ho (.inl c5)]; simp; omega
      · intro _; simp [binS]; omega
    · rw [if_neg h2] at hp
      have hm : m < 10000 := by
        have : k = 3 ∨ k = 4 := by omega
        rcases this with e | e <;> subst e <;> omega
      refine ⟨_, hp, ?_, ?_, ?_, fun h => absurd c5 h⟩
      · intro b hb; simp at hb; omega
      · rw [wide_half enc _ ho (.inl c5)]; simp; omega
      · intro _; simp [binS]; omega
  · rw [if_neg c5, bytesOf_nums _ (fun x hx => by have := decL_range k m x hx; omega)] at hp
    have he : enc = 1 ∨ enc = 2 ∨ enc = 4 := by have := ho.1; omega
    obtain ⟨ds, hds, hcs, hdl⟩ := chars_of (decL_range k m)
    rw [decL_length] at hdl
    rw [hcs, pack_digits enc he ds hds] at hp
    refine ⟨_, hp, digB_range enc ds hds, ?_, fun h => absurd h c5, fun _ w => ?_⟩
    · rw [digB_length enc he ds (by omega), hdl]
    · rw [len_digits enc he ds hds k hdl w, ← hcs, addD_numF _ (decL_range k m) 0 0 (by omega) (by simp) (by rw [decL_length]; omega), numF_decL k m 0 h0, Int.zero_mul, Int.zero_add, Int.emod_eq_of_lt h0 h1]
/-- THE ROUND: Length of what Prefix made is the number, and how many bytes it has -/
theorem measured_back (enc : Int) (k : Nat) (ho : okLen enc k) (m : Int) (h0 : 0 ≤ m) (h1 : m < 10 ^ k) (z : ByteArray) :
    (prefS enc k m).2 = 0 ∧ lengthS enc k ((prefS enc k m).1 ++ z) = (m, 0, ((prefS enc k m).1.size : Int)) := by
  obtain ⟨bs, hp, hb, hl, h5, hn5⟩ := pref_is enc k ho m h0 h1
  have hw := wide_range enc k ho
  rw [hp]
  refine ⟨rfl, ?_⟩
  unfold lengthS
  have hsz : (strOfNums bs ++ z).size = bs.length + z.size := by rw [ByteArray.size_append, strOfNums_size]
  have ht : (bytesOf (strOfNums bs ++ z)).take (wideS enc k).toNat = bs := by
    rw [cat_bytes, bytesOf_nums bs hb, show (wideS enc k).toNat = bs.length by omega]
    simp
  rw [if_neg (fun h => h ho), if_neg (by rw [hsz]; omega), ht, strOfNums_size]
  by_cases c5 : enc = 5
  · rw [if_pos c5]
    unfold binR
    rw [h5 c5, Int.toNat_natCast, if_neg (by omega)]
  · rw [if_neg c5, hn5 c5, hl]
/-- THE WAY BACK: Prefix of what Length told is the bytes that it read -/
theorem measured_forms (enc : Int) (k : Nat) (ho : okLen enc k) (z : ByteArray) (h : (lengthS enc k z).2.1 = 0) :
    0 ≤ (lengthS enc k z).1 ∧ (lengthS enc k z).1 < 10 ^ k ∧ (lengthS enc k z).2.2 = wideS enc k ∧ wideS enc k ≤ z.size ∧ prefS enc k (lengthS enc k z).1 = (z.extract 0 (wideS enc k).toNat, 0) := by
  have hk := ho.2
  have hw := wide_range enc k ho
  unfold lengthS at h ⊢
  rw [if_neg (fun h => h ho)] at h ⊢
  by_cases hs : (z.size : Int) < wideS enc k
  · rw [if_pos hs] at h; exact absurd h (show ¬ ((10 : Int) = 0) by decide)
  · rw [if_neg hs] at h ⊢
    have hex : strOfNums ((bytesOf z).take (wideS enc k).toNat) = z.extract 0 (wideS enc k).toNat := by rw [← bytesOf_extract, numsBytes]
    have hlen : ((bytesOf z).take (wideS enc k).toNat).length = (wideS enc k).toNat := by rw [List.length_take, bytesOf_length]; omega
    have hrg : ∀ b ∈ (bytesOf z).take (wideS enc k).toNat, 0 ≤ b ∧ b ≤ 255 := fun b hb => bytesRange z b (List.mem_of_mem_take hb)
    obtain ⟨bs, hbs⟩ : ∃ bs, bs = (bytesOf z).take (wideS enc k).toNat := ⟨_, rfl⟩
    rw [← hbs] at h hex hlen hrg ⊢
    by_cases c5 : enc = 5
    · rw [if_pos c5] at h ⊢
      unfold binR at h ⊢
      rw [Int.toNat_natCast] at h ⊢
      by_cases hov : binS bs 0 ≥ 10 ^ k
      · rw [if_pos hov] at h; exact absurd h (by decide)
      · rw [if_neg hov]
        have hwk := wide_half enc _ ho (.inl c5)
        have hp : ∀ n : Int, 0 ≤ n → n < 10 ^ k → prefS enc k n = if (k : Int) ≤ 2 then (strOfNums [n % 256], 0) else (strOfNums [(n / 256) % 256, n % 256], 0) := by
          intro n h0 h1
          have := prefS_ok enc k n ho (by omega)
          rw [Int.toNat_natCast, if_neg (by omega), if_pos c5] at this
          exact this
        by_cases h2 : (k : Int) ≤ 2
        · match bs, hlen, hrg, hov, hex with
          | [b], hlen, hrg, hov, hex =>
            have hb := hrg b (by simp)
            have e : binS [b] 0 = b := by simp [binS]
            rw [e] at hov ⊢
            refine ⟨hb.1, by show b < 10 ^ k; omega, by simp at hlen ⊢; omega, by omega, ?_⟩
            show prefS enc k b = _
            rw [hp b hb.1 (by omega), if_pos h2, ← hex, show b % 256 = b by omega]
          | [], hlen, hrg, hov, hex => simp at hlen; omega
          | _ :: _ :: _, hlen, hrg, hov, hex => simp at hlen; omega
        · match bs, hlen, hrg, hov, hex with
          | [b, c], hlen, hrg, hov, hex =>
            have hb := hrg b (by simp)
            have hc := hrg c (by simp)
            have e : binS [b, c] 0 = 256 * b + c := by simp [binS]
            rw [e] at hov ⊢
            refine ⟨by show 0 ≤ 256 * b + c; omega, by show 256 * b + c < 10 ^ k; omega, by simp at hlen ⊢; omega, by omega, ?_⟩
            show prefS enc k (256 * b + c) = _
            rw [hp _ (by omega) (by omega), if_neg h2, ← hex, show (256 * b + c) / 256 % 256 = b by omega, show (256 * b + c) % 256 = c by omega]
          | [], hlen, hrg, hov, hex => simp at hlen; omega
          | [_], hlen, hrg, hov, hex => simp at hlen; omega
          | _ :: _ :: _ :: _, hlen, hrg, hov, hex => simp at hlen; omega
    · rw [if_neg c5] at h ⊢
      have he : enc = 1 ∨ enc = 2 ∨ enc = 4 := by have := ho.1; omega
      obtain ⟨ds, hds, hdl, hdb⟩ := len_digits_only enc he k (by omega) bs hrg (by omega) _ h
      have hlr := len_digits enc he ds hds k hdl (wideS enc k)
      have hcr := chars_range hds
      have hcl : (chars ds).length = k := by rw [chars_length]; exact hdl
      rw [addD_numF _ hcr 0 0 (by omega) (by simp) (by omega)] at hlr
      rw [hdb, hlr]
      have hnr := numF_range _ hcr 0 0 (by omega) (by simp)
      rw [hcl, Nat.zero_add] at hnr
      refine ⟨hnr.1, hnr.2, rfl, by omega, ?_⟩
      have hp := prefS_ok enc k (numF 0 (chars ds)) ho (by omega)
      have hd := decL_numF k _ hcl hcr
      rw [Int.toNat_natCast, if_neg (by omega), if_neg c5, hd, bytesOf_nums _ (fun x hx => by have := hcr x hx; omega), pack_digits enc he ds hds, ← hdb, hex] at hp
      exact hp
theorem length_err (enc : Int) (k : Nat) (z : ByteArray) (h : (lengthS enc k z).2.1 ≠ 0) : (lengthS enc k z).1 = 0 := by
  have lr : ∀ (bs : List Int) (i n w : Int), (lenR enc k w bs i n).2.1 ≠ 0 → (lenR enc k w bs i n).1 = 0 := by
    intro bs
    induction bs with
    | nil => intro i n w h; exact absurd rfl h
    | cons b r ih =>
      intro i n w h
      simp only [lenR] at h ⊢
      by_cases h0 : (ldS enc b i k).2 = 0
      · rw [if_pos h0] at h ⊢; exact ih _ _ _ h
      · rw [if_neg h0]
  unfold lengthS at h ⊢
  split
  · rfl
  · rename_i h1
    rw [if_neg h1] at h
    split
    · rfl
    · rename_i h2
      rw [if_neg h2] at h
      split
      · rename_i h3
        rw [if_pos h3] at h
        unfold binR at h ⊢
        split
        · rfl
        · rename_i h4
          rw [if_neg h4] at h
          exact absurd rfl h
      · rename_i h3
        rw [if_neg h3] at h
        exact lr _ _ _ _ h

theorem measured_l0 (n : Int) (z : ByteArray) (enc : Int) (k : Nat) (hk : k ≤ 4) (R : Bool) (h : Ev (fun j => turnstilelaw1_DigitsMeasured.l0 j n z enc k (10 ^ k) k) R) : ∀ (d i : Nat), i + d = k →
    Ev (fun j => turnstilelaw1_DigitsMeasured.l0 j n z enc (k : Int) (10 ^ i) (i : Int)) R := by
  intro d
  induction d with
  | zero =>
    intro i hi
    obtain rfl : i = k := by omega
    exact h
  | succ d ih =>
    intro i hi
    have hp := pow_le18 (i + 1) (by omega)
    have hq := pow_pos10 (i + 1)
    refine Ev.step (fun j => ?_) (ih (i + 1) (by omega))
    simp only [turnstilelaw1_DigitsMeasured.l0]
    have e : (10 : Int) ^ i * 10 = 10 ^ (i + 1) := by rw [Int.pow_succ]
    rw [if_pos (by omega), e, w64 (by omega : -9223372036854775808 ≤ (10 : Int) ^ (i + 1) ∧ (10 : Int) ^ (i + 1) ≤ 9223372036854775807), w64 (by omega)]
    rfl

theorem DigitsMeasured : turnstilelaw1_DigitsMeasured.Pure := by
  intro raw many n z hr hm hn hz
  refine Ev.rounds (?_ : Ev (fun k => turnstilelaw1_DigitsMeasured.f k raw many n z) true)
  unfold turnstilelaw1_DigitsMeasured.f
  obtain ⟨p, hp, p0, p4⟩ := pickN raw 4 (wf64 hr) (by decide)
  obtain ⟨q, hq, q0, q4⟩ := pickN many 4 (wf64 hm) (by decide)
  simp only [Option.bind_some, hp, hq]
  refine Ev.congr (fun k => (if_pos p0).trans (if_pos (by simpa using p4))) ?_
  obtain ⟨enc, henc⟩ : ∃ e, e = rd ([1, 2, 4, 5] : List Int) p := ⟨_, rfl⟩
  rw [← henc]
  have he : enc = 1 ∨ enc = 2 ∨ enc = 4 ∨ enc = 5 := by
    have : p = 0 ∨ p = 1 ∨ p = 2 ∨ p = 3 := by omega
    rcases this with e | e | e | e <;> subst e <;> rw [henc] <;> decide
  obtain ⟨k, hk⟩ : ∃ k : Nat, (k : Int) = 1 + q := ⟨(1 + q).toNat, by omega⟩
  have ho : okLen enc k := ⟨he, by omega, by omega⟩
  have ek : wrap64 (1 + q) = (k : Int) := by rw [w64 (by omega)]; omega
  rw [ek]
  have hp10 := pow_le18 k (by omega)
  have hpos := pow_pos10 k
  have hp4 : (10 : Int) ^ k ≤ 10000 := by
    have : k = 1 ∨ k = 2 ∨ k = 3 ∨ k = 4 := by omega
    rcases this with e | e | e | e <;> subst e <;> decide
  obtain ⟨m, hmk, m0, m1⟩ := pickN n (10 ^ k) (wf64 hn) (by omega)
  obtain ⟨b1, b2⟩ := measured_back enc k ho m m0 m1 z
  have hps := prefix_is enc k m (by omega)
  have hpsz : (prefS enc k m).1.size ≤ 4 := by
    obtain ⟨bs, hpp, _, hl, _, _⟩ := pref_is enc k ho m m0 m1
    have := wide_range enc k ho
    rw [hpp]
    show (strOfNums bs).size ≤ 4
    rw [strOfNums_size]
    omega
  have hsum : (prefS enc k m).1.size + z.size ≤ 9223372036854775807 := by omega
  have hln := dlength_is enc k ((prefS enc k m).1 ++ z)
  rw [b2] at hln
  have hov := prefix_is enc k (10 ^ k + m) (by omega)
  have hove : prefS enc k (10 ^ k + m) = ((⟨#[]⟩ : ByteArray), 13) := by
    rw [prefS_ok enc k _ ho (by omega), Int.toNat_natCast, if_pos (by omega)]
  rw [hove] at hov
  refine measured_l0 n z enc k (by omega) true ?_ k 0 (by omega)
  refine Ev.step (f := fun j => (digits_Prefix.f j enc k m).bind fun a => (if a.1.size + z.size ≤ 9223372036854775807 then ((digits_Length.f j enc k (a.1 ++ z)).bind fun b => ((digits_Prefix.f j enc k (10 ^ k + m)).bind fun c => (if a.2 = 0 then (if b.2.1 = 0 then (if b.1 = m then (if b.2.2 = (a.1.size : Int) then (turnstilelaw1_DigitsMeasured.j1 j n z enc k (10 ^ k) m (c.2 != 13)) else (turnstilelaw1_DigitsMeasured.j1 j n z enc k (10 ^ k) m true)) else (turnstilelaw1_DigitsMeasured.j1 j n z enc k (10 ^ k) m true)) else (turnstilelaw1_DigitsMeasured.j1 j n z enc k (10 ^ k) m true)) else (turnstilelaw1_DigitsMeasured.j1 j n z enc k (10 ^ k) m true)))) else (none))) (fun j => ?_) ?_
  · simp only [turnstilelaw1_DigitsMeasured.l0]
    rw [if_neg (by omega), hmk, Option.bind_some, w64 (by omega : -9223372036854775808 ≤ (10 : Int) ^ k + m ∧ (10 : Int) ^ k + m ≤ 9223372036854775807)]
  refine evb hps (Ev.congr (fun j => if_pos hsum) (evb hln (evb hov ?_)))
  refine Ev.congr (f := fun j => turnstilelaw1_DigitsMeasured.j1 j n z enc k (10 ^ k) m false) (fun j => ?_) ?_
  · rw [if_pos b1]
    simp
  -- the number, written and read
  obtain ⟨r, hr14, r0, r1⟩ := pickN n 14 (wf64 hn) (by decide)
  obtain ⟨w, hw⟩ : ∃ w : Nat, (w : Int) = 5 + r := ⟨(5 + r).toNat, by omega⟩
  have ew : wrap64 ((wrap64 (1 + r)) + 4) = (w : Int) := by rw [w64 (by omega : -9223372036854775808 ≤ 1 + r ∧ 1 + r ≤ 9223372036854775807), w64 (by omega)]; omega
  have h5 : (10 : Int) ^ 5 ≤ 10 ^ w := by
    have := Nat.pow_le_pow_right (show 0 < 10 by decide) (show 5 ≤ w by omega)
    have e1 : ((10 ^ 5 : Nat) : Int) = (10 : Int) ^ 5 := by simp
    have e2 : ((10 ^ w : Nat) : Int) = (10 : Int) ^ w := by simp
    rw [← e1, ← e2]
    exact Int.ofNat_le.2 this
  have e100 : (10 : Int) ^ 5 = 100000 := by decide
  have hmw : m < 10 ^ w := by omega
  have hwr := write_is m w m0 (by omega) (by omega) (by omega)
  have hwe : writeR w m [] = (strOfNums (decL w m), 0) := by
    unfold writeR
    rw [Int.ediv_eq_zero_of_lt m0 hmw, if_neg (by decide), List.append_nil]
  rw [hwe] at hwr
  have hnw := number_write w (by omega) (by omega) m m0 hmw
  refine Ev.step (f := fun j => (digits_Write.f j m w).bind fun a => ((digits_Number.f j a.1).bind fun b => (if a.2 = 0 then (if b.2 = 0 then (turnstilelaw1_DigitsMeasured.j2 j z enc k (10 ^ k) (b.1 != m)) else (turnstilelaw1_DigitsMeasured.j2 j z enc k (10 ^ k) true)) else (turnstilelaw1_DigitsMeasured.j2 j z enc k (10 ^ k) true)))) (fun j => ?_) (evb hwr (evb hnw ?_))
  · simp only [turnstilelaw1_DigitsMeasured.j1]
    rw [if_neg (by decide), hr14, Option.bind_some, ew]
  refine Ev.congr (f := fun j => turnstilelaw1_DigitsMeasured.j2 j z enc k (10 ^ k) false) (fun j => by simp) ?_
  -- what was read is written so again
  refine Ev.step (f := fun j => (digits_Length.f j enc k z).bind fun a => (if a.2.1 = 0 then ((digits_Prefix.f j enc k a.1).bind fun b => (if a.1 ≥ 0 then (if a.1 < 10 ^ k then (if b.2 = 0 then (if a.2.2 = (b.1.size : Int) then (if a.2.2 ≤ (z.size : Int) then (if 0 ≤ a.2.2 then (some (b.1.toList == (z.extract 0 (a.2.2 : Int).toNat).toList)) else (none)) else (some false)) else (some false)) else (some false)) else (some false)) else (some false))) else (some (a.1 == 0)))) (fun j => ?_) (evb (dlength_is enc k z) ?_)
  · simp only [turnstilelaw1_DigitsMeasured.j2]
    rw [if_neg (by decide)]
  by_cases hl : (lengthS enc k z).2.1 = 0
  · refine Ev.congr (fun j => if_pos hl) ?_
    obtain ⟨f1, f2, f3, f4, f5⟩ := measured_forms enc k ho z hl
    refine evb (prefix_is enc k _ (by omega)) (ev_some fun j => ?_)
    have hwr2 := wide_range enc k ho
    rw [f5, f3]
    have hsz : (z.extract 0 (wideS enc k).toNat).size = (wideS enc k).toNat := by rw [ByteArray.size_extract]; omega
    rw [if_pos f1, if_pos f2, if_pos rfl, if_pos (by rw [hsz]; omega), if_pos f4, if_pos (by omega)]
    simp
  · refine ev_some fun j => (if_neg hl).trans ?_
    rw [length_err enc k z hl]
    rfl
end Go.Proofs.Ytlpamhffpgoebaa.Pure
