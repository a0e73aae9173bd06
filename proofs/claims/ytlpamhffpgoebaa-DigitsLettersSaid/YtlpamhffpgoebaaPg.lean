/- Unpack of digits, told with enough rounds as a plain function on lists of numbers. Condition: a text, and a number of characters, that an append in the model can bear. -/
import Derived.Test.YtlpamhffpgoebaaAx47
import Derived.Test.YtlpamhffpgoebaaPd
namespace Go.Proofs.Ytlpamhffpgoebaa.Pure
open Go.RowKit Go.Proofs.Ytlpamhffpgoebaa.All Go.Proofs.YtlpamhffpgoebaaW.PrintWords Go.Proofs.YtlpamhffpgoebaaW.PrintLast Go.Proofs.YtlpamhffpgoebaaW.PrintMore

/-- the character of a half -/
def chS (h : Int) : Option Int := if h = 13 then some 61 else if h ≤ 9 then some (48 + h) else none
/-- the character of a byte, of ASCII, EBCDIC, BINARY -/
def rdS (enc b : Int) : Option Int := if enc = 4 then (ebFind b).map (fun i => 32 + (i : Int)) else if enc = 5 ∨ (32 ≤ b ∧ b ≤ 126) then some b else none
/-- which half of the i-th byte of n characters is filling: 0, 1; -1: none -/
def fillS (enc i n : Int) : Int := if Int.tmod n 2 = 1 ∧ enc = 2 ∧ i = 0 then 0 else if Int.tmod n 2 = 1 ∧ enc = 3 ∧ i = Int.tdiv n 2 then 1 else -1
/-- the characters of the i-th byte of n characters, and what is wrong with it -/
def byteS (enc b i n : Int) : List Int × Int :=
  if enc = 2 ∨ enc = 3 then
    (if fillS enc i n = 0 then (match chS (b % 16) with | none => ([], 11) | some c => ([c], if b / 16 = 0 then 0 else 12))
     else if fillS enc i n = 1 then (match chS (b / 16) with | none => ([], 11) | some c => ([c], if b % 16 = 15 then 0 else 12))
     else match chS (b / 16) with | none => ([], 11) | some c => match chS (b % 16) with | none => ([], 11) | some d => ([c, d], 0))
  else match rdS enc b with | none => ([], 11) | some c => ([c], 0)
/-- what Unpack tells of the bytes from place i on, behind what it has made -/
def unpS (enc n : Int) : List Int → Int → List Int → ByteArray × Int × Int
  | [], _, xs => (strOfNums xs, 0, 0)
  | b :: r, i, xs => if (byteS enc b i n).2 = 0 then unpS enc n r (i + 1) (xs ++ (byteS enc b i n).1) else ((⟨#[]⟩ : ByteArray), (byteS enc b i n).2, i)

theorem and15' (x : Int) (h0 : 0 ≤ x) (h1 : x ≤ 255) : Go.bits .and .u8 x 15 = x % 16 := by
  have : ∀ e : Fin 256, Go.bits .and .u8 (e.val : Int) 15 = (e.val : Int) % 16 := by decide +kernel
  have h := this ⟨x.toNat, by omega⟩
  simp only [show ((x.toNat : Nat) : Int) = x by omega] at h
  exact h
theorem character_is (h : Int) (h0 : 0 ≤ h) (h1 : h < 16) : ∃ u, digits_character.f h = some (match chS h with | some c => (c, true) | none => (u, false)) := by
  unfold digits_character.f chS
  by_cases c1 : h = 13
  · rw [if_pos c1, if_pos c1]; exact ⟨0, rfl⟩
  · rw [if_neg c1, if_neg c1]
    by_cases c2 : h ≤ 9
    · rw [if_pos c2, decide_eq_true c2]; exact ⟨0, by simp; omega⟩
    · rw [if_neg c2, decide_eq_false c2]; exact ⟨_, rfl⟩
theorem read_is (enc b : Int) : ∃ u, digits_read.f enc b = some (match rdS enc b with | some c => (c, true) | none => (u, false)) := by
  unfold digits_read.f rdS
  by_cases c4 : enc = 4
  · rw [if_pos c4, if_pos c4]
    refine ⟨0, ?_⟩
    cases ebFind b <;> rfl
  · rw [if_neg c4, if_neg c4]
    by_cases c5 : enc = 5
    · rw [if_pos c5, if_pos (.inl c5)]; exact ⟨0, rfl⟩
    · rw [if_neg c5]
      by_cases h : 32 ≤ b ∧ b ≤ 126
      · rw [if_pos (.inr h), decide_eq_true h.1, decide_eq_true h.2]; exact ⟨0, rfl⟩
      · rw [if_neg (by simp [c5]; omega)]
        refine ⟨b, ?_⟩
        by_cases h1 : 32 ≤ b
        · rw [decide_eq_false (show ¬ b ≤ 126 by omega)]; simp
        · rw [decide_eq_false h1]; simp

/-! ### two characters a byte -/
section
variable (enc n : Int) (s : ByteArray) (S i : Int)
/-- one half, the last of its byte -/
theorem inner_last (hs : List Int) (p : Nat) (hp : p + 1 = hs.length) (hp4 : p < 4) (xs : List Int) (hx : xs.length < 140737488355328) (filled : Bool) (h0 : 0 ≤ rd hs p) (h1 : rd hs p < 16)
    (hi : wrap64 (i + 1) = i + 1) (R : ByteArray × Int × Int) (hR : ∀ c, chS (rd hs p) = some c → filled = false → Ev (fun k => digits_unpackHalves.l0 k enc s n (xs ++ [c]) S (i + 1)) R)
    (hF : ∀ c, chS (rd hs p) = some c → filled = true → R = ((⟨#[]⟩ : ByteArray), 12, i)) (hN : chS (rd hs p) = none → R = ((⟨#[]⟩ : ByteArray), 11, i)) :
    Ev (fun k => digits_unpackHalves.l1 k enc s n xs i filled S i hs (hs.length : Int) (p : Int)) R := by
  obtain ⟨u, hu⟩ := character_is _ h0 h1
  have q1 : (p : Int) < (hs.length : Int) := by omega
  have q2 : (0 : Int) ≤ (p : Int) := by omega
  cases hc : chS (rd hs p) with
  | none =>
    rw [hc] at hu
    rw [hN hc]
    refine Ev.step (f := fun _ => some ((⟨#[]⟩ : ByteArray), 11, i)) (fun k => ?_) (Ev.now _)
    simp only [digits_unpackHalves.l1]; rw [if_pos q1, if_pos q2, if_pos q1, hu]; rfl
  | some c =>
    rw [hc] at hu
    refine Ev.step (f := fun k => digits_unpackHalves.l1 k enc s n (xs ++ [c]) i filled S i hs (hs.length : Int) ((p + 1 : Nat) : Int)) (fun k => ?_) ?_
    · simp only [digits_unpackHalves.l1]; rw [if_pos q1, if_pos q2, if_pos q1, hu, w64 (by omega)]
      simp only [Option.bind_some, if_true]
      rw [if_pos hx]; rfl
    · cases hf : filled with
      | true =>
        rw [hF c hc hf]
        refine Ev.step (f := fun _ => some ((⟨#[]⟩ : ByteArray), 12, i)) (fun k => ?_) (Ev.now _)
        simp only [digits_unpackHalves.l1]; rw [if_neg (by omega)]; rfl
      | false =>
        refine Ev.step (fun k => ?_) (hR c hc hf)
        simp only [digits_unpackHalves.l1]; rw [if_neg (by omega), hi]; rfl
theorem inner_two (a b : Int) (ha : 0 ≤ a ∧ a < 16) (hb : 0 ≤ b ∧ b < 16) (xs : List Int) (hx : xs.length + 1 < 140737488355328)
    (hi : wrap64 (i + 1) = i + 1) (R : ByteArray × Int × Int) (hR : ∀ c d, chS a = some c → chS b = some d → Ev (fun k => digits_unpackHalves.l0 k enc s n (xs ++ [c, d]) S (i + 1)) R)
    (hN1 : chS a = none → R = ((⟨#[]⟩ : ByteArray), 11, i)) (hN2 : chS b = none → R = ((⟨#[]⟩ : ByteArray), 11, i)) :
    Ev (fun k => digits_unpackHalves.l1 k enc s n xs i false S i [a, b] (([a, b] : List Int).length : Int) 0) R := by
  obtain ⟨u, hu⟩ := character_is a ha.1 ha.2
  have er : rd [a, b] 0 = a := rfl
  cases hc : chS a with
  | none =>
    rw [hc] at hu
    rw [hN1 hc]
    refine Ev.step (f := fun _ => some ((⟨#[]⟩ : ByteArray), 11, i)) (fun k => ?_) (Ev.now _)
    simp only [digits_unpackHalves.l1]; rw [er, hu]; rfl
  | some c =>
    rw [hc] at hu
    refine Ev.step (f := fun k => digits_unpackHalves.l1 k enc s n (xs ++ [c]) i false S i [a, b] (([a, b] : List Int).length : Int) ((1 : Nat) : Int)) (fun k => ?_) ?_
    · simp only [digits_unpackHalves.l1]; rw [er, hu]
      simp only [Option.bind_some, if_true]
      rw [if_pos (by simp), if_pos (by omega), if_pos (by simp), if_pos (by omega), w64 (by decide)]; rfl
    · refine inner_last enc n s S i [a, b] 1 rfl (by omega) (xs ++ [c]) (by simp; omega) false hb.1 hb.2 hi R (fun d hd _ => ?_) (fun _ _ h => by cases h) hN2
      have := hR c d hc hd
      simpa using this
end

theorem tmod01 (n : Int) (h : 0 ≤ n) : Int.tmod n 2 = n % 2 := Int.tmod_eq_emod_of_nonneg h

section
variable (enc n : Int) (s : ByteArray) (S i : Int) (xs : List Int) (R : ByteArray × Int × Int)
theorem j4_of (hs : List Int) (filled : Bool) (h : Ev (fun k => digits_unpackHalves.l1 k enc s n xs i filled S i hs (hs.length : Int) 0) R) : Ev (fun k => digits_unpackHalves.j4 k enc s n xs i hs filled S i) R :=
  Ev.step (fun k => by simp only [digits_unpackHalves.j4]) h
theorem j3_no (hs : List Int) (filled : Bool) (h : Ev (fun k => digits_unpackHalves.l1 k enc s n xs i filled S i hs (hs.length : Int) 0) R) : Ev (fun k => digits_unpackHalves.j3 k enc s n xs i hs filled S i false) R :=
  Ev.step (fun k => by simp only [digits_unpackHalves.j3]; rfl) (j4_of enc n s S i xs R hs filled h)
theorem j2_no (hs : List Int) (filled : Bool) (hc : ¬ (Int.tmod n 2 = 1 ∧ enc = 3 ∧ i = wrap64 ((s.size : Int) - 1))) (h : Ev (fun k => digits_unpackHalves.l1 k enc s n xs i filled S i hs (hs.length : Int) 0) R) : Ev (fun k => digits_unpackHalves.j2 k enc s n xs i hs filled S i) R := by
  refine Ev.step (f := fun k => digits_unpackHalves.j3 k enc s n xs i hs filled S i false) (fun k => ?_) (j3_no enc n s S i xs R hs filled h)
  simp only [digits_unpackHalves.j2]
  by_cases c1 : Int.tmod n 2 = 1
  · rw [if_pos c1]
    by_cases c3 : enc = 3
    · rw [if_pos c3]
      have e : (i == wrap64 ((s.size : Int) - 1)) = false := beq_eq_false_iff_ne.mpr fun h => hc ⟨c1, c3, h⟩
      rw [e]
    · rw [if_neg c3]
  · rw [if_neg c1]
theorem j1_no (hs : List Int) (filled : Bool) (hc : ¬ (Int.tmod n 2 = 1 ∧ enc = 3 ∧ i = wrap64 ((s.size : Int) - 1))) (h : Ev (fun k => digits_unpackHalves.l1 k enc s n xs i filled S i hs (hs.length : Int) 0) R) : Ev (fun k => digits_unpackHalves.j1 k enc s n xs i hs filled S i false) R :=
  Ev.step (fun k => by simp only [digits_unpackHalves.j1]; rfl) (j2_no enc n s S i xs R hs filled hc h)
end

/-- one byte: what it tells, and on -/
theorem halves_round (enc n : Int) (he : enc = 2 ∨ enc = 3) (s : ByteArray) (hs : s.size ≤ 281474976710656) (i : Nat) (hi : i < s.size) (hn : 0 ≤ n) (hn2 : (s.size : Int) = n / 2 + n % 2) (xs : List Int) (hx : xs.length + 1 < 140737488355328)
    (R : ByteArray × Int × Int) (hR : (byteS enc (bt s i) i n).2 = 0 → Ev (fun k => digits_unpackHalves.l0 k enc s n (xs ++ (byteS enc (bt s i) i n).1) (s.size : Int) ((i : Int) + 1)) R)
    (hN : (byteS enc (bt s i) i n).2 ≠ 0 → R = ((⟨#[]⟩ : ByteArray), (byteS enc (bt s i) i n).2, (i : Int))) :
    Ev (fun k => digits_unpackHalves.l0 k enc s n xs (s.size : Int) (i : Int)) R := by
  have b0 := bt_lo s i
  have b1 := bt_hi s i
  have q1 : (i : Int) < (s.size : Int) := by omega
  have q2 : (0 : Int) ≤ (i : Int) := by omega
  have e15 := and15' _ b0 b1
  have ha : 0 ≤ bt s (i : Int) / 16 ∧ bt s (i : Int) / 16 < 16 := by omega
  have hb : 0 ≤ bt s (i : Int) % 16 ∧ bt s (i : Int) % 16 < 16 := by omega
  have hw : wrap64 ((i : Int) + 1) = (i : Int) + 1 := w64 (by omega)
  have hw1 : wrap64 ((s.size : Int) - 1) = (s.size : Int) - 1 := w64 (by omega)
  have hen : (enc = 2 ∨ enc = 3) := he
  -- to the first meeting point
  have start : ∀ (g : Nat → Option (ByteArray × Int × Int)), (∀ k, (if (Int.tmod n 2) = 1 then (if enc = 2 then (digits_unpackHalves.j1 k enc s n xs i [bt s (i : Int) / 16, bt s (i : Int) % 16] false (s.size : Int) i ((i : Int) == 0)) else (digits_unpackHalves.j1 k enc s n xs i [bt s (i : Int) / 16, bt s (i : Int) % 16] false (s.size : Int) i false)) else (digits_unpackHalves.j1 k enc s n xs i [bt s (i : Int) / 16, bt s (i : Int) % 16] false (s.size : Int) i false)) = g k) → Ev g R → Ev (fun k => digits_unpackHalves.l0 k enc s n xs (s.size : Int) (i : Int)) R := by
    intro g hg h
    refine Ev.step (fun k => ?_) h
    simp only [digits_unpackHalves.l0]
    rw [if_pos q1, if_pos q2, if_pos q1, Option.bind_some, e15]
    exact hg k
  by_cases f0 : Int.tmod n 2 = 1 ∧ enc = 2 ∧ (i : Int) = 0
  · -- the first byte's high half is filling
    obtain ⟨f1, f2, f3⟩ := f0
    have hf : fillS enc i n = 0 := by unfold fillS; rw [if_pos ⟨f1, f2, f3⟩]
    have hby : byteS enc (bt s i) i n = (match chS (bt s i % 16) with | none => ([], 11) | some c => ([c], if bt s i / 16 = 0 then 0 else 12)) := by unfold byteS; rw [if_pos hen, if_pos hf]
    refine start (fun k => digits_unpackHalves.j1 k enc s n xs i [bt s (i : Int) / 16, bt s (i : Int) % 16] false (s.size : Int) i true) (fun k => by rw [if_pos f1, if_pos f2, beq_iff_eq.mpr f3]) ?_
    refine Ev.step (f := fun k => digits_unpackHalves.j2 k enc s n xs i [bt s (i : Int) % 16] ((bt s (i : Int) / 16) != 0) (s.size : Int) i) (fun k => ?_) ?_
    · simp only [digits_unpackHalves.j1]; rfl
    · refine j2_no enc n s _ i xs R _ _ (fun h => by omega) (inner_last enc n s _ i [bt s (i : Int) % 16] 0 rfl (by omega) xs (by omega) _ hb.1 hb.2 hw R (fun c hc hz => ?_) (fun c hc hz => ?_) (fun hc => ?_))
      · have hc' : chS (bt s (i : Int) % 16) = some c := hc
        have hz' : bt s (i : Int) / 16 = 0 := by simpa using hz
        rw [hby, hc'] at hR
        simp only [if_pos hz'] at hR
        exact hR trivial
      · have hc' : chS (bt s (i : Int) % 16) = some c := hc
        have hz' : ¬ bt s (i : Int) / 16 = 0 := by simpa using hz
        rw [hby, hc'] at hN
        simp only [if_neg hz'] at hN
        exact hN (by decide)
      · have hc' : chS (bt s (i : Int) % 16) = none := hc
        rw [hby, hc'] at hN
        exact hN (show ¬ ((11 : Int) = 0) by decide)
  · by_cases f1 : Int.tmod n 2 = 1 ∧ enc = 3 ∧ (i : Int) = Int.tdiv n 2
    · -- the last byte's low half is filling
      obtain ⟨f1, f2, f3⟩ := f1
      have f3' : (i : Int) = (s.size : Int) - 1 := by
        rw [Int.tdiv_eq_ediv_of_nonneg hn] at f3
        rw [tmod01 n hn] at f1
        omega
      have hf : fillS enc i n = 1 := by unfold fillS; rw [if_neg f0, if_pos ⟨f1, f2, f3⟩]
      have hby : byteS enc (bt s i) i n = (match chS (bt s i / 16) with | none => ([], 11) | some c => ([c], if bt s i % 16 = 15 then 0 else 12)) := by unfold byteS; rw [if_pos hen, if_neg (by omega), if_pos hf]
      refine start (fun k => digits_unpackHalves.j1 k enc s n xs i [bt s (i : Int) / 16, bt s (i : Int) % 16] false (s.size : Int) i false) (fun k => by rw [if_pos f1, if_neg (by omega)]) ?_
      refine Ev.step (f := fun k => digits_unpackHalves.j2 k enc s n xs i [bt s (i : Int) / 16, bt s (i : Int) % 16] false (s.size : Int) i) (fun k => by simp only [digits_unpackHalves.j1]; rfl) ?_
      refine Ev.step (f := fun k => digits_unpackHalves.j3 k enc s n xs i [bt s (i : Int) / 16, bt s (i : Int) % 16] false (s.size : Int) i true) (fun k => ?_) ?_
      · simp only [digits_unpackHalves.j2]; rw [if_pos f1, if_pos f2, hw1, beq_iff_eq.mpr f3']
      refine Ev.step (f := fun k => digits_unpackHalves.j4 k enc s n xs i [bt s (i : Int) / 16] ((bt s (i : Int) % 16) != 15) (s.size : Int) i) (fun k => ?_) ?_
      · simp only [digits_unpackHalves.j3]; rfl
      · refine j4_of enc n s _ i xs R _ _ (inner_last enc n s _ i [bt s (i : Int) / 16] 0 rfl (by omega) xs (by omega) _ ha.1 ha.2 hw R (fun c hc hz => ?_) (fun c hc hz => ?_) (fun hc => ?_))
        · have hc' : chS (bt s (i : Int) / 16) = some c := hc
          have hz' : bt s (i : Int) % 16 = 15 := by simpa using hz
          rw [hby, hc'] at hR
          simp only [if_pos hz'] at hR
          exact hR trivial
        · have hc' : chS (bt s (i : Int) / 16) = some c := hc
          have hz' : ¬ bt s (i : Int) % 16 = 15 := by simpa using hz
          rw [hby, hc'] at hN
          simp only [if_neg hz'] at hN
          exact hN (by decide)
        · have hc' : chS (bt s (i : Int) / 16) = none := hc
          rw [hby, hc'] at hN
          exact hN (show ¬ ((11 : Int) = 0) by decide)
    · -- both are characters
      have hf : fillS enc i n = -1 := by unfold fillS; rw [if_neg f0, if_neg f1]
      have hby : byteS enc (bt s i) i n = (match chS (bt s i / 16) with | none => ([], 11) | some c => match chS (bt s i % 16) with | none => ([], 11) | some d => ([c, d], 0)) := by
        unfold byteS; rw [if_pos hen, if_neg (by omega), if_neg (by omega)]
      have f1' : ¬ (Int.tmod n 2 = 1 ∧ enc = 3 ∧ (i : Int) = wrap64 ((s.size : Int) - 1)) := by
        rintro ⟨g1, g2, g3⟩
        refine f1 ⟨g1, g2, ?_⟩
        rw [hw1] at g3
        rw [Int.tdiv_eq_ediv_of_nonneg hn]
        rw [tmod01 n hn] at g1
        omega
      refine start (fun k => digits_unpackHalves.j1 k enc s n xs i [bt s (i : Int) / 16, bt s (i : Int) % 16] false (s.size : Int) i false) (fun k => ?_) ?_
      · by_cases g1 : Int.tmod n 2 = 1
        · rw [if_pos g1]
          by_cases g2 : enc = 2
          · have e : ((i : Int) == 0) = false := beq_eq_false_iff_ne.mpr fun h => f0 ⟨g1, g2, h⟩
            rw [if_pos g2, e]
          · rw [if_neg g2]
        · rw [if_neg g1]
      · refine j1_no enc n s _ i xs R _ _ f1' (inner_two enc n s _ i _ _ ha hb xs hx hw R (fun c d hc hd => ?_) (fun hc => ?_) (fun hd => ?_))
        · rw [hby, hc, hd] at hR
          exact hR rfl
        · rw [hby, hc] at hN
          exact hN (show ¬ ((11 : Int) = 0) by decide)
        · rw [hby, hd] at hN
          cases hc : chS (bt s (i : Int) / 16) <;> rw [hc] at hN <;> exact hN (show ¬ ((11 : Int) = 0) by decide)

theorem byteS_len (enc b i n : Int) : (byteS enc b i n).1.length ≤ 2 := by
  unfold byteS
  split
  · split
    · split <;> simp
    · split
      · split <;> simp
      · split
        · simp
        · split <;> simp
  · split <;> simp

theorem unpackHalves_l0 (enc n : Int) (he : enc = 2 ∨ enc = 3) (s : ByteArray) (hs : s.size ≤ 70368744177600) (hn : 0 ≤ n) (hn2 : (s.size : Int) = n / 2 + n % 2) : ∀ (d i : Nat) (xs : List Int), i + d = s.size → xs.length ≤ 2 * i →
    Ev (fun k => digits_unpackHalves.l0 k enc s n xs (s.size : Int) (i : Int)) (unpS enc n ((bytesOf s).drop i) i xs) := by
  intro d
  induction d with
  | zero =>
    intro i xs hi hx
    rw [dropAll s i (by omega)]
    refine Ev.step (f := fun _ => some (unpS enc n [] i xs)) (fun k => ?_) (Ev.now _)
    simp only [digits_unpackHalves.l0]; rw [if_neg (by omega)]; rfl
  | succ d ih =>
    intro i xs hi hx
    rw [dropBt s i (by omega)]
    have hl := byteS_len enc (bt s i) i n
    refine halves_round enc n he s (by omega) i (by omega) hn hn2 xs (by omega) _ (fun h => ?_) (fun h => ?_)
    · have := ih (i + 1) (xs ++ (byteS enc (bt s i) i n).1) (by omega) (by simp; omega)
      simp only [unpS]
      rw [if_pos h]
      exact this
    · simp only [unpS]
      rw [if_neg h]

/-! ### a character a byte -/
theorem byteS_one (enc b i n : Int) (he : ¬ (enc = 2 ∨ enc = 3)) : byteS enc b i n = match rdS enc b with | none => ([], 11) | some c => ([c], 0) := by
  unfold byteS; rw [if_neg he]
theorem unpack_l0 (enc n : Int) (he : ¬ (enc = 2 ∨ enc = 3)) (s : ByteArray) (hs : s.size ≤ 281474976710656) (w : Nat) (hw : w ≤ s.size) (hw2 : w ≤ 140737488355320) : ∀ (d i : Nat) (xs : List Int), i + d = w → xs.length = i →
    Ev (fun k => digits_Unpack.l0 k enc s xs (w : Int) (i : Int)) (unpS enc n (((bytesOf s).take w).drop i) i xs) := by
  have hlen : ((bytesOf s).take w).length = w := by rw [List.length_take, bytesOf_length]; omega
  intro d
  induction d with
  | zero =>
    intro i xs hi hx
    rw [List.drop_eq_nil_iff.2 (by omega)]
    refine Ev.step (f := fun _ => some (unpS enc n [] i xs)) (fun k => ?_) (Ev.now _)
    simp only [digits_Unpack.l0]; rw [if_neg (by omega)]; rfl
  | succ d ih =>
    intro i xs hi hx
    have hc : ((bytesOf s).take w).drop i = bt s (i : Int) :: ((bytesOf s).take w).drop (i + 1) := by
      rw [List.drop_take, List.drop_take, dropBt s i (by omega), show w - i = (w - (i + 1)) + 1 by omega, List.take_succ_cons]
    rw [hc]
    simp only [unpS]
    rw [byteS_one _ _ _ _ he]
    obtain ⟨u, hu⟩ := read_is enc (bt s i)
    have q1 : (i : Int) < (w : Int) := by omega
    have q2 : (0 : Int) ≤ (i : Int) := by omega
    have q3 : (i : Int) < (s.size : Int) := by omega
    cases hr : rdS enc (bt s i) with
    | none =>
      rw [hr] at hu
      refine Ev.step (f := fun _ => some ((⟨#[]⟩ : ByteArray), 11, (i : Int))) (fun k => ?_) (Ev.now _)
      simp only [digits_Unpack.l0]; rw [if_pos q1, if_pos q2, if_pos q3, hu]; rfl
    | some c =>
      rw [hr] at hu
      refine Ev.step (fun k => ?_) (ih (i + 1) (xs ++ [c]) (by omega) (by simp [hx]))
      simp only [digits_Unpack.l0]; rw [if_pos q1, if_pos q2, if_pos q3, hu, w64 (by omega)]
      simp only [Option.bind_some, if_true]
      rw [if_pos (by omega)]; rfl

/-! ### Unpack -/
/-- how many bytes n characters have -/
def widthS (enc n : Int) : Int := if n < 0 then 0 else if enc = 2 ∨ enc = 3 then n / 2 + n % 2 else if enc = 1 ∨ enc = 4 ∨ enc = 5 then n else 0
theorem width_is (enc n : Int) (hn : n ≤ 9223372036854775807) : digits_Width.f enc n = some (widthS enc n) := by
  unfold digits_Width.f widthS
  by_cases h0 : n < 0
  · rw [if_pos h0, if_pos h0]
  · rw [if_neg h0, if_neg h0]
    have e : wrap64 ((wrap64 (Int.tdiv n 2)) + (Int.tmod n 2)) = n / 2 + n % 2 := by
      rw [Int.tdiv_eq_ediv_of_nonneg (by omega), Int.tmod_eq_emod_of_nonneg (by omega), w64 (by omega : -9223372036854775808 ≤ n / 2 ∧ n / 2 ≤ 9223372036854775807), w64 (by omega)]
    rw [e]
    by_cases c2 : enc = 2
    · rw [if_pos c2, if_pos (.inl c2)]
    · rw [if_neg c2]
      by_cases c3 : enc = 3
      · rw [if_pos c3, if_pos (.inr c3)]
      · rw [if_neg c3, if_neg (show ¬ (enc = 2 ∨ enc = 3) by omega)]
        by_cases c1 : enc = 1
        · rw [if_pos c1, if_pos (.inl c1)]
        · rw [if_neg c1]
          by_cases c4 : enc = 4
          · rw [if_pos c4, if_pos (.inr (.inl c4))]
          · rw [if_neg c4]
            by_cases c5 : enc = 5
            · rw [if_pos c5, if_pos (.inr (.inr c5))]
            · rw [if_neg c5, if_neg (show ¬ (enc = 1 ∨ enc = 4 ∨ enc = 5) by omega)]
def unpackS (enc : Int) (s : ByteArray) (n : Int) : ByteArray × Int × Int :=
  if enc < 1 ∨ enc > 5 ∨ n < 0 then ((⟨#[]⟩ : ByteArray), 1, 0) else if (s.size : Int) < widthS enc n then ((⟨#[]⟩ : ByteArray), 10, (s.size : Int)) else unpS enc n ((bytesOf s).take (widthS enc n).toNat) 0 []
theorem bytesOf_extract (s : ByteArray) (w : Nat) : bytesOf (s.extract 0 w) = (bytesOf s).take w := by
  have h : (s.extract 0 w).data.toList = s.data.toList.take w := by rw [ByteArray.data_extract]; simp
  unfold bytesOf
  rw [h, List.map_take]
theorem unpack_is' (enc : Int) (s : ByteArray) (n : Int) (hs : s.size ≤ 281474976710656) (hn : n ≤ 9223372036854775807) (hw : (s.size : Int) < widthS enc n ∨ (widthS enc n ≤ 140737488355320 ∧ (enc = 2 ∨ enc = 3 → widthS enc n ≤ 70368744177600))) : Ev (fun k => digits_Unpack.f k enc s n) (unpackS enc s n) := by
  unfold unpackS
  by_cases ha : enc < 1 ∨ enc > 5 ∨ n < 0
  · rw [if_pos ha]
    refine Ev.step (f := fun _ => some ((⟨#[]⟩ : ByteArray), 1, 0)) (fun k => ?_) (Ev.now _)
    unfold digits_Unpack.f
    by_cases c1 : enc < 1
    · rw [if_pos c1]; simp only [digits_Unpack.j0]; rfl
    · rw [if_neg c1]
      by_cases c5 : enc > 5
      · rw [if_pos c5]; simp only [digits_Unpack.j0]; rfl
      · rw [if_neg c5, decide_eq_true (by omega)]; simp only [digits_Unpack.j0]; rfl
  · rw [if_neg ha]
    refine Ev.step (f := fun k => (if (s.size : Int) < widthS enc n then (some ((⟨#[]⟩ : ByteArray), 10, (s.size : Int))) else (if enc = 2 then (digits_Unpack.j1 k enc s n (widthS enc n) true) else (digits_Unpack.j1 k enc s n (widthS enc n) (enc == 3))))) (fun k => ?_) ?_
    · unfold digits_Unpack.f
      rw [if_neg (by omega), if_neg (by omega), decide_eq_false (by omega)]; simp only [digits_Unpack.j0]
      rw [if_neg (by decide), width_is enc n hn]; rfl
    · by_cases hs2 : (s.size : Int) < widthS enc n
      · rw [if_pos hs2]; exact ev_some fun k => if_pos hs2
      · rw [if_neg hs2]
        refine Ev.congr (fun k => if_neg hs2) ?_
        have hw' : widthS enc n ≤ 140737488355320 ∧ (enc = 2 ∨ enc = 3 → widthS enc n ≤ 70368744177600) := by rcases hw with h | h; exact absurd h hs2; exact h
        have w0 : 0 ≤ widthS enc n := by unfold widthS; split; omega; split; omega; split <;> omega
        by_cases h23 : enc = 2 ∨ enc = 3
        · have ew : widthS enc n = n / 2 + n % 2 := by unfold widthS; rw [if_neg (by omega), if_pos h23]
          have hw3 := hw'.2 h23
          refine Ev.congr (f := fun k => digits_Unpack.j1 k enc s n (widthS enc n) true) (fun k => ?_) ?_
          · rcases h23 with h | h
            · rw [if_pos h]
            · rw [if_neg (by omega), beq_iff_eq.mpr h]
          · have hsz : (s.extract 0 (widthS enc n).toNat).size = (widthS enc n).toNat := by rw [ByteArray.size_extract]; omega
            have h := unpackHalves_l0 enc n h23 (s.extract 0 (widthS enc n).toNat) (by omega) (by omega) (by omega) _ 0 [] (Nat.zero_add _) (by simp)
            rw [bytesOf_extract] at h
            refine Ev.step (f := fun k => (digits_unpackHalves.f k enc (s.extract 0 (widthS enc n).toNat) n).bind fun b => some (b.1, b.2.1, b.2.2)) (fun k => ?_) (evb (a := unpS enc n ((bytesOf s).take (widthS enc n).toNat) 0 []) h (Ev.now _))
            simp only [digits_Unpack.j1]; rw [if_pos trivial, if_pos w0, if_pos (by omega)]
        · refine Ev.congr (f := fun k => digits_Unpack.j1 k enc s n (widthS enc n) false) (fun k => ?_) ?_
          · have e3 : (enc == 3) = false := beq_eq_false_iff_ne.mpr fun h => h23 (.inr h)
            rw [if_neg (fun h => h23 (.inl h)), e3]
          · have hw3 := hw'.1
            have h := unpack_l0 enc n h23 s hs (widthS enc n).toNat (by omega) (by omega) (widthS enc n).toNat 0 [] (by omega) rfl
            refine Ev.step (fun k => ?_) h
            simp only [digits_Unpack.j1]; rw [if_neg (by decide), if_pos w0, if_pos (by omega)]
            congr 1
            omega
theorem unpack_is (enc : Int) (s : ByteArray) (n : Int) (hs : s.size ≤ 281474976710656) (hn : n ≤ 9223372036854775807) (hw : (s.size : Int) < widthS enc n ∨ widthS enc n ≤ 70368744177600) : Ev (fun k => digits_Unpack.f k enc s n) (unpackS enc s n) :=
  unpack_is' enc s n hs hn (by rcases hw with h | h; exact .inl h; exact .inr ⟨by omega, fun _ => h⟩)
end Go.Proofs.Ytlpamhffpgoebaa.Pure
