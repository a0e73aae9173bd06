/- Pack of digits, told with enough rounds as a plain function on lists of numbers. Condition: a text that an append in the model can bear. -/
import Derived.Test.YtlpamhffpgoebaaAx22
import Derived.Test.YtlpamhffpgoebaaPa
namespace Go.Proofs.Ytlpamhffpgoebaa.Pure
open Go.RowKit Go.Proofs.Ytlpamhffpgoebaa.All Go.Proofs.YtlpamhffpgoebaaW.PrintWords Go.Proofs.YtlpamhffpgoebaaW.PrintLast Go.Proofs.YtlpamhffpgoebaaW.PrintMore

theorem dropBt (s : ByteArray) (i : Nat) (h : i < s.size) : (bytesOf s).drop i = bt s i :: (bytesOf s).drop (i + 1) := by
  have hl : i < (bytesOf s).length := by rw [bytesOf_length]; exact h
  rw [List.drop_eq_getElem_cons hl]
  congr 1
  rw [← rd_bytesOf s i]
  simp [rd, List.getD, List.getElem?_eq_getElem hl]
theorem dropAll (s : ByteArray) (i : Nat) (h : s.size ≤ i) : (bytesOf s).drop i = [] := by
  rw [List.drop_eq_nil_iff, bytesOf_length]; exact h
theorem bytesRange (s : ByteArray) : ∀ x ∈ bytesOf s, 0 ≤ x ∧ x ≤ 255 := by
  intro x hx
  unfold bytesOf at hx
  obtain ⟨b, _, rfl⟩ := List.mem_map.1 hx
  have := b.toNat_lt
  omega
theorem bitsOr16 (a b : Int) (ha : 0 ≤ a ∧ a < 16) (hb : 0 ≤ b ∧ b < 16) : Go.bits .or .u8 ((a * 16) % 256) b = 16 * a + b := by
  have : ∀ e f : Fin 16, Go.bits .or .u8 (((e.val : Int) * 16) % 256) (f.val : Int) = 16 * (e.val : Int) + (f.val : Int) := by decide +kernel
  have h := this ⟨a.toNat, by omega⟩ ⟨b.toNat, by omega⟩
  simp only [show ((a.toNat : Nat) : Int) = a by omega, show ((b.toNat : Nat) : Int) = b by omega] at h
  exact h

/-- f of each, if each has one -/
def mapO (f : Int → Option Int) : List Int → Option (List Int)
  | [] => some []
  | c :: r => (f c).bind fun v => (mapO f r).map (v :: ·)
def packEnd (xs : List Int) : Option (List Int) → ByteArray × Int
  | none => ((⟨#[]⟩ : ByteArray), 11)
  | some vs => (strOfNums (xs ++ vs), 0)
theorem packEnd_cons (f : Int → Option Int) (c v : Int) (r xs : List Int) (h : f c = some v) : packEnd xs (mapO f (c :: r)) = packEnd (xs ++ [v]) (mapO f r) := by
  simp only [mapO, h, Option.bind_some]
  cases mapO f r <;> simp [packEnd]
theorem packEnd_none (f : Int → Option Int) (c : Int) (r xs : List Int) (h : f c = none) : packEnd xs (mapO f (c :: r)) = ((⟨#[]⟩ : ByteArray), 11) := by
  simp [mapO, h, packEnd]

/-- the byte of a character, of ASCII, EBCDIC, BINARY -/
def wr (enc c : Int) : Option Int := if enc = 5 then some c else if c < 32 then none else if c > 126 then none else if enc = 4 then some (rd ebL (c - 32)) else some c
theorem written_is (enc c : Int) : digits_written.f enc c = some (match wr enc c with | some v => (v, true) | none => (0, false)) := by
  unfold digits_written.f wr
  by_cases c1 : enc = 5
  · rw [if_pos c1, if_pos c1]
  · rw [if_neg c1, if_neg c1]
    by_cases c2 : c < 32
    · rw [if_pos c2, if_pos c2]
    · rw [if_neg c2, if_neg c2]
      by_cases c3 : c > 126
      · rw [if_pos c3, if_pos c3]
      · rw [if_neg c3, if_neg c3]
        by_cases c4 : enc = 4
        · rw [if_pos c4, if_pos c4]
        · rw [if_neg c4, if_neg c4]

theorem pack_l0 (enc : Int) (s : ByteArray) (hs : s.size ≤ 140737488355300) : ∀ (d i : Nat) (xs : List Int), i + d = s.size → xs.length = i →
    Ev (fun k => digits_Pack.l0 k enc s xs (s.size : Int) (i : Int)) (packEnd xs (mapO (wr enc) ((bytesOf s).drop i))) := by
  intro d
  induction d with
  | zero =>
    intro i xs hi hx
    rw [dropAll s i (by omega)]
    refine Ev.step (f := fun _ => some (packEnd xs (mapO (wr enc) []))) (fun k => ?_) (Ev.now _)
    simp only [digits_Pack.l0]; rw [if_neg (by omega)]; simp [packEnd, mapO]
  | succ d ih =>
    intro i xs hi hx
    rw [dropBt s i (by omega)]
    have q1 : (i : Int) < (s.size : Int) := by omega
    have q2 : (0 : Int) ≤ (i : Int) := by omega
    cases hw : wr enc (bt s (i : Int)) with
    | none =>
      rw [packEnd_none _ _ _ _ hw]
      refine Ev.step (f := fun _ => some ((⟨#[]⟩ : ByteArray), 11)) (fun k => ?_) (Ev.now _)
      simp only [digits_Pack.l0, written_is, hw]; rw [if_pos q1, if_pos q2, if_pos q1]; rfl
    | some v =>
      rw [packEnd_cons _ _ v _ _ hw]
      refine Ev.step (fun k => ?_) (ih (i + 1) (xs ++ [v]) (by omega) (by simp [hx]))
      simp only [digits_Pack.l0, written_is, hw]; rw [if_pos q1, if_pos q2, if_pos q1, w64 (by omega)]
      simp only [Option.bind_some, if_true]
      rw [if_pos (by omega)]
      rfl

/-! ### two characters a byte -/
/-- the half of a character -/
def halfS (c : Int) : Option Int := if c = 61 then some 13 else if c < 48 then none else if c > 57 then none else some (c - 48)
theorem halfS_range {c v : Int} (h : halfS c = some v) : 0 ≤ v ∧ v < 16 := by
  unfold halfS at h
  by_cases c1 : c = 61
  · rw [if_pos c1] at h; injection h; omega
  · rw [if_neg c1] at h
    by_cases c2 : c < 48
    · rw [if_pos c2] at h; cases h
    · rw [if_neg c2] at h
      by_cases c3 : c > 57
      · rw [if_pos c3] at h; cases h
      · rw [if_neg c3] at h; injection h; omega
theorem mapO_range : ∀ (cs vs : List Int), mapO halfS cs = some vs → ∀ v ∈ vs, 0 ≤ v ∧ v < 16
  | [], vs, h, v, hv => by simp [mapO] at h; subst h; cases hv
  | c :: r, vs, h, v, hv => by
    simp only [mapO] at h
    cases hc : halfS c with
    | none => rw [hc] at h; simp at h
    | some u =>
      rw [hc] at h
      simp only [Option.bind_some] at h
      cases hr : mapO halfS r with
      | none => rw [hr] at h; simp at h
      | some us =>
        rw [hr] at h
        simp only [Option.map_some, Option.some.injEq] at h
        subst h
        rcases List.mem_cons.1 hv with e | e
        · subst e; exact halfS_range hc
        · exact mapO_range r us hr v e
def pairs : List Int → List Int
  | a :: b :: r => (16 * a + b) :: pairs r
  | _ => []
def padL (l : List Int) : List Int := if l.length % 2 = 1 then l ++ [15] else l
def halfEnd (xs : List Int) : Option (List Int) → ByteArray × Int
  | none => ((⟨#[]⟩ : ByteArray), 11)
  | some vs => (strOfNums (pairs (padL (xs ++ vs))), 0)
theorem halfEnd_cons (c v : Int) (r xs : List Int) (h : halfS c = some v) : halfEnd xs (mapO halfS (c :: r)) = halfEnd (xs ++ [v]) (mapO halfS r) := by
  simp only [mapO, h, Option.bind_some]
  cases mapO halfS r <;> simp [halfEnd]
theorem halfEnd_none (c : Int) (r xs : List Int) (h : halfS c = none) : halfEnd xs (mapO halfS (c :: r)) = ((⟨#[]⟩ : ByteArray), 11) := by
  simp [mapO, h, halfEnd]
theorem dropTwo (l : List Int) (i : Nat) (h : i + 1 < l.length) : l.drop i = rd l (i : Int) :: rd l ((i + 1 : Nat) : Int) :: l.drop (i + 2) := by
  have h0 : i < l.length := by omega
  rw [List.drop_eq_getElem_cons h0, List.drop_eq_getElem_cons h]
  simp [rd, List.getD, List.getElem?_eq_getElem h0, List.getElem?_eq_getElem h]
theorem rdRange (l : List Int) (hr : ∀ v ∈ l, 0 ≤ v ∧ v < 16) (i : Nat) (h : i < l.length) : 0 ≤ rd l (i : Int) ∧ rd l (i : Int) < 16 := by
  have : rd l (i : Int) = l[i] := by simp [rd, List.getD, List.getElem?_eq_getElem h]
  rw [this]
  exact hr _ (List.getElem_mem h)

theorem halves_l1 (l : List Int) (hl : l.length ≤ 140737488355320) (hev : l.length % 2 = 0) (hr : ∀ v ∈ l, 0 ≤ v ∧ v < 16) : ∀ (d j : Nat) (xs : List Int), 2 * j + 2 * d = l.length → xs.length = j →
    Ev (fun k => digits_packHalves.l1 k l xs ((2 * j : Nat) : Int)) (strOfNums (xs ++ pairs (l.drop (2 * j))), 0) := by
  intro d
  induction d with
  | zero =>
    intro j xs hj hx
    rw [List.drop_eq_nil_iff.2 (by omega)]
    refine Ev.step (f := fun _ => some (strOfNums (xs ++ pairs []), 0)) (fun k => ?_) (Ev.now _)
    simp only [digits_packHalves.l1]
    rw [if_neg (by omega)]
    simp [pairs]
  | succ d ih =>
    intro j xs hj hx
    rw [dropTwo l (2 * j) (by omega)]
    have ra := rdRange l hr (2 * j) (by omega)
    have rb := rdRange l hr (2 * j + 1) (by omega)
    have e : xs ++ pairs (rd l ((2 * j : Nat) : Int) :: rd l ((2 * j + 1 : Nat) : Int) :: l.drop (2 * j + 2)) = (xs ++ [16 * rd l ((2 * j : Nat) : Int) + rd l ((2 * j + 1 : Nat) : Int)]) ++ pairs (l.drop (2 * (j + 1))) := by
      simp [pairs]; rfl
    rw [e]
    refine Ev.step (fun k => ?_) (ih (j + 1) (xs ++ [16 * rd l ((2 * j : Nat) : Int) + rd l ((2 * j + 1 : Nat) : Int)]) (by omega) (by simp [hx]))
    have e1 : wrap64 (((2 * j : Nat) : Int) + 1) = ((2 * j + 1 : Nat) : Int) := by rw [w64 (by omega)]; omega
    have e2 : wrap64 (((2 * j : Nat) : Int) + 2) = ((2 * (j + 1) : Nat) : Int) := by rw [w64 (by omega)]; omega
    simp only [digits_packHalves.l1]
    rw [e1, e2, bitsOr16 _ _ ra rb, if_pos (by omega), if_pos (by omega), if_pos (by omega), if_pos (by omega), if_pos (by omega)]

theorem padL_len (l : List Int) : (padL l).length ≤ l.length + 1 := by
  unfold padL
  split
  · simp
  · omega
theorem padL_even (l : List Int) : (padL l).length % 2 = 0 := by
  unfold padL
  split
  · simp; omega
  · omega
theorem padL_range (l : List Int) (hr : ∀ v ∈ l, 0 ≤ v ∧ v < 16) : ∀ v ∈ padL l, 0 ≤ v ∧ v < 16 := by
  unfold padL
  split
  · intro v hv
    rcases List.mem_append.1 hv with h | h
    · exact hr v h
    · simp at h; omega
  · exact hr

theorem halves_j3 (l : List Int) (hl : l.length ≤ 140737488355310) (hr : ∀ v ∈ l, 0 ≤ v ∧ v < 16) :
    Ev (fun k => if ((l.length : Int) % 2) = 1 then (if l.length < 140737488355328 then (digits_packHalves.j3 k (l ++ [15])) else (none)) else (digits_packHalves.j3 k l)) (strOfNums (pairs (padL l)), 0) := by
  have hp := halves_l1 (padL l) (by have := padL_len l; omega) (padL_even l) (padL_range l hr) ((padL l).length / 2) 0 [] (by have := padL_even l; omega) rfl
  refine Ev.step (fun k => ?_) hp
  unfold padL
  by_cases h : l.length % 2 = 1
  · rw [if_pos (by omega), if_pos (by omega), if_pos h]
    simp only [digits_packHalves.j3]; rfl
  · rw [if_neg (by omega), if_neg h]
    simp only [digits_packHalves.j3]; rfl

theorem half_is (c : Int) : ∃ u, digits_half.f c = some (match halfS c with | some v => (v, true) | none => (u, false)) := by
  unfold digits_half.f halfS
  by_cases c1 : c = 61
  · rw [if_pos c1, if_pos c1]; exact ⟨0, rfl⟩
  · rw [if_neg c1, if_neg c1]
    by_cases c2 : c < 48
    · rw [if_neg (by omega), if_pos c2]; exact ⟨_, rfl⟩
    · rw [if_pos (by omega), if_neg c2]
      by_cases c3 : c > 57
      · rw [if_pos c3, decide_eq_false (by omega)]; exact ⟨_, rfl⟩
      · rw [if_neg c3, decide_eq_true (by omega)]; exact ⟨0, by simp; omega⟩

theorem halves_l0 (s : ByteArray) (hs : s.size ≤ 140737488355300) (z : Nat) (hz : z ≤ 1) : ∀ (d i : Nat) (xs : List Int), i + d = s.size → xs.length = i + z → (∀ v ∈ xs, 0 ≤ v ∧ v < 16) →
    Ev (fun k => digits_packHalves.l0 k s xs (s.size : Int) (i : Int)) (halfEnd xs (mapO halfS ((bytesOf s).drop i))) := by
  intro d
  induction d with
  | zero =>
    intro i xs hi hx hr
    rw [dropAll s i (by omega)]
    have h := halves_j3 xs (by omega) hr
    have e : halfEnd xs (mapO halfS []) = (strOfNums (pairs (padL xs)), 0) := by simp [halfEnd, mapO]
    rw [e]
    refine Ev.step (fun k => ?_) h
    simp only [digits_packHalves.l0]; rw [if_neg (by omega)]
  | succ d ih =>
    intro i xs hi hx hr
    rw [dropBt s i (by omega)]
    have q1 : (i : Int) < (s.size : Int) := by omega
    have q2 : (0 : Int) ≤ (i : Int) := by omega
    obtain ⟨u, hu⟩ := half_is (bt s (i : Int))
    cases hw : halfS (bt s (i : Int)) with
    | none =>
      rw [halfEnd_none _ _ _ hw]
      rw [hw] at hu
      refine Ev.step (f := fun _ => some ((⟨#[]⟩ : ByteArray), 11)) (fun k => ?_) (Ev.now _)
      simp only [digits_packHalves.l0, hu]; rw [if_pos q1, if_pos q2, if_pos q1]; rfl
    | some v =>
      rw [halfEnd_cons _ v _ _ hw]
      rw [hw] at hu
      refine Ev.step (fun k => ?_) (ih (i + 1) (xs ++ [v]) (by omega) (by simp [hx]; omega) (fun x hx => by
        rcases List.mem_append.1 hx with h | h
        · exact hr x h
        · simp at h; subst h; exact halfS_range hw))
      simp only [digits_packHalves.l0, hu]; rw [if_pos q1, if_pos q2, if_pos q1, w64 (by omega)]
      simp only [Option.bind_some, if_true]
      rw [if_pos (by omega)]
      rfl

/-- what Pack tells of BCD and BCDR -/
def halfPackS (enc : Int) (cs : List Int) : ByteArray × Int := halfEnd (if enc = 2 ∧ cs.length % 2 = 1 then [0] else []) (mapO halfS cs)
theorem halves_is (enc : Int) (s : ByteArray) (hs : s.size ≤ 140737488355300) : Ev (fun k => digits_packHalves.f k enc s) (halfPackS enc (bytesOf s)) := by
  unfold halfPackS
  rw [bytesOf_length]
  by_cases h2 : enc = 2 ∧ s.size % 2 = 1
  · rw [if_pos h2]
    have h := halves_l0 s hs 1 (by omega) s.size 0 [0] (by omega) rfl (fun v hv => by simp at hv; omega)
    refine Ev.step (f := fun k => digits_packHalves.j1 k s [0]) (fun k => ?_) (Ev.step (fun k => ?_) h)
    · unfold digits_packHalves.f
      rw [if_pos h2.1]
      have e : (((s.size : Int) % 2) == 1) = true := by rw [beq_iff_eq]; omega
      rw [e]
      simp only [digits_packHalves.j0]; rfl
    · simp only [digits_packHalves.j1]; rfl
  · rw [if_neg h2]
    have h := halves_l0 s hs 0 (by omega) s.size 0 [] (by omega) rfl (fun v hv => by cases hv)
    refine Ev.step (f := fun k => digits_packHalves.j1 k s []) (fun k => ?_) (Ev.step (fun k => ?_) h)
    · unfold digits_packHalves.f
      by_cases c2 : enc = 2
      · rw [if_pos c2]
        have e : (((s.size : Int) % 2) == 1) = false := by rw [beq_eq_false_iff_ne]; intro h; exact h2 ⟨c2, by omega⟩
        rw [e]
        simp only [digits_packHalves.j0]; rfl
      · rw [if_neg c2]
        simp only [digits_packHalves.j0]; rfl
    · simp only [digits_packHalves.j1]; rfl

/-! ### Pack -/
def packS (enc : Int) (cs : List Int) : ByteArray × Int :=
  if enc = 2 ∨ enc = 3 then halfPackS enc cs else if enc = 1 ∨ enc = 4 ∨ enc = 5 then packEnd [] (mapO (wr enc) cs) else ((⟨#[]⟩ : ByteArray), 1)
theorem pack_is (enc : Int) (s : ByteArray) (hs : s.size ≤ 140737488355300) : Ev (fun k => digits_Pack.f k enc s) (packS enc (bytesOf s)) := by
  unfold packS
  by_cases h23 : enc = 2 ∨ enc = 3
  · rw [if_pos h23]
    refine Ev.step (f := fun k => (digits_packHalves.f k enc s).bind fun b => some (b.1, b.2)) (fun k => ?_) (Ev.bind (halves_is enc s hs) (Ev.now _))
    unfold digits_Pack.f
    rcases h23 with h | h
    · subst h; rw [if_pos rfl]; simp only [digits_Pack.j0]; rfl
    · subst h; rw [if_neg (by decide)]; simp only [digits_Pack.j0]; rfl
  · rw [if_neg h23]
    have n2 : ¬ enc = 2 := fun h => h23 (.inl h)
    have n3 : (enc == 3) = false := beq_eq_false_iff_ne.mpr fun h => h23 (.inr h)
    by_cases h145 : enc = 1 ∨ enc = 4 ∨ enc = 5
    · rw [if_pos h145]
      have h := pack_l0 enc s hs s.size 0 [] (by omega) rfl
      refine Ev.step (f := fun k => digits_Pack.j1 k enc s true) (fun k => ?_) (Ev.step (fun k => ?_) h)
      · unfold digits_Pack.f
        rw [if_neg n2, n3]
        simp only [digits_Pack.j0]
        rcases h145 with h | h | h <;> subst h <;> rfl
      · simp only [digits_Pack.j1]
        rw [if_pos trivial, if_pos (by omega), if_pos (by omega)]
        rfl
    · rw [if_neg h145]
      refine Ev.step (f := fun k => digits_Pack.j1 k enc s false) (fun k => ?_) (Ev.step (f := fun _ => some ((⟨#[]⟩ : ByteArray), 1)) (fun k => ?_) (Ev.now _))
      · unfold digits_Pack.f
        rw [if_neg n2, n3]
        simp only [digits_Pack.j0]
        have m1 : ¬ enc = 1 := fun h => h145 (.inl h)
        have m4 : ¬ enc = 4 := fun h => h145 (.inr (.inl h))
        have m5 : (enc == 5) = false := beq_eq_false_iff_ne.mpr fun h => h145 (.inr (.inr h))
        rw [if_neg (by decide), if_neg m1, if_neg m4, m5]
      · simp only [digits_Pack.j1]; rfl
end Go.Proofs.Ytlpamhffpgoebaa.Pure
