/- Plain laws on the plain functions of Pack and Unpack: what was unpacked is packed as the bytes that were read; where bytes are wrong, those ahead of the place are right. -/
import Derived.Test.YtlpamhffpgoebaaPj
namespace Go.Proofs.Ytlpamhffpgoebaa.Pure
open Go.RowKit Go.Proofs.Ytlpamhffpgoebaa.All Go.Proofs.YtlpamhffpgoebaaW.PrintWords Go.Proofs.YtlpamhffpgoebaaW.PrintLast Go.Proofs.YtlpamhffpgoebaaW.PrintMore
set_option linter.unusedVariables false

theorem unpS_ok {enc n b i : Int} {r xs : List Int} {t : ByteArray} {p : Int} (h : unpS enc n (b :: r) i xs = (t, 0, p)) : (byteS enc b i n).2 = 0 ∧ unpS enc n r (i + 1) (xs ++ (byteS enc b i n).1) = (t, 0, p) := by
  simp only [unpS] at h
  by_cases h0 : (byteS enc b i n).2 = 0
  · rw [if_pos h0] at h; exact ⟨h0, h⟩
  · rw [if_neg h0] at h
    have := (Prod.mk.inj (Prod.mk.inj h).2).1
    exact absurd this h0

/-! ### two characters a byte -/
theorem chS_range {h c : Int} (h0 : 0 ≤ h) (hc : chS h = some c) : 48 ≤ c ∧ c ≤ 61 := by
  unfold chS at hc
  by_cases c1 : h = 13
  · rw [if_pos c1] at hc; injection hc; omega
  · rw [if_neg c1] at hc
    by_cases c2 : h ≤ 9
    · rw [if_pos c2] at hc; injection hc; omega
    · rw [if_neg c2] at hc; cases hc
theorem byteS_both_ok (enc b i n : Int) (he : enc = 2 ∨ enc = 3) (hf : fillS enc i n = -1) (h : (byteS enc b i n).2 = 0) : ∃ c d, chS (b / 16) = some c ∧ chS (b % 16) = some d ∧ (byteS enc b i n).1 = [c, d] := by
  unfold byteS at h ⊢
  rw [if_pos he, if_neg (by omega), if_neg (by omega)] at h ⊢
  cases hc : chS (b / 16) with
  | none => rw [hc] at h; exact absurd h (by simp)
  | some c =>
    cases hd : chS (b % 16) with
    | none => rw [hc, hd] at h; exact absurd h (by simp)
    | some d => exact ⟨c, d, rfl, rfl, rfl⟩
theorem byteS_first_ok (enc b i n : Int) (he : enc = 2 ∨ enc = 3) (hf : fillS enc i n = 0) (h : (byteS enc b i n).2 = 0) : ∃ c, chS (b % 16) = some c ∧ b / 16 = 0 ∧ (byteS enc b i n).1 = [c] := by
  unfold byteS at h ⊢
  rw [if_pos he, if_pos hf] at h ⊢
  cases hc : chS (b % 16) with
  | none => rw [hc] at h; exact absurd h (by simp)
  | some c =>
    rw [hc] at h
    simp only at h
    by_cases hz : b / 16 = 0
    · exact ⟨c, rfl, hz, rfl⟩
    · rw [if_neg hz] at h; exact absurd h (by decide)
theorem byteS_last_ok (enc b i n : Int) (he : enc = 2 ∨ enc = 3) (hf : fillS enc i n = 1) (h : (byteS enc b i n).2 = 0) : ∃ c, chS (b / 16) = some c ∧ b % 16 = 15 ∧ (byteS enc b i n).1 = [c] := by
  unfold byteS at h ⊢
  rw [if_pos he, if_neg (by omega), if_pos hf] at h ⊢
  cases hc : chS (b / 16) with
  | none => rw [hc] at h; exact absurd h (by simp)
  | some c =>
    rw [hc] at h
    simp only at h
    by_cases hz : b % 16 = 15
    · exact ⟨c, rfl, hz, rfl⟩
    · rw [if_neg hz] at h; exact absurd h (by decide)

theorem forms_pairs (enc n : Int) (he : enc = 2 ∨ enc = 3) : ∀ (bs : List Int), (∀ b ∈ bs, 0 ≤ b ∧ b ≤ 255) → ∀ (i : Int) (xs : List Int) (t : ByteArray) (p : Int),
    (∀ j : Nat, j < bs.length → fillS enc (i + j) n = -1 ∨ (fillS enc (i + j) n = 1 ∧ j + 1 = bs.length)) → unpS enc n bs i xs = (t, 0, p) →
    ∃ cs hs, t = strOfNums (xs ++ cs) ∧ mapO halfS cs = some hs ∧ pairs (padL hs) = bs ∧ (∀ c ∈ cs, 0 ≤ c ∧ c ≤ 255) ∧
      ((cs.length = 2 * bs.length ∧ ∀ j : Nat, j < bs.length → fillS enc (i + j) n = -1) ∨ (cs.length + 1 = 2 * bs.length ∧ fillS enc (i + (bs.length - 1 : Nat)) n = 1))
  | [], _, i, xs, t, p, _, h => by
    simp only [unpS] at h
    refine ⟨[], [], ?_, rfl, rfl, (fun c hc => by cases hc), .inl ⟨rfl, fun j hj => by simp at hj⟩⟩
    rw [List.append_nil]; exact (Prod.mk.inj h).1.symm
  | b :: r, hb, i, xs, t, p, hf, h => by
    obtain ⟨h0, h1⟩ := unpS_ok h
    have hbb := hb b (by simp)
    rcases hf 0 (by simp) with hz | ⟨hz, hl⟩
    · have hz' : fillS enc i n = -1 := by simpa using hz
      obtain ⟨c, d, hc, hd, e⟩ := byteS_both_ok enc b i n he hz' h0
      rw [e] at h1
      obtain ⟨cs, hs, rfl, hm, hp, hr, hcase⟩ := forms_pairs enc n he r (fun x hx => hb x (by simp [hx])) (i + 1) (xs ++ [c, d]) t p
        (fun j hj => by
          have := hf (j + 1) (by simp; omega)
          have e1 : i + ((j + 1 : Nat) : Int) = i + 1 + (j : Int) := by omega
          rw [e1] at this
          rcases this with g | ⟨g, g2⟩
          · exact .inl g
          · exact .inr ⟨g, by simp at g2; omega⟩) h1
      have rc := chS_range (show 0 ≤ b / 16 by omega) hc
      have rd' := chS_range (show 0 ≤ b % 16 by omega) hd
      refine ⟨c :: d :: cs, (b / 16) :: (b % 16) :: hs, by simp, mapO_cons_mk (halfS_chS (by omega) hc) (mapO_cons_mk (halfS_chS (by omega) hd) hm), ?_, ?_, ?_⟩
      · rw [padL_two]
        show (16 * (b / 16) + b % 16) :: pairs (padL hs) = b :: r
        rw [hp]; congr 1; omega
      · intro x hx
        simp only [List.mem_cons] at hx
        rcases hx with e1 | e1 | e1
        · omega
        · omega
        · exact hr x e1
      · rcases hcase with ⟨g, g2⟩ | ⟨g, g2⟩
        · refine .inl ⟨by simp; omega, fun j hj => ?_⟩
          match j, hj with
          | 0, _ => simpa using hz'
          | j + 1, hj =>
            have := g2 j (by simp at hj; omega)
            rw [← this]; congr 1; omega
        · refine .inr ⟨by simp; omega, ?_⟩
          rw [← g2]; congr 1
          have : 0 < r.length := by
            cases r with
            | nil => simp at g
            | cons _ _ => simp
          simp; omega
    · have hz' : fillS enc i n = 1 := by simpa using hz
      have hr0 : r = [] := by
        cases r with
        | nil => rfl
        | cons _ _ => simp at hl
      subst hr0
      obtain ⟨c, hc, h15, e⟩ := byteS_last_ok enc b i n he hz' h0
      rw [e] at h1
      simp only [unpS] at h1
      have rc := chS_range (show 0 ≤ b / 16 by omega) hc
      refine ⟨[c], [b / 16], (Prod.mk.inj h1).1.symm, mapO_cons_mk (halfS_chS (by omega) hc) rfl, ?_, ?_, .inr ⟨rfl, by simpa using hz'⟩⟩
      · show [16 * (b / 16) + 15] = [b]
        congr 1; omega
      · intro x hx; simp at hx; omega

/-! ### a character a byte -/
def wrdB (b : Int) : Bool := match rdS 4 b with | some c => decide (wr 4 c = some b) && (decide (0 ≤ c) && decide (c ≤ 255)) | none => true
theorem wrd4 : ∀ e : Fin 256, wrdB (e.val : Int) = true := by decide +kernel
theorem wr_rdS (enc b c : Int) (he : enc = 1 ∨ enc = 4 ∨ enc = 5) (h0 : 0 ≤ b) (h1 : b ≤ 255) (h : rdS enc b = some c) : wr enc c = some b ∧ 0 ≤ c ∧ c ≤ 255 := by
  rcases he with e | e | e
  · subst e
    unfold rdS at h
    unfold wr
    rw [if_neg (by decide)] at h
    by_cases c1 : (1 : Int) = 5 ∨ (32 ≤ b ∧ b ≤ 126)
    · rw [if_pos c1] at h
      injection h with e
      subst e
      rcases c1 with c1 | c1
      · exact absurd c1 (by decide)
      · rw [if_neg (by decide), if_neg (by omega), if_neg (by omega), if_neg (by decide)]
        exact ⟨rfl, h0, h1⟩
    · rw [if_neg c1] at h; cases h
  · subst e
    have h4 := wrd4 ⟨b.toNat, by omega⟩
    simp only [show ((b.toNat : Nat) : Int) = b by omega, wrdB, h, Bool.and_eq_true, decide_eq_true_eq] at h4
    exact h4
  · subst e
    unfold rdS at h
    unfold wr
    rw [if_neg (by decide), if_pos (.inl rfl)] at h
    injection h with e
    subst e
    rw [if_pos rfl]
    exact ⟨rfl, h0, h1⟩
theorem forms_one (enc n : Int) (he : enc = 1 ∨ enc = 4 ∨ enc = 5) : ∀ (bs : List Int), (∀ b ∈ bs, 0 ≤ b ∧ b ≤ 255) → ∀ (i : Int) (xs : List Int) (t : ByteArray) (p : Int), unpS enc n bs i xs = (t, 0, p) →
    ∃ cs, t = strOfNums (xs ++ cs) ∧ mapO (wr enc) cs = some bs ∧ (∀ c ∈ cs, 0 ≤ c ∧ c ≤ 255)
  | [], _, i, xs, t, p, h => by
    simp only [unpS] at h
    refine ⟨[], ?_, rfl, (fun c hc => by cases hc)⟩
    rw [List.append_nil]; exact (Prod.mk.inj h).1.symm
  | b :: r, hb, i, xs, t, p, h => by
    obtain ⟨h0, h1⟩ := unpS_ok h
    have hbb := hb b (by simp)
    rw [byteS_one enc b i n (by omega)] at h0 h1
    cases hc : rdS enc b with
    | none => rw [hc] at h0; exact absurd h0 (by simp)
    | some c =>
      rw [hc] at h1
      obtain ⟨hw, c0, c1⟩ := wr_rdS enc b c he hbb.1 hbb.2 hc
      obtain ⟨cs, rfl, hm, hr⟩ := forms_one enc n he r (fun x hx => hb x (by simp [hx])) (i + 1) (xs ++ [c]) t p h1
      refine ⟨c :: cs, by simp, mapO_cons_mk hw hm, ?_⟩
      intro x hx
      rcases List.mem_cons.1 hx with e | e
      · omega
      · exact hr x e

theorem nums_bytesK (l : List Int) (h : ∀ x ∈ l, 0 ≤ x ∧ x ≤ 255) : bytesOf (strOfNums l) = l := by
  unfold bytesOf
  rw [strOfNums_data, List.map_map]
  have : ∀ x ∈ l, ((fun b : UInt8 => (b.toNat : Int)) ∘ fun n : Int => UInt8.ofNat n.toNat) x = id x := by
    intro x hx
    have := h x hx
    simp
    omega
  rw [List.map_congr_left this, List.map_id]

/-- THE WAY BACK: what was unpacked of bytes is packed as these -/
theorem forms (enc : Int) (he : 1 ≤ enc ∧ enc ≤ 5) (n : Int) (hn : 0 ≤ n) (bs : List Int) (hb : ∀ b ∈ bs, 0 ≤ b ∧ b ≤ 255) (hl : ((bs.length : Nat) : Int) = widthS enc n) (t : ByteArray) (p : Int) (h : unpS enc n bs 0 [] = (t, 0, p)) :
    (t.size : Int) = n ∧ packS enc (bytesOf t) = (strOfNums bs, 0) := by
  obtain ⟨m, rfl⟩ := Int.eq_ofNat_of_zero_le hn
  unfold widthS at hl
  rw [if_neg (by omega)] at hl
  by_cases h23 : enc = 2 ∨ enc = 3
  · rw [if_pos h23] at hl
    unfold packS
    rw [if_pos h23]
    unfold halfPackS
    by_cases hz : enc = 2 ∧ m % 2 = 1
    · obtain ⟨g1, g2⟩ := hz
      match bs, hb, hl, h with
      | [], hb, hl, h => simp at hl; omega
      | b :: r, hb, hl, h =>
        have hodd := (odd_tmod m).2 g2
        have hf : fillS enc 0 (m : Int) = 0 := by unfold fillS; rw [if_pos ⟨hodd, g1, rfl⟩]
        obtain ⟨h0, h1⟩ := unpS_ok h
        obtain ⟨c, hc, hz0, e⟩ := byteS_first_ok enc b 0 m h23 hf h0
        have hbb := hb b (by simp)
        rw [e] at h1
        obtain ⟨cs, hs, rfl, hm, hp, hr, hcase⟩ := forms_pairs enc m h23 r (fun x hx => hb x (by simp [hx])) (0 + 1) ([] ++ [c]) t p
          (fun j hj => .inl (fill_none _ _ _ (fun h => by omega) (fun h => by omega))) h1
        have rc := chS_range (show 0 ≤ b % 16 by omega) hc
        have hcl : cs.length = 2 * r.length := by
          rcases hcase with ⟨g, _⟩ | ⟨_, g⟩
          · exact g
          · exfalso
            unfold fillS at g
            rw [if_neg (by omega), if_neg (by omega)] at g
            exact absurd g (by decide)
        have hrg : ∀ x ∈ ([] ++ [c] ++ cs : List Int), 0 ≤ x ∧ x ≤ 255 := by
          intro x hx
          simp only [List.nil_append, List.mem_append, List.mem_singleton] at hx
          rcases hx with e1 | e1
          · omega
          · exact hr x e1
        refine ⟨by rw [strOfNums_size]; simp at hl ⊢; omega, ?_⟩
        rw [nums_bytesK _ hrg]
        have hlen : ([] ++ [c] ++ cs : List Int).length % 2 = 1 := by simp; omega
        rw [if_pos ⟨g1, hlen⟩]
        have hm2 : mapO halfS ([] ++ [c] ++ cs) = some ((b % 16) :: hs) := mapO_cons_mk (halfS_chS (by omega) hc) hm
        rw [hm2]
        show (strOfNums (pairs (padL (0 :: (b % 16) :: hs))), 0) = _
        rw [padL_two]
        show (strOfNums ((16 * 0 + b % 16) :: pairs (padL hs)), 0) = _
        rw [hp, show 16 * 0 + b % 16 = b by omega]
    · have h2 : ¬ (Int.tmod (m : Int) 2 = 1 ∧ enc = 2) := fun g => hz ⟨g.2, (odd_tmod m).1 g.1⟩
      obtain ⟨cs, hs, rfl, hm, hp, hr, hcase⟩ := forms_pairs enc m h23 bs hb 0 [] t p
        (fun j hj => by
          by_cases g : Int.tmod (m : Int) 2 = 1 ∧ enc = 3 ∧ (0 + (j : Int)) = Int.tdiv (m : Int) 2
          · right
            refine ⟨by unfold fillS; rw [if_neg (fun q => h2 ⟨q.1, q.2.1⟩), if_pos g], ?_⟩
            have g1 := (odd_tmod m).1 g.1
            have g3 := g.2.2
            rw [half_tdiv] at g3
            omega
          · left
            exact fill_none _ _ _ (fun q => h2 ⟨q.1, q.2.1⟩) g) h
      have hcl : cs.length = m := by
        rcases hcase with ⟨g, g2⟩ | ⟨g, g2⟩
        · by_cases ho : m % 2 = 1
          · exfalso
            have g3 : enc = 3 := by
              rcases h23 with e | e
              · exact absurd ⟨e, ho⟩ hz
              · exact e
            have := g2 (m / 2) (by omega)
            unfold fillS at this
            rw [if_neg (fun q => h2 ⟨q.1, q.2.1⟩), if_pos ⟨(odd_tmod m).2 ho, g3, by rw [half_tdiv]; omega⟩] at this
            exact absurd this (by decide)
          · omega
        · have ho : Int.tmod (m : Int) 2 = 1 := by
            unfold fillS at g2
            rw [if_neg (fun q => h2 ⟨q.1, q.2.1⟩)] at g2
            by_cases q : Int.tmod (m : Int) 2 = 1 ∧ enc = 3 ∧ (0 + ((bs.length - 1 : Nat) : Int)) = Int.tdiv (m : Int) 2
            · exact q.1
            · rw [if_neg q] at g2; exact absurd g2 (by decide)
          have := (odd_tmod m).1 ho
          omega
      refine ⟨by rw [strOfNums_size]; simp; omega, ?_⟩
      rw [List.nil_append, nums_bytesK _ hr, if_neg (by rintro ⟨g1, g2⟩; exact hz ⟨g1, by omega⟩), hm]
      show (strOfNums (pairs (padL ([] ++ hs))), 0) = _
      rw [List.nil_append, hp]
  · have h145 : enc = 1 ∨ enc = 4 ∨ enc = 5 := by omega
    rw [if_neg h23, if_pos h145] at hl
    obtain ⟨cs, rfl, hm, hr⟩ := forms_one enc m h145 bs hb 0 [] t p h
    have hcl := mapO_length hm
    refine ⟨by rw [strOfNums_size]; simp; omega, ?_⟩
    rw [List.nil_append, nums_bytesK _ hr]
    unfold packS
    rw [if_neg h23, if_pos h145, hm]
    rfl

/-! ### where bytes are wrong -/
theorem byteS_err (enc b i n : Int) : (byteS enc b i n).2 = 0 ∨ (byteS enc b i n).2 = 11 ∨ (byteS enc b i n).2 = 12 := by
  unfold byteS
  split
  · split
    · split
      · simp
      · simp only; split <;> simp
    · split
      · split
        · simp
        · simp only; split <;> simp
      · split
        · simp
        · split <;> simp
  · split <;> simp
theorem unpS_err (enc n : Int) : ∀ (bs : List Int) (i : Int) (xs : List Int), (unpS enc n bs i xs).2.1 ≠ 0 →
    ∃ q : Nat, q < bs.length ∧ unpS enc n bs i xs = ((⟨#[]⟩ : ByteArray), (byteS enc (bs.getD q 0) (i + q) n).2, i + q) ∧ (byteS enc (bs.getD q 0) (i + q) n).2 ≠ 0 ∧ ∀ j : Nat, j < q → (byteS enc (bs.getD j 0) (i + j) n).2 = 0
  | [], i, xs, h => absurd rfl h
  | b :: r, i, xs, h => by
    simp only [unpS] at h ⊢
    by_cases h0 : (byteS enc b i n).2 = 0
    · rw [if_pos h0] at h ⊢
      obtain ⟨q, hq, he, hne, hj⟩ := unpS_err enc n r (i + 1) (xs ++ (byteS enc b i n).1) h
      have e1 : i + 1 + (q : Int) = i + ((q + 1 : Nat) : Int) := by omega
      rw [e1] at he hne
      refine ⟨q + 1, by simp; omega, he, hne, ?_⟩
      intro j hjq
      match j, hjq with
      | 0, _ => simpa using h0
      | j + 1, hjq =>
        have := hj j (by omega)
        rw [show i + 1 + (j : Int) = i + ((j + 1 : Nat) : Int) by omega] at this
        exact this
    · rw [if_neg h0]
      exact ⟨0, by simp, by simp, by simpa using h0, fun j hj => by omega⟩
/-- where the bytes up to place q are right, what is wrong stands behind it -/
theorem unpS_right (enc n : Int) : ∀ (bs : List Int) (i : Int) (xs : List Int) (q : Nat), q < bs.length → (∀ j : Nat, j ≤ q → (byteS enc (bs.getD j 0) (i + j) n).2 = 0) → (unpS enc n bs i xs).2.1 = 0 ∨ (unpS enc n bs i xs).2.2 > i + q := by
  intro bs i xs q hq hj
  by_cases h : (unpS enc n bs i xs).2.1 = 0
  · exact .inl h
  · right
    obtain ⟨p, _, he, hne, _⟩ := unpS_err enc n bs i xs h
    rw [he]
    show i + (p : Int) > i + q
    by_cases hp : p ≤ q
    · exact absurd (hj p hp) hne
    · omega
end Go.Proofs.Ytlpamhffpgoebaa.Pure
