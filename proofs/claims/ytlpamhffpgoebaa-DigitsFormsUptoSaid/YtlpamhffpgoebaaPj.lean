/- Plain laws on the plain functions of Pack and Unpack: what was packed is unpacked; what was unpacked is packed as the bytes that were read. No program in sight but for the tables' words. -/
import Derived.Test.YtlpamhffpgoebaaPg
namespace Go.Proofs.Ytlpamhffpgoebaa.Pure
open Go.RowKit Go.Proofs.Ytlpamhffpgoebaa.All Go.Proofs.YtlpamhffpgoebaaW.PrintWords Go.Proofs.YtlpamhffpgoebaaW.PrintLast Go.Proofs.YtlpamhffpgoebaaW.PrintMore

/-! ### halves and characters -/
theorem chS_halfS {c h : Int} (hc : halfS c = some h) : chS h = some c := by
  unfold halfS at hc
  unfold chS
  by_cases c1 : c = 61
  · rw [if_pos c1] at hc; injection hc with e; subst e; rw [if_pos rfl, c1]
  · rw [if_neg c1] at hc
    by_cases c2 : c < 48
    · rw [if_pos c2] at hc; cases hc
    · rw [if_neg c2] at hc
      by_cases c3 : c > 57
      · rw [if_pos c3] at hc; cases hc
      · rw [if_neg c3] at hc
        injection hc with e
        rw [if_neg (by omega), if_pos (by omega)]
        congr 1; omega
theorem halfS_chS {c h : Int} (h0 : 0 ≤ h) (hc : chS h = some c) : halfS c = some h := by
  unfold chS at hc
  unfold halfS
  by_cases c1 : h = 13
  · rw [if_pos c1] at hc; injection hc with e; subst e; rw [if_pos rfl, c1]
  · rw [if_neg c1] at hc
    by_cases c2 : h ≤ 9
    · rw [if_pos c2] at hc; injection hc with e
      rw [if_neg (by omega), if_neg (by omega), if_neg (by omega)]
      congr 1; omega
    · rw [if_neg c2] at hc; cases hc
theorem mapO_cons_some {f : Int → Option Int} {c : Int} {r hs : List Int} (h : mapO f (c :: r) = some hs) : ∃ v vs, f c = some v ∧ mapO f r = some vs ∧ hs = v :: vs := by
  simp only [mapO] at h
  cases hc : f c with
  | none => rw [hc] at h; cases h
  | some v =>
    rw [hc] at h
    simp only [Option.bind_some] at h
    cases hr : mapO f r with
    | none => rw [hr] at h; cases h
    | some vs =>
      rw [hr] at h
      simp only [Option.map_some, Option.some.injEq] at h
      exact ⟨v, vs, rfl, rfl, h.symm⟩
theorem mapO_cons_mk {f : Int → Option Int} {c v : Int} {r vs : List Int} (h : f c = some v) (hr : mapO f r = some vs) : mapO f (c :: r) = some (v :: vs) := by
  simp only [mapO, h, Option.bind_some, hr, Option.map_some]
theorem mapO_length {f : Int → Option Int} : ∀ {cs hs : List Int}, mapO f cs = some hs → hs.length = cs.length
  | [], hs, h => by simp [mapO] at h; subst h; rfl
  | c :: r, hs, h => by
    obtain ⟨v, vs, _, hr, rfl⟩ := mapO_cons_some h
    simp [mapO_length hr]
theorem padL_two (a b : Int) (l : List Int) : padL (a :: b :: l) = a :: b :: padL l := by
  unfold padL
  by_cases h : l.length % 2 = 1
  · rw [if_pos (by simp; omega), if_pos h]; rfl
  · rw [if_neg (by simp; omega), if_neg h]
theorem byteS_both (enc i n a b c d : Int) (he : enc = 2 ∨ enc = 3) (hf : fillS enc i n = -1) (hb : 0 ≤ b ∧ b < 16) (hc : chS a = some c) (hd : chS b = some d) : byteS enc (16 * a + b) i n = ([c, d], 0) := by
  unfold byteS
  rw [if_pos he, if_neg (by omega), if_neg (by omega), show (16 * a + b) / 16 = a by omega, show (16 * a + b) % 16 = b by omega, hc, hd]
theorem byteS_first (enc i n b d : Int) (he : enc = 2 ∨ enc = 3) (hf : fillS enc i n = 0) (hb : 0 ≤ b ∧ b < 16) (hd : chS b = some d) : byteS enc (16 * 0 + b) i n = ([d], 0) := by
  unfold byteS
  rw [if_pos he, if_pos hf, show (16 * 0 + b) % 16 = b by omega, show (16 * 0 + b) / 16 = 0 by omega, hd]
  rfl
theorem byteS_last (enc i n a c : Int) (he : enc = 2 ∨ enc = 3) (hf : fillS enc i n = 1) (hc : chS a = some c) : byteS enc (16 * a + 15) i n = ([c], 0) := by
  unfold byteS
  rw [if_pos he, if_neg (by omega), if_pos hf, show (16 * a + 15) % 16 = 15 by omega, show (16 * a + 15) / 16 = a by omega, hc]
  rfl

/-! ### what was packed is unpacked -/
theorem back_pairs (enc n : Int) (he : enc = 2 ∨ enc = 3) : ∀ (m : Nat) (cs hs : List Int), cs.length ≤ m → mapO halfS cs = some hs → ∀ (i : Int) (xs : List Int),
    (∀ j : Nat, j < cs.length / 2 → fillS enc (i + j) n = -1) → (cs.length % 2 = 1 → fillS enc (i + (cs.length / 2 : Nat)) n = 1) → unpS enc n (pairs (padL hs)) i xs = (strOfNums (xs ++ cs), 0, 0) := by
  intro m
  induction m using Nat.strongRecOn with
  | _ m ih =>
  intro cs hs hm h i xs hf hl
  match cs, hm, h, hf, hl with
  | [], hm, h, hf, hl =>
    simp [mapO] at h
    subst h
    simp [padL, pairs, unpS]
  | [c], hm, h, hf, hl =>
    obtain ⟨v, vs, hv, hr, rfl⟩ := mapO_cons_some h
    simp [mapO] at hr
    subst hr
    have e : pairs (padL [v]) = [16 * v + 15] := rfl
    rw [e]
    have hf1 : fillS enc i n = 1 := by have := hl rfl; simpa using this
    simp only [unpS]
    rw [byteS_last enc i n v c he hf1 (chS_halfS hv), if_pos rfl]
  | c :: d :: r, hm, h, hf, hl =>
    obtain ⟨v, vs, hv, hr, rfl⟩ := mapO_cons_some h
    obtain ⟨u, us, hu, hr2, rfl⟩ := mapO_cons_some hr
    rw [padL_two]
    have e : pairs (v :: u :: padL us) = (16 * v + u) :: pairs (padL us) := rfl
    rw [e]
    have hf1 : fillS enc i n = -1 := by have := hf 0 (by simp); simpa using this
    simp only [unpS]
    rw [byteS_both enc i n v u c d he hf1 (halfS_range hu) (chS_halfS hv) (chS_halfS hu), if_pos rfl]
    have hd : (c :: d :: r).length / 2 = r.length / 2 + 1 := by simp; omega
    rw [ih (m - 1) (by simp at hm; omega) r us (by simp at hm; omega) hr2 (i + 1) (xs ++ [c, d])
      (fun j hj => by have := hf (j + 1) (by omega); rw [← this]; congr 1; omega)
      (fun ho => by have := hl (by simp; omega); rw [hd] at this; rw [← this]; congr 1; omega)]
    simp

theorem fill_none (enc i n : Int) (h : ¬ (Int.tmod n 2 = 1 ∧ enc = 2 ∧ i = 0)) (h2 : ¬ (Int.tmod n 2 = 1 ∧ enc = 3 ∧ i = Int.tdiv n 2)) : fillS enc i n = -1 := by
  unfold fillS; rw [if_neg h, if_neg h2]
theorem odd_tmod (m : Nat) : Int.tmod (m : Int) 2 = 1 ↔ m % 2 = 1 := by
  rw [Int.tmod_eq_emod_of_nonneg (by omega)]; omega
theorem half_tdiv (m : Nat) : Int.tdiv (m : Int) 2 = ((m / 2 : Nat) : Int) := by
  rw [Int.tdiv_eq_ediv_of_nonneg (by omega)]; omega

/-- the bytes of characters of BCD and BCDR -/
def halfBytes (enc : Int) (cs hs : List Int) : List Int := pairs (padL ((if enc = 2 ∧ cs.length % 2 = 1 then [0] else []) ++ hs))
theorem back_half (enc : Int) (he : enc = 2 ∨ enc = 3) (cs hs : List Int) (h : mapO halfS cs = some hs) : unpS enc (cs.length : Int) (halfBytes enc cs hs) 0 [] = (strOfNums cs, 0, 0) := by
  unfold halfBytes
  by_cases h2 : enc = 2 ∧ cs.length % 2 = 1
  · rw [if_pos h2]
    obtain ⟨g1, g2⟩ := h2
    match cs, h, g2 with
    | c :: r, h, g2 =>
      obtain ⟨v, vs, hv, hr, rfl⟩ := mapO_cons_some h
      have hrl : r.length % 2 = 0 := by simp at g2; omega
      show unpS enc ((c :: r).length : Int) (pairs (padL (0 :: v :: vs))) 0 [] = _
      rw [padL_two]
      have e : pairs (0 :: v :: padL vs) = (16 * 0 + v) :: pairs (padL vs) := rfl
      rw [e]
      have hodd : Int.tmod ((c :: r).length : Int) 2 = 1 := (odd_tmod _).2 g2
      have hf : fillS enc 0 ((c :: r).length : Int) = 0 := by unfold fillS; rw [if_pos ⟨hodd, g1, rfl⟩]
      simp only [unpS]
      rw [byteS_first enc 0 _ v c he hf (halfS_range hv) (chS_halfS hv), if_pos rfl]
      rw [back_pairs enc _ he r.length r vs (Nat.le_refl _) hr (0 + 1) ([] ++ [c])
        (fun j hj => fill_none _ _ _ (fun h => by omega) (fun h => by omega)) (fun ho => by omega)]
      rfl
  · rw [if_neg h2, List.nil_append]
    rw [back_pairs enc _ he cs.length cs hs (Nat.le_refl _) h 0 []
      (fun j hj => fill_none _ _ _ (fun h => h2 ⟨h.2.1, (odd_tmod _).1 h.1⟩) (fun h => by have := half_tdiv cs.length; omega))
      (fun ho => by
        have g3 : enc = 3 := by
          rcases he with e | e
          · exact absurd ⟨e, ho⟩ h2
          · exact e
        unfold fillS
        rw [if_neg (fun h => by omega), if_pos ⟨(odd_tmod _).2 ho, g3, by rw [half_tdiv]; omega⟩])]
    rfl
theorem pairs_length : ∀ (m : Nat) (l : List Int), l.length ≤ m → (pairs l).length = l.length / 2 := by
  intro m
  induction m using Nat.strongRecOn with
  | _ m ih =>
  intro l hm
  match l, hm with
  | [], _ => rfl
  | [a], _ => simp [pairs]
  | a :: b :: r, hm =>
    simp only [pairs, List.length_cons]
    rw [ih (m - 1) (by simp at hm; omega) r (by simp at hm; omega)]
    omega
theorem halfBytes_length (enc : Int) (cs hs : List Int) (h : mapO halfS cs = some hs) : (halfBytes enc cs hs).length = cs.length / 2 + cs.length % 2 := by
  have hl := mapO_length h
  unfold halfBytes
  rw [pairs_length _ _ (Nat.le_refl _)]
  by_cases h2 : enc = 2 ∧ cs.length % 2 = 1
  · rw [if_pos h2]
    unfold padL
    split
    · simp at *; omega
    · simp at *; omega
  · rw [if_neg h2, List.nil_append]
    unfold padL
    split
    · simp; omega
    · omega
theorem pairs_range : ∀ (m : Nat) (l : List Int), l.length ≤ m → (∀ v ∈ l, 0 ≤ v ∧ v < 16) → ∀ x ∈ pairs l, 0 ≤ x ∧ x ≤ 255 := by
  intro m
  induction m using Nat.strongRecOn with
  | _ m ih =>
  intro l hm hr x hx
  match l, hm, hr, hx with
  | [], _, _, hx => cases hx
  | [a], _, _, hx => cases hx
  | a :: b :: r, hm, hr, hx =>
    simp only [pairs] at hx
    have ha := hr a (by simp)
    have hb := hr b (by simp)
    rcases List.mem_cons.1 hx with e | e
    · omega
    · exact ih (m - 1) (by simp at hm; omega) r (by simp at hm; omega) (fun v hv => hr v (by simp [hv])) x e
theorem halfBytes_range (enc : Int) (cs hs : List Int) (h : mapO halfS cs = some hs) : ∀ x ∈ halfBytes enc cs hs, 0 ≤ x ∧ x ≤ 255 := by
  unfold halfBytes
  refine pairs_range _ _ (Nat.le_refl _) (padL_range _ (fun v hv => ?_))
  rcases List.mem_append.1 hv with e | e
  · split at e
    · simp at e; omega
    · cases e
  · exact mapO_range cs hs h v e

/-! a character a byte -/
def rwB (c : Int) : Bool := match wr 4 c with | some v => decide (rdS 4 v = some c) && (decide (0 ≤ v) && decide (v ≤ 255)) | none => true
theorem rw4 : ∀ e : Fin 256, rwB (e.val : Int) = true := by decide +kernel
theorem rdS_wr (enc c v : Int) (he : enc = 1 ∨ enc = 4 ∨ enc = 5) (h0 : 0 ≤ c) (h1 : c ≤ 255) (h : wr enc c = some v) : rdS enc v = some c ∧ 0 ≤ v ∧ v ≤ 255 := by
  rcases he with e | e | e
  · subst e
    unfold wr at h
    unfold rdS
    rw [if_neg (by decide)] at h
    by_cases c1 : c < 32
    · rw [if_pos c1] at h; cases h
    · rw [if_neg c1] at h
      by_cases c2 : c > 126
      · rw [if_pos c2] at h; cases h
      · rw [if_neg c2, if_neg (by decide)] at h
        injection h with e
        subst e
        rw [if_neg (by decide), if_pos (.inr (by omega))]
        exact ⟨rfl, h0, h1⟩
  · subst e
    have h4 := rw4 ⟨c.toNat, by omega⟩
    simp only [show ((c.toNat : Nat) : Int) = c by omega, rwB, h, Bool.and_eq_true, decide_eq_true_eq] at h4
    exact h4
  · subst e
    unfold wr at h
    unfold rdS
    rw [if_pos rfl] at h
    injection h with e
    subst e
    rw [if_neg (by decide), if_pos (.inl rfl)]
    exact ⟨rfl, h0, h1⟩
theorem back_one (enc n : Int) (he : enc = 1 ∨ enc = 4 ∨ enc = 5) : ∀ (cs vs : List Int), (∀ c ∈ cs, 0 ≤ c ∧ c ≤ 255) → mapO (wr enc) cs = some vs → ∀ (i : Int) (xs : List Int), unpS enc n vs i xs = (strOfNums (xs ++ cs), 0, 0)
  | [], vs, _, h, i, xs => by simp [mapO] at h; subst h; simp [unpS]
  | c :: r, vs, hr, h, i, xs => by
    obtain ⟨v, us, hv, hr2, rfl⟩ := mapO_cons_some h
    have hc := hr c (by simp)
    have := rdS_wr enc c v he hc.1 hc.2 hv
    simp only [unpS]
    rw [byteS_one enc v i n (by omega), this.1]
    simp only [if_true]
    rw [back_one enc n he r us (fun x hx => hr x (by simp [hx])) hr2 (i + 1) (xs ++ [c])]
    simp
theorem wr_range (enc : Int) (he : enc = 1 ∨ enc = 4 ∨ enc = 5) : ∀ (cs vs : List Int), (∀ c ∈ cs, 0 ≤ c ∧ c ≤ 255) → mapO (wr enc) cs = some vs → ∀ v ∈ vs, 0 ≤ v ∧ v ≤ 255
  | [], vs, _, h, v, hv => by simp [mapO] at h; subst h; cases hv
  | c :: r, vs, hr, h, v, hv => by
    obtain ⟨u, us, hu, hr2, rfl⟩ := mapO_cons_some h
    have hc := hr c (by simp)
    rcases List.mem_cons.1 hv with e | e
    · subst e; exact (rdS_wr enc c _ he hc.1 hc.2 hu).2
    · exact wr_range enc he r us (fun x hx => hr x (by simp [hx])) hr2 v e

/-- THE ROUND: what was packed is unpacked, and has its width -/
theorem back (enc : Int) (he : 1 ≤ enc ∧ enc ≤ 5) (cs : List Int) (hr : ∀ c ∈ cs, 0 ≤ c ∧ c ≤ 255) (hp : (packS enc cs).2 = 0) :
    ∃ bs, packS enc cs = (strOfNums bs, 0) ∧ (∀ b ∈ bs, 0 ≤ b ∧ b ≤ 255) ∧ ((bs.length : Nat) : Int) = widthS enc (cs.length : Int) ∧ unpS enc (cs.length : Int) bs 0 [] = (strOfNums cs, 0, 0) := by
  unfold packS at hp ⊢
  by_cases h23 : enc = 2 ∨ enc = 3
  · rw [if_pos h23] at hp ⊢
    unfold halfPackS at hp ⊢
    cases h : mapO halfS cs with
    | none => rw [h] at hp; exact absurd hp (by simp [halfEnd])
    | some hs =>
      refine ⟨halfBytes enc cs hs, rfl, halfBytes_range enc cs hs h, ?_, back_half enc h23 cs hs h⟩
      rw [halfBytes_length enc cs hs h]
      unfold widthS
      rw [if_neg (by omega), if_pos h23]
      omega
  · rw [if_neg h23] at hp ⊢
    have h145 : enc = 1 ∨ enc = 4 ∨ enc = 5 := by omega
    rw [if_pos h145] at hp ⊢
    cases h : mapO (wr enc) cs with
    | none => rw [h] at hp; exact absurd hp (by simp [packEnd])
    | some vs =>
      refine ⟨vs, rfl, wr_range enc h145 cs vs hr h, ?_, back_one enc _ h145 cs vs hr h 0 []⟩
      rw [mapO_length h]
      unfold widthS
      rw [if_neg (by omega), if_neg h23, if_pos h145]
end Go.Proofs.Ytlpamhffpgoebaa.Pure
