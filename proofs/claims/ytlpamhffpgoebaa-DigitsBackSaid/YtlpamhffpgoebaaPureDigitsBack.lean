/- DigitsBack of the package turnstilelaw1: of every integer and every two texts: what digits.Pack makes of fitting characters digits.Unpack reads back, whatever stands behind; it has its width; one byte less is too short. No condition. -/
import Derived.Test.YtlpamhffpgoebaaAx60
import Derived.Test.YtlpamhffpgoebaaPj
namespace Go.Proofs.Ytlpamhffpgoebaa.Pure
open Go.RowKit Go.Proofs.Ytlpamhffpgoebaa.All Go.Proofs.YtlpamhffpgoebaaW.PrintWords Go.Proofs.YtlpamhffpgoebaaW.PrintLast Go.Proofs.YtlpamhffpgoebaaW.PrintMore

set_option linter.unusedVariables false
theorem pick5 (c : Int) (h : -9223372036854775808 ≤ c ∧ c ≤ 9223372036854775807) : ∃ r, turnstilelaw1_pick.f c 5 = some r ∧ 0 ≤ r ∧ r < 5 := by
  unfold turnstilelaw1_pick.f
  by_cases hc : c < 0
  · rw [if_pos hc, if_neg (by decide), w64 (by omega : -9223372036854775808 ≤ c + 1 ∧ c + 1 ≤ 9223372036854775807), w64 (by omega)]
    refine ⟨_, rfl, ?_⟩
    rw [Int.tmod_eq_emod_of_nonneg (by omega)]
    omega
  · rw [if_neg hc, if_neg (by decide)]
    refine ⟨_, rfl, ?_⟩
    rw [Int.tmod_eq_emod_of_nonneg (by omega)]
    omega
theorem nums_bytes (l : List Int) (h : ∀ x ∈ l, 0 ≤ x ∧ x ≤ 255) : bytesOf (strOfNums l) = l := by
  unfold bytesOf
  rw [strOfNums_data, List.map_map]
  have : ∀ x ∈ l, ((fun b : UInt8 => (b.toNat : Int)) ∘ fun n : Int => UInt8.ofNat n.toNat) x = id x := by
    intro x hx
    have := h x hx
    simp
    omega
  rw [List.map_congr_left this, List.map_id]
theorem bytes_nums (s : ByteArray) : strOfNums (bytesOf s) = s := by
  apply ByteArray.ext
  apply Array.ext'
  rw [strOfNums_data]
  unfold bytesOf
  rw [List.map_map]
  have : ∀ x ∈ s.data.toList, ((fun n : Int => UInt8.ofNat n.toNat) ∘ fun b : UInt8 => (b.toNat : Int)) x = id x := by
    intro x _
    simp
  rw [List.map_congr_left this, List.map_id]

def cset : ByteArray := ⟨#[48, 49, 50, 51, 52, 53, 54, 55, 56, 57, 61]⟩
/-- a fitting character -/
def fitC (enc x : Int) : Int := if enc = 2 ∨ enc = 3 then bt cset (x % 11) else 32 + x % 95
theorem fit_half : ∀ e : Fin 256, (halfS (bt cset ((e.val : Int) % 11))).isSome = true := by decide +kernel
theorem fit_one : ∀ e : Fin 95, (wr 1 (32 + (e.val : Int))).isSome = true ∧ (wr 4 (32 + (e.val : Int))).isSome = true := by decide +kernel
theorem fit_range (enc x : Int) (h0 : 0 ≤ x) : 0 ≤ fitC enc x ∧ fitC enc x ≤ 255 := by
  unfold fitC
  split
  · exact bt_range _ _
  · omega
theorem fit_packs (enc : Int) (he : 1 ≤ enc ∧ enc ≤ 4) : ∀ l : List Int, (∀ x ∈ l, 0 ≤ x ∧ x ≤ 255) → (packS enc (l.map (fitC enc))).2 = 0 := by
  intro l hl
  unfold packS
  by_cases h23 : enc = 2 ∨ enc = 3
  · rw [if_pos h23]
    have : ∃ hs, mapO halfS (l.map (fitC enc)) = some hs := by
      induction l with
      | nil => exact ⟨[], rfl⟩
      | cons x r ih =>
        obtain ⟨hs, hr⟩ := ih (fun y hy => hl y (by simp [hy]))
        have hx := hl x (by simp)
        have h := fit_half ⟨x.toNat, by omega⟩
        simp only [show ((x.toNat : Nat) : Int) = x by omega] at h
        obtain ⟨v, hv⟩ := Option.isSome_iff_exists.1 h
        refine ⟨v :: hs, mapO_cons_mk ?_ hr⟩
        unfold fitC
        rw [if_pos h23]
        exact hv
    obtain ⟨hs, h⟩ := this
    unfold halfPackS
    rw [h]
    rfl
  · rw [if_neg h23, if_pos (by omega)]
    have : ∃ vs, mapO (wr enc) (l.map (fitC enc)) = some vs := by
      induction l with
      | nil => exact ⟨[], rfl⟩
      | cons x r ih =>
        obtain ⟨hs, hr⟩ := ih (fun y hy => hl y (by simp [hy]))
        have hx := hl x (by simp)
        have h := fit_one ⟨(x % 95).toNat, by omega⟩
        simp only [show (((x % 95).toNat : Nat) : Int) = x % 95 by omega] at h
        have h2 : (wr enc (32 + x % 95)).isSome = true := by
          have : enc = 1 ∨ enc = 4 := by omega
          rcases this with e | e <;> subst e
          · exact h.1
          · exact h.2
        obtain ⟨v, hv⟩ := Option.isSome_iff_exists.1 h2
        refine ⟨v :: hs, mapO_cons_mk ?_ hr⟩
        unfold fitC
        rw [if_neg h23]
        exact hv
    obtain ⟨vs, h⟩ := this
    rw [h]
    rfl
theorem bin_packs (l : List Int) : (packS 5 l).2 = 0 := by
  unfold packS
  rw [if_neg (by decide), if_pos (by decide)]
  have : mapO (wr 5) l = some l := by
    induction l with
    | nil => rfl
    | cons x r ih => exact mapO_cons_mk rfl ih
  rw [this]
  rfl

theorem fitted_l0 (enc : Int) (he : 1 ≤ enc ∧ enc ≤ 4) (s : ByteArray) (hs : s.size ≤ 140737488355300) : ∀ (d i : Nat) (xs : List Int), i + d = s.size → xs.length = i →
    Ev (fun k => turnstilelaw1_fitted.l0 k s enc xs (i : Int)) (enc, strOfNums (xs ++ ((bytesOf s).drop i).map (fitC enc))) := by
  intro d
  induction d with
  | zero =>
    intro i xs hi hx
    rw [dropAll s i (by omega)]
    refine Ev.step (f := fun _ => some (enc, strOfNums (xs ++ ([] : List Int).map (fitC enc)))) (fun k => ?_) (Ev.now _)
    simp only [turnstilelaw1_fitted.l0]; rw [if_neg (by omega)]; simp
  | succ d ih =>
    intro i xs hi hx
    rw [dropBt s i (by omega)]
    have b0 := bt_lo s i
    have b1 := bt_hi s i
    have q1 : (i : Int) < (s.size : Int) := by omega
    have q2 : (0 : Int) ≤ (i : Int) := by omega
    have q3 : xs.length < 140737488355328 := by omega
    have e11 : Int.tmod (bt s (i : Int)) 11 = bt s (i : Int) % 11 := Int.tmod_eq_emod_of_nonneg b0
    have e95 : Int.tmod (bt s (i : Int)) 95 = bt s (i : Int) % 95 := Int.tmod_eq_emod_of_nonneg b0
    have h := ih (i + 1) (xs ++ [fitC enc (bt s (i : Int))]) (by omega) (by simp [hx])
    have er : xs ++ (bt s (i : Int) :: (bytesOf s).drop (i + 1)).map (fitC enc) = (xs ++ [fitC enc (bt s (i : Int))]) ++ ((bytesOf s).drop (i + 1)).map (fitC enc) := by simp
    rw [er]
    refine Ev.step (fun k => ?_) h
    simp only [turnstilelaw1_fitted.l0]
    rw [if_pos q1, if_pos q2, e11, e95, w64 (by omega : -9223372036854775808 ≤ (i : Int) + 1 ∧ (i : Int) + 1 ≤ 9223372036854775807)]
    by_cases c2 : enc = 2
    · rw [if_pos c2, if_pos (by omega), if_pos (by omega), if_pos q3]
      have : fitC enc (bt s (i : Int)) = bt cset (bt s (i : Int) % 11) := by unfold fitC; rw [if_pos (.inl c2)]
      rw [this]; rfl
    · rw [if_neg c2]
      by_cases c3 : enc = 3
      · rw [if_pos c3, if_pos (by omega), if_pos (by omega), if_pos q3]
        have : fitC enc (bt s (i : Int)) = bt cset (bt s (i : Int) % 11) := by unfold fitC; rw [if_pos (.inr c3)]
        rw [this]; rfl
      · rw [if_neg c3, if_pos q3]
        have : fitC enc (bt s (i : Int)) = (32 + bt s (i : Int) % 95) % 256 := by unfold fitC; rw [if_neg (by omega)]; omega
        rw [this]; rfl
/-- an encoding, and characters of it -/
theorem fitted_is (raw : Int) (hr : -9223372036854775808 ≤ raw ∧ raw ≤ 9223372036854775807) (s : ByteArray) (hs : s.size ≤ 140737488351232) :
    ∃ enc t, 1 ≤ enc ∧ enc ≤ 5 ∧ Ev (fun k => turnstilelaw1_fitted.f k raw s) (enc, t) ∧ t.size = s.size ∧ (packS enc (bytesOf t)).2 = 0 := by
  obtain ⟨p, hp, p0, p5⟩ := pick5 raw hr
  have ew : wrap64 (1 + p) = 1 + p := w64 (by omega)
  by_cases c5 : 1 + p = 5
  · refine ⟨5, s, by decide, by decide, ?_, rfl, bin_packs _⟩
    refine ev_some fun k => ?_
    unfold turnstilelaw1_fitted.f
    rw [hp, Option.bind_some, ew, if_pos c5, c5]
  · have hrg : ∀ x ∈ (bytesOf s).map (fitC (1 + p)), 0 ≤ x ∧ x ≤ 255 := by
      intro x hx
      obtain ⟨y, hy, rfl⟩ := List.mem_map.1 hx
      exact fit_range _ _ (bytesRange s y hy).1
    refine ⟨1 + p, strOfNums ((bytesOf s).map (fitC (1 + p))), by omega, by omega, ?_, ?_, ?_⟩
    · have h := fitted_l0 (1 + p) (by omega) s (by omega) s.size 0 [] (by omega) rfl
      refine Ev.congr (fun k => ?_) h
      unfold turnstilelaw1_fitted.f
      rw [hp, Option.bind_some, ew, if_neg c5]
      rfl
    · rw [strOfNums_size, List.length_map, bytesOf_length]
    · rw [nums_bytes _ hrg]
      exact fit_packs _ (by omega) _ (bytesRange s)

theorem take_app (b c : ByteArray) : (bytesOf (b ++ c)).take b.size = bytesOf b := by
  have h : (b ++ c).data.toList = b.data.toList ++ c.data.toList := by simp
  unfold bytesOf
  rw [h, List.map_append, List.take_append_of_le_length (by rw [List.length_map, data_length]; omega), List.take_of_length_le (by rw [List.length_map, data_length]; omega)]

theorem DigitsBack : turnstilelaw1_DigitsBack.Pure := by
  intro raw s z hr hs hz
  refine Ev.rounds (?_ : Ev (fun k => turnstilelaw1_DigitsBack.f k raw s z) true)
  unfold turnstilelaw1_DigitsBack.f
  obtain ⟨enc, t, e1, e5, hf, ht, hp⟩ := fitted_is raw (wf64 hr) s hs
  have htb : (bytesOf t).length = t.size := bytesOf_length t
  obtain ⟨bs, hpk, hbr, hbl, hun⟩ := back enc ⟨e1, e5⟩ (bytesOf t) (bytesRange t) hp
  have hbsz : (strOfNums bs).size = bs.length := strOfNums_size bs
  rw [htb] at hbl hun
  have hw5 : ((bs.length : Nat) : Int) ≤ t.size := by
    rw [hbl]; unfold widthS; split; omega; split; omega; split <;> omega
  have hw23 : enc = 2 ∨ enc = 3 → widthS enc (t.size : Int) ≤ 70368744177600 := by
    intro h; unfold widthS; rw [if_neg (by omega), if_pos h]; omega
  have happ : (strOfNums bs ++ z).size = bs.length + z.size := by rw [ByteArray.size_append, hbsz]
  have hu1 : Ev (fun k => digits_Unpack.f k enc (strOfNums bs ++ z) (t.size : Int)) (strOfNums (bytesOf t), 0, 0) := by
    have h := unpack_is' enc (strOfNums bs ++ z) (t.size : Int) (by omega) (by omega) (.inr ⟨by omega, hw23⟩)
    have e : unpackS enc (strOfNums bs ++ z) (t.size : Int) = (strOfNums (bytesOf t), 0, 0) := by
      unfold unpackS
      rw [if_neg (by omega), if_neg (by omega), ← hbl]
      have : (((bs.length : Nat) : Int)).toNat = (strOfNums bs).size := by omega
      rw [this, take_app, nums_bytes bs hbr]
      exact hun
    rw [e] at h
    exact h
  rw [bytes_nums] at hu1
  refine evb hf ?_
  refine evb (pack_is enc t (by omega)) ?_
  rw [hpk]
  refine Ev.congr (fun k => if_pos (show (strOfNums bs).size + z.size ≤ 9223372036854775807 by omega)) ?_
  refine evb hu1 ?_
  have hwd := width_is enc (t.size : Int) (by omega)
  refine Ev.congr (f := fun k => turnstilelaw1_DigitsBack.j0 k enc t (strOfNums bs) false) (fun k => ?_) ?_
  · simp only [if_true]
    rw [hwd, Option.bind_some]
    have : (((strOfNums bs).size : Int) != widthS enc (t.size : Int)) = false := by rw [hbsz, hbl]; simp
    rw [this]
  · by_cases h0 : bs.length = 0
    · refine Ev.step (f := fun _ => some true) (fun k => ?_) (Ev.now _)
      simp only [turnstilelaw1_DigitsBack.j0]
      rw [if_neg (by decide), if_pos (by omega)]
    · have ew : wrap64 (((strOfNums bs).size : Int) - 1) = ((bs.length - 1 : Nat) : Int) := by rw [w64 (by omega)]; omega
      have esz : ((strOfNums bs).extract 0 (((bs.length - 1 : Nat) : Int)).toNat).size = bs.length - 1 := by rw [ByteArray.size_extract]; omega
      have hu2 : Ev (fun k => digits_Unpack.f k enc ((strOfNums bs).extract 0 (((bs.length - 1 : Nat) : Int)).toNat) (t.size : Int)) ((⟨#[]⟩ : ByteArray), 10, ((bs.length - 1 : Nat) : Int)) := by
        have h := unpack_is' enc ((strOfNums bs).extract 0 (((bs.length - 1 : Nat) : Int)).toNat) (t.size : Int) (by omega) (by omega) (.inl (by omega))
        have e : unpackS enc ((strOfNums bs).extract 0 (((bs.length - 1 : Nat) : Int)).toNat) (t.size : Int) = ((⟨#[]⟩ : ByteArray), 10, ((bs.length - 1 : Nat) : Int)) := by
          unfold unpackS
          rw [if_neg (by omega), if_pos (by omega), esz]
        rw [e] at h
        exact h
      refine Ev.step (f := fun k => (digits_Unpack.f k enc ((strOfNums bs).extract 0 (((bs.length - 1 : Nat) : Int)).toNat) (t.size : Int)).bind fun b => (if b.1.toList = ([] : List UInt8) then (if b.2.1 = 10 then (some (b.2.2 == ((bs.length - 1 : Nat) : Int))) else (some false)) else (some false))) (fun k => ?_) (evb hu2 (ev_some fun k => ?_))
      · simp only [turnstilelaw1_DigitsBack.j0]
        rw [if_neg (by decide), if_neg (by omega), ew, if_pos (by omega), if_pos (by omega)]
      · have e0 : (⟨#[]⟩ : ByteArray).toList = ([] : List UInt8) := by rw [ByteArray.toList_eq]
        simp [e0]
end Go.Proofs.Ytlpamhffpgoebaa.Pure
