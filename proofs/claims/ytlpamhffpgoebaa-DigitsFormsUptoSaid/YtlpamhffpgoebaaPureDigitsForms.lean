/- DigitsForms of the package turnstilelaw1, in the second form: of every integer, text and number of together at most 1048576 values and letters: what digits.Unpack reads of any bytes digits.Pack writes as these; a wrong byte stands where it is said, and nothing ahead of it is wrong. The condition is the bulk's bound (without it Unpack's own append dies in the model at numbers of characters near 2^48). -/
import Derived.Test.YtlpamhffpgoebaaAx62
import Derived.Test.YtlpamhffpgoebaaPk
namespace Go.Proofs.Ytlpamhffpgoebaa.Pure
open Go.RowKit Go.Proofs.Ytlpamhffpgoebaa.All Go.Proofs.YtlpamhffpgoebaaW.PrintWords Go.Proofs.YtlpamhffpgoebaaW.PrintLast Go.Proofs.YtlpamhffpgoebaaW.PrintMore
set_option linter.unusedVariables false
set_option linter.unusedSimpArgs false

theorem pick5 (c : Int) (h : -9223372036854775808 ≤ c ∧ c ≤ 9223372036854775807) : ∃ r, turnstilelaw1_pick.f c 5 = some r ∧ 0 ≤ r ∧ r < 5 := by
  unfold turnstilelaw1_pick.f
  by_cases hc : c < 0
  · rw [if_pos hc, if_neg (by decide), w64 (by omega : -9223372036854775808 ≤ c + 1 ∧ c + 1 ≤ 9223372036854775807), w64 (by omega)]
    refine ⟨_, rfl, ?_⟩
    rw [Int.tmod_eq_emod_of_nonneg (by omega)]
    omega
  · rw [if_neg hc, if_neg (by decide)]
    refine ⟨_, rfl, ?_⟩
    rw [Int.tmod_eq_emod_of_nonneg (by omega)]
    omega

/-- a byte that may stand at a place -/
def turnV (enc b i n : Int) : Int := if enc = 2 ∧ Int.tmod n 2 = 1 ∧ i = 0 then 5 else if enc = 3 ∧ Int.tmod n 2 = 1 ∧ i = Int.tdiv n 2 then 95 else if enc = 2 ∨ enc = 3 ∨ enc = 1 then 55 else if enc = 4 then 247 else b
theorem turnV_ok (enc b i n : Int) (he : 1 ≤ enc ∧ enc ≤ 5) : (byteS enc (turnV enc b i n) i n).2 = 0 := by
  unfold turnV
  by_cases c1 : enc = 2 ∧ Int.tmod n 2 = 1 ∧ i = 0
  · rw [if_pos c1]
    have hf : fillS enc i n = 0 := by unfold fillS; rw [if_pos ⟨c1.2.1, c1.1, c1.2.2⟩]
    have := byteS_first enc i n 5 53 (.inl c1.1) hf (by decide) (by decide)
    rw [show (16 * 0 + 5 : Int) = 5 by decide] at this
    rw [this]
  · rw [if_neg c1]
    by_cases c2 : enc = 3 ∧ Int.tmod n 2 = 1 ∧ i = Int.tdiv n 2
    · rw [if_pos c2]
      have hf : fillS enc i n = 1 := by unfold fillS; rw [if_neg (by omega), if_pos ⟨c2.2.1, c2.1, c2.2.2⟩]
      have := byteS_last enc i n 5 53 (.inr c2.1) hf (by decide)
      rw [show (16 * 5 + 15 : Int) = 95 by decide] at this
      rw [this]
    · rw [if_neg c2]
      by_cases h23 : enc = 2 ∨ enc = 3
      · rw [if_pos (by omega)]
        have hf : fillS enc i n = -1 := fill_none _ _ _ (fun h => c1 ⟨h.2.1, h.1, h.2.2⟩) (fun h => c2 ⟨h.2.1, h.1, h.2.2⟩)
        have := byteS_both enc i n 3 7 51 55 h23 hf (by decide) (by decide) (by decide)
        rw [show (16 * 3 + 7 : Int) = 55 by decide] at this
        rw [this]
      · rw [byteS_one _ _ _ _ h23]
        by_cases e1 : enc = 1
        · subst e1; rw [if_pos (by decide)]; rfl
        · rw [if_neg (by omega)]
          by_cases e4 : enc = 4
          · subst e4; rw [if_pos rfl]; decide +kernel
          · rw [if_neg e4]
            have : rdS enc b = some b := by unfold rdS; rw [if_neg e4, if_pos (.inl (by omega))]
            rw [this]
theorem turned_is (enc b i n : Int) (he : 1 ≤ enc ∧ enc ≤ 5) (hn : 0 ≤ n ∧ n ≤ 9223372036854775807) : Ev (fun k => turnstilelaw1_turned.f k enc b i n) (strOfNums [turnV enc b i n]) := by
  have e3 : wrap64 (Int.tdiv n 2) = Int.tdiv n 2 := by rw [Int.tdiv_eq_ediv_of_nonneg hn.1, w64 (by omega)]
  have k55 : (⟨#[55]⟩ : ByteArray) = strOfNums [55] := rfl
  unfold turnV
  by_cases c1 : enc = 2 ∧ Int.tmod n 2 = 1 ∧ i = 0
  · rw [if_pos c1]
    refine Ev.step (f := fun _ => some (strOfNums [5])) (fun k => ?_) (Ev.now _)
    unfold turnstilelaw1_turned.f
    rw [if_pos c1.1, if_pos c1.2.1, beq_iff_eq.mpr c1.2.2]
    simp only [turnstilelaw1_turned.j0]; rfl
  · rw [if_neg c1]
    have h0 : ∀ k, turnstilelaw1_turned.f k enc b i n = turnstilelaw1_turned.j0 k enc b i n false := by
      intro k
      unfold turnstilelaw1_turned.f
      by_cases e2 : enc = 2
      · rw [if_pos e2]
        by_cases eo : Int.tmod n 2 = 1
        · rw [if_pos eo, beq_eq_false_iff_ne.mpr fun h => c1 ⟨e2, eo, h⟩]
        · rw [if_neg eo]
      · rw [if_neg e2]
    refine Ev.congr h0 ?_
    by_cases c2 : enc = 3 ∧ Int.tmod n 2 = 1 ∧ i = Int.tdiv n 2
    · rw [if_pos c2]
      refine Ev.step (f := fun k => turnstilelaw1_turned.j1 k enc b true) (fun k => ?_) (Ev.step (f := fun _ => some (strOfNums [95])) (fun k => by simp only [turnstilelaw1_turned.j1]; rfl) (Ev.now _))
      simp only [turnstilelaw1_turned.j0]
      rw [if_neg (by decide), if_pos c2.1, if_pos c2.2.1, e3, beq_iff_eq.mpr c2.2.2]
    · rw [if_neg c2]
      refine Ev.step (f := fun k => turnstilelaw1_turned.j1 k enc b false) (fun k => ?_) ?_
      · simp only [turnstilelaw1_turned.j0]
        rw [if_neg (by decide)]
        by_cases e3' : enc = 3
        · rw [if_pos e3']
          by_cases eo : Int.tmod n 2 = 1
          · rw [if_pos eo, e3, beq_eq_false_iff_ne.mpr fun h => c2 ⟨e3', eo, h⟩]
          · rw [if_neg eo]
        · rw [if_neg e3']
      · by_cases h23 : enc = 2 ∨ enc = 3
        · rw [if_pos (by omega)]
          refine Ev.step (f := fun k => turnstilelaw1_turned.j2 k enc b true) (fun k => ?_) (Ev.step (f := fun _ => some (strOfNums [55])) (fun k => by simp only [turnstilelaw1_turned.j2]; rfl) (Ev.now _))
          simp only [turnstilelaw1_turned.j1]
          rw [if_neg (by decide)]
          rcases h23 with e | e
          · rw [if_pos e]
          · rw [if_neg (by omega), beq_iff_eq.mpr e]
        · refine Ev.step (f := fun k => turnstilelaw1_turned.j2 k enc b false) (fun k => ?_) ?_
          · simp only [turnstilelaw1_turned.j1]
            rw [if_neg (by decide), if_neg (by omega), beq_eq_false_iff_ne.mpr fun h => h23 (.inr h)]
          · by_cases e1 : enc = 1
            · rw [if_pos (by omega)]
              refine Ev.step (f := fun _ => some (strOfNums [55])) (fun k => ?_) (Ev.now _)
              simp only [turnstilelaw1_turned.j2]
              rw [if_neg (by decide), if_pos e1]; rfl
            · rw [if_neg (by omega)]
              by_cases e4 : enc = 4
              · rw [if_pos e4]
                refine Ev.step (f := fun _ => some (strOfNums [247])) (fun k => ?_) (Ev.now _)
                simp only [turnstilelaw1_turned.j2]
                rw [if_neg (by decide), if_neg e1, if_pos e4]; rfl
              · rw [if_neg e4]
                refine Ev.step (f := fun _ => some (strOfNums [b])) (fun k => ?_) (Ev.now _)
                simp only [turnstilelaw1_turned.j2]
                rw [if_neg (by decide), if_neg e1, if_neg e4]

/-! ### bytes with another one at a place -/
theorem data_cat (a b : ByteArray) : (a ++ b).data.toList = a.data.toList ++ b.data.toList := by simp
theorem bytes_cat (a b : ByteArray) : bytesOf (a ++ b) = bytesOf a ++ bytesOf b := by unfold bytesOf; rw [data_cat, List.map_append]
theorem bytes_take (s : ByteArray) (w : Nat) : bytesOf (s.extract 0 w) = (bytesOf s).take w := bytesOf_extract s w
theorem bytes_drop (s : ByteArray) (w : Nat) : bytesOf (s.extract w s.size) = (bytesOf s).drop w := by
  have h : (s.extract w s.size).data.toList = s.data.toList.drop w := by
    rw [ByteArray.data_extract]
    simp [List.take_of_length_le]
  unfold bytesOf
  rw [h, List.map_drop]
theorem getD_take (l : List Int) (w j : Nat) (h : j < w) : (l.take w).getD j 0 = l.getD j 0 := by
  simp [List.getD, List.getElem?_take, h]

theorem forms_place (enc : Int) (he : 1 ≤ enc ∧ enc ≤ 5) (b : ByteArray) (n : Int) (hn : 0 ≤ n) (w : Nat) (hw : w ≤ b.size) (q : Nat) (hq : q < w) (v : Int) (hv0 : 0 ≤ v ∧ v ≤ 255) (hv : (byteS enc v q n).2 = 0)
    (hj : ∀ j : Nat, j < q → (byteS enc (((bytesOf b).take w).getD j 0) (0 + j) n).2 = 0) :
    (unpS enc n ((bytesOf ((b.extract 0 q ++ strOfNums [v]) ++ b.extract (q + 1) b.size)).take w) 0 []).2.1 = 0 ∨ (unpS enc n ((bytesOf ((b.extract 0 q ++ strOfNums [v]) ++ b.extract (q + 1) b.size)).take w) 0 []).2.2 > (q : Int) := by
  have hbl := bytesOf_length b
  have e : bytesOf ((b.extract 0 q ++ strOfNums [v]) ++ b.extract (q + 1) b.size) = ((bytesOf b).take q ++ [v]) ++ (bytesOf b).drop (q + 1) := by
    rw [bytes_cat, bytes_cat, bytes_take, bytes_drop, nums_bytesK [v] (by intro x hx; simp at hx; omega)]
  rw [e]
  have hlen : (((bytesOf b).take q ++ [v]) ++ (bytesOf b).drop (q + 1)).length = b.size := by simp; omega
  have h := unpS_right enc n ((((bytesOf b).take q ++ [v]) ++ (bytesOf b).drop (q + 1)).take w) 0 [] q (by rw [List.length_take]; omega) (fun j hjq => ?_)
  · rcases h with h | h
    · exact .inl h
    · right; omega
  · rw [getD_take _ _ _ (by omega)]
    have hq1 : ((bytesOf b).take q).length = q := by rw [List.length_take]; omega
    by_cases hjq2 : j = q
    · subst hjq2
      have : (((bytesOf b).take j ++ [v]) ++ (bytesOf b).drop (j + 1)).getD j 0 = v := by
        rw [List.append_assoc]
        simp [List.getD, List.getElem?_append_right, hq1]
      rw [this, Int.zero_add]
      exact hv
    · have hlt : j < q := by omega
      have : (((bytesOf b).take q ++ [v]) ++ (bytesOf b).drop (q + 1)).getD j 0 = (bytesOf b).getD j 0 := by
        rw [List.append_assoc]
        have hjb : j < (bytesOf b).length := by omega
        simp [List.getD, List.getElem?_append_left, hq1, hlt, List.getElem?_take, List.getElem?_eq_getElem hjb]
      rw [this]
      have := hj j hlt
      rw [getD_take _ _ _ (by omega)] at this
      exact this

theorem DigitsForms : turnstilelaw1_DigitsForms.Pure := by
  intro raw b n hr hb hn
  have hn64 := wf64 hn
  refine Ev.rounds (?_ : Ev (fun k => turnstilelaw1_DigitsForms.f k raw b n) true)
  unfold turnstilelaw1_DigitsForms.f
  obtain ⟨p, hp, p0, p5⟩ := pick5 raw (wf64 hr)
  have ew : wrap64 (1 + p) = 1 + p := w64 (by omega)
  rw [hp]
  simp only [Option.bind_some, ew]
  obtain ⟨enc, henc⟩ : ∃ e, e = 1 + p := ⟨_, rfl⟩
  rw [← henc]
  have he : 1 ≤ enc ∧ enc ≤ 5 := by omega
  have hwle : ∀ m : Int, ((b.size : Int) < widthS enc m ∨ widthS enc m ≤ 70368744177600) := fun m => by omega
  have hu0 := unpack_is enc (⟨#[]⟩ : ByteArray) 0 (by decide) (by decide) (.inr (by unfold widthS; split; omega; split; omega; split <;> omega))
  have e0 : unpackS enc (⟨#[]⟩ : ByteArray) 0 = ((⟨#[]⟩ : ByteArray), 0, 0) := by
    unfold unpackS
    have hz : widthS enc 0 = 0 := by unfold widthS; split; omega; split; omega; split <;> omega
    rw [if_neg (by omega), hz, if_neg (by decide)]
    rfl
  rw [e0] at hu0
  refine evb hu0 (evb (unpack_is enc b n (by omega) hn64.2 (hwle n)) ?_)
  have elnil : ((⟨#[]⟩ : ByteArray).toList != ([] : List UInt8)) = false := by rw [ByteArray.toList_eq]; rfl
  have elnil2 : (⟨#[]⟩ : ByteArray).toList = ([] : List UInt8) := by rw [ByteArray.toList_eq]
  refine Ev.congr (fun k => if_pos rfl) ?_
  simp only [elnil]
  refine Ev.step (f := fun k => (digits_Width.f enc n).bind fun t => _) (fun k => by simp only [turnstilelaw1_DigitsForms.j0]; exact if_neg (by decide)) ?_
  rw [width_is enc n hn64.2]
  simp only [Option.bind_some]
  unfold unpackS
  by_cases hneg : n < 0
  · rw [if_pos (.inr (.inr hneg))]
    refine ev_some fun k => ?_
    simp only [elnil2]
    rw [if_neg (by decide), if_pos trivial, if_pos trivial, if_pos hneg]
    rfl
  · rw [if_neg (by omega)]
    have w0 : 0 ≤ widthS enc n := by unfold widthS; split; omega; split; omega; split <;> omega
    by_cases hsh : (b.size : Int) < widthS enc n
    · rw [if_pos hsh]
      refine ev_some fun k => ?_
      simp only [elnil2]
      rw [if_neg (by decide), if_pos trivial, if_neg (by decide), if_pos trivial, if_pos (by omega), if_pos hsh]
      simp
    · rw [if_neg hsh]
      obtain ⟨w, hw⟩ := Int.eq_ofNat_of_zero_le w0
      have hlen : ((bytesOf b).take (widthS enc n).toNat).length = w := by rw [List.length_take, bytesOf_length]; omega
      have hrg : ∀ x ∈ (bytesOf b).take (widthS enc n).toNat, 0 ≤ x ∧ x ≤ 255 := fun x hx => bytesRange b x (List.mem_of_mem_take hx)
      by_cases hok : (unpS enc n ((bytesOf b).take (widthS enc n).toNat) 0 []).2.1 = 0
      · -- it was read: it is packed as these bytes
        refine Ev.congr (fun k => if_pos hok) ?_
        obtain ⟨f1, f2⟩ := forms enc he n (by omega) _ hrg (by rw [hlen, hw]) (unpS enc n ((bytesOf b).take (widthS enc n).toNat) 0 []).1 (unpS enc n ((bytesOf b).take (widthS enc n).toNat) 0 []).2.2 (Prod.ext rfl (Prod.ext hok rfl))
        have hn1 : n ≤ 2097152 := by
          have hw2 : widthS enc n ≤ 1048576 := by omega
          unfold widthS at hw2
          rw [if_neg (by omega)] at hw2
          split at hw2
          · omega
          · rw [if_pos (by omega)] at hw2; omega
        refine evb (pack_is enc _ (by omega)) (ev_some fun k => ?_)
        rw [f2]
        rw [if_pos (by omega), if_pos f1, if_pos (by omega), if_pos rfl, if_pos w0]
        have : strOfNums ((bytesOf b).take (widthS enc n).toNat) = b.extract 0 (widthS enc n).toNat := by
          rw [← bytes_take]
          apply ByteArray.ext
          apply Array.ext'
          rw [strOfNums_data]
          unfold bytesOf
          rw [List.map_map]
          have : ∀ x ∈ (b.extract 0 (widthS enc n).toNat).data.toList, ((fun n : Int => UInt8.ofNat n.toNat) ∘ fun b : UInt8 => (b.toNat : Int)) x = id x := by
            intro x _
            simp
          rw [List.map_congr_left this, List.map_id]
        rw [this]
        simp
      · -- a wrong byte
        refine Ev.congr (fun k => if_neg hok) ?_
        obtain ⟨q, hq, hqe, hqn, hqj⟩ := unpS_err enc n _ 0 [] hok
        rw [hqe]
        have herr := byteS_err enc (((bytesOf b).take (widthS enc n).toNat).getD q 0) (0 + q) n
        simp only [elnil2]
        have hq' : q < w := by omega
        have hj1 : Ev (fun k => turnstilelaw1_DigitsForms.j1 k b n enc (0 + (q : Int)) false) true := by
          rw [Int.zero_add]
          have hb1 : (q : Int) < (b.size : Int) := by omega
          have eq1 : wrap64 ((q : Int) + 1) = ((q + 1 : Nat) : Int) := by rw [w64 (by omega)]; omega
          have hv := turnV_ok enc (bt b q) q n he
          have hvr : 0 ≤ turnV enc (bt b q) q n ∧ turnV enc (bt b q) q n ≤ 255 := by
            have := bt_range b q
            unfold turnV
            split; omega; split; omega; split; omega; split <;> omega
          have hpl := forms_place enc he b n (by omega) w (by omega) q hq' _ hvr hv (fun j hj => by have := hqj j hj; rw [hw] at this; simpa using this)
          have hsz : (((b.extract 0 q ++ strOfNums [turnV enc (bt b q) q n]) ++ b.extract (q + 1) b.size)).size = b.size := by
            rw [ByteArray.size_append, ByteArray.size_append, ByteArray.size_extract, ByteArray.size_extract, strOfNums_size]; simp; omega
          have hun := unpack_is enc ((b.extract 0 q ++ strOfNums [turnV enc (bt b q) q n]) ++ b.extract (q + 1) b.size) n (by omega) hn64.2 (by rw [hsz]; exact hwle n)
          have hue : unpackS enc ((b.extract 0 q ++ strOfNums [turnV enc (bt b q) q n]) ++ b.extract (q + 1) b.size) n = unpS enc n ((bytesOf ((b.extract 0 q ++ strOfNums [turnV enc (bt b q) q n]) ++ b.extract (q + 1) b.size)).take w) 0 [] := by
            unfold unpackS
            rw [if_neg (by omega), hsz, if_neg hsh, hw]
            rfl
          rw [hue] at hun
          have ht := turned_is enc (bt b q) q n he ⟨by omega, hn64.2⟩
          refine Ev.step (f := fun k => (turnstilelaw1_turned.f k enc (bt b q) q n).bind fun t => (if (b.extract 0 q).size + t.size ≤ 9223372036854775807 then (if 0 ≤ ((q + 1 : Nat) : Int) then (if ((q + 1 : Nat) : Int) ≤ (b.size : Int) then (if ((b.extract 0 q) ++ t).size + (b.extract (q + 1) b.size).size ≤ 9223372036854775807 then ((digits_Unpack.f k enc (((b.extract 0 q) ++ t) ++ (b.extract (q + 1) b.size)) n).bind fun z => (if z.2.1 = 0 then (some true) else (some (decide (z.2.2 > (q : Int)))))) else (none)) else (none)) else (none)) else (none))) (fun k => ?_) (evb ht ?_)
          · simp only [turnstilelaw1_DigitsForms.j1]
            rw [if_neg (by decide), if_pos (by omega), if_pos (by omega), if_pos hb1, eq1]
            rfl
          · have s1 : (b.extract 0 q).size + (strOfNums [turnV enc (bt b q) q n]).size ≤ 9223372036854775807 := by rw [ByteArray.size_extract, strOfNums_size]; simp; omega
            have s2 : ((b.extract 0 q) ++ (strOfNums [turnV enc (bt b q) q n])).size + (b.extract (q + 1) b.size).size ≤ 9223372036854775807 := by
              rw [ByteArray.size_append, ByteArray.size_extract, ByteArray.size_extract, strOfNums_size]; simp; omega
            refine Ev.congr (fun k => (if_pos s1).trans ((if_pos (by omega)).trans ((if_pos (by omega)).trans (if_pos s2)))) ?_
            refine evb hun (ev_some fun k => ?_)
            rcases hpl with h | h
            · rw [if_pos h]
            · by_cases h0 : (unpS enc n ((bytesOf ((b.extract 0 q ++ strOfNums [turnV enc (bt b q) q n]) ++ b.extract (q + 1) b.size)).take w) 0 []).2.1 = 0
              · rw [if_pos h0]
              · rw [if_neg h0, decide_eq_true h]
        have hd : decide (widthS enc n > (b.size : Int)) = false := decide_eq_false (by omega)
        have hq0 : ¬ (0 + (q : Int)) < 0 := by omega
        have hq1 : ¬ (0 + (q : Int)) ≥ widthS enc n := by omega
        refine Ev.congr (fun k => ?_) hj1
        rcases herr with h | h | h
        · exact absurd h hqn
        · rw [h, if_pos trivial, if_neg (by decide), if_neg (by decide), if_pos rfl, if_neg hq0, if_neg hq1, hd]
        · rw [h, if_pos trivial, if_neg (by decide), if_neg (by decide), if_neg (by decide), if_pos rfl, if_neg hq0, if_neg hq1, hd]
end Go.Proofs.Ytlpamhffpgoebaa.Pure
