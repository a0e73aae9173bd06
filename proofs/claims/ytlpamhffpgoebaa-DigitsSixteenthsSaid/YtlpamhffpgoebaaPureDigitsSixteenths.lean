/- DigitsSixteenths of the package turnstilelaw1: of every two texts: digits.Unhex reads back what digits.Hex writes; what digits.Unhex tells of any text is right, and right at its place. No condition. -/
import Derived.Test.YtlpamhffpgoebaaAx39
import Derived.Test.YtlpamhffpgoebaaPc
namespace Go.Proofs.Ytlpamhffpgoebaa.Pure
open Go.RowKit Go.Proofs.Ytlpamhffpgoebaa.All Go.Proofs.YtlpamhffpgoebaaW.PrintWords Go.Proofs.YtlpamhffpgoebaaW.PrintLast Go.Proofs.YtlpamhffpgoebaaW.PrintMore

set_option linter.unusedVariables false
theorem nums_bytesS (l : List Int) (h : ∀ x ∈ l, 0 ≤ x ∧ x ≤ 255) : bytesOf (strOfNums l) = l := by
  unfold bytesOf
  rw [strOfNums_data, List.map_map]
  have : ∀ x ∈ l, ((fun b : UInt8 => (b.toNat : Int)) ∘ fun n : Int => UInt8.ofNat n.toNat) x = id x := by
    intro x hx
    have := h x hx
    simp
    omega
  rw [List.map_congr_left this, List.map_id]
theorem bytes_numsS (s : ByteArray) : strOfNums (bytesOf s) = s := by
  apply ByteArray.ext
  apply Array.ext'
  rw [strOfNums_data]
  unfold bytesOf
  rw [List.map_map]
  have : ∀ x ∈ s.data.toList, ((fun n : Int => UInt8.ofNat n.toNat) ∘ fun b : UInt8 => (b.toNat : Int)) x = id x := by
    intro x _
    simp
  rw [List.map_congr_left this, List.map_id]
theorem bytesOf_ext (s : ByteArray) (a b : Nat) : bytesOf (s.extract a b) = ((bytesOf s).drop a).take (b - a) := by
  have h : (s.extract a b).data.toList = (s.data.toList.drop a).take (b - a) := by rw [ByteArray.data_extract]; simp [List.take_drop]
  unfold bytesOf
  rw [h, List.map_take, List.map_drop]
theorem bytesOf_app (s t : ByteArray) : bytesOf (s ++ t) = bytesOf s ++ bytesOf t := by
  have h : (s ++ t).data.toList = s.data.toList ++ t.data.toList := by simp
  unfold bytesOf
  rw [h, List.map_append]

theorem hv_hex : ∀ d : Fin 16, hv (bt hexT (d.val : Int)) = (d.val : Int) ∧ 0 ≤ bt hexT (d.val : Int) ∧ bt hexT (d.val : Int) ≤ 255 := by decide +kernel
theorem hex_hv : ∀ c : Fin 256, hv (c.val : Int) < 0 ∨ bt hexT (hv (c.val : Int)) = (c.val : Int) := by decide +kernel
theorem hv_hex' (d : Int) (h0 : 0 ≤ d) (h1 : d < 16) : hv (bt hexT d) = d ∧ 0 ≤ bt hexT d ∧ bt hexT d ≤ 255 := by
  have h := hv_hex ⟨d.toNat, by omega⟩
  simp only [show ((d.toNat : Nat) : Int) = d by omega] at h
  exact h
theorem hex_hv' (c : Int) (h0 : 0 ≤ c) (h1 : c ≤ 255) (h : ¬ hv c < 0) : bt hexT (hv c) = c := by
  have h2 := hex_hv ⟨c.toNat, by omega⟩
  simp only [show ((c.toNat : Nat) : Int) = c by omega] at h2
  exact h2.resolve_left h
theorem hv48 : ¬ hv 48 < 0 := by decide +kernel
attribute [local irreducible] hv

theorem hexL_range : ∀ l : List Int, (∀ x ∈ l, 0 ≤ x ∧ x ≤ 255) → ∀ y ∈ hexL l, 0 ≤ y ∧ y ≤ 255
  | [], _ => by simp [hexL]
  | x :: r, h => by
    have hx := h x (by simp)
    intro y hy
    rcases List.mem_cons.1 hy with e | hy
    · rw [e]; exact (hv_hex' (x / 16) (by omega) (by omega)).2
    · rcases List.mem_cons.1 hy with e | hy
      · rw [e]; exact (hv_hex' (x % 16) (by omega) (by omega)).2
      · exact hexL_range r (fun z hz => h z (by simp [hz])) y hy
theorem unhexR_hex : ∀ (l : List Int), (∀ x ∈ l, 0 ≤ x ∧ x ≤ 255) → ∀ (i : Int) (xs : List Int), unhexR (hexL l) i xs = (strOfNums (xs ++ l), 0, 0)
  | [], _, i, xs => by simp [hexL, unhexR]
  | x :: r, h, i, xs => by
    have hx := h x (by simp)
    have e1 := (hv_hex' (x / 16) (by omega) (by omega)).1
    have e2 := (hv_hex' (x % 16) (by omega) (by omega)).1
    simp only [hexL, unhexR, e1, e2]
    rw [if_neg (by omega), if_neg (by omega), unhexR_hex r (fun z hz => h z (by simp [hz])), show 16 * (x / 16) + x % 16 = x by omega]
    simp
theorem unhexR_good : ∀ (n : Nat) (l : List Int), l.length ≤ n → (∀ x ∈ l, 0 ≤ x ∧ x ≤ 255) → l.length % 2 = 0 → (∀ q : Nat, q < l.length → ¬ hv (l.getD q 0) < 0) → ∀ (i : Int) (xs : List Int),
    ∃ ys, unhexR l i xs = (strOfNums (xs ++ ys), 0, 0) ∧ hexL ys = l ∧ ∀ y ∈ ys, 0 ≤ y ∧ y ≤ 255 := by
  intro n
  induction n using Nat.strongRecOn with
  | _ n ih =>
  intro l hl hr he hq i xs
  match l, hl, hr, he, hq with
  | [], _, _, _, _ => exact ⟨[], by simp [unhexR], rfl, by simp⟩
  | [a], _, _, he, _ => simp at he
  | a :: b :: r, hl, hr, he, hq =>
    have h0 := hq 0 (by simp)
    have h1 := hq 1 (by simp)
    simp only [List.getD_cons_zero, List.getD_cons_succ] at h0 h1
    have ra := hr a (by simp)
    have rb := hr b (by simp)
    have va := hv_range a ra.1 ra.2
    have vb := hv_range b rb.1 rb.2
    obtain ⟨ys, e, eh, hy⟩ := ih (n - 1) (by simp at hl; omega) r (by simp at hl; omega) (fun z hz => hr z (by simp [hz])) (by simp at he; omega) (fun q h => by have := hq (q + 2) (by simp; omega); simpa using this) (i + 2) (xs ++ [16 * hv a + hv b])
    refine ⟨(16 * hv a + hv b) :: ys, ?_, ?_, ?_⟩
    · simp only [unhexR]
      rw [if_neg h0, if_neg h1, e]
      simp
    · simp only [hexL]
      rw [show (16 * hv a + hv b) / 16 = hv a by omega, show (16 * hv a + hv b) % 16 = hv b by omega, hex_hv' a ra.1 ra.2 h0, hex_hv' b rb.1 rb.2 h1, eh]
    · intro y hy'
      rcases List.mem_cons.1 hy' with e | hy'
      · omega
      · exact hy y hy'
/-- the first place that is wrong -/
theorem first_bad (s : ByteArray) : (∀ q : Nat, q < s.size → ¬ hv (bt s q) < 0) ∨ ∃ p : Nat, p < s.size ∧ hv (bt s p) < 0 ∧ ∀ q : Nat, q < p → ¬ hv (bt s q) < 0 := by
  have : ∀ n : Nat, (∀ q : Nat, q < n → ¬ hv (bt s q) < 0) ∨ ∃ p : Nat, p < n ∧ hv (bt s p) < 0 ∧ ∀ q : Nat, q < p → ¬ hv (bt s q) < 0 := by
    intro n
    induction n with
    | zero => exact .inl (fun q h => by omega)
    | succ n ih =>
      rcases ih with h | ⟨p, hp, hb, hq⟩
      · by_cases hb : hv (bt s n) < 0
        · exact .inr ⟨n, by omega, hb, h⟩
        · refine .inl fun q hq => ?_
          by_cases e : q = n
          · rw [e]; exact hb
          · exact h q (by omega)
      · exact .inr ⟨p, by omega, hb, hq⟩
  exact this s.size

theorem e0S : (⟨#[]⟩ : ByteArray).toList = ([] : List UInt8) := by rw [ByteArray.toList_eq]

/-- the second half of the law -/
theorem any_text (s : ByteArray) (hs : s.size ≤ 140737488351232) : Ev (fun k => turnstilelaw1_DigitsSixteenths.j0 k s false) true := by
  have hl := bytesOf_length s
  have hrg := bytes_range s
  have hu := unhex_is s (by omega)
  rcases first_bad s with hg | ⟨p, hp, hb, hq⟩
  · by_cases hev : s.size % 2 = 0
    · obtain ⟨ys, e, eh, hy⟩ := unhexR_good _ (bytesOf s) (Nat.le_refl _) hrg (by omega) (fun q h => by rw [getD_bytes]; exact hg q (by omega)) 0 []
      rw [e, List.nil_append] at hu
      have hyl : 2 * ys.length = s.size := by rw [← hl, ← eh, hexL_length]
      have hx := hex_is (strOfNums ys) (by rw [strOfNums_size]; omega)
      rw [nums_bytesS ys hy, eh, bytes_numsS] at hx
      obtain ⟨K, hK⟩ := hu
      obtain ⟨M, hM⟩ := hx
      refine ⟨max K M + 1, fun k hk => ?_⟩
      obtain ⟨k', rfl⟩ : ∃ k', k = k' + 1 := ⟨k - 1, by omega⟩
      have h1 : digits_Unhex.f k' s = some (strOfNums ys, 0, 0) := hK k' (by omega)
      have h2 : digits_Hex.f k' (strOfNums ys) = some s := hM k' (by omega)
      simp only [turnstilelaw1_DigitsSixteenths.j0]
      rw [if_neg (by decide), h1, Option.bind_some]
      simp only [h2, Option.bind_some]
      simp
    · have e := unhexR_odd _ (bytesOf s) (Nat.le_refl _) 0 [] (by omega) (fun q h => by rw [getD_bytes]; exact hg q (by omega))
      rw [e, hl] at hu
      have hsz1 : (s ++ (⟨#[48]⟩ : ByteArray)).size = s.size + 1 := by rw [ByteArray.size_append]; rfl
      have hu2 := unhex_is (s ++ (⟨#[48]⟩ : ByteArray)) (by omega)
      have hb2 : bytesOf (s ++ (⟨#[48]⟩ : ByteArray)) = bytesOf s ++ [48] := by rw [bytesOf_app]; rfl
      obtain ⟨ys, e2, _, _⟩ := unhexR_good _ (bytesOf (s ++ (⟨#[48]⟩ : ByteArray))) (Nat.le_refl _) (bytes_range _) (by rw [bytesOf_length]; omega) (fun q h => by
        rw [bytesOf_length, hsz1] at h
        rw [hb2]
        by_cases hq : q < s.size
        · have : (bytesOf s ++ [48]).getD q 0 = (bytesOf s).getD q 0 := by simp [List.getD, List.getElem?_append_left (show q < (bytesOf s).length by omega)]
          rw [this, getD_bytes]
          exact hg q hq
        · have : (bytesOf s ++ [48]).getD q 0 = 48 := by
            have hq2 : q = (bytesOf s).length := by omega
            subst hq2
            simp [List.getD]
          rw [this]
          exact hv48) 0 []
      rw [e2] at hu2
      obtain ⟨K, hK⟩ := hu
      obtain ⟨M, hM⟩ := hu2
      refine ⟨max K M + 1, fun k hk => ?_⟩
      obtain ⟨k', rfl⟩ : ∃ k', k = k' + 1 := ⟨k - 1, by omega⟩
      have h1 : digits_Unhex.f k' s = some ((⟨#[]⟩ : ByteArray), 10, 0 + (s.size : Int)) := hK k' (by omega)
      have h2 : digits_Unhex.f k' (s ++ (⟨#[48]⟩ : ByteArray)) = some (strOfNums ([] ++ ys), 0, 0) := hM k' (by omega)
      simp only [turnstilelaw1_DigitsSixteenths.j0]
      rw [if_neg (by decide), h1, Option.bind_some]
      simp only [h2, Option.bind_some]
      rw [if_neg (by decide), if_pos trivial, if_pos (by omega), if_pos e0S, if_pos (by omega), if_pos (by omega)]
      rfl
  · have e := unhexR_bad _ (bytesOf s) (Nat.le_refl _) 0 [] p (by omega) (fun q h => by rw [getD_bytes]; exact hq q h) (by rw [getD_bytes]; exact hb)
    rw [e] at hu
    have et : Int.tmod (0 + (p : Int)) 2 = (p : Int) % 2 := by rw [Int.zero_add]; exact Int.tmod_eq_emod_of_nonneg (by omega)
    have ek : wrap64 (0 + (p : Int) - Int.tmod (0 + (p : Int)) 2) = ((p - p % 2 : Nat) : Int) := by rw [et, w64 (by omega)]; omega
    have ek1 : wrap64 (0 + (p : Int) + 1) = ((p + 1 : Nat) : Int) := by rw [w64 (by omega)]; omega
    have hb1 : bytesOf (s.extract 0 (p - p % 2)) = (bytesOf s).take (p - p % 2) := by rw [bytesOf_ext]; simp
    have hs1 : (s.extract 0 (p - p % 2)).size = p - p % 2 := by rw [ByteArray.size_extract]; omega
    have hu1 := unhex_is (s.extract 0 (p - p % 2)) (by omega)
    obtain ⟨ys, e1, _, _⟩ := unhexR_good _ (bytesOf (s.extract 0 (p - p % 2))) (Nat.le_refl _) (bytes_range _) (by rw [bytesOf_length]; omega) (fun q h => by
      rw [bytesOf_length, hs1] at h
      have : (bytesOf (s.extract 0 (p - p % 2))).getD q 0 = (bytesOf s).getD q 0 := by rw [hb1]; simp [List.getD, h]
      rw [this, getD_bytes]
      exact hq q (by omega)) 0 []
    rw [e1] at hu1
    have hb2 : bytesOf (s.extract p (p + 1) ++ (⟨#[48]⟩ : ByteArray)) = [bt s p, 48] := by
      rw [bytesOf_app, bytesOf_ext, drop_bt s p hp, show p + 1 - p = 1 by omega]
      rfl
    have hs2 : (s.extract p (p + 1)).size = 1 := by rw [ByteArray.size_extract]; omega
    have hs3 : (s.extract p (p + 1) ++ (⟨#[48]⟩ : ByteArray)).size = 2 := by rw [ByteArray.size_append, hs2]; rfl
    have hu2 := unhex_is (s.extract p (p + 1) ++ (⟨#[48]⟩ : ByteArray)) (by omega)
    rw [hb2] at hu2
    simp only [unhexR] at hu2
    rw [if_pos hb] at hu2
    obtain ⟨K, hK⟩ := hu
    obtain ⟨M, hM⟩ := hu1
    obtain ⟨N, hN⟩ := hu2
    refine ⟨max K (max M N) + 2, fun k hk => ?_⟩
    obtain ⟨k', rfl⟩ : ∃ k', k = k' + 2 := ⟨k - 2, by omega⟩
    have h1 : digits_Unhex.f (k' + 1) s = some ((⟨#[]⟩ : ByteArray), 11, 0 + (p : Int)) := hK (k' + 1) (by omega)
    have h2 : digits_Unhex.f k' (s.extract 0 (p - p % 2)) = some (strOfNums ([] ++ ys), 0, 0) := hM k' (by omega)
    have h3 : digits_Unhex.f k' (s.extract p (p + 1) ++ (⟨#[48]⟩ : ByteArray)) = some ((⟨#[]⟩ : ByteArray), 11, 0) := hN k' (by omega)
    have en : (((p - p % 2 : Nat) : Int)).toNat = p - p % 2 := by omega
    have en1 : (((p + 1 : Nat) : Int)).toNat = p + 1 := by omega
    have en2 : (0 + (p : Int)).toNat = p := by omega
    simp only [turnstilelaw1_DigitsSixteenths.j0]
    rw [if_neg (by decide), h1, Option.bind_some]
    simp only [turnstilelaw1_DigitsSixteenths.j1]
    rw [if_neg (by decide), if_neg (by decide), if_pos trivial, if_pos e0S, if_neg (by omega), ek, ek1, en, en1, en2, decide_eq_false (by omega), if_neg (by decide), if_pos (by omega), if_pos (by omega), h2, Option.bind_some, if_pos (by omega), if_pos (by omega), if_pos (by omega), hs2, if_pos (by decide), h3, Option.bind_some]
    rfl

theorem DigitsSixteenths : turnstilelaw1_DigitsSixteenths.Pure := by
  intro b s hb hs
  refine Ev.rounds (?_ : Ev (fun k => turnstilelaw1_DigitsSixteenths.f k b s) true)
  unfold turnstilelaw1_DigitsSixteenths.f
  have hh := hex_is b hb
  have hsz : (strOfNums (hexL (bytesOf b))).size = 2 * b.size := by rw [strOfNums_size, hexL_length, bytesOf_length]
  have hu := unhex_is (strOfNums (hexL (bytesOf b))) (by omega)
  rw [nums_bytesS _ (hexL_range _ (bytes_range b)), unhexR_hex (bytesOf b) (bytes_range b) 0 [], List.nil_append, bytes_numsS] at hu
  refine evb hh (evb hu ?_)
  refine Ev.congr (f := fun k => turnstilelaw1_DigitsSixteenths.j0 k s false) (fun k => ?_) (any_text s hs)
  simp only [if_true]
  have : (((strOfNums (hexL (bytesOf b))).size : Int) != wrap64 (2 * (b.size : Int))) = false := by rw [hsz, w64 (by omega)]; simp
  rw [this]
end Go.Proofs.Ytlpamhffpgoebaa.Pure
