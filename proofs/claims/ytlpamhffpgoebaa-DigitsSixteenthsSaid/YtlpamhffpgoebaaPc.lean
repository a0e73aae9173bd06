/- Hex and Unhex of digits and of the reference, told with enough rounds. Conditions: strings that an append in the model can bear. -/
import Derived.Test.YtlpamhffpgoebaaAx30
import Derived.Test.YtlpamhffpgoebaaAx34
import Derived.Test.YtlpamhffpgoebaaAx36
import Derived.Test.YtlpamhffpgoebaaAx37
import Derived.Test.YtlpamhffpgoebaaPa
namespace Go.Proofs.Ytlpamhffpgoebaa.Pure
open Go.RowKit Go.Proofs.Ytlpamhffpgoebaa.All Go.Proofs.YtlpamhffpgoebaaW.PrintWords Go.Proofs.YtlpamhffpgoebaaW.PrintLast Go.Proofs.YtlpamhffpgoebaaW.PrintMore

theorem drop_bt (s : ByteArray) (i : Nat) (h : i < s.size) : (bytesOf s).drop i = bt s i :: (bytesOf s).drop (i + 1) := by
  have hl : i < (bytesOf s).length := by rw [bytesOf_length]; exact h
  rw [List.drop_eq_getElem_cons hl]
  congr 1
  rw [← rd_bytesOf s i]
  simp [rd, List.getD, List.getElem?_eq_getElem hl]
theorem drop_all (s : ByteArray) (i : Nat) (h : s.size ≤ i) : (bytesOf s).drop i = [] := by
  rw [List.drop_eq_nil_iff, bytesOf_length]; exact h
theorem bytes_range (s : ByteArray) : ∀ x ∈ bytesOf s, 0 ≤ x ∧ x ≤ 255 := by
  intro x hx
  unfold bytesOf at hx
  obtain ⟨b, _, rfl⟩ := List.mem_map.1 hx
  have := b.toNat_lt
  omega

def hexT : ByteArray := ⟨#[48, 49, 50, 51, 52, 53, 54, 55, 56, 57, 65, 66, 67, 68, 69, 70]⟩
theorem and15 (x : Int) (h0 : 0 ≤ x) (h1 : x ≤ 255) : Go.bits .and .u8 x 15 = x % 16 := by
  have : ∀ e : Fin 256, Go.bits .and .u8 (e.val : Int) 15 = (e.val : Int) % 16 := by decide +kernel
  have h := this ⟨x.toNat, by omega⟩
  simp only [show ((x.toNat : Nat) : Int) = x by omega] at h
  exact h
theorem or16 (a b : Int) (ha : 0 ≤ a ∧ a < 16) (hb : 0 ≤ b ∧ b < 16) : Go.bits .or .u8 (16 * a) b = 16 * a + b := by
  have : ∀ e f : Fin 16, Go.bits .or .u8 (16 * (e.val : Int)) (f.val : Int) = 16 * (e.val : Int) + (f.val : Int) := by decide +kernel
  have h := this ⟨a.toNat, by omega⟩ ⟨b.toNat, by omega⟩
  simp only [show ((a.toNat : Nat) : Int) = a by omega, show ((b.toNat : Nat) : Int) = b by omega] at h
  exact h

/-! ### Hex -/
/-- two sixteenths a byte -/
def hexL : List Int → List Int
  | [] => []
  | x :: r => bt hexT (x / 16) :: bt hexT (x % 16) :: hexL r
theorem hexL_length : ∀ l, (hexL l).length = 2 * l.length
  | [] => rfl
  | x :: r => by simp [hexL, hexL_length r]; omega

theorem hex_l0 (s : ByteArray) (hs : s.size ≤ 140737488351232) : ∀ (d i : Nat) (xs : List Int), i + d = s.size → xs.length = 2 * i →
    Ev (fun k => digits_Hex.l0 k s xs (s.size : Int) (i : Int)) (strOfNums (xs ++ hexL ((bytesOf s).drop i))) := by
  intro d
  induction d with
  | zero =>
    intro i xs hi hx
    refine Ev.step (f := fun _ => some (strOfNums (xs ++ hexL ((bytesOf s).drop i)))) (fun k => ?_) (Ev.now _)
    rw [drop_all s i (by omega)]
    simp only [digits_Hex.l0]; rw [if_neg (by omega)]; simp [hexL]
  | succ d ih =>
    intro i xs hi hx
    have h0 := bt_lo s i
    have h1 := bt_hi s i
    have ih' := ih (i + 1) (xs ++ [bt hexT (bt s i / 16), bt hexT (bt s i % 16)]) (by omega) (by simp [hx]; omega)
    rw [drop_bt s i (by omega)]
    have e : xs ++ hexL (bt s i :: (bytesOf s).drop (i + 1)) = (xs ++ [bt hexT (bt s i / 16), bt hexT (bt s i % 16)]) ++ hexL ((bytesOf s).drop (i + 1)) := by simp [hexL]
    rw [e]
    refine Ev.step (fun k => ?_) ih'
    have ew2 : wrap64 (2 * (s.size : Int)) = 2 * (s.size : Int) := w64 (by omega)
    simp only [digits_Hex.l0]
    rw [ew2, and15 _ h0 h1, if_pos (by omega), if_pos (by omega), if_pos (by omega), if_pos (by omega), if_pos (by omega), if_pos (by omega), if_pos (by omega), Option.bind_some, if_pos (by simp; omega), w64 (by omega)]
    rfl
theorem hex_is (s : ByteArray) (hs : s.size ≤ 140737488351232) : Ev (fun k => digits_Hex.f k s) (strOfNums (hexL (bytesOf s))) := by
  have h := hex_l0 s hs s.size 0 [] (by omega) rfl
  refine Ev.congr (fun k => ?_) h
  unfold digits_Hex.f
  rw [w64 (by omega), if_pos (by omega), if_pos (by omega)]
  rfl
theorem rhex_l0 (s : ByteArray) (hs : s.size ≤ 70000000000000) : ∀ (d i : Nat) (xs : List Int), i + d = s.size → xs.length = 2 * i →
    Ev (fun k => turnstileref1_Hex.l0 k s xs (i : Int)) (strOfNums (xs ++ hexL ((bytesOf s).drop i))) := by
  intro d
  induction d with
  | zero =>
    intro i xs hi hx
    refine Ev.step (f := fun _ => some (strOfNums (xs ++ hexL ((bytesOf s).drop i)))) (fun k => ?_) (Ev.now _)
    rw [drop_all s i (by omega)]
    simp only [turnstileref1_Hex.l0]; rw [if_neg (by omega)]; simp [hexL]
  | succ d ih =>
    intro i xs hi hx
    have h0 := bt_lo s i
    have h1 := bt_hi s i
    have ih' := ih (i + 1) (xs ++ [bt hexT (bt s i / 16), bt hexT (bt s i % 16)]) (by omega) (by simp [hx]; omega)
    rw [drop_bt s i (by omega)]
    have e : xs ++ hexL (bt s i :: (bytesOf s).drop (i + 1)) = (xs ++ [bt hexT (bt s i / 16), bt hexT (bt s i % 16)]) ++ hexL ((bytesOf s).drop (i + 1)) := by simp [hexL]
    rw [e]
    refine Ev.step (fun k => ?_) ih'
    simp only [turnstileref1_Hex.l0]
    have e1 : (Int.tdiv (bt s i) 16) % 256 = bt s i / 16 := by rw [Int.tdiv_eq_ediv_of_nonneg h0]; omega
    have e2 : Int.tmod (bt s i) 16 = bt s i % 16 := Int.tmod_eq_emod_of_nonneg h0
    rw [e1, e2, if_pos (by omega), if_pos (by omega), if_pos (by omega), if_pos (by omega), if_pos (by omega), if_pos (by omega), Option.bind_some, if_pos (by simp; omega), w64 (by omega)]
    rfl
theorem rhex_is (s : ByteArray) (hs : s.size ≤ 70000000000000) : Ev (fun k => turnstileref1_Hex.f k s) (strOfNums (hexL (bytesOf s))) := by
  have h := rhex_l0 s hs s.size 0 [] (by omega) rfl
  exact h

/-! ### Unhex -/
/-- the value of a sixteenth; -1: it is none -/
def hv (c : Int) : Int := Lib.indexByte hexT.data.toList c.toNat.toUInt8
theorem hv_is (c : Int) (h0 : 0 ≤ c) (h1 : c ≤ 255) : Ev (fun k => turnstileref1_at.f k hexT c) (hv c) := by
  have : ∀ e : Fin 256, turnstileref1_at.f 18 hexT (e.val : Int) = some (hv (e.val : Int)) := by decide +kernel
  have h := this ⟨c.toNat, by omega⟩
  simp only [show ((c.toNat : Nat) : Int) = c by omega] at h
  exact Ev.of (fun k => turnstileref1_at.mono _ _ k) h
theorem hv_range (c : Int) (h0 : 0 ≤ c) (h1 : c ≤ 255) : -1 ≤ hv c ∧ hv c < 16 := by
  have : ∀ e : Fin 256, -1 ≤ hv (e.val : Int) ∧ hv (e.val : Int) < 16 := by decide +kernel
  have h := this ⟨c.toNat, by omega⟩
  simp only [show ((c.toNat : Nat) : Int) = c by omega] at h
  exact h

theorem sib (c : Int) : strings_IndexByte.f (⟨#[48, 49, 50, 51, 52, 53, 54, 55, 56, 57, 65, 66, 67, 68, 69, 70]⟩ : ByteArray) c = some (hv c) := rfl
attribute [local irreducible] hv

/-- what Unhex tells of the bytes from place i on, behind what it has made -/
def unhexR : List Int → Int → List Int → ByteArray × Int × Int
  | [], _, xs => (strOfNums xs, 0, 0)
  | [a], i, _ => if hv a < 0 then ((⟨#[]⟩ : ByteArray), 11, i) else ((⟨#[]⟩ : ByteArray), 10, i + 1)
  | a :: b :: r, i, xs => if hv a < 0 then ((⟨#[]⟩ : ByteArray), 11, i) else if hv b < 0 then ((⟨#[]⟩ : ByteArray), 11, i + 1) else unhexR r (i + 2) (xs ++ [16 * hv a + hv b])

theorem set_last (xs : List Int) (a b : Int) (j : Nat) (h : xs.length = j) : (xs ++ [a]).set j b = xs ++ [b] := by
  rw [List.set_append_right _ _ (by omega), h, Nat.sub_self]; rfl
theorem rd_last (xs : List Int) (a : Int) (j : Nat) (h : xs.length = j) : rd (xs ++ [a]) (j : Int) = a := by
  simp [rd, List.getD, ← h]

theorem next_even (s : ByteArray) (hs : s.size ≤ 281474976710656) (j : Nat) (hj : 2 * j ≤ s.size) : wrap64 (((2 * j + 1 : Nat) : Int) + 1) = ((2 * (j + 1) : Nat) : Int) := by
  rw [w64 (by omega)]
  omega
set_option maxHeartbeats 2000000 in
theorem unhex_l0 (s : ByteArray) (hs : s.size ≤ 281474976710656) : ∀ (d j : Nat) (xs : List Int), 2 * j ≤ s.size → s.size - 2 * j ≤ d → xs.length = j →
    Ev (fun k => digits_Unhex.l0 k s xs (s.size : Int) ((2 * j : Nat) : Int)) (unhexR ((bytesOf s).drop (2 * j)) ((2 * j : Nat) : Int) xs) := by
  intro d
  induction d using Nat.strongRecOn with
  | _ d ih =>
  intro j xs hj hd hx
  by_cases h0 : s.size = 2 * j
  · rw [drop_all s _ (by omega)]
    refine Ev.step (f := fun _ => some (unhexR [] ((2 * j : Nat) : Int) xs)) (fun k => ?_) (Ev.now _)
    simp only [digits_Unhex.l0]
    rw [if_neg (by omega), if_neg (by omega)]
    rfl
  · rw [drop_bt s (2 * j) (by omega)]
    have a0 := bt_lo s ((2 * j : Nat) : Int)
    have a1 := bt_hi s ((2 * j : Nat) : Int)
    have ha := hv_range _ a0 a1
    by_cases hA : hv (bt s ((2 * j : Nat) : Int)) < 0
    · refine Ev.step (f := fun _ => some ((⟨#[]⟩ : ByteArray), 11, ((2 * j : Nat) : Int))) (fun k => ?_) ?_
      · simp only [digits_Unhex.l0]
        rw [if_pos (by omega), if_pos (by omega), if_pos (by omega)]
        simp only [sib, Option.bind_some]
        exact if_pos hA
      · have e : unhexR (bt s ((2 * j : Nat) : Int) :: (bytesOf s).drop (2 * j + 1)) ((2 * j : Nat) : Int) xs = ((⟨#[]⟩ : ByteArray), 11, ((2 * j : Nat) : Int)) := by
          cases (bytesOf s).drop (2 * j + 1) with
          | nil => simp only [unhexR]; rw [if_pos hA]
          | cons b r => simp only [unhexR]; rw [if_pos hA]
        rw [e]
        exact Ev.now _
    · have e1 : (((hv (bt s ((2 * j : Nat) : Int))) % 256) * 16) % 256 = 16 * hv (bt s ((2 * j : Nat) : Int)) := by omega
      have e2 : Int.tmod ((2 * j : Nat) : Int) 2 = 0 := by rw [Int.tmod_eq_emod_of_nonneg (by omega)]; omega
      by_cases h1 : s.size = 2 * j + 1
      · rw [drop_all s _ (by omega)]
        have e : unhexR [bt s ((2 * j : Nat) : Int)] ((2 * j : Nat) : Int) xs = ((⟨#[]⟩ : ByteArray), 10, ((2 * j : Nat) : Int) + 1) := by simp only [unhexR]; rw [if_neg hA]
        rw [e]
        refine Ev.step (f := fun k => digits_Unhex.l0 k s (xs ++ [16 * hv (bt s ((2 * j : Nat) : Int))]) (s.size : Int) (((2 * j : Nat) : Int) + 1)) (fun k => ?_) ?_
        · simp only [digits_Unhex.l0]
          rw [if_pos (by omega), if_pos (by omega), if_pos (by omega)]
          simp only [sib, Option.bind_some]
          refine (if_neg hA).trans ?_
          rw [if_pos e2, if_pos (by omega), w64 (by omega)]
          show digits_Unhex.l0 k s (xs ++ [(((hv (bt s ((2 * j : Nat) : Int))) % 256) * 16) % 256]) _ _ = _
          rw [e1]
        · refine Ev.step (f := fun _ => some ((⟨#[]⟩ : ByteArray), 10, ((2 * j : Nat) : Int) + 1)) (fun k => ?_) (Ev.now _)
          simp only [digits_Unhex.l0]
          rw [if_neg (by omega), if_pos (by omega)]
          congr 3; omega
      · rw [drop_bt s (2 * j + 1) (by omega)]
        have b0 := bt_lo s ((2 * j + 1 : Nat) : Int)
        have b1 := bt_hi s ((2 * j + 1 : Nat) : Int)
        have hb := hv_range _ b0 b1
        refine Ev.step (f := fun k => digits_Unhex.l0 k s (xs ++ [16 * hv (bt s ((2 * j : Nat) : Int))]) (s.size : Int) ((2 * j + 1 : Nat) : Int)) (fun k => ?_) ?_
        · simp only [digits_Unhex.l0]
          rw [if_pos (by omega), if_pos (by omega), if_pos (by omega)]
          simp only [sib, Option.bind_some]
          refine (if_neg hA).trans ?_
          rw [if_pos e2, if_pos (by omega), w64 (by omega)]
          show digits_Unhex.l0 k s (xs ++ [(((hv (bt s ((2 * j : Nat) : Int))) % 256) * 16) % 256]) _ _ = _
          rw [e1]
          rfl
        · by_cases hB : hv (bt s ((2 * j + 1 : Nat) : Int)) < 0
          · have e : unhexR (bt s ((2 * j : Nat) : Int) :: bt s ((2 * j + 1 : Nat) : Int) :: (bytesOf s).drop (2 * j + 1 + 1)) ((2 * j : Nat) : Int) xs = ((⟨#[]⟩ : ByteArray), 11, ((2 * j : Nat) : Int) + 1) := by simp only [unhexR]; rw [if_neg hA, if_pos hB]
            rw [e]
            refine Ev.step (f := fun _ => some ((⟨#[]⟩ : ByteArray), 11, ((2 * j : Nat) : Int) + 1)) (fun k => ?_) (Ev.now _)
            simp only [digits_Unhex.l0]
            rw [if_pos (by omega), if_pos (by omega), if_pos (by omega)]
            simp only [sib, Option.bind_some]
            exact (if_pos hB).trans (by rw [show ((2 * j + 1 : Nat) : Int) = ((2 * j : Nat) : Int) + 1 by omega])
          · have e : unhexR (bt s ((2 * j : Nat) : Int) :: bt s ((2 * j + 1 : Nat) : Int) :: (bytesOf s).drop (2 * j + 1 + 1)) ((2 * j : Nat) : Int) xs = unhexR ((bytesOf s).drop (2 * (j + 1))) ((2 * (j + 1) : Nat) : Int) (xs ++ [16 * hv (bt s ((2 * j : Nat) : Int)) + hv (bt s ((2 * j + 1 : Nat) : Int))]) := by
              simp only [unhexR]; rw [if_neg hA, if_neg hB]; congr 1
            rw [e]
            refine Ev.step (fun k => ?_) (ih (s.size - 2 * (j + 1)) (by omega) (j + 1) (xs ++ [16 * hv (bt s ((2 * j : Nat) : Int)) + hv (bt s ((2 * j + 1 : Nat) : Int))]) (by omega) (by omega) (by simp [hx]))
            simp only [digits_Unhex.l0]
            rw [if_pos (by omega), if_pos (by omega), if_pos (by omega)]
            simp only [sib, Option.bind_some]
            refine (if_neg hB).trans ?_
            have e3 : ¬ Int.tmod ((2 * j + 1 : Nat) : Int) 2 = 0 := by rw [Int.tmod_eq_emod_of_nonneg (by omega)]; omega
            have e4 : wrap64 (Int.tdiv ((2 * j + 1 : Nat) : Int) 2) = (j : Int) := by rw [Int.tdiv_eq_ediv_of_nonneg (by omega), w64 (by omega)]; omega
            have q1 : (0 : Int) ≤ (j : Int) := Int.natCast_nonneg j
            have q2 : (j : Int) < ((xs ++ [16 * hv (bt s ((2 * j : Nat) : Int))]).length : Int) := by rw [List.length_append, hx]; simp; omega
            have q3 : wrap64 (((2 * j + 1 : Nat) : Int) + 1) = ((2 * (j + 1) : Nat) : Int) := next_even s hs j hj
            rw [if_neg e3, e4, if_pos q1, if_pos q2, rd_last xs _ j hx, q3]
            show digits_Unhex.l0 k s ((xs ++ [16 * hv (bt s ((2 * j : Nat) : Int))]).set ((j : Int)).toNat (Go.bits .or .u8 (16 * hv (bt s ((2 * j : Nat) : Int))) ((hv (bt s ((2 * j + 1 : Nat) : Int))) % 256))) _ _ = _
            rw [show (hv (bt s ((2 * j + 1 : Nat) : Int))) % 256 = hv (bt s ((2 * j + 1 : Nat) : Int)) by omega, or16 _ _ (by omega) (by omega), show ((j : Int)).toNat = j from Int.toNat_natCast j, set_last xs _ _ j hx]
theorem unhex_is (s : ByteArray) (hs : s.size ≤ 281474976710656) : Ev (fun k => digits_Unhex.f k s) (unhexR (bytesOf s) 0 []) := by
  have h := unhex_l0 s hs s.size 0 [] (by omega) (by omega) rfl
  exact h

/-! the reference's -/
theorem runhex_l1 (s : ByteArray) (hs : s.size ≤ 281474976710656) (hev : s.size % 2 = 0) (hgood : ∀ i : Nat, i < s.size → ¬ hv (bt s i) < 0) : ∀ (d j : Nat) (xs : List Int), 2 * j + 2 * d = s.size → xs.length = j →
    Ev (fun k => turnstileref1_Unhex.l1 k s xs ((2 * j : Nat) : Int)) (unhexR ((bytesOf s).drop (2 * j)) ((2 * j : Nat) : Int) xs) := by
  intro d
  induction d with
  | zero =>
    intro j xs hj hx
    rw [drop_all s _ (by omega)]
    refine Ev.step (f := fun _ => some (unhexR [] ((2 * j : Nat) : Int) xs)) (fun k => ?_) (Ev.now _)
    simp only [turnstileref1_Unhex.l1]
    rw [if_neg (by omega)]
    rfl
  | succ d ih =>
    intro j xs hj hx
    rw [drop_bt s (2 * j) (by omega), drop_bt s (2 * j + 1) (by omega)]
    have hA := hgood (2 * j) (by omega)
    have hB := hgood (2 * j + 1) (by omega)
    have ha := hv_range _ (bt_lo s ((2 * j : Nat) : Int)) (bt_hi s _)
    have hb := hv_range _ (bt_lo s ((2 * j + 1 : Nat) : Int)) (bt_hi s _)
    have e : unhexR (bt s ((2 * j : Nat) : Int) :: bt s ((2 * j + 1 : Nat) : Int) :: (bytesOf s).drop (2 * j + 1 + 1)) ((2 * j : Nat) : Int) xs = unhexR ((bytesOf s).drop (2 * (j + 1))) ((2 * (j + 1) : Nat) : Int) (xs ++ [16 * hv (bt s ((2 * j : Nat) : Int)) + hv (bt s ((2 * j + 1 : Nat) : Int))]) := by
      simp only [unhexR]; rw [if_neg hA, if_neg hB]; congr 1
    rw [e]
    have ih' := ih (j + 1) (xs ++ [16 * hv (bt s ((2 * j : Nat) : Int)) + hv (bt s ((2 * j + 1 : Nat) : Int))]) (by omega) (by simp [hx])
    refine Ev.step (f := fun k => (turnstileref1_at.f k hexT (bt s ((2 * j : Nat) : Int))).bind fun t => (turnstileref1_at.f k hexT (bt s ((2 * j + 1 : Nat) : Int))).bind fun u => turnstileref1_Unhex.l1 k s (xs ++ [(wrap64 ((wrap64 (16 * t)) + u)) % 256]) ((2 * (j + 1) : Nat) : Int)) (fun k => ?_) ?_
    · simp only [turnstileref1_Unhex.l1]
      have e1 : wrap64 (((2 * j : Nat) : Int) + 1) = ((2 * j + 1 : Nat) : Int) := by rw [w64 (by omega)]; omega
      have e2 : wrap64 (((2 * j : Nat) : Int) + 2) = ((2 * (j + 1) : Nat) : Int) := by rw [w64 (by omega)]; omega
      have q1 : (0 : Int) ≤ ((2 * j + 1 : Nat) : Int) := by omega
      have q2 : ((2 * j + 1 : Nat) : Int) < (s.size : Int) := by omega
      have q3 : xs.length < 140737488355328 := by omega
      rw [if_pos (by omega), if_pos (by omega), e1, e2]
      simp only [if_pos q1, if_pos q2, if_pos q3]
      rfl
    · refine Ev.bind (hv_is _ (bt_lo _ _) (bt_hi _ _)) (Ev.bind (hv_is _ (bt_lo _ _) (bt_hi _ _)) ?_)
      have e3 : (wrap64 ((wrap64 (16 * hv (bt s ((2 * j : Nat) : Int)))) + hv (bt s ((2 * j + 1 : Nat) : Int)))) % 256 = 16 * hv (bt s ((2 * j : Nat) : Int)) + hv (bt s ((2 * j + 1 : Nat) : Int)) := by
        rw [w64 (by omega : -9223372036854775808 ≤ 16 * hv (bt s ((2 * j : Nat) : Int)) ∧ _), w64 (by omega)]; omega
      rw [e3]
      exact ih'

/-- the first wrong byte -/
theorem unhexR_bad : ∀ (n : Nat) (l : List Int), l.length ≤ n → ∀ (i : Int) (xs : List Int) (p : Nat), p < l.length → (∀ q : Nat, q < p → ¬ hv (l.getD q 0) < 0) → hv (l.getD p 0) < 0 → unhexR l i xs = ((⟨#[]⟩ : ByteArray), 11, i + p) := by
  intro n
  induction n using Nat.strongRecOn with
  | _ n ih =>
  intro l hl i xs p hp hq hb
  match l, hl, hp, hq, hb with
  | [a], hl, hp, hq, hb =>
    obtain rfl : p = 0 := by simp at hp; omega
    simp only [unhexR]
    rw [if_pos (by simpa using hb)]
    simp
  | a :: b :: r, hl, hp, hq, hb =>
    simp only [unhexR]
    match p, hp, hq, hb with
    | 0, hp, hq, hb => rw [if_pos (by simpa using hb)]; simp
    | 1, hp, hq, hb =>
      have h0 := hq 0 (by omega)
      rw [if_neg (by simpa using h0), if_pos (by simpa using hb)]; rfl
    | p + 2, hp, hq, hb =>
      have h0 := hq 0 (by omega)
      have h1 := hq 1 (by omega)
      rw [if_neg (by simpa using h0), if_neg (by simpa using h1)]
      have := ih (n - 1) (by simp at hl; omega) r (by simp at hl; omega) (i + 2) (xs ++ [16 * hv a + hv b]) p (by simp at hp; omega) (fun q h => by have := hq (q + 2) (by omega); simpa using this) (by simpa using hb)
      rw [this]
      congr 2
      simp; omega
theorem unhexR_odd : ∀ (n : Nat) (l : List Int), l.length ≤ n → ∀ (i : Int) (xs : List Int), l.length % 2 = 1 → (∀ q : Nat, q < l.length → ¬ hv (l.getD q 0) < 0) → unhexR l i xs = ((⟨#[]⟩ : ByteArray), 10, i + l.length) := by
  intro n
  induction n using Nat.strongRecOn with
  | _ n ih =>
  intro l hl i xs ho hq
  match l, hl, ho, hq with
  | [a], hl, ho, hq =>
    have := hq 0 (by simp)
    simp only [unhexR]
    rw [if_neg (by simpa using this)]
    rfl
  | a :: b :: r, hl, ho, hq =>
    have h0 := hq 0 (by simp)
    have h1 := hq 1 (by simp)
    simp only [unhexR]
    rw [if_neg (by simpa using h0), if_neg (by simpa using h1)]
    have := ih (n - 1) (by simp at hl; omega) r (by simp at hl; omega) (i + 2) (xs ++ [16 * hv a + hv b]) (by simp at ho; omega) (fun q h => by have := hq (q + 2) (by simp; omega); simpa using this)
    rw [this]
    congr 2
    simp; omega
theorem getD_bytes (s : ByteArray) (i : Nat) : (bytesOf s).getD i 0 = bt s i := by
  rw [← rd_bytesOf]; rfl

theorem runhex_l0 (s : ByteArray) (hs : s.size ≤ 281474976710656) : ∀ (d i : Nat), i + d = s.size → (∀ q : Nat, q < i → ¬ hv (bt s q) < 0) →
    Ev (fun k => turnstileref1_Unhex.l0 k s (i : Int)) (unhexR (bytesOf s) 0 []) := by
  intro d
  induction d with
  | zero =>
    intro i hi hq
    by_cases ho : s.size % 2 = 1
    · rw [unhexR_odd _ (bytesOf s) (Nat.le_refl _) 0 [] (by rw [bytesOf_length]; exact ho) (fun q h => by rw [getD_bytes]; rw [bytesOf_length] at h; exact hq q (by omega))]
      refine Ev.step (f := fun _ => some ((⟨#[]⟩ : ByteArray), 10, (0 : Int) + (bytesOf s).length)) (fun k => ?_) (Ev.now _)
      simp only [turnstileref1_Unhex.l0]
      rw [if_neg (by omega), if_pos (by omega), bytesOf_length]
      simp
    · have h := runhex_l1 s hs (by omega) (fun q h => hq q (by omega)) (s.size / 2) 0 [] (by omega) rfl
      refine Ev.step (fun k => ?_) h
      simp only [turnstileref1_Unhex.l0]
      rw [if_neg (by omega), if_neg (by omega)]
      rfl
  | succ d ih =>
    intro i hi hq
    refine Ev.step (f := fun k => (turnstileref1_at.f k hexT (bt s (i : Int))).bind fun t => if t < 0 then some ((⟨#[]⟩ : ByteArray), 11, (i : Int)) else turnstileref1_Unhex.l0 k s ((i + 1 : Nat) : Int)) (fun k => ?_) ?_
    · simp only [turnstileref1_Unhex.l0]
      rw [if_pos (by omega), if_pos (by omega), w64 (by omega)]
      rfl
    · refine Ev.bind (f := fun k t => if t < 0 then some ((⟨#[]⟩ : ByteArray), 11, (i : Int)) else turnstileref1_Unhex.l0 k s ((i + 1 : Nat) : Int)) (hv_is _ (bt_lo _ _) (bt_hi _ _)) ?_
      by_cases hb : hv (bt s (i : Int)) < 0
      · rw [unhexR_bad _ (bytesOf s) (Nat.le_refl _) 0 [] i (by rw [bytesOf_length]; omega) (fun q h => by rw [getD_bytes]; exact hq q h) (by rw [getD_bytes]; exact hb)]
        exact ev_some fun k => by simp [if_pos hb]
      · refine Ev.congr (fun k => if_neg hb) (ih (i + 1) (by omega) (fun q h => ?_))
        by_cases e : q = i
        · subst e; exact hb
        · exact hq q (by omega)
theorem runhex_is (s : ByteArray) (hs : s.size ≤ 281474976710656) : Ev (fun k => turnstileref1_Unhex.f k s) (unhexR (bytesOf s) 0 []) :=
  runhex_l0 s hs s.size 0 (by omega) (fun q h => by omega)
end Go.Proofs.Ytlpamhffpgoebaa.Pure
