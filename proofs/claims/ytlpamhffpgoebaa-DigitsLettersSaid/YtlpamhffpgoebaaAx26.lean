-- WRITTEN BY this session's own drv.py over the kit's print. Not trusted: Lean checks it.
import Derived.Test.YtlpamhffpgoebaaAx0
import Derived.Test.YtlpamhffpgoebaaAx20
namespace Go.Proofs.Ytlpamhffpgoebaa.All
open Go.RowKit Go.Proofs.YtlpamhffpgoebaaW.PrintWords Go.Proofs.YtlpamhffpgoebaaW.PrintLast Go.Proofs.YtlpamhffpgoebaaW.PrintMore
attribute [local go_sem] max2_int min2_int max_two min_two max_three min_three max_four min_four   -- for this text's walks alone
set_option linter.unusedVariables false
set_option linter.unusedSimpArgs false

/-! ### digits_read: function 54 -/
/-- the first place at which the table holds b -/
def ebFind (b : Int) : Option Nat := ebL.findIdx? (· == b)
theorem ebL_len : ebL.length = 95 := rfl
theorem rd_get (j : Nat) (h : j < ebL.length) : rd ebL j = ebL[j] := by
  simp [rd, List.getD, List.getElem?_eq_getElem h]
theorem eb_first (k : Nat) (b : Int) (hk : k < 95) (he : rd ebL k = b) (hj : ∀ j : Nat, j < k → rd ebL j ≠ b) : ebFind b = some k := by
  unfold ebFind
  have hl : k < ebL.length := hk
  rw [List.findIdx?_eq_some_iff_getElem]
  refine ⟨hl, ?_, ?_⟩
  · rw [← rd_get k hl]; simpa using he
  · intro j h2
    have := hj j h2
    rw [rd_get j (by omega)] at this
    simpa using this
theorem eb_none (b : Int) (hj : ∀ j : Nat, j < 95 → rd ebL j ≠ b) : ebFind b = none := by
  unfold ebFind
  rw [List.findIdx?_eq_none_iff]
  intro x hx
  obtain ⟨j, h2, rfl⟩ := List.mem_iff_getElem.1 hx
  have := hj j h2
  rw [rd_get j h2] at this
  simpa using this
def digits_read.f (a0 : Int) (a1 : Int) : Option (Int × Bool) :=
  if a0 = 4 then (match ebFind a1 with | some i => some (32 + (i : Int), true) | none => some (0, false))
  else if a0 = 5 then some (a1, true) else some (a1, decide (32 ≤ a1) && decide (a1 ≤ 126))
set_option maxHeartbeats 4000000 in
set_option maxRecDepth 100000 in
theorem digits_read.calls (a0 : Int) (a1 : Int) (r1 : Int) (r2 : Bool) (w : World) (h : digits_read.f a0 a1 = some (r1, r2)) :
    Calls Try.prog 54 #[.int .i64 a0, .int .u8 a1] w fun e w' => e = .returned (.tuple #[.int .u8 r1, .bool r2]) ∧ Below w.heap.size w w' := by
  unfold digits_read.f at h
  by_cases c1 : a0 = 4
  · rw [if_pos c1] at h
    subst c1
    go_enter Try.func54, Try.ntmps54
    go_wp2_with (first | (go_at_call 60; refine (digits_ebcdic.calls _).mono ?_; rintro e w' ⟨rfl, hb⟩))
    have Hh := Lib.hid h
    clear h
    go_loop [22] (fun v => ∃ k : Nat, v = .int .i64 k ∧ k ≤ 95 ∧ Aside0 (∀ j : Nat, j < k → rd ebL j ≠ a1)) (fun v => 95 - (intOf v).toNat)
    case atStart => exact ⟨0, rfl, by omega, ⟨fun j hj => by omega⟩⟩
    case round =>
      obtain ⟨k, rfl, hk, hj⟩ := hrel
      by_cases hlt : k < 95
      · have hx := fun W => index_eb .i64 (k : Int) (by omega) (by omega) W
        by_cases he : rd ebL k = a1
        · have be : (rd ebL k == a1) = true := beq_iff_eq.mpr he
          have hf : ebFind a1 = some k := eb_first k a1 hlt he hj.out
          have hr := Hh.out
          rw [hf] at hr
          obtain ⟨hr1, rfl⟩ := Prod.mk.inj (Option.some.inj hr)
          have Hr := Lib.hid hr1
          clear hr hr1 hf he
          go_wp2
          go_ret2
          exact ⟨by rw [← Hr.out]; rfl, hb⟩
        · have be : (rd ebL k == a1) = false := beq_eq_false_iff_ne.mpr he
          have hj2 : Aside0 (∀ j : Nat, j < k + 1 → rd ebL j ≠ a1) := ⟨fun j h2 => by
            by_cases e : j = k
            · subst e; exact he
            · exact hj.out j (by omega)⟩
          clear he hj
          go_wp2
          go_round
          case rel => exact ⟨k + 1, by go_num, by omega, hj2⟩
          case measure => simp [intOf]; omega
      · obtain rfl : k = 95 := by omega
        have hr := Hh.out
        rw [eb_none a1 hj.out] at hr
        obtain ⟨rfl, rfl⟩ := Prod.mk.inj (Option.some.inj hr)
        clear hr hj
        go_wp2
        go_ret2
        exact ⟨rfl, hb⟩
  · rw [if_neg c1] at h
    have b1 : (a0 != 4) = true := bne_iff_ne.mpr c1
    by_cases c2 : a0 = 5
    · rw [if_pos c2] at h
      obtain ⟨rfl, rfl⟩ := Prod.mk.inj (Option.some.inj h)
      subst c2
      clear c1 h b1
      go_enter Try.func54, Try.ntmps54
      go_wp2
      go_ret2
      exact ⟨rfl, Below.refl _ _⟩
    · rw [if_neg c2] at h
      have b2 : (a0 == 5) = false := beq_eq_false_iff_ne.mpr c2
      obtain ⟨rfl, hr⟩ := Prod.mk.inj (Option.some.inj h)
      have Hr := Lib.hid hr
      clear hr h c2 c1
      by_cases c3 : 32 ≤ a1
      · have b3 : decide (32 ≤ a1) = true := decide_eq_true c3
        clear c3
        go_enter Try.func54, Try.ntmps54
        go_wp2
        go_ret2
        exact ⟨by rw [← Hr.out, b3]; simp, Below.refl _ _⟩
      · have b3 : decide (32 ≤ a1) = false := decide_eq_false c3
        clear c3
        go_enter Try.func54, Try.ntmps54
        go_wp2
        go_ret2
        exact ⟨by rw [← Hr.out, b3]; simp, Below.refl _ _⟩

end Go.Proofs.Ytlpamhffpgoebaa.All
