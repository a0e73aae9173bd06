/- Plain lemmas on whole numbers, bytes and rounds that the pure statements of the digits seat share. No condition of their own. -/
import Derived.Test.YtlpamhffpgoebaaAx0
import Derived.OpenShut
namespace Go.Proofs.Ytlpamhffpgoebaa.Pure
open Go.RowKit Go.Proofs.YtlpamhffpgoebaaW.PrintWords Go.Proofs.YtlpamhffpgoebaaW.PrintLast Go.Proofs.YtlpamhffpgoebaaW.PrintMore

theorem wf64 {n : Int} (h : (Lit.int .i64 n).wf = true) : -9223372036854775808 ≤ n ∧ n ≤ 9223372036854775807 := by
  exact bounds_i64 h
theorem w64 {n : Int} (h : -9223372036854775808 ≤ n ∧ n ≤ 9223372036854775807) : wrap64 n = n := by
  unfold wrap64
  omega
/-- both tell the same, with enough rounds -/
def Same {α : Type} (g f : Nat → Option α) : Prop := ∃ r, Ev g r ∧ Ev f r
theorem Same.of {α : Type} {g f : Nat → Option α} {r : α} (h : Ev g r) (k : Ev f r) : Same g f := ⟨r, h, k⟩
theorem Same.step {α : Type} {g f g' f' : Nat → Option α} (hg : ∀ k, g (k + 1) = g' k) (hf : ∀ k, f (k + 1) = f' k) (h : Same g' f') : Same g f := by
  obtain ⟨r, h1, h2⟩ := h
  exact ⟨r, Ev.step hg h1, Ev.step hf h2⟩
theorem Ev.eq {α : Type} {g : Nat → Option α} {r s : α} (h : Ev g r) (k : Ev g s) : r = s := by
  obtain ⟨a, ha⟩ := h
  obtain ⟨b, hb⟩ := k
  have h1 := ha (max a b) (Nat.le_max_left _ _)
  rw [hb (max a b) (Nat.le_max_right _ _)] at h1
  exact (Option.some.inj h1).symm
theorem ev_some {α : Type} {g : Nat → Option α} {r : α} (h : ∀ k, g k = some r) : Ev g r := ⟨0, fun k _ => h k⟩
theorem evb {α β : Type} {g : Nat → Option α} {f : Nat → α → Option β} {a : α} {r : β} (h : Ev g a) (k : Ev (fun n => f n a) r) : Ev (fun n => (g n).bind (f n)) r := Ev.bind h k
theorem bt_lo (s : ByteArray) (i : Int) : 0 ≤ bt s i := (bt_range s i).1
theorem bt_hi (s : ByteArray) (i : Int) : bt s i ≤ 255 := (bt_range s i).2
end Go.Proofs.Ytlpamhffpgoebaa.Pure
