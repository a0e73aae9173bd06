-- WRITTEN BY gen19.py: the contract of the book's Settle (function 19).
import Derived.Test.YtdiodnjkejogdaaH18
namespace Go.Proofs.Ytdiodnjkejogdaa.All
open Go.RowKit Go.Proofs.YtdiodnjkejogdaaW.PrintWords Go.Proofs.YtdiodnjkejogdaaW.PrintLast Go.Proofs.YtdiodnjkejogdaaW.PrintMore Go.Proofs.Ytdiodnjkejogdaa.Pure
set_option linter.unusedVariables false
set_option linter.unusedSimpArgs false
theorem fldsOf_length (x : List Int) : (fldsOf x).length = 8 := rfl
set_option maxHeartbeats 16000000 in
set_option maxRecDepth 100000 in
theorem totals_Settle.wrong (k : Nat) (gb gl : Nat) (L : List (List Int)) (link : Int) (x : List Int) (m : ByteArray) (A : Option Addr) (c : Nat) (lm : List S70) (w : World) (hk : BookAt w gb gl L) (h0 : 0 ≤ link) (h1 : link < (L.length : Int)) (hx : L[link.toNat]? = some x) (ht : Tells x)
    (cl fn : Int) (hcl : message_Class.f k m = some cl) (hfn : message_Function.f k m = some fn) (hc5 : (cl != 5) = false) (hf0 : (fn != 0) = true) :
    Calls Try.prog 19 #[.pointer (some ⟨gb, 0, none⟩), .int .i64 link, .agg #[.string m, .slice A lm.length c]] w fun e w' => e = .returned (.tuple #[.bool false, .int .i64 111]) ∧ Below w.heap.size w w' := by
  have HB := Aside0.mk (Below.refl w.heap.size w)
  have HK := Aside0.mk hk
  have HX := Aside0.mk hx
  have HC := Aside0.mk hcl
  have HFN := Aside0.mk hfn
  clear hk hx hcl hfn
  have hu33 := Try.underlying33
  go_enter Try.func19, Try.ntmps19
  go_wp2_with (first | ((with_reducible refine gate_dst (N := 5) rfl ?_); refine box_event ?hg (N := 5) ?hd (cs := #[.string m, .slice A lm.length c]) (t := 33) ?hr ?_; (case hd => rfl); (case hg => rfl); (case hr => first | (go_simp; done) | (go_simp; rfl)); intro g5 hg V hbox hb; have G5 : Aside0 (w.heap.size ≤ g5) := ⟨by rw [hg]; exact HB.out.size⟩; have m_ := below_step HB.out hb; have HL5 : Aside0 (gb < g5 ∧ gl < g5) := ⟨by rw [hg]; exact (BookAt.below HK.out HB.out).lt⟩; clear HB hb hg; have HB := Aside0.mk m_; have B5 := Aside0.mk hbox; clear m_ hbox; have hk5 := blk_cell B5.out 0; have hf5 := blk_frozen B5.out 0) | ((with_reducible refine gate_callee (f := 18) rfl ?_); refine goesL_ (some 17) rfl rfl Try.func18 (by kernel_rfl) rfl #[.pointer (some ⟨gb, 0, none⟩), .int .i64 link] rfl (by (try simp only [List.map_toArray, List.map_cons, List.map_nil]); first | done | rfl) ?_; (with_reducible refine (totals_Fields.calls gb gl L link x _ (BookAt.below HK.out HB.out) h0 h1 HX.out ht).mono ?_); rintro e V ⟨gf, rfl, hgf, hfl, hb⟩; refine ⟨_, rfl, ?_⟩; have m_ := below_step HB.out hb; have GF : Aside0 (w.heap.size ≤ gf ∧ g5 < gf) := ⟨Nat.le_trans HB.out.size hgf, Nat.lt_of_lt_of_le (blk_lt B5.out) hgf⟩; have k_ := blk_below B5.out hb; clear HB hb B5 hk5 hf5 hgf; have HB := Aside0.mk m_; have B5 := Aside0.mk k_; have HF := Aside0.mk hfl; clear m_ k_ hfl; have hk5 := blk_cell B5.out 0; have hf5 := blk_frozen B5.out 0) | ((with_reducible refine gate_callee (f := 38) rfl ?_); refine goesL_ (some 25) rfl rfl Try.func38 (by kernel_rfl) rfl #[.string m] rfl (by (try simp only [List.map_toArray, List.map_cons, List.map_nil]); first | done | rfl) ?_; (with_reducible refine (message_Class.calls k m cl _ HC.out).mono ?_); rintro e V_ ⟨rfl, ⟨nd, rfl⟩⟩; refine ⟨_, rfl, ?_⟩) | ((with_reducible refine gate_callee (f := 39) rfl ?_); refine gate_guard (by first | rfl | kernel_rfl) ?_; refine goesL_ (some 30) rfl rfl Try.func39 (by kernel_rfl) rfl #[.string m] rfl (by (try simp only [List.map_toArray, List.map_cons, List.map_nil]); first | done | rfl) ?_; (with_reducible refine (message_Function.calls k m fn _ HFN.out).mono ?_); rintro e V_ ⟨rfl, ⟨nd2, rfl⟩⟩; refine ⟨_, rfl, ?_⟩))
  go_ret2
  exact ⟨rfl, pw_below_drewN HB.out _⟩
set_option maxHeartbeats 16000000 in
set_option maxRecDepth 100000 in
theorem totals_Settle.calls (k : Nat) (gb gl : Nat) (L : List (List Int)) (link : Int) (x : List Int) (m : ByteArray) (A : Option Addr) (c : Nat) (lm : List S70) (w : World) (hk : BookAt w gb gl L) (h0 : 0 ≤ link) (h1 : link < (L.length : Int)) (hx : L[link.toNat]? = some x) (ht : Tells x)
    (hrm : Kd.C k70 w A lm.length lm) (hc : lm.length ≤ c) (hlm : lm.length ≤ 1000) (hcl : message_Class.f k m = some 5) (hfn : message_Function.f k m = some 0) :
    Calls Try.prog 19 #[.pointer (some ⟨gb, 0, none⟩), .int .i64 link, .agg #[.string m, .slice A lm.length c]] w fun e w' =>
      (((fldsOf x).all (okF lm) = true ∧ e = .returned (.tuple #[.bool true, .int .i64 0]) ∧ BookAt w' gb gl (L.set link.toNat zeros12) ∧ w.grownBy w' (some gl)) ∨
       ((fldsOf x).all (okF lm) = false ∧ e = .returned (.tuple #[.bool false, .int .i64 0]) ∧ Below w.heap.size w w')) := by
  have HB := Aside0.mk (Below.refl w.heap.size w)
  have HK := Aside0.mk hk
  have HX := Aside0.mk hx
  have HC := Aside0.mk hcl
  have HFN := Aside0.mk hfn
  have HRM0 := Aside0.mk hrm
  obtain ⟨cl, hcl5⟩ : ∃ cl : Int, cl = 5 := ⟨_, rfl⟩
  obtain ⟨fn, hfn0⟩ : ∃ fn : Int, fn = 0 := ⟨_, rfl⟩
  rw [← hcl5] at HC
  rw [← hfn0] at HFN
  have hc5 : (cl != 5) = false := by rw [hcl5]; rfl
  have hf0 : (fn != 0) = false := by rw [hfn0]; rfl
  clear hk hx hcl hfn hrm hcl5 hfn0
  have hu33 := Try.underlying33
  have hu31 := Try.underlying31
  have hu70 := Try.underlying70
  go_enter Try.func19, Try.ntmps19
  go_wp2_with (first | ((with_reducible refine gate_dst (N := 5) rfl ?_); refine box_event ?hg (N := 5) ?hd (cs := #[.string m, .slice A lm.length c]) (t := 33) ?hr ?_; (case hd => rfl); (case hg => rfl); (case hr => first | (go_simp; done) | (go_simp; rfl)); intro g5 hg V hbox hb; have G5 : Aside0 (w.heap.size ≤ g5) := ⟨by rw [hg]; exact HB.out.size⟩; have m_ := below_step HB.out hb; have HL5 : Aside0 (gb < g5 ∧ gl < g5) := ⟨by rw [hg]; exact (BookAt.below HK.out HB.out).lt⟩; clear HB hb hg; have HB := Aside0.mk m_; have B5 := Aside0.mk hbox; clear m_ hbox; have hk5 := blk_cell B5.out 0; have hf5 := blk_frozen B5.out 0) | ((with_reducible refine gate_callee (f := 18) rfl ?_); refine goesL_ (some 17) rfl rfl Try.func18 (by kernel_rfl) rfl #[.pointer (some ⟨gb, 0, none⟩), .int .i64 link] rfl (by (try simp only [List.map_toArray, List.map_cons, List.map_nil]); first | done | rfl) ?_; (with_reducible refine (totals_Fields.calls gb gl L link x _ (BookAt.below HK.out HB.out) h0 h1 HX.out ht).mono ?_); rintro e V ⟨gf, rfl, hgf, hfl, hb⟩; refine ⟨_, rfl, ?_⟩; have m_ := below_step HB.out hb; have GF : Aside0 (w.heap.size ≤ gf ∧ g5 < gf) := ⟨Nat.le_trans HB.out.size hgf, Nat.lt_of_lt_of_le (blk_lt B5.out) hgf⟩; have k_ := blk_below B5.out hb; clear HB hb B5 hk5 hf5 hgf; have HB := Aside0.mk m_; have B5 := Aside0.mk k_; have HF := Aside0.mk hfl; clear m_ k_ hfl; have hk5 := blk_cell B5.out 0; have hf5 := blk_frozen B5.out 0) | ((with_reducible refine gate_callee (f := 38) rfl ?_); refine goesL_ (some 25) rfl rfl Try.func38 (by kernel_rfl) rfl #[.string m] rfl (by (try simp only [List.map_toArray, List.map_cons, List.map_nil]); first | done | rfl) ?_; (with_reducible refine (message_Class.calls k m cl _ HC.out).mono ?_); rintro e V_ ⟨rfl, ⟨nd, rfl⟩⟩; refine ⟨_, rfl, ?_⟩) | ((with_reducible refine gate_callee (f := 39) rfl ?_); refine gate_guard (by first | rfl | kernel_rfl) ?_; refine goesL_ (some 30) rfl rfl Try.func39 (by kernel_rfl) rfl #[.string m] rfl (by (try simp only [List.map_toArray, List.map_cons, List.map_nil]); first | done | rfl) ?_; (with_reducible refine (message_Function.calls k m fn _ HFN.out).mono ?_); rintro e V_ ⟨rfl, ⟨nd2, rfl⟩⟩; refine ⟨_, rfl, ?_⟩))
  have BB := pw_below_drewN HB.out (nd + nd2)
  have FF : FldAt (World.drewN V (nd + nd2)) gf (fldsOf x) := HF.out.keep rfl
  have B5b := blk_drewN B5.out (nd + nd2)
  clear HB HF B5 hk5 hf5
  generalize World.drewN V (nd + nd2) = Vf at BB FF B5b ⊢
  have H0 := Aside0.mk BB; have HF := Aside0.mk FF; have B50 := Aside0.mk B5b
  have GF5 : Aside0 (g5 < Vf.heap.size) := ⟨blk_lt B5b⟩
  have HRM : Aside0 (Kd.C k70 Vf A lm.length lm) := ⟨Kd.C_below HRM0.out BB⟩
  have HB0 := Aside0.mk (Below.refl Vf.heap.size Vf)
  clear BB FF B5b HRM0
  go_loopg [35] 9 (fun kq v35 W => ∃ (y : Int) (i : Nat), v35 = .int .i64 y ∧ Aside0 (y = (i : Int)) ∧ Aside0 (i + kq = 9 ∧ 1 ≤ kq) ∧ Aside0 (∀ q, q < i → ((fldsOf x)[q]?.map (okF lm)) = some true) ∧ Aside0 (Below Vf.heap.size Vf W))
  case atStart => exact ⟨0, 0, rfl, ⟨rfl⟩, ⟨by omega, by omega⟩, ⟨fun q hq => absurd hq (Nat.not_lt_zero q)⟩, HB0⟩
  case round =>
    clear HB0
    obtain ⟨y, i, rfl, HY, HI, HQ, HB⟩ := hrel
    have hy := HY.out
    have B5 := Aside0.mk (blk_below B50.out HB.out)
    by_cases hi : i < 8
    · have c1 : decide (y < 8) = true := decide_eq_true (by omega)
      have p1 : (0 ≤ y) = True := eq_true (by omega)
      have p2 : (y < 8) = True := eq_true (by omega)
      obtain ⟨p, hp⟩ : ∃ p, (fldsOf x)[i]? = some p := ⟨(fldsOf x)[i]'(by rw [fldsOf_length]; exact hi), List.getElem?_eq_getElem _⟩
      have HRG : Aside0 (Vf.rangeAt gf (y.toNat * 3) [.int .i64 p.1, .string p.2, .slice none 0 0]) := ⟨by rw [show y.toNat = i by omega]; exact HF.out.range hp⟩
      have HRG := Aside0.mk (show World.rangeAt wr gf (y.toNat * 3) [.int .i64 p.1, .string p.2, .slice none 0 0] from fun j v hv => pw_cell_below HB.out (HRG.out j v hv))
      obtain ⟨kg, hkg⟩ := get_ev m p.1 lm (by omega)
      obtain ⟨⟨sv, ov⟩, hgp⟩ : ∃ g, g = getP p.1 lm := ⟨_, rfl⟩
      have HG : Aside0 (message_Get.f kg m lm p.1 = some (sv, ov)) := ⟨by rw [hgp]; exact hkg kg (Nat.le_refl _)⟩
      have hok : okF lm p = !(ov && (sv.toList != p.2.toList)) := by unfold okF; rw [← hgp]
      have HP := Aside0.mk hp; have HOK := Aside0.mk hok; have HI8 := Aside0.mk hi
      clear hkg hgp hok hp hi hy
      cases ov
      · go_wp2_with (first | ((with_reducible refine gate_dst (N := 38) rfl ?_); refine wpList_load_mid rfl 70 _ rfl gf (y.toNat * 3) rfl [.int .i64 p.1, .string p.2, .slice none 0 0] _ HRG.out Try.underlying70 rfl size70 ?_) | ((with_reducible refine gate_dst (N := 11) rfl ?_); refine box_event ?hg (N := 11) ?hd (cs := #[.int .i64 0, .string (⟨#[]⟩ : ByteArray), .slice none 0 0]) (t := 70) ?hr ?_; (case hd => rfl); (case hg => rfl); (case hr => first | (go_simp; done) | (go_simp; rfl)); intro g11 hg V hbox hb; have G11 : Aside0 (Vf.heap.size ≤ g11) := ⟨by rw [hg]; exact HB.out.size⟩; have m_ := below_step HB.out hb; have k_ := blk_below B5.out hb; clear HB hb B5 hg; have HB := Aside0.mk m_; have B5 := Aside0.mk k_; have B11 := Aside0.mk hbox; clear m_ k_ hbox; have LG : Aside0 (g5 < g11) := ⟨Nat.lt_of_lt_of_le GF5.out G11.out⟩) | ((with_reducible refine gate_store (t := 70) (p := 11) rfl ?_); refine store_row_all rfl 70 _ _ rfl rfl g11 #[.int .i64 p.1, .string p.2, .slice none 0 0] rfl rfl 70 _ B11.out size70 rfl (one3 _ _ _ _ _) ?_; intro V hbox ho hb; have m_ := low HB.out G11.out hb; have k_ := (ho g5 (by have := LG.out; omega)).trans B5.out; clear HB hb ho B5 B11; have HB := Aside0.mk m_; have B5 := Aside0.mk k_; have B11 := Aside0.mk hbox; clear m_ k_ hbox; have hkf0 := blk_cell B11.out 0; have hkf1 := blk_cell B11.out 1; have hff0 := blk_frozen B11.out 0; have hff1 := blk_frozen B11.out 1) | ((with_reducible refine gate_dst (N := 40) rfl ?_); refine wpList_load_row rfl 33 _ rfl g5 rfl 33 #[.string m, .slice A lm.length c] (0, 0) _ B5.out Try.underlying33 rfl size33 ?_) | ((with_reducible refine gate_callee (f := 40) rfl ?_); refine goesL_ (some 43) rfl rfl Try.func40 (by kernel_rfl) rfl #[.agg #[.string m, .slice A lm.length c], .int .i64 p.1] rfl (by (try simp only [List.map_toArray, List.map_cons, List.map_nil]); first | done | rfl) ?_; (with_reducible refine (message_Get.calls kg m A c lm p.1 sv _ _ (Kd.C_below HRM.out HB.out) hc HG.out).mono ?_); rintro e V ⟨rfl, hb⟩; refine ⟨_, rfl, ?_⟩; have m_ := below_step HB.out hb; have k_ := blk_below B5.out hb; have k2_ := blk_below B11.out hb; clear HB hb B5 B11 hkf0 hkf1 hff0 hff1; have HB := Aside0.mk m_; have B5 := Aside0.mk k_; have B11 := Aside0.mk k2_; clear m_ k_ k2_; have hkf0 := blk_cell B11.out 0; have hkf1 := blk_cell B11.out 1; have hff0 := blk_frozen B11.out 0; have hff1 := blk_frozen B11.out 1))
        go_roundg (gk - 1)
        case measure => have := HI.out; omega
        case rel => exact ⟨y + 1, i + 1, (by first | rfl | (simp [w64 (n := y + 1) (by have := HY.out; have := HI8.out; omega)]; done)), ⟨by have := HY.out; omega⟩, ⟨by have := HI.out; have := HI8.out; omega, by have := HI.out; have := HI8.out; omega⟩, ⟨fun q hq => by
          rcases Nat.lt_or_ge q i with h | h
          · exact HQ.out q h
          · rw [show q = i by omega, HP.out, Option.map_some, HOK.out]; rfl⟩, HB⟩
      · by_cases hs : (sv.toList != p.2.toList) = true
        · have hsb : (sv.toList == p.2.toList) = false := by simpa [bne] using hs
          have HOF : Aside0 ((fldsOf x).all (okF lm) = false) := ⟨by
            rw [List.all_eq_false]
            exact ⟨p, List.mem_of_getElem? HP.out, by rw [HOK.out, hs]; simp⟩⟩
          clear hs
          go_wp2_with (first | ((with_reducible refine gate_dst (N := 38) rfl ?_); refine wpList_load_mid rfl 70 _ rfl gf (y.toNat * 3) rfl [.int .i64 p.1, .string p.2, .slice none 0 0] _ HRG.out Try.underlying70 rfl size70 ?_) | ((with_reducible refine gate_dst (N := 11) rfl ?_); refine box_event ?hg (N := 11) ?hd (cs := #[.int .i64 0, .string (⟨#[]⟩ : ByteArray), .slice none 0 0]) (t := 70) ?hr ?_; (case hd => rfl); (case hg => rfl); (case hr => first | (go_simp; done) | (go_simp; rfl)); intro g11 hg V hbox hb; have G11 : Aside0 (Vf.heap.size ≤ g11) := ⟨by rw [hg]; exact HB.out.size⟩; have m_ := below_step HB.out hb; have k_ := blk_below B5.out hb; clear HB hb B5 hg; have HB := Aside0.mk m_; have B5 := Aside0.mk k_; have B11 := Aside0.mk hbox; clear m_ k_ hbox; have LG : Aside0 (g5 < g11) := ⟨Nat.lt_of_lt_of_le GF5.out G11.out⟩) | ((with_reducible refine gate_store (t := 70) (p := 11) rfl ?_); refine store_row_all rfl 70 _ _ rfl rfl g11 #[.int .i64 p.1, .string p.2, .slice none 0 0] rfl rfl 70 _ B11.out size70 rfl (one3 _ _ _ _ _) ?_; intro V hbox ho hb; have m_ := low HB.out G11.out hb; have k_ := (ho g5 (by have := LG.out; omega)).trans B5.out; clear HB hb ho B5 B11; have HB := Aside0.mk m_; have B5 := Aside0.mk k_; have B11 := Aside0.mk hbox; clear m_ k_ hbox; have hkf0 := blk_cell B11.out 0; have hkf1 := blk_cell B11.out 1; have hff0 := blk_frozen B11.out 0; have hff1 := blk_frozen B11.out 1) | ((with_reducible refine gate_dst (N := 40) rfl ?_); refine wpList_load_row rfl 33 _ rfl g5 rfl 33 #[.string m, .slice A lm.length c] (0, 0) _ B5.out Try.underlying33 rfl size33 ?_) | ((with_reducible refine gate_callee (f := 40) rfl ?_); refine goesL_ (some 43) rfl rfl Try.func40 (by kernel_rfl) rfl #[.agg #[.string m, .slice A lm.length c], .int .i64 p.1] rfl (by (try simp only [List.map_toArray, List.map_cons, List.map_nil]); first | done | rfl) ?_; (with_reducible refine (message_Get.calls kg m A c lm p.1 sv _ _ (Kd.C_below HRM.out HB.out) hc HG.out).mono ?_); rintro e V ⟨rfl, hb⟩; refine ⟨_, rfl, ?_⟩; have m_ := below_step HB.out hb; have k_ := blk_below B5.out hb; have k2_ := blk_below B11.out hb; clear HB hb B5 B11 hkf0 hkf1 hff0 hff1; have HB := Aside0.mk m_; have B5 := Aside0.mk k_; have B11 := Aside0.mk k2_; clear m_ k_ k2_; have hkf0 := blk_cell B11.out 0; have hkf1 := blk_cell B11.out 1; have hff0 := blk_frozen B11.out 0; have hff1 := blk_frozen B11.out 1))
          go_ret2
          exact Or.inr ⟨HOF.out, rfl, H0.out.trans (Below.mono HB.out H0.out.size)⟩
        · have hsb : (sv.toList == p.2.toList) = true := by simpa [bne] using hs
          have HS := Aside0.mk (Bool.eq_false_iff.mpr hs)
          clear hs
          go_wp2_with (first | ((with_reducible refine gate_dst (N := 38) rfl ?_); refine wpList_load_mid rfl 70 _ rfl gf (y.toNat * 3) rfl [.int .i64 p.1, .string p.2, .slice none 0 0] _ HRG.out Try.underlying70 rfl size70 ?_) | ((with_reducible refine gate_dst (N := 11) rfl ?_); refine box_event ?hg (N := 11) ?hd (cs := #[.int .i64 0, .string (⟨#[]⟩ : ByteArray), .slice none 0 0]) (t := 70) ?hr ?_; (case hd => rfl); (case hg => rfl); (case hr => first | (go_simp; done) | (go_simp; rfl)); intro g11 hg V hbox hb; have G11 : Aside0 (Vf.heap.size ≤ g11) := ⟨by rw [hg]; exact HB.out.size⟩; have m_ := below_step HB.out hb; have k_ := blk_below B5.out hb; clear HB hb B5 hg; have HB := Aside0.mk m_; have B5 := Aside0.mk k_; have B11 := Aside0.mk hbox; clear m_ k_ hbox; have LG : Aside0 (g5 < g11) := ⟨Nat.lt_of_lt_of_le GF5.out G11.out⟩) | ((with_reducible refine gate_store (t := 70) (p := 11) rfl ?_); refine store_row_all rfl 70 _ _ rfl rfl g11 #[.int .i64 p.1, .string p.2, .slice none 0 0] rfl rfl 70 _ B11.out size70 rfl (one3 _ _ _ _ _) ?_; intro V hbox ho hb; have m_ := low HB.out G11.out hb; have k_ := (ho g5 (by have := LG.out; omega)).trans B5.out; clear HB hb ho B5 B11; have HB := Aside0.mk m_; have B5 := Aside0.mk k_; have B11 := Aside0.mk hbox; clear m_ k_ hbox; have hkf0 := blk_cell B11.out 0; have hkf1 := blk_cell B11.out 1; have hff0 := blk_frozen B11.out 0; have hff1 := blk_frozen B11.out 1) | ((with_reducible refine gate_dst (N := 40) rfl ?_); refine wpList_load_row rfl 33 _ rfl g5 rfl 33 #[.string m, .slice A lm.length c] (0, 0) _ B5.out Try.underlying33 rfl size33 ?_) | ((with_reducible refine gate_callee (f := 40) rfl ?_); refine goesL_ (some 43) rfl rfl Try.func40 (by kernel_rfl) rfl #[.agg #[.string m, .slice A lm.length c], .int .i64 p.1] rfl (by (try simp only [List.map_toArray, List.map_cons, List.map_nil]); first | done | rfl) ?_; (with_reducible refine (message_Get.calls kg m A c lm p.1 sv _ _ (Kd.C_below HRM.out HB.out) hc HG.out).mono ?_); rintro e V ⟨rfl, hb⟩; refine ⟨_, rfl, ?_⟩; have m_ := below_step HB.out hb; have k_ := blk_below B5.out hb; have k2_ := blk_below B11.out hb; clear HB hb B5 B11 hkf0 hkf1 hff0 hff1; have HB := Aside0.mk m_; have B5 := Aside0.mk k_; have B11 := Aside0.mk k2_; clear m_ k_ k2_; have hkf0 := blk_cell B11.out 0; have hkf1 := blk_cell B11.out 1; have hff0 := blk_frozen B11.out 0; have hff1 := blk_frozen B11.out 1))
          go_roundg (gk - 1)
          case measure => have := HI.out; omega
          case rel => exact ⟨y + 1, i + 1, (by first | rfl | (simp [w64 (n := y + 1) (by have := HY.out; have := HI8.out; omega)]; done)), ⟨by have := HY.out; omega⟩, ⟨by have := HI.out; have := HI8.out; omega, by have := HI.out; have := HI8.out; omega⟩, ⟨fun q hq => by
            rcases Nat.lt_or_ge q i with h | h
            · exact HQ.out q h
            · rw [show q = i by omega, HP.out, Option.map_some, HOK.out, HS.out]; rfl⟩, HB⟩
    · have c1 : decide (y < 8) = false := decide_eq_false (by omega)
      have hall : (fldsOf x).all (okF lm) = true := by
        rw [List.all_eq_true]
        intro p hp
        obtain ⟨q, hq⟩ := List.mem_iff_getElem?.1 hp
        have hq8 : q < 8 := by have := (List.getElem?_eq_some_iff.1 hq).1; rwa [fldsOf_length] at this
        have h := HQ.out q (by have := HI.out; omega)
        rw [hq] at h
        exact Option.some.inj h
      have HALL := Aside0.mk hall
      have BW := Aside0.mk (low H0.out H0.out.size HB.out)
      have hk81 : wr.cell? ⟨gb, 0, none⟩ = some (.slice (some ⟨gl, 0, none⟩) L.length L.length) := blk_cell (BookAt.below HK.out BW.out).box 0
      have hf81 := blk_frozen (BookAt.below HK.out BW.out).box 0
      have hu81 := Try.underlying81
      have hu56 := Try.underlying56
      have p1 : (0 ≤ link) = True := eq_true h0
      have p2 : (link < (L.length : Int)) = True := eq_true h1
      clear hall hi hy HI HY
      go_wp2_with (first | ((with_reducible refine gate_store (t := 60) (p := 60) rfl ?_); refine wpList_store_mid rfl 60 _ _ rfl gl (link.toNat * 12) #[.int .i64 0, .int .i64 0, .int .i64 0, .int .i64 0, .int .i64 0, .int .i64 0, .int .i64 0, .int .i64 0, .int .i64 0, .int .i64 0, .int .i64 0, .int .i64 0] rfl rfl (BookAt.there (BookAt.below HK.out BW.out) HX.out) size60' (one12' _ _ _ _ _ _ _ _ _ _ _ _) ?_))
      go_ret2
      exact Or.inl ⟨HALL.out, rfl, BookAt.store (x := zeros12) (BookAt.below HK.out BW.out) (List.getElem?_eq_some_iff.1 HX.out).1 rfl, grown_low BW.out (grown_setCells _ _ _ _)⟩
theorem totals_Settle.agree (k : Nat) (gb gl : Nat) (L : List (List Int)) (link : Int) (x : List Int) (m : ByteArray) (A : Option Addr) (c : Nat) (lm : List S70) (w : World) (hk : BookAt w gb gl L) (h0 : 0 ≤ link) (h1 : link < (L.length : Int)) (hx : L[link.toNat]? = some x) (ht : Tells x)
    (hrm : Kd.C k70 w A lm.length lm) (hc : lm.length ≤ c) (hlm : lm.length ≤ 1000) (hcl : message_Class.f k m = some 5) (hfn : message_Function.f k m = some 0) (hall : (fldsOf x).all (okF lm) = true) :
    Calls Try.prog 19 #[.pointer (some ⟨gb, 0, none⟩), .int .i64 link, .agg #[.string m, .slice A lm.length c]] w fun e w' => e = .returned (.tuple #[.bool true, .int .i64 0]) ∧ BookAt w' gb gl (L.set link.toNat zeros12) ∧ w.grownBy w' (some gl) :=
  (totals_Settle.calls k gb gl L link x m A c lm w hk h0 h1 hx ht hrm hc hlm hcl hfn).mono fun e w' h => by
    rcases h with ⟨_, h⟩ | ⟨h, _⟩
    · exact h
    · rw [hall] at h; cases h
theorem totals_Settle.differ (k : Nat) (gb gl : Nat) (L : List (List Int)) (link : Int) (x : List Int) (m : ByteArray) (A : Option Addr) (c : Nat) (lm : List S70) (w : World) (hk : BookAt w gb gl L) (h0 : 0 ≤ link) (h1 : link < (L.length : Int)) (hx : L[link.toNat]? = some x) (ht : Tells x)
    (hrm : Kd.C k70 w A lm.length lm) (hc : lm.length ≤ c) (hlm : lm.length ≤ 1000) (hcl : message_Class.f k m = some 5) (hfn : message_Function.f k m = some 0) (hall : (fldsOf x).all (okF lm) = false) :
    Calls Try.prog 19 #[.pointer (some ⟨gb, 0, none⟩), .int .i64 link, .agg #[.string m, .slice A lm.length c]] w fun e w' => e = .returned (.tuple #[.bool false, .int .i64 0]) ∧ Below w.heap.size w w' :=
  (totals_Settle.calls k gb gl L link x m A c lm w hk h0 h1 hx ht hrm hc hlm hcl hfn).mono fun e w' h => by
    rcases h with ⟨h, _⟩ | ⟨_, h⟩
    · rw [hall] at h; cases h
    · exact h
end Go.Proofs.Ytdiodnjkejogdaa.All
