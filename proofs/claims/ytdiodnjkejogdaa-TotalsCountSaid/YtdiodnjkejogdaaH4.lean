-- WRITTEN BY gen4.py: the walk of turnstilelaw22.TotalsCount (function 4).
import Derived.Test.YtdiodnjkejogdaaHf
namespace Go.Proofs.Ytdiodnjkejogdaa.All
open Go.RowKit Go.Proofs.YtdiodnjkejogdaaW.PrintWords Go.Proofs.YtdiodnjkejogdaaW.PrintLast Go.Proofs.YtdiodnjkejogdaaW.PrintMore Go.Proofs.Ytdiodnjkejogdaa.Pure
set_option linter.unusedVariables false
set_option linter.unusedSimpArgs false

def count4_T11 : Bool × List (List Nat × List Nat) := (true, [([], []), ([], []), ([], []), ([], []), ([2, 3], [2, 3]), ([4], [4]), ([], []), ([], []), ([6, 7], [6, 7]), ([8], [8]), ([5, 9], [5, 9]), ([0, 1, 0, 1, 2, 3, 4, 5, 6, 7, 8, 9, 10], [0, 1]), ([11, 10, 10, 0, 1, 2, 3, 4, 5, 6, 7, 8, 9, 10], [10, 11])])
def count4_B11 : List Nat := [0, 0, 0, 0, 12, 28, 0, 0, 192, 448, 1020, 2047, 4095]
theorem count4_tab11 : rtab .any (opsOf Try.f4 11) = count4_T11 := by kernel_rfl
theorem count4_bits11 : waitsOk count4_T11.2 count4_B11 = true := by kernel_rfl
def count4_T17 : Bool × List (List Nat × List Nat) := (true, [([], []), ([0], [0]), ([1], [1]), ([2], [2]), ([3, 2], [2, 3]), ([2, 4], [2, 4]), ([5, 2], [5]), ([6], [6]), ([6], [6]), ([6], [6]), ([8, 9, 6], [6, 8, 9]), ([10, 6], [6, 10]), ([7, 11, 6], [6, 7, 11]), ([6, 12], [6, 12]), ([13, 6], [13]), ([14], [14]), ([14], [14]), ([14], [14]), ([16, 17, 14], [14, 16, 17]), ([18, 14], [14, 18]), ([15, 19, 14], [14, 15, 19]), ([14, 20], [14, 20]), ([21, 14], [21]), ([22], [22]), ([23, 22], [22, 23]), ([22], [22]), ([25, 22], [22, 25]), ([22], [22]), ([27, 22], [22, 27]), ([26, 28, 22], [22, 26, 28]), ([24, 29, 22], [22, 24, 29]), ([22, 30], [22, 30])])
def count4_B17 : List Nat := [0, 1, 3, 7, 15, 31, 63, 127, 127, 127, 895, 1919, 4095, 8191, 16383, 32767, 32767, 32767, 229375, 491519, 1048575, 2097151, 4194303, 8388607, 16777215, 8388607, 41943039, 8388607, 142606335, 511705087, 1073741823, 2147483647]
theorem count4_tab17 : rtab .any (opsOf Try.f4 17) = count4_T17 := by kernel_rfl
theorem count4_bits17 : waitsOk count4_T17.2 count4_B17 = true := by kernel_rfl
set_option maxHeartbeats 16000000 in
set_option maxRecDepth 100000 in
theorem TotalsCount.walk (links : Int) (l : List Dl) (A : Option Addr) (c : Nat) (w : World) (hli : -9223372036854775808 ≤ links ∧ links ≤ 9223372036854775807) (hd : DealsAt w A l) (hok : ∀ d ∈ l, d.ok) :
    Calls Try.prog 4 #[.int .i64 links, .slice A l.length c] w fun e w' => e = .returned (.bool true) ∧ Below w.heap.size w w' := by
  have hu54 := Try.underlying54
  have hu58 := Try.underlying58
  have hu60 := Try.underlying60
  have hu56 := Try.underlying56
  have HD := Aside0.mk hd
  have HO := Aside0.mk hok
  have pr := pickZ_range links 32 (by decide)
  have hp := pickZ_f links 32 (by decide) hli
  clear hd hok hli
  generalize pickZ links 32 = p at pr hp
  have HP := Aside0.mk hp
  obtain ⟨n, hn⟩ : ∃ n : Nat, (n : Int) = 1 + p := ⟨(1 + p).toNat, by omega⟩
  have h1 : 1 ≤ n := by omega
  have h2 : n ≤ 32 := by omega
  have hnw : wrap64 (1 + p) = (n : Int) := by rw [w64 (by omega)]; omega
  clear hp hn pr
  obtain ⟨N, hN⟩ : ∃ N : Nat, N = min 300 l.length := ⟨_, rfl⟩
  have HNN := Aside0.mk hN
  clear hN
  go_enter Try.func4, Try.ntmps4
  go_wp2_with (first | ((with_reducible refine gate_callee (f := 11) rfl ?_); refine goesL_ (some 21) rfl rfl Try.func11 (by kernel_rfl) rfl #[.int .i64 links, .int .i64 32] rfl (by (try simp only [List.map_toArray, List.map_cons, List.map_nil]); first | done | rfl) ?_; (with_reducible refine (turnstilelaw22_pick.calls links 32 p _ HP.out).mono ?_); rintro e V ⟨rfl, ⟨nd, rfl⟩⟩; refine ⟨_, rfl, ?_⟩; have hb := pw_below_drewN (Below.refl w.heap.size w) nd; generalize World.drewN w nd = V at hb ⊢; have HB := Aside0.mk hb; clear hb) | ((with_reducible refine gate_callee (f := 15) rfl ?_); (try rw [hnw]); refine goesL_ (some 25) rfl rfl Try.func15 (by kernel_rfl) rfl #[.int .i64 (n : Int), .slice A l.length c, .bool false] rfl (by (try simp only [List.map_toArray, List.map_cons, List.map_nil]); first | done | rfl) ?_; (with_reducible refine (turnstilelaw22_noted.calls n l A c false _ h1 h2 (HD.out.below HB.out) HO.out).mono ?_); rintro e V ⟨ga, gla, rfl, _, _, hbk, hb⟩; refine ⟨_, rfl, ?_⟩; have m_ := Aside0.mk (below_step HB.out hb); clear HB hb; have HB := m_; clear m_; have HA := Aside0.mk (show BookAt V ga gla (bookL n (l.take 300)) from hbk); clear hbk) | ((with_reducible refine gate_callee (f := 15) rfl ?_); refine goesL_ (some 28) rfl rfl Try.func15 (by kernel_rfl) rfl #[.int .i64 (n : Int), .slice A l.length c, .bool true] rfl (by (try simp only [List.map_toArray, List.map_cons, List.map_nil]); first | done | rfl) ?_; (with_reducible refine (turnstilelaw22_noted.calls n l A c true _ h1 h2 (HD.out.below HB.out) HO.out).mono ?_); rintro e V ⟨gb, glb, rfl, _, _, hbk, hb⟩; refine ⟨_, rfl, ?_⟩; have m_ := Aside0.mk (below_step HB.out hb); have k_ := Aside0.mk (BookAt.below HA.out hb); clear HB HA hb; have HB := m_; have HA := k_; clear m_ k_; have HK : Aside0 (BookAt V gb glb (bookL n (l.take 300))) := ⟨by rw [← bookL_reverse n (l.take 300) (by rw [List.length_take]; omega)]; exact hbk⟩; clear hbk) | ((with_reducible refine gate_dst (N := 36) rfl ?_); refine make_rows_event rfl rfl _ _ rfl n rfl rfl Try.underlying56 info60 (by omega) ?_; have r_ : RowsAt (World.alloc V (.cells (rowsL (List.replicate n zeros12)).toArray 60)) V.heap.size (List.replicate n zeros12) := ⟨blk_new V _, (by intro x hx; rw [List.eq_of_mem_replicate hx]; rfl), (by rw [List.length_replicate]; omega)⟩; have b_ := below_alloc HB.out (.cells (rowsL (List.replicate n zeros12)).toArray 60); have a_ := HA.out.alloc (.cells (rowsL (List.replicate n zeros12)).toArray 60); have k_ := HK.out.alloc (.cells (rowsL (List.replicate n zeros12)).toArray 60); have g_ : ga < V.heap.size ∧ gla < V.heap.size ∧ gb < V.heap.size ∧ glb < V.heap.size ∧ w.heap.size ≤ V.heap.size := ⟨HA.out.lt.1, HA.out.lt.2, HK.out.lt.1, HK.out.lt.2, HB.out.size⟩; generalize World.alloc V (.cells (rowsL (List.replicate n zeros12)).toArray 60) = V4 at r_ b_ a_ k_ ⊢; generalize V.heap.size = gw at r_ g_ ⊢; clear HB HA HK; have H0 := Aside0.mk b_; have HA := Aside0.mk a_; have HK := Aside0.mk k_; have HR := Aside0.mk r_; have HG := Aside0.mk g_; clear b_ a_ k_ r_ g_))
  go_loopg [9] (N + 1) (fun kq v9 W => ∃ (x : Int) (i : Nat), v9 = .int .i64 x ∧ Aside0 (x = (i : Int)) ∧ Aside0 (i + kq = N + 1 ∧ 1 ≤ kq) ∧ Aside0 (RowsAt W gw (bookL n ((l.take 300).take i))) ∧ Aside0 (Below gw V4 W))
  case atStart => exact ⟨0, 0, rfl, ⟨rfl⟩, ⟨by omega, by omega⟩, HR, ⟨Below.mono (Below.refl _ _) (Nat.le_of_lt HR.out.lt)⟩⟩
  case round =>
    clear HR
    obtain ⟨x, i, rfl, HX, HI, HR, HV⟩ := hrel
    have hx := HX.out
    by_cases hi : i < N
    · have hNN := HNN.out
      obtain ⟨d, hd0⟩ : ∃ d0, l[i]? = some d0 := ⟨l[i]'(by omega), List.getElem?_eq_getElem _⟩
      have c1 : decide (x < (l.length : Int)) = true := decide_eq_true (by omega)
      have c2 : decide (x < 300) = true := decide_eq_true (by omega)
      have p2 : (0 ≤ x) = True := eq_true (by omega)
      have p3 : (x < (l.length : Int)) = True := eq_true (by omega)
      obtain ⟨a, rfl, hcd0⟩ := HD.out i d hd0
      have hok0 : d.ok := HO.out d (List.mem_of_getElem? hd0)
      have HCD : Aside0 (∀ (j : Nat) (v : Value), d.cells[j]? = some v → w.cell? ((a.add (x.toNat * 5)).add j) = some v) := ⟨by rw [show x.toNat = i by omega]; exact hcd0⟩
      have hc0 : wr.cell? (a.add (x.toNat * 5)) = some (.int .i64 d.link) := pw_cell_below (low H0.out HG.out.2.2.2.2 HV.out) (by have h := HCD.out 0 _ rfl; rwa [addr_add_zero] at h)
      have HI0 := Aside0.mk hi
      have HD0 := Aside0.mk hd0
      have HOK := Aside0.mk hok0
      clear hi hok0 hNN hcd0 hd0 hx
      have kr := pickZ_range d.link (n : Int) (by omega)
      have hpk := pickZ_f d.link (n : Int) (by omega) HOK.out.link
      obtain ⟨y, hy⟩ : ∃ y, y = pickZ d.link (n : Int) := ⟨_, rfl⟩
      rw [← hy] at kr hpk
      have HPK := Aside0.mk hpk
      have HY := Aside0.mk hy
      have q1 : (0 ≤ y) = True := eq_true kr.1
      have q2 : (y < (n : Int)) = True := eq_true kr.2
      have kl : y.toNat < (bookL n ((l.take 300).take i)).length := by rw [bookL_length]; omega
      obtain ⟨xr, hxr⟩ : ∃ xr, (bookL n ((l.take 300).take i))[y.toNat]? = some xr := ⟨_, List.getElem?_eq_getElem kl⟩
      obtain ⟨x0, x1, x2, x3, x4, x5, x6, x7, x8, x9, x10, x11, rfl⟩ := twelve xr (HR.out.len _ (List.mem_of_getElem? hxr))
      obtain ⟨y0, y1, y2, y3, y4, y5, y6, y7, y8, y9, y10, y11, hyl⟩ := twelve (cntDl [x0, x1, x2, x3, x4, x5, x6, x7, x8, x9, x10, x11] d) (by unfold cntDl cntD; rw [countL_length]; rfl)
      have hstep : (bookL n ((l.take 300).take i)).set y.toNat [y0, y1, y2, y3, y4, y5, y6, y7, y8, y9, y10, y11] = bookL n ((l.take 300).take (i + 1)) := by
        rw [List.take_add_one (i := i), List.getElem?_take, if_pos (by have := HI0.out; have := HNN.out; omega), HD0.out, Option.toList_some, bookL_snoc]
        unfold stepL kD
        rw [← hy, List.getD_eq_getElem?_getD, hxr, Option.getD_some, hyl]
      have HXR := Aside0.mk hxr
      have HYL := Aside0.mk hyl
      have HST := Aside0.mk hstep
      have HKL := Aside0.mk kl
      clear hpk hy kr kl hxr hyl hstep
      go_wp2_with (first | ((with_reducible refine gate_callee (f := 11) rfl ?_); refine goesL_ (some 53) rfl rfl Try.func11 (by kernel_rfl) rfl #[.int .i64 d.link, .int .i64 (n : Int)] rfl (by (try simp only [List.map_toArray, List.map_cons, List.map_nil]); first | done | rfl) ?_; (with_reducible refine (turnstilelaw22_pick.calls d.link (n : Int) y _ HPK.out).mono ?_); rintro e V ⟨rfl, ⟨nd, rfl⟩⟩; refine ⟨_, rfl, ?_⟩; have r_ := HR.out.below (pw_below_drewN (Below.refl _ _) nd); have v_ := pw_below_drewN HV.out nd; have s_ : (World.drewN wr nd).heap.size = wr.heap.size := rfl; generalize World.drewN wr nd = V at r_ v_ ⊢; clear HR HV s_; have HR := Aside0.mk r_; have HV := Aside0.mk v_; clear r_ v_))
      have BR : RowsAt V.drew gw _ := HR.out.below (below_drew1 (Below.refl _ _)); have BV := below_drew1 HV.out
      clear HR HV
      refine start_ (S := fun w' => w'.rangeAt gw (y.toNat * 12) (([x0, x1, x2, x3, x4, x5, x6, x7, x8, x9, x10, x11] : List Int).map (Value.int .i64)) ∧ ∀ (j : Nat) (v : Value), d.cells[j]? = some v → w'.cell? ((a.add (x.toNat * 5)).add j) = some v) (ds := [12]) (n := 13) #[false, false, false, false, false, false, false, false, false, false, false, false, false] (by kernel_rfl) rfl rfl ⟨BR.range HXR.out, fun j v hv => pw_cell_below (low H0.out HG.out.2.2.2.2 BV) (HCD.out j v hv)⟩ (fun hHeld => ?_)
      generalize V.drew = Wd at hHeld BV BR ⊢
      have HR := Aside0.mk BR; have HV := Aside0.mk BV; clear BR BV
      refine with_tabW count4_tab11 count4_bits11 (fun HT_ HW_ => ?_)
      refine pure_ (i := 0) (N := some 54) (v := ?_) (a' := ?_) #[true, false, false, false, false, false, false, false, false, false, false, false, false] rfl rfl (any_of HT_.out (by kernel_rfl)) (fun _ _ _ h => h) (Or.inl ⟨by rfl, ?_⟩) ?_ ?_
      rotate_left
      · intro w'
        go_simp
        try with_reducible rfl
      rotate_left
      · simp only [Act.put, List.setIfInBounds_toArray, List.set_cons_zero, List.set_cons_succ, i64_w, i32_w]
        rfl
      refine pure_ (i := 1) (N := some 55) (v := ?_) (a' := ?_) #[true, true, false, false, false, false, false, false, false, false, false, false, false] rfl rfl (any_of HT_.out (by kernel_rfl)) (fun _ _ _ h => h) (Or.inl ⟨by rfl, ?_⟩) ?_ ?_
      rotate_left
      · intro w'
        go_simp
        try with_reducible rfl
      rotate_left
      · simp only [Act.put, List.setIfInBounds_toArray, List.set_cons_zero, List.set_cons_succ, i64_w, i32_w]
        rfl
      refine pure_ (i := 2) (N := some 56) (v := ?_) (a' := ?_) #[true, true, true, false, false, false, false, false, false, false, false, false, false] rfl rfl (any_of HT_.out (by kernel_rfl)) (fun _ _ _ h => h) (Or.inl ⟨by rfl, ?_⟩) ?_ ?_
      rotate_left
      · intro w'
        go_simp
        try with_reducible rfl
      rotate_left
      · simp only [Act.put, List.setIfInBounds_toArray, List.set_cons_zero, List.set_cons_succ, i64_w, i32_w]
        rfl
      refine pure_ (i := 3) (N := some 57) (v := ?_) (a' := ?_) #[true, true, true, true, false, false, false, false, false, false, false, false, false] rfl rfl (any_of HT_.out (by kernel_rfl)) (fun _ _ _ h => h) (Or.inl ⟨by rfl, ?_⟩) ?_ ?_
      rotate_left
      · intro w'
        go_simp
        try with_reducible rfl
      rotate_left
      · simp only [Act.put, List.setIfInBounds_toArray, List.set_cons_zero, List.set_cons_succ, i64_w, i32_w]
        rfl
      refine pure_ (i := 4) (N := some 58) (v := ?_) (a' := ?_) #[true, true, true, true, true, false, false, false, false, false, false, false, false] rfl rfl (any_of HT_.out (by kernel_rfl)) (fun _ _ _ h => h) (Or.inl ⟨by rfl, ?_⟩) ?_ ?_
      rotate_left
      · intro w'
        go_simp
        try with_reducible rfl
      rotate_left
      · simp only [Act.put, List.setIfInBounds_toArray, List.set_cons_zero, List.set_cons_succ, i64_w, i32_w]
        rfl
      refine take_ (i := 5) (N := some 59) (v := .agg #[.int .i64 x0, .int .i64 x1, .int .i64 x2, .int .i64 x3, .int .i64 x4, .int .i64 x5, .int .i64 x6, .int .i64 x7, .int .i64 x8, .int .i64 x9, .int .i64 x10, .int .i64 x11]) (a' := ?_) #[true, true, true, true, true, true, false, false, false, false, false, false, false] rfl rfl (take_ofW HT_.out HW_.out (by kernel_rfl)) (fun _ _ _ h => h) (yieldsIf_load_mid (S := fun w' => w'.rangeAt gw (y.toNat * 12) (([x0, x1, x2, x3, x4, x5, x6, x7, x8, x9, x10, x11] : List Int).map (Value.int .i64)) ∧ ∀ (j : Nat) (v : Value), d.cells[j]? = some v → w'.cell? ((a.add (x.toNat * 5)).add j) = some v) rfl 60 _ rfl gw (y.toNat * 12) rfl (([x0, x1, x2, x3, x4, x5, x6, x7, x8, x9, x10, x11] : List Int).map (Value.int .i64)) _ (fun w h => h.1) Try.underlying60 rfl size60') hHeld ?_ ?_
      rotate_left
      · simp only [Act.put, List.setIfInBounds_toArray, List.set_cons_zero, List.set_cons_succ, i64_w, i32_w]
        rfl
      refine pure_ (i := 6) (N := some 60) (v := ?_) (a' := ?_) #[true, true, true, true, true, true, true, false, false, false, false, false, false] rfl rfl (any_of HT_.out (by kernel_rfl)) (fun _ _ _ h => h) (Or.inl ⟨by rfl, ?_⟩) ?_ ?_
      rotate_left
      · intro w'
        go_simp
        try with_reducible rfl
      rotate_left
      · simp only [Act.put, List.setIfInBounds_toArray, List.set_cons_zero, List.set_cons_succ, i64_w, i32_w]
        rfl
      refine pure_ (i := 7) (N := some 61) (v := ?_) (a' := ?_) #[true, true, true, true, true, true, true, true, false, false, false, false, false] rfl rfl (any_of HT_.out (by kernel_rfl)) (fun _ _ _ h => h) (Or.inl ⟨by rfl, ?_⟩) ?_ ?_
      rotate_left
      · intro w'
        go_simp
        try with_reducible rfl
      rotate_left
      · simp only [Act.put, List.setIfInBounds_toArray, List.set_cons_zero, List.set_cons_succ, i64_w, i32_w]
        rfl
      refine pure_ (i := 8) (N := some 62) (v := ?_) (a' := ?_) #[true, true, true, true, true, true, true, true, true, false, false, false, false] rfl rfl (any_of HT_.out (by kernel_rfl)) (fun _ _ _ h => h) (Or.inl ⟨by rfl, ?_⟩) ?_ ?_
      rotate_left
      · intro w'
        go_simp
        try with_reducible rfl
      rotate_left
      · simp only [Act.put, List.setIfInBounds_toArray, List.set_cons_zero, List.set_cons_succ, i64_w, i32_w]
        rfl
      refine take_ (i := 9) (N := some 63) (v := .agg #[.int .i64 d.link, .int .i64 d.what, .int .i64 d.am, .bool d.cr, .bool d.yes]) (a' := ?_) #[true, true, true, true, true, true, true, true, true, true, false, false, false] rfl rfl (take_ofW HT_.out HW_.out (by kernel_rfl)) (fun _ _ _ h => h) (yields_load_any (S := fun w' => w'.rangeAt gw (y.toNat * 12) (([x0, x1, x2, x3, x4, x5, x6, x7, x8, x9, x10, x11] : List Int).map (Value.int .i64)) ∧ ∀ (j : Nat) (v : Value), d.cells[j]? = some v → w'.cell? ((a.add (x.toNat * 5)).add j) = some v) 58 _ rfl (a.add (x.toNat * 5)) rfl [.int .i64 d.link, .int .i64 d.what, .int .i64 d.am, .bool d.cr, .bool d.yes] _ (fun w h => h.2) Try.underlying58 rfl size58 rfl) hHeld ?_ ?_
      rotate_left
      · simp only [Act.put, List.setIfInBounds_toArray, List.set_cons_zero, List.set_cons_succ, i64_w, i32_w]
        rfl
      refine one_ (i := 10) (N := some 64) #[true, true, true, true, true, true, true, true, true, true, true, false, false] rfl rfl (one_of HT_.out (by kernel_rfl)) (by decide) (fun K hK => ?_)
      refine goes_ Try.func16 (by kernel_rfl) rfl #[.agg #[.int .i64 x0, .int .i64 x1, .int .i64 x2, .int .i64 x3, .int .i64 x4, .int .i64 x5, .int .i64 x6, .int .i64 x7, .int .i64 x8, .int .i64 x9, .int .i64 x10, .int .i64 x11], .agg #[.int .i64 d.link, .int .i64 d.what, .int .i64 d.am, .bool d.cr, .bool d.yes]] (by rfl) rfl rfl (by (try simp only [List.map_toArray, List.map_cons, List.map_nil]); first | done | rfl) ?_
      have hc_ := turnstilelaw22_counted.does x0 x1 x2 x3 x4 x5 x6 x7 x8 x9 x10 x11 d.link d.what d.am d.cr d.yes (nD d) (tD d) Wd (pickZ_f _ _ (by decide) HOK.out.am) (pickZ_f _ _ (by decide) HOK.out.what) (tD_range d).1 (tD_range d).2
      rw [show countL [x0, x1, x2, x3, x4, x5, x6, x7, x8, x9, x10, x11] (nD d) (decide (3 < tD d)) (tD d == 3) d.yes d.cr = [y0, y1, y2, y3, y4, y5, y6, y7, y8, y9, y10, y11] from HYL.out] at hc_
      with_reducible refine hc_.mono ?_
      clear hc_
      rintro e We ⟨rfl, hb⟩
      refine ⟨_, rfl, ?_⟩
      have n1_ := HR.out.below hb; have n2_ := below_then HV.out (Nat.le_of_lt HR.out.lt) hb; clear HR HV hb; have HR := Aside0.mk n1_; have HV := Aside0.mk n2_; clear n1_ n2_
      refine hK.out _ _ ⟨HR.out.range HXR.out, fun j v hv => pw_cell_below (low H0.out HG.out.2.2.2.2 HV.out) (HCD.out j v hv)⟩ (fun hHeld2 => ?_)
      clear hK K hHeld hHeld2
      refine norm_ (a' := ?_) ?_ ?_
      rotate_left
      · show Act.put _ (some 64) _ = _
        simp only [Act.put, List.setIfInBounds_toArray, List.set_cons_zero, List.set_cons_succ, i64_w, i32_w]
        rfl
      refine pure_ (i := 11) (N := some 65) (v := ?_) (a' := ?_) #[true, true, true, true, true, true, true, true, true, true, true, true, false] rfl rfl (any_of HT_.out (by kernel_rfl)) (fun _ _ _ h => h) (Or.inl ⟨by rfl, ?_⟩) ?_ ?_
      rotate_left
      · intro w'
        go_simp
        try with_reducible rfl
      rotate_left
      · simp only [Act.put, List.setIfInBounds_toArray, List.set_cons_zero, List.set_cons_succ, i64_w, i32_w]
        rfl
      refine last_ (i := 12) (N := none) #[true, true, true, true, true, true, true, true, true, true, true, true, true] rfl rfl (one_of HT_.out (by kernel_rfl)) (by decide) (fun K hK => ?_)
      refine skip_ (w1 := We.setCells gw (y.toNat * 12) (([y0, y1, y2, y3, y4, y5, y6, y7, y8, y9, y10, y11] : List Int).map (Value.int .i64))) (by rfl) rfl (run_store_op 60 _ _ rfl gw (y.toNat * 12) #[.int .i64 y0, .int .i64 y1, .int .i64 y2, .int .i64 y3, .int .i64 y4, .int .i64 y5, .int .i64 y6, .int .i64 y7, .int .i64 y8, .int .i64 y9, .int .i64 y10, .int .i64 y11] rfl rfl (HR.out.there HXR.out) size60' (one12' _ _ _ _ _ _ _ _ _ _ _ _)) ?_
      refine hK.out _ _ ?_
      clear hK K
      have n1_ := RowsAt.store (x := [y0, y1, y2, y3, y4, y5, y6, y7, y8, y9, y10, y11]) HR.out HKL.out rfl; have n2_ := below_setCells (g := gw) (o := y.toNat * 12) (vs := ([y0, y1, y2, y3, y4, y5, y6, y7, y8, y9, y10, y11] : List Int).map (Value.int .i64)) HV.out (Nat.le_refl _)
      rw [HST.out] at n1_
      generalize We.setCells gw (y.toNat * 12) (([y0, y1, y2, y3, y4, y5, y6, y7, y8, y9, y10, y11] : List Int).map (Value.int .i64)) = Wf at n1_ n2_ ⊢
      clear HR HV; have HR := Aside0.mk n1_; have HV := Aside0.mk n2_; clear n1_ n2_
      refine done_ (done_of HT_.out (by kernel_rfl)) ?_
      clear HT_ HW_
      have wx : wrap64 (x + 1) = x + 1 := w64 (by have := HX.out; have := HI.out; have := HNN.out; omega)
      go_wp2
      go_roundg (gk - 1)
      case measure => have := HI.out; omega
      case rel => exact ⟨x + 1, i + 1, (by first | rfl | (simp [wx]; done)), ⟨by have := HX.out; omega⟩, ⟨by have := HI.out; have := HNN.out; have := HI0.out; omega, by have := HI.out; have := HI0.out; omega⟩, HR, HV⟩
    · have hNN := HNN.out
      have hI := HI.out
      have hiN : i = N := by omega
      have hfull : (l.take 300).take i = l.take 300 := List.take_of_length_le (by rw [List.length_take]; omega)
      rw [hfull] at HR
      by_cases hl : l.length ≤ 300
      · have c1 : decide (x < (l.length : Int)) = false := decide_eq_false (by omega)
        clear hNN hI hiN hfull hi hl hx HX HI
        obtain ⟨W5, hW5_⟩ : ∃ W5, W5 = wr := ⟨_, rfl⟩
        subst hW5_
        go_wp2
        have HA2 := Aside0.mk (HA.out.lowB HG.out.1 HG.out.2.1 HV.out); have HK2 := Aside0.mk (HK.out.lowB HG.out.2.2.1 HG.out.2.2.2.1 HV.out)
        have H02 := Aside0.mk (low H0.out HG.out.2.2.2.2 HV.out); have HB0 := Aside0.mk (Below.refl W5.heap.size W5)
        clear HV
        go_loopg [11] (n + 1) (fun kq v11 W => ∃ (y : Int) (k : Nat), v11 = .int .i64 y ∧ Aside0 (y = (k : Int)) ∧ Aside0 (k + kq = n + 1 ∧ 1 ≤ kq) ∧ Aside0 (Below W5.heap.size W5 W))
        case atStart => exact ⟨0, 0, rfl, ⟨rfl⟩, ⟨by omega, by omega⟩, HB0⟩
        case round =>
          clear HB0
          obtain ⟨y, k, rfl, HYK, HI2, HB⟩ := hrel
          have hy := HYK.out
          by_cases hk : k < n
          · have q1 : decide (y < (n : Int)) = true := decide_eq_true (by omega)
            have hy0 : 0 ≤ y := by omega
            have hy1 : y < ((bookL n (l.take 300)).length : Int) := by rw [bookL_length]; omega
            have ht : y.toNat = k := by omega
            obtain ⟨xr, hxr⟩ : ∃ xr, (bookL n (l.take 300))[y.toNat]? = some xr := ⟨_, List.getElem?_eq_getElem (by rw [bookL_length]; omega)⟩
            have hbn : Bnd _ xr := bookL_bnd n (l.take 300) (by rw [List.length_take]; omega) xr (List.mem_of_getElem? hxr)
            obtain ⟨x0, x1, x2, x3, x4, x5, x6, x7, x8, x9, x10, x11, rfl, hbb⟩ := hbn
            have hsum : wrap64 (x1 + x2) = x0 := by have := hbb; rw [w64 (by have : (l.take 300).length ≤ 300 := by { rw [List.length_take]; omega }; omega)]; omega
            have hne : (x0 != wrap64 (x1 + x2)) = false := by rw [hsum]; simp
            clear hsum
            clear hbb
            have hy3 : (0 ≤ y) = True := eq_true hy0
            have hy4 : (y < (n : Int)) = True := eq_true (by omega)
            have HXY := Aside0.mk hxr
            have HKN := Aside0.mk hk
            clear hxr ht hk hy
            go_wp2_with (first | ((with_reducible refine gate_dst (N := 12) rfl ?_); refine box_event ?hg (N := 12) ?hd (cs := #[.int .i64 0, .int .i64 0, .int .i64 0, .int .i64 0, .int .i64 0, .int .i64 0, .int .i64 0, .int .i64 0, .int .i64 0, .int .i64 0, .int .i64 0, .int .i64 0]) (t := 60) ?hr ?_; (case hd => rfl); (case hg => rfl); (case hr => first | (go_simp; done) | (go_simp; rfl)); intro g12 hg V hbox hb; have G12 : Aside0 (W5.heap.size ≤ g12) := ⟨by rw [hg]; exact HB.out.size⟩; have m_ := below_step HB.out hb; clear HB hb hg; have HB := Aside0.mk m_; have B12 := Aside0.mk hbox; clear m_ hbox) | ((with_reducible refine gate_dst (N := 14) rfl ?_); refine box_event ?hg (N := 14) ?hd (cs := #[.int .i64 0, .int .i64 0, .int .i64 0, .int .i64 0, .int .i64 0, .int .i64 0, .int .i64 0, .int .i64 0, .int .i64 0, .int .i64 0, .int .i64 0, .int .i64 0]) (t := 60) ?hr ?_; (case hd => rfl); (case hg => rfl); (case hr => first | (go_simp; done) | (go_simp; rfl)); intro g14 hg V hbox hb; have G14 : Aside0 (W5.heap.size ≤ g14 ∧ g12 < g14) := ⟨by rw [hg]; exact HB.out.size, by rw [hg]; exact blk_lt B12.out⟩; have m_ := below_step HB.out hb; have k_ := Aside0.mk (blk_below B12.out hb); clear HB hb hg B12; have HB := Aside0.mk m_; have B12 := k_; have B14 := Aside0.mk hbox; clear m_ k_ hbox) | ((with_reducible refine gate_store (t := 60) (p := 12) rfl ?_); refine store_row_all rfl 60 _ _ rfl rfl g12 #[.int .i64 x0, .int .i64 x1, .int .i64 x2, .int .i64 x3, .int .i64 x4, .int .i64 x5, .int .i64 x6, .int .i64 x7, .int .i64 x8, .int .i64 x9, .int .i64 x10, .int .i64 x11] rfl rfl 60 _ B12.out size60' rfl (one12' _ _ _ _ _ _ _ _ _ _ _ _) ?_; intro V hbox ho hb; have m_ := low HB.out G12.out hb; clear HB hb ho B12; have HB := Aside0.mk m_; have B12 := Aside0.mk hbox; clear m_ hbox) | ((with_reducible refine gate_store (t := 60) (p := 14) rfl ?_); refine store_row_all rfl 60 _ _ rfl rfl g14 #[.int .i64 x0, .int .i64 x1, .int .i64 x2, .int .i64 x3, .int .i64 x4, .int .i64 x5, .int .i64 x6, .int .i64 x7, .int .i64 x8, .int .i64 x9, .int .i64 x10, .int .i64 x11] rfl rfl 60 _ B14.out size60' rfl (one12' _ _ _ _ _ _ _ _ _ _ _ _) ?_; intro V hbox ho hb; have m_ := low HB.out G14.out.1 hb; have k_ := Aside0.mk ((ho g12 (by have := G14.out.2; omega)).trans B12.out); clear HB hb ho B12 B14; have HB := Aside0.mk m_; have B12 := k_; have B14 := Aside0.mk hbox; clear m_ k_ hbox) | ((with_reducible refine gate_callee (f := 17) rfl ?_); refine goesL_ (some 74) rfl rfl Try.func17 (by kernel_rfl) rfl #[.pointer (some ⟨ga, 0, none⟩), .int .i64 y] rfl (by (try simp only [List.map_toArray, List.map_cons, List.map_nil]); first | done | rfl) ?_; (with_reducible refine (totals_Counts.calls ga gla _ y [x0, x1, x2, x3, x4, x5, x6, x7, x8, x9, x10, x11] _ (BookAt.below HA2.out HB.out) hy0 hy1 HXY.out).mono ?_); rintro e V ⟨rfl, hb⟩; refine ⟨_, rfl, ?_⟩; have m_ := below_step HB.out hb;  clear HB hb; have HB := Aside0.mk m_; clear m_) | ((with_reducible refine gate_callee (f := 17) rfl ?_); refine goesL_ (some 80) rfl rfl Try.func17 (by kernel_rfl) rfl #[.pointer (some ⟨gb, 0, none⟩), .int .i64 y] rfl (by (try simp only [List.map_toArray, List.map_cons, List.map_nil]); first | done | rfl) ?_; (with_reducible refine (totals_Counts.calls gb glb _ y [x0, x1, x2, x3, x4, x5, x6, x7, x8, x9, x10, x11] _ (BookAt.below HK2.out HB.out) hy0 hy1 HXY.out).mono ?_); rintro e V ⟨rfl, hb⟩; refine ⟨_, rfl, ?_⟩; have m_ := below_step HB.out hb; have k_ := Aside0.mk (blk_below B12.out hb); clear B12; have B12 := k_; clear k_; clear HB hb; have HB := Aside0.mk m_; clear m_))
            have BR := (HR.out.below HB.out).range HXY.out; have BB := below_drew1 HB.out
            have he60 := fun w' => eq60 w' x0 x1 x2 x3 x4 x5 x6 x7 x8 x9 x10 x11
            have hg60 := guard60
            refine start_ (S := fun w' => w'.heap[g12]? = some (.cells #[.int .i64 x0, .int .i64 x1, .int .i64 x2, .int .i64 x3, .int .i64 x4, .int .i64 x5, .int .i64 x6, .int .i64 x7, .int .i64 x8, .int .i64 x9, .int .i64 x10, .int .i64 x11] 60 (0, 0)) ∧ w'.heap[g14]? = some (.cells #[.int .i64 x0, .int .i64 x1, .int .i64 x2, .int .i64 x3, .int .i64 x4, .int .i64 x5, .int .i64 x6, .int .i64 x7, .int .i64 x8, .int .i64 x9, .int .i64 x10, .int .i64 x11] 60 (0, 0)) ∧ w'.rangeAt gw (y.toNat * 12) (([x0, x1, x2, x3, x4, x5, x6, x7, x8, x9, x10, x11] : List Int).map (Value.int .i64))) (ds := []) (n := 32) #[false, false, false, false, false, false, false, false, false, false, false, false, false, false, false, false, false, false, false, false, false, false, false, false, false, false, false, false, false, false, false, false] (by kernel_rfl) rfl rfl ⟨blk_drew B12.out, blk_drew B14.out, (World.rangeAt_drew _ _ _ _).2 BR⟩ (fun hHeld => ?_)
            clear BR B12 B14 HB
            generalize V.drew = Wd at hHeld BB ⊢
            have HB := Aside0.mk BB; clear BB
            refine with_tabW count4_tab17 count4_bits17 (fun HT_ HW_ => ?_)
            refine pure_ (i := 0) (N := some 83) (v := ?_) (a' := ?_) #[true, false, false, false, false, false, false, false, false, false, false, false, false, false, false, false, false, false, false, false, false, false, false, false, false, false, false, false, false, false, false, false] rfl rfl (any_of HT_.out (by kernel_rfl)) (fun _ _ _ h => h) (Or.inl ⟨by rfl, ?_⟩) ?_ ?_
            rotate_left
            · intro w'
              go_simp
              try with_reducible rfl
            rotate_left
            · simp only [Act.put, List.setIfInBounds_toArray, List.set_cons_zero, List.set_cons_succ, i64_w, i32_w]
              rfl
            refine pure_ (i := 1) (N := some 84) (v := ?_) (a' := ?_) #[true, true, false, false, false, false, false, false, false, false, false, false, false, false, false, false, false, false, false, false, false, false, false, false, false, false, false, false, false, false, false, false] rfl rfl (any_of HT_.out (by kernel_rfl)) (fun _ _ _ h => h) (Or.inl ⟨by rfl, ?_⟩) ?_ ?_
            rotate_left
            · intro w'
              go_simp
              try with_reducible rfl
            rotate_left
            · simp only [Act.put, List.setIfInBounds_toArray, List.set_cons_zero, List.set_cons_succ, i64_w, i32_w]
              rfl
            refine pure_ (i := 2) (N := some 85) (v := ?_) (a' := ?_) #[true, true, true, false, false, false, false, false, false, false, false, false, false, false, false, false, false, false, false, false, false, false, false, false, false, false, false, false, false, false, false, false] rfl rfl (any_of HT_.out (by kernel_rfl)) (fun _ _ _ h => h) (Or.inl ⟨by rfl, ?_⟩) ?_ ?_
            rotate_left
            · intro w'
              go_simp
              try with_reducible rfl
            rotate_left
            · simp only [Act.put, List.setIfInBounds_toArray, List.set_cons_zero, List.set_cons_succ, i64_w, i32_w]
              rfl
            refine pure_ (i := 3) (N := some 86) (v := ?_) (a' := ?_) #[true, true, true, true, false, false, false, false, false, false, false, false, false, false, false, false, false, false, false, false, false, false, false, false, false, false, false, false, false, false, false, false] rfl rfl (any_of HT_.out (by kernel_rfl)) (fun _ _ _ h => h) (Or.inl ⟨by rfl, ?_⟩) ?_ ?_
            rotate_left
            · intro w'
              go_simp
              try with_reducible rfl
            rotate_left
            · simp only [Act.put, List.setIfInBounds_toArray, List.set_cons_zero, List.set_cons_succ, i64_w, i32_w]
              rfl
            refine pure_ (i := 4) (N := some 87) (v := ?_) (a' := ?_) #[true, true, true, true, true, false, false, false, false, false, false, false, false, false, false, false, false, false, false, false, false, false, false, false, false, false, false, false, false, false, false, false] rfl rfl (any_of HT_.out (by kernel_rfl)) (fun _ _ _ h => h) (Or.inl ⟨by rfl, ?_⟩) ?_ ?_
            rotate_left
            · intro w'
              go_simp
              try with_reducible rfl
            rotate_left
            · simp only [Act.put, List.setIfInBounds_toArray, List.set_cons_zero, List.set_cons_succ, i64_w, i32_w]
              rfl
            refine pure_ (i := 5) (N := some 88) (v := ?_) (a' := ?_) #[true, true, true, true, true, true, false, false, false, false, false, false, false, false, false, false, false, false, false, false, false, false, false, false, false, false, false, false, false, false, false, false] rfl rfl (any_of HT_.out (by kernel_rfl)) (fun _ _ _ h => h) (Or.inl ⟨by rfl, ?_⟩) ?_ ?_
            rotate_left
            · intro w'
              go_simp
              try with_reducible rfl
            rotate_left
            · simp only [Act.put, List.setIfInBounds_toArray, List.set_cons_zero, List.set_cons_succ, i64_w, i32_w]
              rfl
            refine pure_ (i := 6) (N := some 89) (v := ?_) (a' := ?_) #[true, true, true, true, true, true, true, false, false, false, false, false, false, false, false, false, false, false, false, false, false, false, false, false, false, false, false, false, false, false, false, false] rfl rfl (any_of HT_.out (by kernel_rfl)) (fun _ _ _ h => h) (Or.inl ⟨by rfl, ?_⟩) ?_ ?_
            rotate_left
            · intro w'
              go_simp
              try with_reducible rfl
            rotate_left
            · simp only [Act.put, List.setIfInBounds_toArray, List.set_cons_zero, List.set_cons_succ, i64_w, i32_w]
              rfl
            refine take_ (i := 7) (N := some 90) (v := .agg #[.int .i64 x0, .int .i64 x1, .int .i64 x2, .int .i64 x3, .int .i64 x4, .int .i64 x5, .int .i64 x6, .int .i64 x7, .int .i64 x8, .int .i64 x9, .int .i64 x10, .int .i64 x11]) (a' := ?_) #[true, true, true, true, true, true, true, true, false, false, false, false, false, false, false, false, false, false, false, false, false, false, false, false, false, false, false, false, false, false, false, false] rfl rfl (take_ofW HT_.out HW_.out (by kernel_rfl)) (fun _ _ _ h => h) (yields_load_row (S := fun w' => w'.heap[g12]? = some (.cells #[.int .i64 x0, .int .i64 x1, .int .i64 x2, .int .i64 x3, .int .i64 x4, .int .i64 x5, .int .i64 x6, .int .i64 x7, .int .i64 x8, .int .i64 x9, .int .i64 x10, .int .i64 x11] 60 (0, 0)) ∧ w'.heap[g14]? = some (.cells #[.int .i64 x0, .int .i64 x1, .int .i64 x2, .int .i64 x3, .int .i64 x4, .int .i64 x5, .int .i64 x6, .int .i64 x7, .int .i64 x8, .int .i64 x9, .int .i64 x10, .int .i64 x11] 60 (0, 0)) ∧ w'.rangeAt gw (y.toNat * 12) (([x0, x1, x2, x3, x4, x5, x6, x7, x8, x9, x10, x11] : List Int).map (Value.int .i64))) 60 _ rfl g12 rfl 60 #[.int .i64 x0, .int .i64 x1, .int .i64 x2, .int .i64 x3, .int .i64 x4, .int .i64 x5, .int .i64 x6, .int .i64 x7, .int .i64 x8, .int .i64 x9, .int .i64 x10, .int .i64 x11] (0, 0) _ (fun w h => h.1) Try.underlying60 rfl size60' rfl) hHeld ?_ ?_
            rotate_left
            · simp only [Act.put, List.setIfInBounds_toArray, List.set_cons_zero, List.set_cons_succ, i64_w, i32_w]
              rfl
            refine pure_ (i := 8) (N := some 91) (v := ?_) (a' := ?_) #[true, true, true, true, true, true, true, true, true, false, false, false, false, false, false, false, false, false, false, false, false, false, false, false, false, false, false, false, false, false, false, false] rfl rfl (any_of HT_.out (by kernel_rfl)) (fun _ _ _ h => h) (Or.inl ⟨by rfl, ?_⟩) ?_ ?_
            rotate_left
            · intro w'
              go_simp
              try with_reducible rfl
            rotate_left
            · simp only [Act.put, List.setIfInBounds_toArray, List.set_cons_zero, List.set_cons_succ, i64_w, i32_w]
              rfl
            refine pure_ (i := 9) (N := some 92) (v := ?_) (a' := ?_) #[true, true, true, true, true, true, true, true, true, true, false, false, false, false, false, false, false, false, false, false, false, false, false, false, false, false, false, false, false, false, false, false] rfl rfl (any_of HT_.out (by kernel_rfl)) (fun _ _ _ h => h) (Or.inl ⟨by rfl, ?_⟩) ?_ ?_
            rotate_left
            · intro w'
              go_simp
              try with_reducible rfl
            rotate_left
            · simp only [Act.put, List.setIfInBounds_toArray, List.set_cons_zero, List.set_cons_succ, i64_w, i32_w]
              rfl
            refine pure_ (i := 10) (N := some 93) (v := ?_) (a' := ?_) #[true, true, true, true, true, true, true, true, true, true, true, false, false, false, false, false, false, false, false, false, false, false, false, false, false, false, false, false, false, false, false, false] rfl rfl (any_of HT_.out (by kernel_rfl)) (fun _ _ _ h => h) (Or.inl ⟨by rfl, ?_⟩) ?_ ?_
            rotate_left
            · intro w'
              go_simp
              try with_reducible rfl
            rotate_left
            · simp only [Act.put, List.setIfInBounds_toArray, List.set_cons_zero, List.set_cons_succ, i64_w, i32_w]
              rfl
            refine take_ (i := 11) (N := some 94) (v := .agg #[.int .i64 x0, .int .i64 x1, .int .i64 x2, .int .i64 x3, .int .i64 x4, .int .i64 x5, .int .i64 x6, .int .i64 x7, .int .i64 x8, .int .i64 x9, .int .i64 x10, .int .i64 x11]) (a' := ?_) #[true, true, true, true, true, true, true, true, true, true, true, true, false, false, false, false, false, false, false, false, false, false, false, false, false, false, false, false, false, false, false, false] rfl rfl (take_ofW HT_.out HW_.out (by kernel_rfl)) (fun _ _ _ h => h) (yieldsIf_load_mid (S := fun w' => w'.heap[g12]? = some (.cells #[.int .i64 x0, .int .i64 x1, .int .i64 x2, .int .i64 x3, .int .i64 x4, .int .i64 x5, .int .i64 x6, .int .i64 x7, .int .i64 x8, .int .i64 x9, .int .i64 x10, .int .i64 x11] 60 (0, 0)) ∧ w'.heap[g14]? = some (.cells #[.int .i64 x0, .int .i64 x1, .int .i64 x2, .int .i64 x3, .int .i64 x4, .int .i64 x5, .int .i64 x6, .int .i64 x7, .int .i64 x8, .int .i64 x9, .int .i64 x10, .int .i64 x11] 60 (0, 0)) ∧ w'.rangeAt gw (y.toNat * 12) (([x0, x1, x2, x3, x4, x5, x6, x7, x8, x9, x10, x11] : List Int).map (Value.int .i64))) rfl 60 _ rfl gw (y.toNat * 12) rfl (([x0, x1, x2, x3, x4, x5, x6, x7, x8, x9, x10, x11] : List Int).map (Value.int .i64)) _ (fun w h => h.2.2) Try.underlying60 rfl size60') hHeld ?_ ?_
            rotate_left
            · simp only [Act.put, List.setIfInBounds_toArray, List.set_cons_zero, List.set_cons_succ, i64_w, i32_w]
              rfl
            refine pure_ (i := 12) (N := some 95) (v := ?_) (a' := ?_) #[true, true, true, true, true, true, true, true, true, true, true, true, true, false, false, false, false, false, false, false, false, false, false, false, false, false, false, false, false, false, false, false] rfl rfl (any_of HT_.out (by kernel_rfl)) (fun _ _ _ h => h) (Or.inl ⟨by rfl, ?_⟩) ?_ ?_
            rotate_left
            · intro w'
              go_simp
              try with_reducible rfl
            rotate_left
            · simp only [Act.put, List.setIfInBounds_toArray, List.set_cons_zero, List.set_cons_succ, i64_w, i32_w]
              rfl
            refine pure_ (i := 13) (N := some 96) (v := ?_) (a' := ?_) #[true, true, true, true, true, true, true, true, true, true, true, true, true, true, false, false, false, false, false, false, false, false, false, false, false, false, false, false, false, false, false, false] rfl rfl (any_of HT_.out (by kernel_rfl)) (fun _ _ _ h => h) (Or.inl ⟨by rfl, ?_⟩) ?_ ?_
            rotate_left
            · intro w'
              go_simp
              try with_reducible rfl
            rotate_left
            · simp only [Act.put, List.setIfInBounds_toArray, List.set_cons_zero, List.set_cons_succ, i64_w, i32_w]
              rfl
            refine pure_ (i := 14) (N := some 97) (v := ?_) (a' := ?_) #[true, true, true, true, true, true, true, true, true, true, true, true, true, true, true, false, false, false, false, false, false, false, false, false, false, false, false, false, false, false, false, false] rfl rfl (any_of HT_.out (by kernel_rfl)) (fun _ _ _ h => h) (Or.inl ⟨by rfl, ?_⟩) ?_ ?_
            rotate_left
            · intro w'
              go_simp
              try with_reducible rfl
            rotate_left
            · simp only [Act.put, List.setIfInBounds_toArray, List.set_cons_zero, List.set_cons_succ, i64_w, i32_w]
              rfl
            refine take_ (i := 15) (N := some 98) (v := .agg #[.int .i64 x0, .int .i64 x1, .int .i64 x2, .int .i64 x3, .int .i64 x4, .int .i64 x5, .int .i64 x6, .int .i64 x7, .int .i64 x8, .int .i64 x9, .int .i64 x10, .int .i64 x11]) (a' := ?_) #[true, true, true, true, true, true, true, true, true, true, true, true, true, true, true, true, false, false, false, false, false, false, false, false, false, false, false, false, false, false, false, false] rfl rfl (take_ofW HT_.out HW_.out (by kernel_rfl)) (fun _ _ _ h => h) (yields_load_row (S := fun w' => w'.heap[g12]? = some (.cells #[.int .i64 x0, .int .i64 x1, .int .i64 x2, .int .i64 x3, .int .i64 x4, .int .i64 x5, .int .i64 x6, .int .i64 x7, .int .i64 x8, .int .i64 x9, .int .i64 x10, .int .i64 x11] 60 (0, 0)) ∧ w'.heap[g14]? = some (.cells #[.int .i64 x0, .int .i64 x1, .int .i64 x2, .int .i64 x3, .int .i64 x4, .int .i64 x5, .int .i64 x6, .int .i64 x7, .int .i64 x8, .int .i64 x9, .int .i64 x10, .int .i64 x11] 60 (0, 0)) ∧ w'.rangeAt gw (y.toNat * 12) (([x0, x1, x2, x3, x4, x5, x6, x7, x8, x9, x10, x11] : List Int).map (Value.int .i64))) 60 _ rfl g14 rfl 60 #[.int .i64 x0, .int .i64 x1, .int .i64 x2, .int .i64 x3, .int .i64 x4, .int .i64 x5, .int .i64 x6, .int .i64 x7, .int .i64 x8, .int .i64 x9, .int .i64 x10, .int .i64 x11] (0, 0) _ (fun w h => h.2.1) Try.underlying60 rfl size60' rfl) hHeld ?_ ?_
            rotate_left
            · simp only [Act.put, List.setIfInBounds_toArray, List.set_cons_zero, List.set_cons_succ, i64_w, i32_w]
              rfl
            refine pure_ (i := 16) (N := some 99) (v := ?_) (a' := ?_) #[true, true, true, true, true, true, true, true, true, true, true, true, true, true, true, true, true, false, false, false, false, false, false, false, false, false, false, false, false, false, false, false] rfl rfl (any_of HT_.out (by kernel_rfl)) (fun _ _ _ h => h) (Or.inl ⟨by rfl, ?_⟩) ?_ ?_
            rotate_left
            · intro w'
              go_simp
              try with_reducible rfl
            rotate_left
            · simp only [Act.put, List.setIfInBounds_toArray, List.set_cons_zero, List.set_cons_succ, i64_w, i32_w]
              rfl
            refine pure_ (i := 17) (N := some 100) (v := ?_) (a' := ?_) #[true, true, true, true, true, true, true, true, true, true, true, true, true, true, true, true, true, true, false, false, false, false, false, false, false, false, false, false, false, false, false, false] rfl rfl (any_of HT_.out (by kernel_rfl)) (fun _ _ _ h => h) (Or.inl ⟨by rfl, ?_⟩) ?_ ?_
            rotate_left
            · intro w'
              go_simp
              try with_reducible rfl
            rotate_left
            · simp only [Act.put, List.setIfInBounds_toArray, List.set_cons_zero, List.set_cons_succ, i64_w, i32_w]
              rfl
            refine pure_ (i := 18) (N := some 101) (v := ?_) (a' := ?_) #[true, true, true, true, true, true, true, true, true, true, true, true, true, true, true, true, true, true, true, false, false, false, false, false, false, false, false, false, false, false, false, false] rfl rfl (any_of HT_.out (by kernel_rfl)) (fun _ _ _ h => h) (Or.inl ⟨by rfl, ?_⟩) ?_ ?_
            rotate_left
            · intro w'
              go_simp
              try with_reducible rfl
            rotate_left
            · simp only [Act.put, List.setIfInBounds_toArray, List.set_cons_zero, List.set_cons_succ, i64_w, i32_w]
              rfl
            refine take_ (i := 19) (N := some 102) (v := .agg #[.int .i64 x0, .int .i64 x1, .int .i64 x2, .int .i64 x3, .int .i64 x4, .int .i64 x5, .int .i64 x6, .int .i64 x7, .int .i64 x8, .int .i64 x9, .int .i64 x10, .int .i64 x11]) (a' := ?_) #[true, true, true, true, true, true, true, true, true, true, true, true, true, true, true, true, true, true, true, true, false, false, false, false, false, false, false, false, false, false, false, false] rfl rfl (take_ofW HT_.out HW_.out (by kernel_rfl)) (fun _ _ _ h => h) (yieldsIf_load_mid (S := fun w' => w'.heap[g12]? = some (.cells #[.int .i64 x0, .int .i64 x1, .int .i64 x2, .int .i64 x3, .int .i64 x4, .int .i64 x5, .int .i64 x6, .int .i64 x7, .int .i64 x8, .int .i64 x9, .int .i64 x10, .int .i64 x11] 60 (0, 0)) ∧ w'.heap[g14]? = some (.cells #[.int .i64 x0, .int .i64 x1, .int .i64 x2, .int .i64 x3, .int .i64 x4, .int .i64 x5, .int .i64 x6, .int .i64 x7, .int .i64 x8, .int .i64 x9, .int .i64 x10, .int .i64 x11] 60 (0, 0)) ∧ w'.rangeAt gw (y.toNat * 12) (([x0, x1, x2, x3, x4, x5, x6, x7, x8, x9, x10, x11] : List Int).map (Value.int .i64))) rfl 60 _ rfl gw (y.toNat * 12) rfl (([x0, x1, x2, x3, x4, x5, x6, x7, x8, x9, x10, x11] : List Int).map (Value.int .i64)) _ (fun w h => h.2.2) Try.underlying60 rfl size60') hHeld ?_ ?_
            rotate_left
            · simp only [Act.put, List.setIfInBounds_toArray, List.set_cons_zero, List.set_cons_succ, i64_w, i32_w]
              rfl
            refine pure_ (i := 20) (N := some 103) (v := ?_) (a' := ?_) #[true, true, true, true, true, true, true, true, true, true, true, true, true, true, true, true, true, true, true, true, true, false, false, false, false, false, false, false, false, false, false, false] rfl rfl (any_of HT_.out (by kernel_rfl)) (fun _ _ _ h => h) (Or.inl ⟨by rfl, ?_⟩) ?_ ?_
            rotate_left
            · intro w'
              go_simp
              try with_reducible rfl
            rotate_left
            · simp only [Act.put, List.setIfInBounds_toArray, List.set_cons_zero, List.set_cons_succ, i64_w, i32_w]
              rfl
            refine pure_ (i := 21) (N := some 104) (v := ?_) (a' := ?_) #[true, true, true, true, true, true, true, true, true, true, true, true, true, true, true, true, true, true, true, true, true, true, false, false, false, false, false, false, false, false, false, false] rfl rfl (any_of HT_.out (by kernel_rfl)) (fun _ _ _ h => h) (Or.inl ⟨by rfl, ?_⟩) ?_ ?_
            rotate_left
            · intro w'
              go_simp
              try with_reducible rfl
            rotate_left
            · simp only [Act.put, List.setIfInBounds_toArray, List.set_cons_zero, List.set_cons_succ, i64_w, i32_w]
              rfl
            refine pure_ (i := 22) (N := some 105) (v := ?_) (a' := ?_) #[true, true, true, true, true, true, true, true, true, true, true, true, true, true, true, true, true, true, true, true, true, true, true, false, false, false, false, false, false, false, false, false] rfl rfl (any_of HT_.out (by kernel_rfl)) (fun _ _ _ h => h) (Or.inl ⟨by rfl, ?_⟩) ?_ ?_
            rotate_left
            · intro w'
              go_simp
              try with_reducible rfl
            rotate_left
            · simp only [Act.put, List.setIfInBounds_toArray, List.set_cons_zero, List.set_cons_succ, i64_w, i32_w]
              rfl
            refine pure_ (i := 23) (N := some 106) (v := ?_) (a' := ?_) #[true, true, true, true, true, true, true, true, true, true, true, true, true, true, true, true, true, true, true, true, true, true, true, true, false, false, false, false, false, false, false, false] rfl rfl (any_of HT_.out (by kernel_rfl)) (fun _ _ _ h => h) (Or.inl ⟨by rfl, ?_⟩) ?_ ?_
            rotate_left
            · intro w'
              go_simp
              try with_reducible rfl
            rotate_left
            · simp only [Act.put, List.setIfInBounds_toArray, List.set_cons_zero, List.set_cons_succ, i64_w, i32_w]
              rfl
            refine take_ (i := 24) (N := some 107) (v := ?_) (a' := ?_) #[true, true, true, true, true, true, true, true, true, true, true, true, true, true, true, true, true, true, true, true, true, true, true, true, true, false, false, false, false, false, false, false] rfl rfl (take_ofW HT_.out HW_.out (by kernel_rfl)) (fun _ _ _ h => h) (Or.inl ⟨by rfl, ?_⟩) hHeld ?_ ?_
            rotate_left
            · rintro w' ⟨s0, s1, s2⟩
              have hk := blk_cell s0 0
              have hf := blk_frozen s0 0
              clear s0 s1 s2
              go_simp
              try with_reducible rfl
            rotate_left
            · simp only [Act.put, List.setIfInBounds_toArray, List.set_cons_zero, List.set_cons_succ, i64_w, i32_w]
              rfl
            refine pure_ (i := 25) (N := some 108) (v := ?_) (a' := ?_) #[true, true, true, true, true, true, true, true, true, true, true, true, true, true, true, true, true, true, true, true, true, true, true, true, true, true, false, false, false, false, false, false] rfl rfl (any_of HT_.out (by kernel_rfl)) (fun _ _ _ h => h) (Or.inl ⟨by rfl, ?_⟩) ?_ ?_
            rotate_left
            · intro w'
              go_simp
              try with_reducible rfl
            rotate_left
            · simp only [Act.put, List.setIfInBounds_toArray, List.set_cons_zero, List.set_cons_succ, i64_w, i32_w]
              rfl
            refine take_ (i := 26) (N := some 109) (v := ?_) (a' := ?_) #[true, true, true, true, true, true, true, true, true, true, true, true, true, true, true, true, true, true, true, true, true, true, true, true, true, true, true, false, false, false, false, false] rfl rfl (take_ofW HT_.out HW_.out (by kernel_rfl)) (fun _ _ _ h => h) (Or.inl ⟨by rfl, ?_⟩) hHeld ?_ ?_
            rotate_left
            · rintro w' ⟨s0, s1, s2⟩
              have hk := blk_cell s0 1
              have hf := blk_frozen s0 1
              clear s0 s1 s2
              go_simp
              try with_reducible rfl
            rotate_left
            · simp only [Act.put, List.setIfInBounds_toArray, List.set_cons_zero, List.set_cons_succ, i64_w, i32_w]
              rfl
            refine pure_ (i := 27) (N := some 110) (v := ?_) (a' := ?_) #[true, true, true, true, true, true, true, true, true, true, true, true, true, true, true, true, true, true, true, true, true, true, true, true, true, true, true, true, false, false, false, false] rfl rfl (any_of HT_.out (by kernel_rfl)) (fun _ _ _ h => h) (Or.inl ⟨by rfl, ?_⟩) ?_ ?_
            rotate_left
            · intro w'
              go_simp
              try with_reducible rfl
            rotate_left
            · simp only [Act.put, List.setIfInBounds_toArray, List.set_cons_zero, List.set_cons_succ, i64_w, i32_w]
              rfl
            refine take_ (i := 28) (N := some 111) (v := ?_) (a' := ?_) #[true, true, true, true, true, true, true, true, true, true, true, true, true, true, true, true, true, true, true, true, true, true, true, true, true, true, true, true, true, false, false, false] rfl rfl (take_ofW HT_.out HW_.out (by kernel_rfl)) (fun _ _ _ h => h) (Or.inl ⟨by rfl, ?_⟩) hHeld ?_ ?_
            rotate_left
            · rintro w' ⟨s0, s1, s2⟩
              have hk := blk_cell s0 2
              have hf := blk_frozen s0 2
              clear s0 s1 s2
              go_simp
              try with_reducible rfl
            rotate_left
            · simp only [Act.put, List.setIfInBounds_toArray, List.set_cons_zero, List.set_cons_succ, i64_w, i32_w]
              rfl
            refine pure_ (i := 29) (N := some 112) (v := ?_) (a' := ?_) #[true, true, true, true, true, true, true, true, true, true, true, true, true, true, true, true, true, true, true, true, true, true, true, true, true, true, true, true, true, true, false, false] rfl rfl (any_of HT_.out (by kernel_rfl)) (fun _ _ _ h => h) (Or.inl ⟨by rfl, ?_⟩) ?_ ?_
            rotate_left
            · intro w'
              go_simp
              try with_reducible rfl
            rotate_left
            · simp only [Act.put, List.setIfInBounds_toArray, List.set_cons_zero, List.set_cons_succ, i64_w, i32_w]
              rfl
            refine pure_ (i := 30) (N := some 113) (v := ?_) (a' := ?_) #[true, true, true, true, true, true, true, true, true, true, true, true, true, true, true, true, true, true, true, true, true, true, true, true, true, true, true, true, true, true, true, false] rfl rfl (any_of HT_.out (by kernel_rfl)) (fun _ _ _ h => h) (Or.inl ⟨by rfl, ?_⟩) ?_ ?_
            rotate_left
            · intro w'
              go_simp
              try with_reducible rfl
            rotate_left
            · simp only [Act.put, List.setIfInBounds_toArray, List.set_cons_zero, List.set_cons_succ, i64_w, i32_w]
              rfl
            refine pure_ (i := 31) (N := some 114) (v := ?_) (a' := ?_) #[true, true, true, true, true, true, true, true, true, true, true, true, true, true, true, true, true, true, true, true, true, true, true, true, true, true, true, true, true, true, true, true] rfl rfl (any_of HT_.out (by kernel_rfl)) (fun _ _ _ h => h) (Or.inl ⟨by rfl, ?_⟩) ?_ ?_
            rotate_left
            · intro w'
              go_simp
              try with_reducible rfl
            rotate_left
            · simp only [Act.put, List.setIfInBounds_toArray, List.set_cons_zero, List.set_cons_succ, i64_w, i32_w]
              rfl
            refine done_ (done_of HT_.out (by kernel_rfl)) ?_
            clear HT_ HW_
            clear he60 hg60
            have wx : wrap64 (y + 1) = y + 1 := w64 (by have := HYK.out; have := HI2.out; omega)
            go_wp2
            go_roundg (gk - 1)
            case measure => have := HI2.out; omega
            case rel => exact ⟨y + 1, k + 1, (by first | rfl | (simp [wx]; done)), ⟨by have := HYK.out; omega⟩, ⟨by have := HI2.out; omega, by have := HI2.out; have := HKN.out; omega⟩, HB⟩
          · have q1 : decide (y < (n : Int)) = false := decide_eq_false (by omega)
            have hI2 := HI2.out
            have hkn : y = (n : Int) := by omega
            clear hI2 hy hk HYK HI2
            subst hkn
            have hZ : zeros12 = [0, 0, 0, 0, 0, 0, 0, 0, 0, 0, 0, 0] := rfl
            go_wp2_with (first | ((with_reducible refine gate_callee (f := 17) rfl ?_); refine goesL_ (some 118) rfl rfl Try.func17 (by kernel_rfl) rfl #[.pointer (some ⟨ga, 0, none⟩), .int .i64 (n : Int)] rfl (by (try simp only [List.map_toArray, List.map_cons, List.map_nil]); first | done | rfl) ?_; (with_reducible refine (totals_Counts.miss ga gla _ (n : Int) _ (BookAt.below HA2.out HB.out) (Or.inr (by rw [bookL_length]; omega))).mono ?_); rintro e V ⟨rfl, hb⟩; refine ⟨_, rfl, ?_⟩; have m_ := below_step HB.out hb;  clear HB hb; have HB := Aside0.mk m_; clear m_) | ((with_reducible refine gate_callee (f := 17) rfl ?_); refine goesL_ (some 123) rfl rfl Try.func17 (by kernel_rfl) rfl #[.pointer (some ⟨ga, 0, none⟩), .int .i64 (-1)] rfl (by (try simp only [List.map_toArray, List.map_cons, List.map_nil]); first | done | rfl) ?_; (with_reducible refine (totals_Counts.miss ga gla _ (-1) _ (BookAt.below HA2.out HB.out) (Or.inl (by decide))).mono ?_); rintro e V ⟨rfl, hb⟩; refine ⟨_, rfl, ?_⟩; have m_ := below_step HB.out hb;  clear HB hb; have HB := Aside0.mk m_; clear m_) | ((with_reducible refine gate_dst (N := 16) rfl ?_); refine box_event ?hg (N := 16) ?hd (cs := #[.int .i64 0, .int .i64 0, .int .i64 0, .int .i64 0, .int .i64 0, .int .i64 0, .int .i64 0, .int .i64 0, .int .i64 0, .int .i64 0, .int .i64 0, .int .i64 0]) (t := 60) ?hr ?_; (case hd => rfl); (case hg => rfl); (case hr => first | (go_simp; done) | (go_simp; rfl)); intro g16 hg V hbox hb; have G16 : Aside0 (W5.heap.size ≤ g16) := ⟨by rw [hg]; exact HB.out.size⟩; have m_ := below_step HB.out hb; clear HB hb hg; have HB := Aside0.mk m_; have B16 := Aside0.mk hbox; clear m_ hbox) | ((with_reducible refine gate_dst (N := 18) rfl ?_); refine box_event ?hg (N := 18) ?hd (cs := #[.int .i64 0, .int .i64 0, .int .i64 0, .int .i64 0, .int .i64 0, .int .i64 0, .int .i64 0, .int .i64 0, .int .i64 0, .int .i64 0, .int .i64 0, .int .i64 0]) (t := 60) ?hr ?_; (case hd => rfl); (case hg => rfl); (case hr => first | (go_simp; done) | (go_simp; rfl)); intro g18 hg V hbox hb; have G18 : Aside0 (W5.heap.size ≤ g18) := ⟨by rw [hg]; exact HB.out.size⟩; have m_ := below_step HB.out hb; clear HB hb hg; have HB := Aside0.mk m_; have B18 := Aside0.mk hbox; clear m_ hbox) | ((with_reducible refine gate_store (t := 60) (p := 16) rfl ?_); refine store_row_all rfl 60 _ _ rfl rfl g16 #[.int .i64 0, .int .i64 0, .int .i64 0, .int .i64 0, .int .i64 0, .int .i64 0, .int .i64 0, .int .i64 0, .int .i64 0, .int .i64 0, .int .i64 0, .int .i64 0] rfl rfl 60 _ B16.out size60' rfl (one12' _ _ _ _ _ _ _ _ _ _ _ _) ?_; intro V hbox ho hb; have m_ := low HB.out G16.out hb; clear HB hb ho B16 hbox; have HB := Aside0.mk m_; clear m_) | ((with_reducible refine gate_store (t := 60) (p := 18) rfl ?_); refine store_row_all rfl 60 _ _ rfl rfl g18 #[.int .i64 0, .int .i64 0, .int .i64 0, .int .i64 0, .int .i64 0, .int .i64 0, .int .i64 0, .int .i64 0, .int .i64 0, .int .i64 0, .int .i64 0, .int .i64 0] rfl rfl 60 _ B18.out size60' rfl (one12' _ _ _ _ _ _ _ _ _ _ _ _) ?_; intro V hbox ho hb; have m_ := low HB.out G18.out hb; clear HB hb ho B18 hbox; have HB := Aside0.mk m_; clear m_))
            go_ret
            exact ⟨rfl, H02.out.trans (Below.mono HB.out H02.out.size)⟩
      · have c1 : decide (x < (l.length : Int)) = true := decide_eq_true (by omega)
        have c2 : decide (x < 300) = false := decide_eq_false (by omega)
        clear hNN hI hiN hfull hi hl hx HX HI
        obtain ⟨W5, hW5_⟩ : ∃ W5, W5 = wr := ⟨_, rfl⟩
        subst hW5_
        go_wp2
        have HA2 := Aside0.mk (HA.out.lowB HG.out.1 HG.out.2.1 HV.out); have HK2 := Aside0.mk (HK.out.lowB HG.out.2.2.1 HG.out.2.2.2.1 HV.out)
        have H02 := Aside0.mk (low H0.out HG.out.2.2.2.2 HV.out); have HB0 := Aside0.mk (Below.refl W5.heap.size W5)
        clear HV
        go_loopg [11] (n + 1) (fun kq v11 W => ∃ (y : Int) (k : Nat), v11 = .int .i64 y ∧ Aside0 (y = (k : Int)) ∧ Aside0 (k + kq = n + 1 ∧ 1 ≤ kq) ∧ Aside0 (Below W5.heap.size W5 W))
        case atStart => exact ⟨0, 0, rfl, ⟨rfl⟩, ⟨by omega, by omega⟩, HB0⟩
        case round =>
          clear HB0
          obtain ⟨y, k, rfl, HYK, HI2, HB⟩ := hrel
          have hy := HYK.out
          by_cases hk : k < n
          · have q1 : decide (y < (n : Int)) = true := decide_eq_true (by omega)
            have hy0 : 0 ≤ y := by omega
            have hy1 : y < ((bookL n (l.take 300)).length : Int) := by rw [bookL_length]; omega
            have ht : y.toNat = k := by omega
            obtain ⟨xr, hxr⟩ : ∃ xr, (bookL n (l.take 300))[y.toNat]? = some xr := ⟨_, List.getElem?_eq_getElem (by rw [bookL_length]; omega)⟩
            have hbn : Bnd _ xr := bookL_bnd n (l.take 300) (by rw [List.length_take]; omega) xr (List.mem_of_getElem? hxr)
            obtain ⟨x0, x1, x2, x3, x4, x5, x6, x7, x8, x9, x10, x11, rfl, hbb⟩ := hbn
            have hsum : wrap64 (x1 + x2) = x0 := by have := hbb; rw [w64 (by have : (l.take 300).length ≤ 300 := by { rw [List.length_take]; omega }; omega)]; omega
            have hne : (x0 != wrap64 (x1 + x2)) = false := by rw [hsum]; simp
            clear hsum
            clear hbb
            have hy3 : (0 ≤ y) = True := eq_true hy0
            have hy4 : (y < (n : Int)) = True := eq_true (by omega)
            have HXY := Aside0.mk hxr
            have HKN := Aside0.mk hk
            clear hxr ht hk hy
            go_wp2_with (first | ((with_reducible refine gate_dst (N := 12) rfl ?_); refine box_event ?hg (N := 12) ?hd (cs := #[.int .i64 0, .int .i64 0, .int .i64 0, .int .i64 0, .int .i64 0, .int .i64 0, .int .i64 0, .int .i64 0, .int .i64 0, .int .i64 0, .int .i64 0, .int .i64 0]) (t := 60) ?hr ?_; (case hd => rfl); (case hg => rfl); (case hr => first | (go_simp; done) | (go_simp; rfl)); intro g12 hg V hbox hb; have G12 : Aside0 (W5.heap.size ≤ g12) := ⟨by rw [hg]; exact HB.out.size⟩; have m_ := below_step HB.out hb; clear HB hb hg; have HB := Aside0.mk m_; have B12 := Aside0.mk hbox; clear m_ hbox) | ((with_reducible refine gate_dst (N := 14) rfl ?_); refine box_event ?hg (N := 14) ?hd (cs := #[.int .i64 0, .int .i64 0, .int .i64 0, .int .i64 0, .int .i64 0, .int .i64 0, .int .i64 0, .int .i64 0, .int .i64 0, .int .i64 0, .int .i64 0, .int .i64 0]) (t := 60) ?hr ?_; (case hd => rfl); (case hg => rfl); (case hr => first | (go_simp; done) | (go_simp; rfl)); intro g14 hg V hbox hb; have G14 : Aside0 (W5.heap.size ≤ g14 ∧ g12 < g14) := ⟨by rw [hg]; exact HB.out.size, by rw [hg]; exact blk_lt B12.out⟩; have m_ := below_step HB.out hb; have k_ := Aside0.mk (blk_below B12.out hb); clear HB hb hg B12; have HB := Aside0.mk m_; have B12 := k_; have B14 := Aside0.mk hbox; clear m_ k_ hbox) | ((with_reducible refine gate_store (t := 60) (p := 12) rfl ?_); refine store_row_all rfl 60 _ _ rfl rfl g12 #[.int .i64 x0, .int .i64 x1, .int .i64 x2, .int .i64 x3, .int .i64 x4, .int .i64 x5, .int .i64 x6, .int .i64 x7, .int .i64 x8, .int .i64 x9, .int .i64 x10, .int .i64 x11] rfl rfl 60 _ B12.out size60' rfl (one12' _ _ _ _ _ _ _ _ _ _ _ _) ?_; intro V hbox ho hb; have m_ := low HB.out G12.out hb; clear HB hb ho B12; have HB := Aside0.mk m_; have B12 := Aside0.mk hbox; clear m_ hbox) | ((with_reducible refine gate_store (t := 60) (p := 14) rfl ?_); refine store_row_all rfl 60 _ _ rfl rfl g14 #[.int .i64 x0, .int .i64 x1, .int .i64 x2, .int .i64 x3, .int .i64 x4, .int .i64 x5, .int .i64 x6, .int .i64 x7, .int .i64 x8, .int .i64 x9, .int .i64 x10, .int .i64 x11] rfl rfl 60 _ B14.out size60' rfl (one12' _ _ _ _ _ _ _ _ _ _ _ _) ?_; intro V hbox ho hb; have m_ := low HB.out G14.out.1 hb; have k_ := Aside0.mk ((ho g12 (by have := G14.out.2; omega)).trans B12.out); clear HB hb ho B12 B14; have HB := Aside0.mk m_; have B12 := k_; have B14 := Aside0.mk hbox; clear m_ k_ hbox) | ((with_reducible refine gate_callee (f := 17) rfl ?_); refine goesL_ (some 74) rfl rfl Try.func17 (by kernel_rfl) rfl #[.pointer (some ⟨ga, 0, none⟩), .int .i64 y] rfl (by (try simp only [List.map_toArray, List.map_cons, List.map_nil]); first | done | rfl) ?_; (with_reducible refine (totals_Counts.calls ga gla _ y [x0, x1, x2, x3, x4, x5, x6, x7, x8, x9, x10, x11] _ (BookAt.below HA2.out HB.out) hy0 hy1 HXY.out).mono ?_); rintro e V ⟨rfl, hb⟩; refine ⟨_, rfl, ?_⟩; have m_ := below_step HB.out hb;  clear HB hb; have HB := Aside0.mk m_; clear m_) | ((with_reducible refine gate_callee (f := 17) rfl ?_); refine goesL_ (some 80) rfl rfl Try.func17 (by kernel_rfl) rfl #[.pointer (some ⟨gb, 0, none⟩), .int .i64 y] rfl (by (try simp only [List.map_toArray, List.map_cons, List.map_nil]); first | done | rfl) ?_; (with_reducible refine (totals_Counts.calls gb glb _ y [x0, x1, x2, x3, x4, x5, x6, x7, x8, x9, x10, x11] _ (BookAt.below HK2.out HB.out) hy0 hy1 HXY.out).mono ?_); rintro e V ⟨rfl, hb⟩; refine ⟨_, rfl, ?_⟩; have m_ := below_step HB.out hb; have k_ := Aside0.mk (blk_below B12.out hb); clear B12; have B12 := k_; clear k_; clear HB hb; have HB := Aside0.mk m_; clear m_))
            have BR := (HR.out.below HB.out).range HXY.out; have BB := below_drew1 HB.out
            have he60 := fun w' => eq60 w' x0 x1 x2 x3 x4 x5 x6 x7 x8 x9 x10 x11
            have hg60 := guard60
            refine start_ (S := fun w' => w'.heap[g12]? = some (.cells #[.int .i64 x0, .int .i64 x1, .int .i64 x2, .int .i64 x3, .int .i64 x4, .int .i64 x5, .int .i64 x6, .int .i64 x7, .int .i64 x8, .int .i64 x9, .int .i64 x10, .int .i64 x11] 60 (0, 0)) ∧ w'.heap[g14]? = some (.cells #[.int .i64 x0, .int .i64 x1, .int .i64 x2, .int .i64 x3, .int .i64 x4, .int .i64 x5, .int .i64 x6, .int .i64 x7, .int .i64 x8, .int .i64 x9, .int .i64 x10, .int .i64 x11] 60 (0, 0)) ∧ w'.rangeAt gw (y.toNat * 12) (([x0, x1, x2, x3, x4, x5, x6, x7, x8, x9, x10, x11] : List Int).map (Value.int .i64))) (ds := []) (n := 32) #[false, false, false, false, false, false, false, false, false, false, false, false, false, false, false, false, false, false, false, false, false, false, false, false, false, false, false, false, false, false, false, false] (by kernel_rfl) rfl rfl ⟨blk_drew B12.out, blk_drew B14.out, (World.rangeAt_drew _ _ _ _).2 BR⟩ (fun hHeld => ?_)
            clear BR B12 B14 HB
            generalize V.drew = Wd at hHeld BB ⊢
            have HB := Aside0.mk BB; clear BB
            refine with_tabW count4_tab17 count4_bits17 (fun HT_ HW_ => ?_)
            refine pure_ (i := 0) (N := some 83) (v := ?_) (a' := ?_) #[true, false, false, false, false, false, false, false, false, false, false, false, false, false, false, false, false, false, false, false, false, false, false, false, false, false, false, false, false, false, false, false] rfl rfl (any_of HT_.out (by kernel_rfl)) (fun _ _ _ h => h) (Or.inl ⟨by rfl, ?_⟩) ?_ ?_
            rotate_left
            · intro w'
              go_simp
              try with_reducible rfl
            rotate_left
            · simp only [Act.put, List.setIfInBounds_toArray, List.set_cons_zero, List.set_cons_succ, i64_w, i32_w]
              rfl
            refine pure_ (i := 1) (N := some 84) (v := ?_) (a' := ?_) #[true, true, false, false, false, false, false, false, false, false, false, false, false, false, false, false, false, false, false, false, false, false, false, false, false, false, false, false, false, false, false, false] rfl rfl (any_of HT_.out (by kernel_rfl)) (fun _ _ _ h => h) (Or.inl ⟨by rfl, ?_⟩) ?_ ?_
            rotate_left
            · intro w'
              go_simp
              try with_reducible rfl
            rotate_left
            · simp only [Act.put, List.setIfInBounds_toArray, List.set_cons_zero, List.set_cons_succ, i64_w, i32_w]
              rfl
            refine pure_ (i := 2) (N := some 85) (v := ?_) (a' := ?_) #[true, true, true, false, false, false, false, false, false, false, false, false, false, false, false, false, false, false, false, false, false, false, false, false, false, false, false, false, false, false, false, false] rfl rfl (any_of HT_.out (by kernel_rfl)) (fun _ _ _ h => h) (Or.inl ⟨by rfl, ?_⟩) ?_ ?_
            rotate_left
            · intro w'
              go_simp
              try with_reducible rfl
            rotate_left
            · simp only [Act.put, List.setIfInBounds_toArray, List.set_cons_zero, List.set_cons_succ, i64_w, i32_w]
              rfl
            refine pure_ (i := 3) (N := some 86) (v := ?_) (a' := ?_) #[true, true, true, true, false, false, false, false, false, false, false, false, false, false, false, false, false, false, false, false, false, false, false, false, false, false, false, false, false, false, false, false] rfl rfl (any_of HT_.out (by kernel_rfl)) (fun _ _ _ h => h) (Or.inl ⟨by rfl, ?_⟩) ?_ ?_
            rotate_left
            · intro w'
              go_simp
              try with_reducible rfl
            rotate_left
            · simp only [Act.put, List.setIfInBounds_toArray, List.set_cons_zero, List.set_cons_succ, i64_w, i32_w]
              rfl
            refine pure_ (i := 4) (N := some 87) (v := ?_) (a' := ?_) #[true, true, true, true, true, false, false, false, false, false, false, false, false, false, false, false, false, false, false, false, false, false, false, false, false, false, false, false, false, false, false, false] rfl rfl (any_of HT_.out (by kernel_rfl)) (fun _ _ _ h => h) (Or.inl ⟨by rfl, ?_⟩) ?_ ?_
            rotate_left
            · intro w'
              go_simp
              try with_reducible rfl
            rotate_left
            · simp only [Act.put, List.setIfInBounds_toArray, List.set_cons_zero, List.set_cons_succ, i64_w, i32_w]
              rfl
            refine pure_ (i := 5) (N := some 88) (v := ?_) (a' := ?_) #[true, true, true, true, true, true, false, false, false, false, false, false, false, false, false, false, false, false, false, false, false, false, false, false, false, false, false, false, false, false, false, false] rfl rfl (any_of HT_.out (by kernel_rfl)) (fun _ _ _ h => h) (Or.inl ⟨by rfl, ?_⟩) ?_ ?_
            rotate_left
            · intro w'
              go_simp
              try with_reducible rfl
            rotate_left
            · simp only [Act.put, List.setIfInBounds_toArray, List.set_cons_zero, List.set_cons_succ, i64_w, i32_w]
              rfl
            refine pure_ (i := 6) (N := some 89) (v := ?_) (a' := ?_) #[true, true, true, true, true, true, true, false, false, false, false, false, false, false, false, false, false, false, false, false, false, false, false, false, false, false, false, false, false, false, false, false] rfl rfl (any_of HT_.out (by kernel_rfl)) (fun _ _ _ h => h) (Or.inl ⟨by rfl, ?_⟩) ?_ ?_
            rotate_left
            · intro w'
              go_simp
              try with_reducible rfl
            rotate_left
            · simp only [Act.put, List.setIfInBounds_toArray, List.set_cons_zero, List.set_cons_succ, i64_w, i32_w]
              rfl
            refine take_ (i := 7) (N := some 90) (v := .agg #[.int .i64 x0, .int .i64 x1, .int .i64 x2, .int .i64 x3, .int .i64 x4, .int .i64 x5, .int .i64 x6, .int .i64 x7, .int .i64 x8, .int .i64 x9, .int .i64 x10, .int .i64 x11]) (a' := ?_) #[true, true, true, true, true, true, true, true, false, false, false, false, false, false, false, false, false, false, false, false, false, false, false, false, false, false, false, false, false, false, false, false] rfl rfl (take_ofW HT_.out HW_.out (by kernel_rfl)) (fun _ _ _ h => h) (yields_load_row (S := fun w' => w'.heap[g12]? = some (.cells #[.int .i64 x0, .int .i64 x1, .int .i64 x2, .int .i64 x3, .int .i64 x4, .int .i64 x5, .int .i64 x6, .int .i64 x7, .int .i64 x8, .int .i64 x9, .int .i64 x10, .int .i64 x11] 60 (0, 0)) ∧ w'.heap[g14]? = some (.cells #[.int .i64 x0, .int .i64 x1, .int .i64 x2, .int .i64 x3, .int .i64 x4, .int .i64 x5, .int .i64 x6, .int .i64 x7, .int .i64 x8, .int .i64 x9, .int .i64 x10, .int .i64 x11] 60 (0, 0)) ∧ w'.rangeAt gw (y.toNat * 12) (([x0, x1, x2, x3, x4, x5, x6, x7, x8, x9, x10, x11] : List Int).map (Value.int .i64))) 60 _ rfl g12 rfl 60 #[.int .i64 x0, .int .i64 x1, .int .i64 x2, .int .i64 x3, .int .i64 x4, .int .i64 x5, .int .i64 x6, .int .i64 x7, .int .i64 x8, .int .i64 x9, .int .i64 x10, .int .i64 x11] (0, 0) _ (fun w h => h.1) Try.underlying60 rfl size60' rfl) hHeld ?_ ?_
            rotate_left
            · simp only [Act.put, List.setIfInBounds_toArray, List.set_cons_zero, List.set_cons_succ, i64_w, i32_w]
              rfl
            refine pure_ (i := 8) (N := some 91) (v := ?_) (a' := ?_) #[true, true, true, true, true, true, true, true, true, false, false, false, false, false, false, false, false, false, false, false, false, false, false, false, false, false, false, false, false, false, false, false] rfl rfl (any_of HT_.out (by kernel_rfl)) (fun _ _ _ h => h) (Or.inl ⟨by rfl, ?_⟩) ?_ ?_
            rotate_left
            · intro w'
              go_simp
              try with_reducible rfl
            rotate_left
            · simp only [Act.put, List.setIfInBounds_toArray, List.set_cons_zero, List.set_cons_succ, i64_w, i32_w]
              rfl
            refine pure_ (i := 9) (N := some 92) (v := ?_) (a' := ?_) #[true, true, true, true, true, true, true, true, true, true, false, false, false, false, false, false, false, false, false, false, false, false, false, false, false, false, false, false, false, false, false, false] rfl rfl (any_of HT_.out (by kernel_rfl)) (fun _ _ _ h => h) (Or.inl ⟨by rfl, ?_⟩) ?_ ?_
            rotate_left
            · intro w'
              go_simp
              try with_reducible rfl
            rotate_left
            · simp only [Act.put, List.setIfInBounds_toArray, List.set_cons_zero, List.set_cons_succ, i64_w, i32_w]
              rfl
            refine pure_ (i := 10) (N := some 93) (v := ?_) (a' := ?_) #[true, true, true, true, true, true, true, true, true, true, true, false, false, false, false, false, false, false, false, false, false, false, false, false, false, false, false, false, false, false, false, false] rfl rfl (any_of HT_.out (by kernel_rfl)) (fun _ _ _ h => h) (Or.inl ⟨by rfl, ?_⟩) ?_ ?_
            rotate_left
            · intro w'
              go_simp
              try with_reducible rfl
            rotate_left
            · simp only [Act.put, List.setIfInBounds_toArray, List.set_cons_zero, List.set_cons_succ, i64_w, i32_w]
              rfl
            refine take_ (i := 11) (N := some 94) (v := .agg #[.int .i64 x0, .int .i64 x1, .int .i64 x2, .int .i64 x3, .int .i64 x4, .int .i64 x5, .int .i64 x6, .int .i64 x7, .int .i64 x8, .int .i64 x9, .int .i64 x10, .int .i64 x11]) (a' := ?_) #[true, true, true, true, true, true, true, true, true, true, true, true, false, false, false, false, false, false, false, false, false, false, false, false, false, false, false, false, false, false, false, false] rfl rfl (take_ofW HT_.out HW_.out (by kernel_rfl)) (fun _ _ _ h => h) (yieldsIf_load_mid (S := fun w' => w'.heap[g12]? = some (.cells #[.int .i64 x0, .int .i64 x1, .int .i64 x2, .int .i64 x3, .int .i64 x4, .int .i64 x5, .int .i64 x6, .int .i64 x7, .int .i64 x8, .int .i64 x9, .int .i64 x10, .int .i64 x11] 60 (0, 0)) ∧ w'.heap[g14]? = some (.cells #[.int .i64 x0, .int .i64 x1, .int .i64 x2, .int .i64 x3, .int .i64 x4, .int .i64 x5, .int .i64 x6, .int .i64 x7, .int .i64 x8, .int .i64 x9, .int .i64 x10, .int .i64 x11] 60 (0, 0)) ∧ w'.rangeAt gw (y.toNat * 12) (([x0, x1, x2, x3, x4, x5, x6, x7, x8, x9, x10, x11] : List Int).map (Value.int .i64))) rfl 60 _ rfl gw (y.toNat * 12) rfl (([x0, x1, x2, x3, x4, x5, x6, x7, x8, x9, x10, x11] : List Int).map (Value.int .i64)) _ (fun w h => h.2.2) Try.underlying60 rfl size60') hHeld ?_ ?_
            rotate_left
            · simp only [Act.put, List.setIfInBounds_toArray, List.set_cons_zero, List.set_cons_succ, i64_w, i32_w]
              rfl
            refine pure_ (i := 12) (N := some 95) (v := ?_) (a' := ?_) #[true, true, true, true, true, true, true, true, true, true, true, true, true, false, false, false, false, false, false, false, false, false, false, false, false, false, false, false, false, false, false, false] rfl rfl (any_of HT_.out (by kernel_rfl)) (fun _ _ _ h => h) (Or.inl ⟨by rfl, ?_⟩) ?_ ?_
            rotate_left
            · intro w'
              go_simp
              try with_reducible rfl
            rotate_left
            · simp only [Act.put, List.setIfInBounds_toArray, List.set_cons_zero, List.set_cons_succ, i64_w, i32_w]
              rfl
            refine pure_ (i := 13) (N := some 96) (v := ?_) (a' := ?_) #[true, true, true, true, true, true, true, true, true, true, true, true, true, true, false, false, false, false, false, false, false, false, false, false, false, false, false, false, false, false, false, false] rfl rfl (any_of HT_.out (by kernel_rfl)) (fun _ _ _ h => h) (Or.inl ⟨by rfl, ?_⟩) ?_ ?_
            rotate_left
            · intro w'
              go_simp
              try with_reducible rfl
            rotate_left
            · simp only [Act.put, List.setIfInBounds_toArray, List.set_cons_zero, List.set_cons_succ, i64_w, i32_w]
              rfl
            refine pure_ (i := 14) (N := some 97) (v := ?_) (a' := ?_) #[true, true, true, true, true, true, true, true, true, true, true, true, true, true, true, false, false, false, false, false, false, false, false, false, false, false, false, false, false, false, false, false] rfl rfl (any_of HT_.out (by kernel_rfl)) (fun _ _ _ h => h) (Or.inl ⟨by rfl, ?_⟩) ?_ ?_
            rotate_left
            · intro w'
              go_simp
              try with_reducible rfl
            rotate_left
            · simp only [Act.put, List.setIfInBounds_toArray, List.set_cons_zero, List.set_cons_succ, i64_w, i32_w]
              rfl
            refine take_ (i := 15) (N := some 98) (v := .agg #[.int .i64 x0, .int .i64 x1, .int .i64 x2, .int .i64 x3, .int .i64 x4, .int .i64 x5, .int .i64 x6, .int .i64 x7, .int .i64 x8, .int .i64 x9, .int .i64 x10, .int .i64 x11]) (a' := ?_) #[true, true, true, true, true, true, true, true, true, true, true, true, true, true, true, true, false, false, false, false, false, false, false, false, false, false, false, false, false, false, false, false] rfl rfl (take_ofW HT_.out HW_.out (by kernel_rfl)) (fun _ _ _ h => h) (yields_load_row (S := fun w' => w'.heap[g12]? = some (.cells #[.int .i64 x0, .int .i64 x1, .int .i64 x2, .int .i64 x3, .int .i64 x4, .int .i64 x5, .int .i64 x6, .int .i64 x7, .int .i64 x8, .int .i64 x9, .int .i64 x10, .int .i64 x11] 60 (0, 0)) ∧ w'.heap[g14]? = some (.cells #[.int .i64 x0, .int .i64 x1, .int .i64 x2, .int .i64 x3, .int .i64 x4, .int .i64 x5, .int .i64 x6, .int .i64 x7, .int .i64 x8, .int .i64 x9, .int .i64 x10, .int .i64 x11] 60 (0, 0)) ∧ w'.rangeAt gw (y.toNat * 12) (([x0, x1, x2, x3, x4, x5, x6, x7, x8, x9, x10, x11] : List Int).map (Value.int .i64))) 60 _ rfl g14 rfl 60 #[.int .i64 x0, .int .i64 x1, .int .i64 x2, .int .i64 x3, .int .i64 x4, .int .i64 x5, .int .i64 x6, .int .i64 x7, .int .i64 x8, .int .i64 x9, .int .i64 x10, .int .i64 x11] (0, 0) _ (fun w h => h.2.1) Try.underlying60 rfl size60' rfl) hHeld ?_ ?_
            rotate_left
            · simp only [Act.put, List.setIfInBounds_toArray, List.set_cons_zero, List.set_cons_succ, i64_w, i32_w]
              rfl
            refine pure_ (i := 16) (N := some 99) (v := ?_) (a' := ?_) #[true, true, true, true, true, true, true, true, true, true, true, true, true, true, true, true, true, false, false, false, false, false, false, false, false, false, false, false, false, false, false, false] rfl rfl (any_of HT_.out (by kernel_rfl)) (fun _ _ _ h => h) (Or.inl ⟨by rfl, ?_⟩) ?_ ?_
            rotate_left
            · intro w'
              go_simp
              try with_reducible rfl
            rotate_left
            · simp only [Act.put, List.setIfInBounds_toArray, List.set_cons_zero, List.set_cons_succ, i64_w, i32_w]
              rfl
            refine pure_ (i := 17) (N := some 100) (v := ?_) (a' := ?_) #[true, true, true, true, true, true, true, true, true, true, true, true, true, true, true, true, true, true, false, false, false, false, false, false, false, false, false, false, false, false, false, false] rfl rfl (any_of HT_.out (by kernel_rfl)) (fun _ _ _ h => h) (Or.inl ⟨by rfl, ?_⟩) ?_ ?_
            rotate_left
            · intro w'
              go_simp
              try with_reducible rfl
            rotate_left
            · simp only [Act.put, List.setIfInBounds_toArray, List.set_cons_zero, List.set_cons_succ, i64_w, i32_w]
              rfl
            refine pure_ (i := 18) (N := some 101) (v := ?_) (a' := ?_) #[true, true, true, true, true, true, true, true, true, true, true, true, true, true, true, true, true, true, true, false, false, false, false, false, false, false, false, false, false, false, false, false] rfl rfl (any_of HT_.out (by kernel_rfl)) (fun _ _ _ h => h) (Or.inl ⟨by rfl, ?_⟩) ?_ ?_
            rotate_left
            · intro w'
              go_simp
              try with_reducible rfl
            rotate_left
            · simp only [Act.put, List.setIfInBounds_toArray, List.set_cons_zero, List.set_cons_succ, i64_w, i32_w]
              rfl
            refine take_ (i := 19) (N := some 102) (v := .agg #[.int .i64 x0, .int .i64 x1, .int .i64 x2, .int .i64 x3, .int .i64 x4, .int .i64 x5, .int .i64 x6, .int .i64 x7, .int .i64 x8, .int .i64 x9, .int .i64 x10, .int .i64 x11]) (a' := ?_) #[true, true, true, true, true, true, true, true, true, true, true, true, true, true, true, true, true, true, true, true, false, false, false, false, false, false, false, false, false, false, false, false] rfl rfl (take_ofW HT_.out HW_.out (by kernel_rfl)) (fun _ _ _ h => h) (yieldsIf_load_mid (S := fun w' => w'.heap[g12]? = some (.cells #[.int .i64 x0, .int .i64 x1, .int .i64 x2, .int .i64 x3, .int .i64 x4, .int .i64 x5, .int .i64 x6, .int .i64 x7, .int .i64 x8, .int .i64 x9, .int .i64 x10, .int .i64 x11] 60 (0, 0)) ∧ w'.heap[g14]? = some (.cells #[.int .i64 x0, .int .i64 x1, .int .i64 x2, .int .i64 x3, .int .i64 x4, .int .i64 x5, .int .i64 x6, .int .i64 x7, .int .i64 x8, .int .i64 x9, .int .i64 x10, .int .i64 x11] 60 (0, 0)) ∧ w'.rangeAt gw (y.toNat * 12) (([x0, x1, x2, x3, x4, x5, x6, x7, x8, x9, x10, x11] : List Int).map (Value.int .i64))) rfl 60 _ rfl gw (y.toNat * 12) rfl (([x0, x1, x2, x3, x4, x5, x6, x7, x8, x9, x10, x11] : List Int).map (Value.int .i64)) _ (fun w h => h.2.2) Try.underlying60 rfl size60') hHeld ?_ ?_
            rotate_left
            · simp only [Act.put, List.setIfInBounds_toArray, List.set_cons_zero, List.set_cons_succ, i64_w, i32_w]
              rfl
            refine pure_ (i := 20) (N := some 103) (v := ?_) (a' := ?_) #[true, true, true, true, true, true, true, true, true, true, true, true, true, true, true, true, true, true, true, true, true, false, false, false, false, false, false, false, false, false, false, false] rfl rfl (any_of HT_.out (by kernel_rfl)) (fun _ _ _ h => h) (Or.inl ⟨by rfl, ?_⟩) ?_ ?_
            rotate_left
            · intro w'
              go_simp
              try with_reducible rfl
            rotate_left
            · simp only [Act.put, List.setIfInBounds_toArray, List.set_cons_zero, List.set_cons_succ, i64_w, i32_w]
              rfl
            refine pure_ (i := 21) (N := some 104) (v := ?_) (a' := ?_) #[true, true, true, true, true, true, true, true, true, true, true, true, true, true, true, true, true, true, true, true, true, true, false, false, false, false, false, false, false, false, false, false] rfl rfl (any_of HT_.out (by kernel_rfl)) (fun _ _ _ h => h) (Or.inl ⟨by rfl, ?_⟩) ?_ ?_
            rotate_left
            · intro w'
              go_simp
              try with_reducible rfl
            rotate_left
            · simp only [Act.put, List.setIfInBounds_toArray, List.set_cons_zero, List.set_cons_succ, i64_w, i32_w]
              rfl
            refine pure_ (i := 22) (N := some 105) (v := ?_) (a' := ?_) #[true, true, true, true, true, true, true, true, true, true, true, true, true, true, true, true, true, true, true, true, true, true, true, false, false, false, false, false, false, false, false, false] rfl rfl (any_of HT_.out (by kernel_rfl)) (fun _ _ _ h => h) (Or.inl ⟨by rfl, ?_⟩) ?_ ?_
            rotate_left
            · intro w'
              go_simp
              try with_reducible rfl
            rotate_left
            · simp only [Act.put, List.setIfInBounds_toArray, List.set_cons_zero, List.set_cons_succ, i64_w, i32_w]
              rfl
            refine pure_ (i := 23) (N := some 106) (v := ?_) (a' := ?_) #[true, true, true, true, true, true, true, true, true, true, true, true, true, true, true, true, true, true, true, true, true, true, true, true, false, false, false, false, false, false, false, false] rfl rfl (any_of HT_.out (by kernel_rfl)) (fun _ _ _ h => h) (Or.inl ⟨by rfl, ?_⟩) ?_ ?_
            rotate_left
            · intro w'
              go_simp
              try with_reducible rfl
            rotate_left
            · simp only [Act.put, List.setIfInBounds_toArray, List.set_cons_zero, List.set_cons_succ, i64_w, i32_w]
              rfl
            refine take_ (i := 24) (N := some 107) (v := ?_) (a' := ?_) #[true, true, true, true, true, true, true, true, true, true, true, true, true, true, true, true, true, true, true, true, true, true, true, true, true, false, false, false, false, false, false, false] rfl rfl (take_ofW HT_.out HW_.out (by kernel_rfl)) (fun _ _ _ h => h) (Or.inl ⟨by rfl, ?_⟩) hHeld ?_ ?_
            rotate_left
            · rintro w' ⟨s0, s1, s2⟩
              have hk := blk_cell s0 0
              have hf := blk_frozen s0 0
              clear s0 s1 s2
              go_simp
              try with_reducible rfl
            rotate_left
            · simp only [Act.put, List.setIfInBounds_toArray, List.set_cons_zero, List.set_cons_succ, i64_w, i32_w]
              rfl
            refine pure_ (i := 25) (N := some 108) (v := ?_) (a' := ?_) #[true, true, true, true, true, true, true, true, true, true, true, true, true, true, true, true, true, true, true, true, true, true, true, true, true, true, false, false, false, false, false, false] rfl rfl (any_of HT_.out (by kernel_rfl)) (fun _ _ _ h => h) (Or.inl ⟨by rfl, ?_⟩) ?_ ?_
            rotate_left
            · intro w'
              go_simp
              try with_reducible rfl
            rotate_left
            · simp only [Act.put, List.setIfInBounds_toArray, List.set_cons_zero, List.set_cons_succ, i64_w, i32_w]
              rfl
            refine take_ (i := 26) (N := some 109) (v := ?_) (a' := ?_) #[true, true, true, true, true, true, true, true, true, true, true, true, true, true, true, true, true, true, true, true, true, true, true, true, true, true, true, false, false, false, false, false] rfl rfl (take_ofW HT_.out HW_.out (by kernel_rfl)) (fun _ _ _ h => h) (Or.inl ⟨by rfl, ?_⟩) hHeld ?_ ?_
            rotate_left
            · rintro w' ⟨s0, s1, s2⟩
              have hk := blk_cell s0 1
              have hf := blk_frozen s0 1
              clear s0 s1 s2
              go_simp
              try with_reducible rfl
            rotate_left
            · simp only [Act.put, List.setIfInBounds_toArray, List.set_cons_zero, List.set_cons_succ, i64_w, i32_w]
              rfl
            refine pure_ (i := 27) (N := some 110) (v := ?_) (a' := ?_) #[true, true, true, true, true, true, true, true, true, true, true, true, true, true, true, true, true, true, true, true, true, true, true, true, true, true, true, true, false, false, false, false] rfl rfl (any_of HT_.out (by kernel_rfl)) (fun _ _ _ h => h) (Or.inl ⟨by rfl, ?_⟩) ?_ ?_
            rotate_left
            · intro w'
              go_simp
              try with_reducible rfl
            rotate_left
            · simp only [Act.put, List.setIfInBounds_toArray, List.set_cons_zero, List.set_cons_succ, i64_w, i32_w]
              rfl
            refine take_ (i := 28) (N := some 111) (v := ?_) (a' := ?_) #[true, true, true, true, true, true, true, true, true, true, true, true, true, true, true, true, true, true, true, true, true, true, true, true, true, true, true, true, true, false, false, false] rfl rfl (take_ofW HT_.out HW_.out (by kernel_rfl)) (fun _ _ _ h => h) (Or.inl ⟨by rfl, ?_⟩) hHeld ?_ ?_
            rotate_left
            · rintro w' ⟨s0, s1, s2⟩
              have hk := blk_cell s0 2
              have hf := blk_frozen s0 2
              clear s0 s1 s2
              go_simp
              try with_reducible rfl
            rotate_left
            · simp only [Act.put, List.setIfInBounds_toArray, List.set_cons_zero, List.set_cons_succ, i64_w, i32_w]
              rfl
            refine pure_ (i := 29) (N := some 112) (v := ?_) (a' := ?_) #[true, true, true, true, true, true, true, true, true, true, true, true, true, true, true, true, true, true, true, true, true, true, true, true, true, true, true, true, true, true, false, false] rfl rfl (any_of HT_.out (by kernel_rfl)) (fun _ _ _ h => h) (Or.inl ⟨by rfl, ?_⟩) ?_ ?_
            rotate_left
            · intro w'
              go_simp
              try with_reducible rfl
            rotate_left
            · simp only [Act.put, List.setIfInBounds_toArray, List.set_cons_zero, List.set_cons_succ, i64_w, i32_w]
              rfl
            refine pure_ (i := 30) (N := some 113) (v := ?_) (a' := ?_) #[true, true, true, true, true, true, true, true, true, true, true, true, true, true, true, true, true, true, true, true, true, true, true, true, true, true, true, true, true, true, true, false] rfl rfl (any_of HT_.out (by kernel_rfl)) (fun _ _ _ h => h) (Or.inl ⟨by rfl, ?_⟩) ?_ ?_
            rotate_left
            · intro w'
              go_simp
              try with_reducible rfl
            rotate_left
            · simp only [Act.put, List.setIfInBounds_toArray, List.set_cons_zero, List.set_cons_succ, i64_w, i32_w]
              rfl
            refine pure_ (i := 31) (N := some 114) (v := ?_) (a' := ?_) #[true, true, true, true, true, true, true, true, true, true, true, true, true, true, true, true, true, true, true, true, true, true, true, true, true, true, true, true, true, true, true, true] rfl rfl (any_of HT_.out (by kernel_rfl)) (fun _ _ _ h => h) (Or.inl ⟨by rfl, ?_⟩) ?_ ?_
            rotate_left
            · intro w'
              go_simp
              try with_reducible rfl
            rotate_left
            · simp only [Act.put, List.setIfInBounds_toArray, List.set_cons_zero, List.set_cons_succ, i64_w, i32_w]
              rfl
            refine done_ (done_of HT_.out (by kernel_rfl)) ?_
            clear HT_ HW_
            clear he60 hg60
            have wx : wrap64 (y + 1) = y + 1 := w64 (by have := HYK.out; have := HI2.out; omega)
            go_wp2
            go_roundg (gk - 1)
            case measure => have := HI2.out; omega
            case rel => exact ⟨y + 1, k + 1, (by first | rfl | (simp [wx]; done)), ⟨by have := HYK.out; omega⟩, ⟨by have := HI2.out; omega, by have := HI2.out; have := HKN.out; omega⟩, HB⟩
          · have q1 : decide (y < (n : Int)) = false := decide_eq_false (by omega)
            have hI2 := HI2.out
            have hkn : y = (n : Int) := by omega
            clear hI2 hy hk HYK HI2
            subst hkn
            have hZ : zeros12 = [0, 0, 0, 0, 0, 0, 0, 0, 0, 0, 0, 0] := rfl
            go_wp2_with (first | ((with_reducible refine gate_callee (f := 17) rfl ?_); refine goesL_ (some 118) rfl rfl Try.func17 (by kernel_rfl) rfl #[.pointer (some ⟨ga, 0, none⟩), .int .i64 (n : Int)] rfl (by (try simp only [List.map_toArray, List.map_cons, List.map_nil]); first | done | rfl) ?_; (with_reducible refine (totals_Counts.miss ga gla _ (n : Int) _ (BookAt.below HA2.out HB.out) (Or.inr (by rw [bookL_length]; omega))).mono ?_); rintro e V ⟨rfl, hb⟩; refine ⟨_, rfl, ?_⟩; have m_ := below_step HB.out hb;  clear HB hb; have HB := Aside0.mk m_; clear m_) | ((with_reducible refine gate_callee (f := 17) rfl ?_); refine goesL_ (some 123) rfl rfl Try.func17 (by kernel_rfl) rfl #[.pointer (some ⟨ga, 0, none⟩), .int .i64 (-1)] rfl (by (try simp only [List.map_toArray, List.map_cons, List.map_nil]); first | done | rfl) ?_; (with_reducible refine (totals_Counts.miss ga gla _ (-1) _ (BookAt.below HA2.out HB.out) (Or.inl (by decide))).mono ?_); rintro e V ⟨rfl, hb⟩; refine ⟨_, rfl, ?_⟩; have m_ := below_step HB.out hb;  clear HB hb; have HB := Aside0.mk m_; clear m_) | ((with_reducible refine gate_dst (N := 16) rfl ?_); refine box_event ?hg (N := 16) ?hd (cs := #[.int .i64 0, .int .i64 0, .int .i64 0, .int .i64 0, .int .i64 0, .int .i64 0, .int .i64 0, .int .i64 0, .int .i64 0, .int .i64 0, .int .i64 0, .int .i64 0]) (t := 60) ?hr ?_; (case hd => rfl); (case hg => rfl); (case hr => first | (go_simp; done) | (go_simp; rfl)); intro g16 hg V hbox hb; have G16 : Aside0 (W5.heap.size ≤ g16) := ⟨by rw [hg]; exact HB.out.size⟩; have m_ := below_step HB.out hb; clear HB hb hg; have HB := Aside0.mk m_; have B16 := Aside0.mk hbox; clear m_ hbox) | ((with_reducible refine gate_dst (N := 18) rfl ?_); refine box_event ?hg (N := 18) ?hd (cs := #[.int .i64 0, .int .i64 0, .int .i64 0, .int .i64 0, .int .i64 0, .int .i64 0, .int .i64 0, .int .i64 0, .int .i64 0, .int .i64 0, .int .i64 0, .int .i64 0]) (t := 60) ?hr ?_; (case hd => rfl); (case hg => rfl); (case hr => first | (go_simp; done) | (go_simp; rfl)); intro g18 hg V hbox hb; have G18 : Aside0 (W5.heap.size ≤ g18) := ⟨by rw [hg]; exact HB.out.size⟩; have m_ := below_step HB.out hb; clear HB hb hg; have HB := Aside0.mk m_; have B18 := Aside0.mk hbox; clear m_ hbox) | ((with_reducible refine gate_store (t := 60) (p := 16) rfl ?_); refine store_row_all rfl 60 _ _ rfl rfl g16 #[.int .i64 0, .int .i64 0, .int .i64 0, .int .i64 0, .int .i64 0, .int .i64 0, .int .i64 0, .int .i64 0, .int .i64 0, .int .i64 0, .int .i64 0, .int .i64 0] rfl rfl 60 _ B16.out size60' rfl (one12' _ _ _ _ _ _ _ _ _ _ _ _) ?_; intro V hbox ho hb; have m_ := low HB.out G16.out hb; clear HB hb ho B16 hbox; have HB := Aside0.mk m_; clear m_) | ((with_reducible refine gate_store (t := 60) (p := 18) rfl ?_); refine store_row_all rfl 60 _ _ rfl rfl g18 #[.int .i64 0, .int .i64 0, .int .i64 0, .int .i64 0, .int .i64 0, .int .i64 0, .int .i64 0, .int .i64 0, .int .i64 0, .int .i64 0, .int .i64 0, .int .i64 0] rfl rfl 60 _ B18.out size60' rfl (one12' _ _ _ _ _ _ _ _ _ _ _ _) ?_; intro V hbox ho hb; have m_ := low HB.out G18.out hb; clear HB hb ho B18 hbox; have HB := Aside0.mk m_; clear m_))
            go_ret
            exact ⟨rfl, H02.out.trans (Below.mono HB.out H02.out.size)⟩
end Go.Proofs.Ytdiodnjkejogdaa.All
