-- WRITTEN BY gen15.py: the contract of turnstilelaw22.noted (function 15).
import Derived.Test.YtdiodnjkejogdaaH22
import Derived.Test.YtdiodnjkejogdaaQc
namespace Go.Proofs.Ytdiodnjkejogdaa.All
open Go.RowKit Go.Proofs.YtdiodnjkejogdaaW.PrintWords Go.Proofs.YtdiodnjkejogdaaW.PrintLast Go.Proofs.YtdiodnjkejogdaaW.PrintMore Go.Proofs.Ytdiodnjkejogdaa.Pure
attribute [local go_sem] min2_int min_two
set_option linter.unusedVariables false
set_option linter.unusedSimpArgs false

theorem yields_load_row {P : Program} {ops : Array Oper} {S : World → Prop} {o : Oper} {a : Act} (ty : TypeId) (x : Operand) (ho : o.op = .load ty x) (g : Nat) (hx : a.eval x = .pointer (some ⟨g, 0, none⟩)) (t : TypeId) (cs : Array Value) (fr : Nat × Nat) (d : TypeDesc)
    (hg : ∀ w : World, S w → w.heap[g]? = some (.cells cs t fr)) (hu : P.underlying ty = some d) (hd : (match d with | .struct _ | .array _ _ => true | _ => false) = true) (hi : (P.info? ty).map (·.size) = some cs.size) (hw : Region.wanted o (yielded ops a.tmps) = true) : YieldsIf P ops S o (.agg cs) a := by
  refine Or.inl ⟨hw, fun w hS => ?_⟩
  unfold execOp
  simp only [ho, hx, Instr.loadAt, Instr.sureAddr, Sem.run_bind, Sem.run_pure, Result.andThen_ok, run_loadVar_row w g t ty cs fr d (hg w hS) hu hd hi]
theorem size58 : (Try.prog.info? 58).map (·.size) = some 5 := by kernel_rfl
theorem size33 : (Try.prog.info? 33).map (·.size) = some 2 := by kernel_rfl
theorem one5 (a b c : Int) (p q : Bool) : (#[.int .i64 a, .int .i64 b, .int .i64 c, .bool p, .bool q] : Array Value).all (·.oneCell') = true := by simp [Value.oneCell']
theorem one2 (m : ByteArray) (A : Option Addr) (n c : Nat) : (#[.string m, .slice A n c] : Array Value).all (·.oneCell') = true := by simp [Value.oneCell']
def noted_T11 : Bool × List (List Nat × List Nat) := (true, [([], []), ([], []), ([1], [1]), ([], []), ([2, 3], [2, 3]), ([], []), ([], []), ([0, 4, 5, 6, 4], [0, 4, 5, 6]), ([7, 7, 0, 1, 2, 3, 4, 5, 6, 7], [7])])
def noted_B11 : List Nat := [0, 0, 2, 0, 14, 0, 0, 127, 255]
theorem noted_tab11 : rtab .any (opsOf Try.f15 11) = noted_T11 := by kernel_rfl
theorem noted_bits11 : waitsOk noted_T11.2 noted_B11 = true := by kernel_rfl
/-- a deal's numbers are those of Go's int -/
structure Dl.ok (d : Dl) : Prop where
  link : -9223372036854775808 ≤ d.link ∧ d.link ≤ 9223372036854775807
  what : -9223372036854775808 ≤ d.what ∧ d.what ≤ 9223372036854775807
  am : -9223372036854775808 ≤ d.am ∧ d.am ≤ 9223372036854775807
def ordD (back : Bool) (l : List Dl) : List Dl := if back then (l.take 300).reverse else l.take 300
theorem ordD_mem {back : Bool} {l : List Dl} {d : Dl} (h : d ∈ ordD back l) : d ∈ l := by
  cases back <;> simp only [ordD] at h
  · exact List.mem_of_mem_take h
  · exact List.mem_of_mem_take (List.mem_reverse.1 h)
theorem ordD_length (back : Bool) (l : List Dl) : (ordD back l).length = min 300 l.length := by cases back <;> simp [ordD]

theorem BookAt.other {w w' : World} {gb gl g : Nat} {L : List (List Int)} (h : BookAt w gb gl L) (ho : ∀ k, k ≠ g → w'.heap[k]? = w.heap[k]?) (h1 : gb ≠ g) (h2 : gl ≠ g) : BookAt w' gb gl L := ⟨(ho gb h1).trans h.box, (ho gl h2).trans h.row, h.len, h.small⟩
theorem BookAt.lt {w : World} {gb gl : Nat} {L : List (List Int)} (h : BookAt w gb gl L) : gb < w.heap.size ∧ gl < w.heap.size := ⟨blk_lt h.box, blk_lt h.row⟩
theorem store_row_all {P : Program} {ops : Array Oper} {rest : List Oper} {o : Oper} {a : Act} {w : World} {Q : Exit → Act → World → Prop} (hgd : o.guard = none) (ty : TypeId) (x y : Operand) (ho : o.op = .store ty x y)
    (hd : o.dst = none) (g : Nat) (cells : Array Value) (hx : a.eval x = .pointer (some ⟨g, 0, none⟩)) (hy : a.eval y = .agg cells)
    (t : TypeId) (old : Array Value) (hg : w.heap[g]? = some (.cells old t (0, 0))) (hi : (P.info? ty).map (·.size) = some cells.size)
    (hold : old.size = cells.size) (h1 : cells.all (·.oneCell') = true)
    (h : ∀ w', w'.heap[g]? = some (.cells cells t (0, 0)) → (∀ k, k ≠ g → w'.heap[k]? = w.heap[k]?) → Below g w w' → wpList P ops Q rest a w') : wpList P ops Q (o :: rest) a w :=
  wpList_store_row hgd ty x y ho g cells hx hy t old hg hi hold h1
    (by rw [hd]; exact h _ (setRow_heap w g old cells t _ hg) (fun k hk => setRow_other w g k _ hk) ⟨rfl, rfl, rfl, by simp, fun k hk => setRow_other w g k _ (by omega)⟩)

set_option maxHeartbeats 8000000 in
set_option maxRecDepth 100000 in
theorem turnstilelaw22_noted.calls (n : Nat) (l : List Dl) (A : Option Addr) (c : Nat) (back : Bool) (w : World) (h1 : 1 ≤ n) (h2 : n ≤ 32) (hd : DealsAt w A l) (hok : ∀ d ∈ l, d.ok) :
    Calls Try.prog 15 #[.int .i64 (n : Int), .slice A l.length c, .bool back] w fun e w' => ∃ gb gl, e = .returned (.pointer (some ⟨gb, 0, none⟩)) ∧ w.heap.size ≤ gb ∧ w.heap.size ≤ gl ∧ BookAt w' gb gl (bookL n (ordD back l)) ∧ Below w.heap.size w w' := by
  have hu58 := Try.underlying58
  have hu33 := Try.underlying33
  have hu54 := Try.underlying54
  have HD := Aside0.mk hd
  have HO := Aside0.mk hok
  clear hd hok
  obtain ⟨N, hN⟩ : ∃ N : Nat, N = min 300 l.length := ⟨_, rfl⟩
  have HNN := Aside0.mk hN
  clear hN
  have p1 : 1 ≤ n := h1
  go_enter Try.func15, Try.ntmps15
  go_wp2_with (first | ((with_reducible refine gate_callee (f := 8) rfl ?_); refine goesL_ (some 16) rfl rfl Try.func8 (by kernel_rfl) rfl #[.int .i64 (n : Int)] rfl (by (try simp only [List.map_toArray, List.map_cons, List.map_nil]); first | done | rfl) ?_; (with_reducible refine (totals_New.calls n _ h1 h2).mono ?_); rintro e V ⟨rfl, hbk, hb⟩; refine ⟨_, rfl, ?_⟩; have HB := Aside0.mk hb; obtain ⟨gb, hgb⟩ : ∃ g, g = w.heap.size + 1 := ⟨_, rfl⟩; obtain ⟨gl, hgl⟩ : ∃ g, g = w.heap.size := ⟨_, rfl⟩; have GB : Aside0 (w.heap.size ≤ gb) := ⟨by omega⟩; have GL : Aside0 (w.heap.size ≤ gl) := ⟨by omega⟩; have HK : Aside0 (BookAt V gb gl (List.replicate n zeros12)) := ⟨by rw [hgb, hgl]; exact hbk⟩; rw [← hgb]; clear hgb hgl hbk hb))
  go_loopg [9] (N + 1) (fun kq v9 W => ∃ (x : Int) (i : Nat), v9 = .int .i64 x ∧ Aside0 (x = (i : Int)) ∧ Aside0 (i + kq = N + 1 ∧ 1 ≤ kq) ∧ Aside0 (BookAt W gb gl (bookL n ((ordD back l).take i))) ∧ Aside0 (Below w.heap.size w W))
  case atStart => exact ⟨0, 0, rfl, ⟨rfl⟩, ⟨by omega, by omega⟩, HK, HB⟩
  case round =>
    clear HK HB
    obtain ⟨x, i, rfl, HX, HI, HK, HB⟩ := hrel
    have hx := HX.out
    by_cases hi : i < N
    · have hNN := HNN.out
      obtain ⟨d0, hd0⟩ : ∃ d0, l[i]? = some d0 := ⟨l[i]'(by omega), List.getElem?_eq_getElem _⟩
      obtain ⟨d, hdd⟩ : ∃ d, (ordD back l)[i]? = some d := ⟨(ordD back l)[i]'(by rw [ordD_length]; omega), List.getElem?_eq_getElem _⟩
      have c1 : decide (x < (l.length : Int)) = true := decide_eq_true (by omega)
      have c2 : decide (x < 300) = true := decide_eq_true (by omega)
      have p2 : (0 ≤ x) = True := eq_true (by omega)
      have p3 : (x < (l.length : Int)) = True := eq_true (by omega)
      obtain ⟨a, rfl, hcd0⟩ := HD.out i d0 hd0
      have hok0 : d.ok := HO.out d (ordD_mem (List.mem_of_getElem? hdd))
      obtain ⟨k, m1, m2, l1, l2, F0⟩ := deal_facts d.link d.what d.am d.cr d.yes hok0.what hok0.am
      have F := Aside0.mk F0
      have HDD := Aside0.mk hdd
      have HI0 := Aside0.mk hi
      have CD0 := Aside0.mk hcd0
      have HD0 := Aside0.mk hd0
      have HOK := Aside0.mk hok0
      clear F0 hdd hi hok0 hNN hcd0 hd0 hx
      cases back
      · have e0 : d0 = d := by
          have h := HDD.out
          simp only [ordD] at h
          rw [if_neg (by decide), List.getElem?_take, if_pos (by have := HNN.out; have := HI0.out; omega), HD0.out] at h
          exact Option.some.inj h
        subst e0
        have HCd0 : Aside0 (∀ (j : Nat) (v : Value), d0.cells[j]? = some v → w.cell? ((a.add (x.toNat * 5)).add j) = some v) := ⟨by have h := CD0.out; have e : x.toNat = i := by have := HX.out; omega
                                                                                                                                    rw [e]; exact h⟩
        clear CD0
        go_wp2_with (first | ((with_reducible refine gate_dst (N := 10) rfl ?_); refine box_event ?hg (N := 10) ?hd (cs := #[.int .i64 0, .int .i64 0, .int .i64 0, .bool false, .bool false]) (t := 58) ?hr ?_; (case hd => rfl); (case hg => rfl); (case hr => first | (go_simp; done) | (go_simp; rfl)); intro g10 hg W hbox hb; have G10 : Aside0 (w.heap.size ≤ g10) := ⟨by rw [hg]; exact HB.out.size⟩; have HN : Aside0 (gb < g10 ∧ gl < g10) := ⟨by rw [hg]; exact HK.out.lt⟩; have m_ := below_step HB.out hb; have k_ := BookAt.below HK.out hb; clear HB HK  hb; have HB := Aside0.mk m_; have HK := Aside0.mk k_; clear m_ k_; have B10 := Aside0.mk hbox; clear hbox hg) | ((with_reducible refine gate_store (t := 58) (p := 10) rfl ?_); refine store_row_all rfl 58 _ _ rfl rfl g10 #[.int .i64 d0.link, .int .i64 d0.what, .int .i64 d0.am, .bool d0.cr, .bool d0.yes] rfl rfl 58 _ B10.out size58 rfl (one5 _ _ _ _ _) ?_; intro W hbox ho hb; have m_ := low HB.out G10.out hb; have k_ := BookAt.other HK.out ho (by have q_ := HN.out; omega) (by have q_ := HN.out; omega); clear HB HK B10  hb ho; have HB := Aside0.mk m_; have HK := Aside0.mk k_; have B10 := Aside0.mk hbox; clear m_ k_ hbox) | ((with_reducible refine gate_dst (N := 38) rfl ?_); refine wpList_load_any rfl 58 _ rfl (a.add (x.toNat * 5)) rfl [.int .i64 d0.link, .int .i64 d0.what, .int .i64 d0.am, .bool d0.cr, .bool d0.yes] _ (fun j v hv => pw_cell_below HB.out (HCd0.out j v hv)) Try.underlying58 rfl size58 ?_) | ((with_reducible refine gate_dst (N := 50) rfl ?_); refine wpList_load_row rfl 58 _ rfl g10 rfl 58 #[.int .i64 d0.link, .int .i64 d0.what, .int .i64 d0.am, .bool d0.cr, .bool d0.yes] (0, 0) _ B10.out Try.underlying58 rfl size58 ?_) | ((with_reducible refine gate_callee (f := 35) rfl ?_); refine goesL_ (some 51) rfl rfl Try.func35 (by kernel_rfl) rfl #[.agg #[.int .i64 d0.link, .int .i64 d0.what, .int .i64 d0.am, .bool d0.cr, .bool d0.yes]] rfl (by (try simp only [List.map_toArray, List.map_cons, List.map_nil]); first | done | rfl) ?_; (with_reducible refine (turnstilelaw22_deal.calls k _ _ _ _ _ _ _ _ _ _ F.out.deal).mono ?_); rintro e V ⟨v1_, v3_, rfl, hR1, hR3, hb⟩; refine ⟨_, rfl, ?_⟩; obtain ⟨A1, n1, rfl, hn1, hC1⟩ := Kd.R_reads hR1; obtain ⟨A2, n2, rfl, hn2, hC2⟩ := Kd.R_reads hR3; clear hR1 hR3; have m_ := below_step HB.out hb; have k_ := Aside0.mk (BookAt.below HK.out hb); have b_ := Aside0.mk (blk_below B10.out hb); clear HB HK B10 hb; have H0 := Aside0.mk m_; have HV := Aside0.mk (Below.refl V.heap.size V); have HK := k_; have B10 := b_; clear m_ k_ b_; have HN1 : Aside0 (gb < g10 ∧ gl < g10 ∧ g10 < V.heap.size) := ⟨by have := HN.out; have := blk_lt B10.out; omega⟩; clear HN; have HR1 := Aside0.mk hC1; have HR2 := Aside0.mk hC2; clear hC1 hC2) | ((with_reducible refine gate_dst (N := 11) rfl ?_); refine box_event ?hg (N := 11) ?hd (cs := #[.string (⟨#[]⟩ : ByteArray), .slice none 0 0]) (t := 33) ?hr ?_; (case hd => rfl); (case hg => rfl); (case hr => first | (go_simp; done) | (go_simp; rfl)); intro g11 hg W hbox hb; have HN2 : Aside0 (gb < g10 ∧ gl < g10 ∧ g10 < V.heap.size ∧ V.heap.size ≤ g11) := ⟨by have := HN1.out; have := HV.out.size; omega⟩; clear HN1; have m_ := below_step HV.out hb; have k_ := BookAt.below HK.out hb; have mB10 := blk_below B10.out hb; clear HV HK B10 hb; have HV := Aside0.mk m_; have HK := Aside0.mk k_; have B10 := Aside0.mk mB10; clear mB10; clear m_ k_; have B11 := Aside0.mk hbox; clear hbox hg) | ((with_reducible refine gate_dst (N := 12) rfl ?_); refine box_event ?hg (N := 12) ?hd (cs := #[.string (⟨#[]⟩ : ByteArray), .slice none 0 0]) (t := 33) ?hr ?_; (case hd => rfl); (case hg => rfl); (case hr => first | (go_simp; done) | (go_simp; rfl)); intro g12 hg W hbox hb; have HN : Aside0 (gb < g10 ∧ gl < g10 ∧ g10 < V.heap.size ∧ V.heap.size ≤ g11 ∧ g11 < g12) := ⟨by have := HN2.out; have := blk_lt B11.out; omega⟩; clear HN2; have m_ := below_step HV.out hb; have k_ := BookAt.below HK.out hb; have mB10 := blk_below B10.out hb; have mB11 := blk_below B11.out hb; clear HV HK B10 B11 hb; have HV := Aside0.mk m_; have HK := Aside0.mk k_; have B10 := Aside0.mk mB10; clear mB10; have B11 := Aside0.mk mB11; clear mB11; clear m_ k_; have B12 := Aside0.mk hbox; clear hbox hg) | ((with_reducible refine gate_store (t := 33) (p := 11) rfl ?_); refine store_row_all rfl 33 _ _ rfl rfl g11 #[.string m1, .slice A1 l1.length n1] rfl rfl 33 _ B11.out size33 rfl (one2 _ _ _ _) ?_; intro W hbox ho hb; have m_ := low HV.out (by have q_ := HN.out; omega) hb; have k_ := BookAt.other HK.out ho (by have q_ := HN.out; omega) (by have q_ := HN.out; omega); have mB10 := (ho g10 (by have q_ := HN.out; omega)).trans B10.out; have mB12 := (ho g12 (by have q_ := HN.out; omega)).trans B12.out; clear HV HK B11 B10 B12 hb ho; have HV := Aside0.mk m_; have HK := Aside0.mk k_; have B11 := Aside0.mk hbox; have B10 := Aside0.mk mB10; clear mB10; have B12 := Aside0.mk mB12; clear mB12; clear m_ k_ hbox) | ((with_reducible refine gate_store (t := 33) (p := 12) rfl ?_); refine store_row_all rfl 33 _ _ rfl rfl g12 #[.string m2, .slice A2 l2.length n2] rfl rfl 33 _ B12.out size33 rfl (one2 _ _ _ _) ?_; intro W hbox ho hb; have m_ := low HV.out (by have q_ := HN.out; omega) hb; have k_ := BookAt.other HK.out ho (by have q_ := HN.out; omega) (by have q_ := HN.out; omega); have mB10 := (ho g10 (by have q_ := HN.out; omega)).trans B10.out; have mB11 := (ho g11 (by have q_ := HN.out; omega)).trans B11.out; clear HV HK B12 B10 B11 hb ho; have HV := Aside0.mk m_; have HK := Aside0.mk k_; have B12 := Aside0.mk hbox; have B10 := Aside0.mk mB10; clear mB10; have B11 := Aside0.mk mB11; clear mB11; clear m_ k_ hbox))
        have BD := blk_drew B10.out; have BE := blk_drew B11.out; have BF := blk_drew B12.out; have BV := below_drew1 HV.out; have BQ : BookAt W.drew gb gl _ := HK.out.drewN 1
        clear B10 B11 B12 HV HK
        have HNW : Aside0 (gb < g10 ∧ gl < g10 ∧ g10 < V.heap.size ∧ V.heap.size ≤ g11 ∧ g11 < g12) := ⟨HN.out⟩
        refine start_ (S := fun w' => w'.heap[g10]? = some (.cells #[.int .i64 d0.link, .int .i64 d0.what, .int .i64 d0.am, .bool d0.cr, .bool d0.yes] 58 (0, 0)) ∧ w'.heap[g11]? = some (.cells #[.string m1, .slice A1 l1.length n1] 33 (0, 0)) ∧ w'.heap[g12]? = some (.cells #[.string m2, .slice A2 l2.length n2] 33 (0, 0))) (ds := [7]) (n := 9) #[false, false, false, false, false, false, false, false, false] (by kernel_rfl) rfl rfl ⟨BD, BE, BF⟩ (fun hHeld => ?_)
        clear BD BE BF
        generalize W.drew = Wd at hHeld BV BQ ⊢
        have HV := Aside0.mk BV; have HK := Aside0.mk BQ; clear BV BQ
        refine with_tabW noted_tab11 noted_bits11 (fun HT_ HW_ => ?_)
        refine pure_ (i := 0) (N := some 54) (v := ?_) (a' := ?_) #[true, false, false, false, false, false, false, false, false] rfl rfl (any_of HT_.out (by kernel_rfl)) (fun _ _ _ h => h) (Or.inl ⟨by rfl, ?_⟩) ?_ ?_
        rotate_left
        · intro w'
          go_simp
          with_reducible rfl
        rotate_left
        · simp only [Act.put, List.setIfInBounds_toArray, List.set_cons_zero, List.set_cons_succ, i64_w, i32_w]
          rfl
        refine pure_ (i := 1) (N := some 55) (v := ?_) (a' := ?_) #[true, true, false, false, false, false, false, false, false] rfl rfl (any_of HT_.out (by kernel_rfl)) (fun _ _ _ h => h) (Or.inl ⟨by rfl, ?_⟩) ?_ ?_
        rotate_left
        · intro w'
          go_simp
          with_reducible rfl
        rotate_left
        · simp only [Act.put, List.setIfInBounds_toArray, List.set_cons_zero, List.set_cons_succ, i64_w, i32_w]
          rfl
        refine take_ (i := 2) (N := some 56) (v := ?_) (a' := ?_) #[true, true, true, false, false, false, false, false, false] rfl rfl (take_ofW HT_.out HW_.out (by kernel_rfl)) (fun _ _ _ h => h) (Or.inl ⟨by rfl, ?_⟩) hHeld ?_ ?_
        rotate_left
        · rintro w' ⟨s0, s1, s2⟩
          have hk := blk_cell s0 0
          have hf := blk_frozen s0 0
          clear s0 s1 s2
          go_simp
          with_reducible rfl
        rotate_left
        · simp only [Act.put, List.setIfInBounds_toArray, List.set_cons_zero, List.set_cons_succ, i64_w, i32_w]
          rfl
        refine pure_ (i := 3) (N := some 57) (v := ?_) (a' := ?_) #[true, true, true, true, false, false, false, false, false] rfl rfl (any_of HT_.out (by kernel_rfl)) (fun _ _ _ h => h) (Or.inl ⟨by rfl, ?_⟩) ?_ ?_
        rotate_left
        · intro w'
          go_simp
          with_reducible rfl
        rotate_left
        · simp only [Act.put, List.setIfInBounds_toArray, List.set_cons_zero, List.set_cons_succ, i64_w, i32_w]
          rfl
        refine take_ (i := 5) (N := some 59) (v := .agg #[.string m1, .slice A1 l1.length n1]) (a' := ?_) #[true, true, true, true, false, true, false, false, false] rfl rfl (take_ofW HT_.out HW_.out (by kernel_rfl)) (fun _ _ _ h => h) (yields_load_row (S := fun w' => w'.heap[g10]? = some (.cells #[.int .i64 d0.link, .int .i64 d0.what, .int .i64 d0.am, .bool d0.cr, .bool d0.yes] 58 (0, 0)) ∧ w'.heap[g11]? = some (.cells #[.string m1, .slice A1 l1.length n1] 33 (0, 0)) ∧ w'.heap[g12]? = some (.cells #[.string m2, .slice A2 l2.length n2] 33 (0, 0))) 33 _ rfl g11 rfl 33 #[.string m1, .slice A1 l1.length n1] (0, 0) _ (fun w h => h.2.1) Try.underlying33 rfl size33 rfl) hHeld ?_ ?_
        rotate_left
        · simp only [Act.put, List.setIfInBounds_toArray, List.set_cons_zero, List.set_cons_succ, i64_w, i32_w]
          rfl
        refine take_ (i := 6) (N := some 60) (v := .agg #[.string m2, .slice A2 l2.length n2]) (a' := ?_) #[true, true, true, true, false, true, true, false, false] rfl rfl (take_ofW HT_.out HW_.out (by kernel_rfl)) (fun _ _ _ h => h) (yields_load_row (S := fun w' => w'.heap[g10]? = some (.cells #[.int .i64 d0.link, .int .i64 d0.what, .int .i64 d0.am, .bool d0.cr, .bool d0.yes] 58 (0, 0)) ∧ w'.heap[g11]? = some (.cells #[.string m1, .slice A1 l1.length n1] 33 (0, 0)) ∧ w'.heap[g12]? = some (.cells #[.string m2, .slice A2 l2.length n2] 33 (0, 0))) 33 _ rfl g12 rfl 33 #[.string m2, .slice A2 l2.length n2] (0, 0) _ (fun w h => h.2.2) Try.underlying33 rfl size33 rfl) hHeld ?_ ?_
        rotate_left
        · simp only [Act.put, List.setIfInBounds_toArray, List.set_cons_zero, List.set_cons_succ, i64_w, i32_w]
          rfl
        refine one_ (i := 4) (N := some 58) #[true, true, true, true, true, true, true, false, false] rfl rfl (one_of HT_.out (by kernel_rfl)) (by decide) (fun K hK => ?_)
        refine goes_ Try.func11 (by kernel_rfl) rfl #[.int .i64 d0.link, .int .i64 (n : Int)] (by rfl) rfl rfl (by (try simp only [List.map_toArray, List.map_cons, List.map_nil]); first | done | rfl) ?_
        with_reducible refine (turnstilelaw22_pick.calls _ _ _ _ (pickZ_f d0.link (n : Int) (by omega) HOK.out.link)).mono ?_
        rintro e w' ⟨rfl, ⟨nd, rfl⟩⟩
        refine ⟨_, rfl, ?_⟩
        refine hK.out _ _ ⟨hHeld.1, hHeld.2.1, hHeld.2.2⟩ (fun hHeld2 => ?_)
        clear hK K hHeld hHeld2
        have n1_ := pw_below_drewN HV.out nd; have n2_ := HK.out.drewN nd; clear HV HK; have HV := Aside0.mk n1_; have HK := Aside0.mk n2_; clear n1_ n2_
        generalize World.drewN Wd nd = We at HV HK ⊢
        refine norm_ (a' := ?_) ?_ ?_
        rotate_left
        · show Act.put _ (some 58) _ = _
          simp only [Act.put, List.setIfInBounds_toArray, List.set_cons_zero, List.set_cons_succ, i64_w, i32_w]
          rfl
        refine last_ (i := 7) (N := some 61) #[true, true, true, true, true, true, true, true, false] rfl rfl (one_of HT_.out (by kernel_rfl)) (by decide) (fun K hK => ?_)
        refine goes_ Try.func22 (by kernel_rfl) rfl #[.pointer (some ⟨gb, 0, none⟩), .int .i64 (pickZ d0.link (n : Int)), .agg #[.string m1, .slice A1 l1.length n1], .agg #[.string m2, .slice A2 l2.length n2]] (by rfl) rfl rfl (by (try simp only [List.map_toArray, List.map_cons, List.map_nil]); first | done | rfl) ?_
        have kr := pickZ_range d0.link (n : Int) (by omega)
        have kl : (pickZ d0.link (n : Int)).toNat < (bookL n ((ordD false l).take i)).length := by rw [bookL_length]; omega
        have bn : BndL ((ordD false l).take i).length (bookL n ((ordD false l).take i)) := bookL_bnd _ _ (by rw [List.length_take, ordD_length]; omega)
        obtain ⟨x0, hx0⟩ : ∃ x0, (bookL n ((ordD false l).take i))[(pickZ d0.link (n : Int)).toNat]? = some x0 := ⟨_, List.getElem?_eq_getElem kl⟩
        have bx : Bnd _ x0 := bn x0 (List.mem_of_getElem? hx0)
        have hcn : countL x0 (nD d0) (decide (3 < tD d0)) (decide (2 < tD d0)) d0.yes d0.cr = cntDl x0 d0 := cntD_adv _ _ _ _ _ (tD_range d0)
        have hwi : withinL (countL x0 (nD d0) (decide (3 < tD d0)) (decide (2 < tD d0)) d0.yes d0.cr) = true := by rw [hcn]; exact (cntD_bnd _ _ _ _ _ _ bx (by rw [List.length_take, ordD_length]; omega) (nD_range d0)).within (by rw [List.length_take, ordD_length]; omega)
        have hstep : (bookL n ((ordD false l).take i)).set (pickZ d0.link (n : Int)).toNat (countL x0 (nD d0) (decide (3 < tD d0)) (decide (2 < tD d0)) d0.yes d0.cr) = bookL n ((ordD false l).take (i + 1)) := by
          rw [hcn, List.take_add_one, HDD.out, Option.toList_some, bookL_snoc]
          unfold stepL kD
          rw [List.getD_eq_getElem?_getD, hx0, Option.getD_some]
        have hN_ := totals_Note.calls k gb gl _ (pickZ d0.link (n : Int)) m1 A1 n1 l1 m2 A2 n2 l2 We HK.out kr.1 (by rw [bookL_length]; exact kr.2) (Kd.C_below HR1.out HV.out) hn1 (Kd.C_below HR2.out HV.out) hn2 _ _ _ F.out.cls F.out.func F.out.ans (counted_kind _ (tD_range d0)) (beq_self_eq_true _) x0 hx0 (codeOf d0.yes) true F.out.code d0.yes (yes_code _) _ _ _ _ F.out.amount F.out.credit (cls_back _ (tD_range d0)) (fun_adv _ (tD_range d0))
        have hN2 := hN_.mono (fun e w' h => (by split at h; exact h; (rename_i hh_; exact absurd hwi hh_) : e = .returned (.int .i64 0) ∧ BookAt w' gb gl ((bookL n ((ordD false l).take i)).set (pickZ d0.link (n : Int)).toNat (countL x0 (nD d0) (decide (3 < tD d0)) (decide (2 < tD d0)) d0.yes d0.cr)) ∧ We.grownBy w' (some gl)))
        rw [hstep] at hN2
        clear hN_ hstep hwi hcn bx bn kl kr hx0
        with_reducible refine hN2.mono ?_
        rintro e w' ⟨rfl, hbk, hgr⟩
        refine ⟨_, rfl, ?_⟩
        refine hK.out _ _ ?_
        clear hK K hN2
        have hb_ := Below.grown (low H0.out H0.out.size HV.out) hgr (low H0.out H0.out.size HV.out).size (fun k hk => by injection hk with hk; rw [← hk]; exact GL.out)
        have HB := Aside0.mk hb_; have HK2 := Aside0.mk hbk; clear hb_ hbk hgr HV HK H0
        refine norm_ (a' := ?_) ?_ ?_
        rotate_left
        · show Act.put _ (some 61) _ = _
          simp only [Act.put, List.setIfInBounds_toArray, List.set_cons_zero, List.set_cons_succ, i64_w, i32_w]
          rfl
        refine pure_ (i := 8) (N := some 13) (v := ?_) (a' := ?_) #[true, true, true, true, true, true, true, true, true] rfl rfl (any_of HT_.out (by kernel_rfl)) (fun _ _ _ h => h) (Or.inl ⟨by rfl, ?_⟩) ?_ ?_
        rotate_left
        · intro w'
          go_simp
          with_reducible rfl
        rotate_left
        · simp only [Act.put, List.setIfInBounds_toArray, List.set_cons_zero, List.set_cons_succ, i64_w, i32_w]
          rfl
        refine done_ (done_of HT_.out (by kernel_rfl)) ?_
        clear HT_ HW_
        have wx : wrap64 (x + 1) = x + 1 := w64 (by have := HX.out; have := HI.out; have := HNN.out; omega)
        go_wp2
        go_roundg (gk - 1)
        case measure => have := HI.out; omega
        case rel => exact ⟨x + 1, i + 1, (by first | rfl | (simp [wx]; done)), ⟨by have := HX.out; omega⟩, ⟨by have := HI.out; have := HNN.out; have := HI0.out; omega, by have := HI.out; have := HI0.out; omega⟩, HK2, HB⟩
      · have HCd0 : Aside0 (∀ (j : Nat) (v : Value), d0.cells[j]? = some v → w.cell? ((a.add (x.toNat * 5)).add j) = some v) := ⟨by have h := CD0.out; have e : x.toNat = i := by have := HX.out; omega
                                                                                                                                    rw [e]; exact h⟩
        clear CD0
        have hq : l[N - 1 - i]? = some d := by
          have h := HDD.out
          have hn := HNN.out
          have hi := HI0.out
          simp only [ordD] at h
          rw [if_pos True.intro, List.getElem?_reverse (by rw [List.length_take]; omega), List.length_take, List.getElem?_take, if_pos (by omega)] at h
          rw [← h]
          congr 1
          omega
        obtain ⟨a', ha', hcq⟩ := HD.out (N - 1 - i) d hq
        obtain rfl := Option.some.inj ha'
        clear ha' hq
        by_cases hl : 300 < l.length
        · have hl1 : ((300 : Int) < (l.length : Int)) = True := eq_true (by omega)
          have q1 : (0 ≤ wrap64 (299 - x)) = True := eq_true (by have := HX.out; have := HI0.out; have := HNN.out; rw [w64 (by omega)]; omega)
          have q2 : (wrap64 (299 - x) < (l.length : Int)) = True := eq_true (by have := HX.out; have := HI0.out; have := HNN.out; rw [w64 (by omega)]; omega)
          have HCd : Aside0 (∀ (j : Nat) (v : Value), d.cells[j]? = some v → w.cell? ((a.add ((wrap64 (299 - x)).toNat * 5)).add j) = some v) := ⟨by
            have e : (wrap64 (299 - x)).toNat = N - 1 - i := by have := HX.out; have := HI0.out; have := HNN.out; rw [w64 (by omega)]; omega
            rw [e]; exact hcq⟩
          clear hcq
          go_wp2_with (first | ((with_reducible refine gate_dst (N := 10) rfl ?_); refine box_event ?hg (N := 10) ?hd (cs := #[.int .i64 0, .int .i64 0, .int .i64 0, .bool false, .bool false]) (t := 58) ?hr ?_; (case hd => rfl); (case hg => rfl); (case hr => first | (go_simp; done) | (go_simp; rfl)); intro g10 hg W hbox hb; have G10 : Aside0 (w.heap.size ≤ g10) := ⟨by rw [hg]; exact HB.out.size⟩; have HN : Aside0 (gb < g10 ∧ gl < g10) := ⟨by rw [hg]; exact HK.out.lt⟩; have m_ := below_step HB.out hb; have k_ := BookAt.below HK.out hb; clear HB HK  hb; have HB := Aside0.mk m_; have HK := Aside0.mk k_; clear m_ k_; have B10 := Aside0.mk hbox; clear hbox hg) | ((with_reducible refine gate_dst (N := 38) rfl ?_); refine wpList_load_any rfl 58 _ rfl (a.add (x.toNat * 5)) rfl [.int .i64 d0.link, .int .i64 d0.what, .int .i64 d0.am, .bool d0.cr, .bool d0.yes] _ (fun j v hv => pw_cell_below HB.out (HCd0.out j v hv)) Try.underlying58 rfl size58 ?_) | ((with_reducible refine gate_dst (N := 48) rfl ?_); refine wpList_load_any rfl 58 _ rfl (a.add ((wrap64 (299 - x)).toNat * 5)) rfl [.int .i64 d.link, .int .i64 d.what, .int .i64 d.am, .bool d.cr, .bool d.yes] _ (fun j v hv => pw_cell_below HB.out (HCd.out j v hv)) Try.underlying58 rfl size58 ?_) | ((with_reducible refine gate_store (t := 58) (p := 10) rfl ?_); refine store_row_all rfl 58 _ _ rfl rfl g10 #[.int .i64 d0.link, .int .i64 d0.what, .int .i64 d0.am, .bool d0.cr, .bool d0.yes] rfl rfl 58 _ B10.out size58 rfl (one5 _ _ _ _ _) ?_; intro W hbox ho hb; have m_ := low HB.out G10.out hb; have k_ := BookAt.other HK.out ho (by have q_ := HN.out; omega) (by have q_ := HN.out; omega); clear HB HK B10  hb ho; have HB := Aside0.mk m_; have HK := Aside0.mk k_; have B10 := Aside0.mk hbox; clear m_ k_ hbox) | ((with_reducible refine gate_store (t := 58) (p := 10) rfl ?_); refine store_row_all rfl 58 _ _ rfl rfl g10 #[.int .i64 d.link, .int .i64 d.what, .int .i64 d.am, .bool d.cr, .bool d.yes] rfl rfl 58 _ B10.out size58 rfl (one5 _ _ _ _ _) ?_; intro W hbox ho hb; have m_ := low HB.out G10.out hb; have k_ := BookAt.other HK.out ho (by have q_ := HN.out; omega) (by have q_ := HN.out; omega); clear HB HK B10  hb ho; have HB := Aside0.mk m_; have HK := Aside0.mk k_; have B10 := Aside0.mk hbox; clear m_ k_ hbox) | ((with_reducible refine gate_dst (N := 50) rfl ?_); refine wpList_load_row rfl 58 _ rfl g10 rfl 58 #[.int .i64 d.link, .int .i64 d.what, .int .i64 d.am, .bool d.cr, .bool d.yes] (0, 0) _ B10.out Try.underlying58 rfl size58 ?_) | ((with_reducible refine gate_callee (f := 35) rfl ?_); refine goesL_ (some 51) rfl rfl Try.func35 (by kernel_rfl) rfl #[.agg #[.int .i64 d.link, .int .i64 d.what, .int .i64 d.am, .bool d.cr, .bool d.yes]] rfl (by (try simp only [List.map_toArray, List.map_cons, List.map_nil]); first | done | rfl) ?_; (with_reducible refine (turnstilelaw22_deal.calls k _ _ _ _ _ _ _ _ _ _ F.out.deal).mono ?_); rintro e V ⟨v1_, v3_, rfl, hR1, hR3, hb⟩; refine ⟨_, rfl, ?_⟩; obtain ⟨A1, n1, rfl, hn1, hC1⟩ := Kd.R_reads hR1; obtain ⟨A2, n2, rfl, hn2, hC2⟩ := Kd.R_reads hR3; clear hR1 hR3; have m_ := below_step HB.out hb; have k_ := Aside0.mk (BookAt.below HK.out hb); have b_ := Aside0.mk (blk_below B10.out hb); clear HB HK B10 hb; have H0 := Aside0.mk m_; have HV := Aside0.mk (Below.refl V.heap.size V); have HK := k_; have B10 := b_; clear m_ k_ b_; have HN1 : Aside0 (gb < g10 ∧ gl < g10 ∧ g10 < V.heap.size) := ⟨by have := HN.out; have := blk_lt B10.out; omega⟩; clear HN; have HR1 := Aside0.mk hC1; have HR2 := Aside0.mk hC2; clear hC1 hC2) | ((with_reducible refine gate_dst (N := 11) rfl ?_); refine box_event ?hg (N := 11) ?hd (cs := #[.string (⟨#[]⟩ : ByteArray), .slice none 0 0]) (t := 33) ?hr ?_; (case hd => rfl); (case hg => rfl); (case hr => first | (go_simp; done) | (go_simp; rfl)); intro g11 hg W hbox hb; have HN2 : Aside0 (gb < g10 ∧ gl < g10 ∧ g10 < V.heap.size ∧ V.heap.size ≤ g11) := ⟨by have := HN1.out; have := HV.out.size; omega⟩; clear HN1; have m_ := below_step HV.out hb; have k_ := BookAt.below HK.out hb; have mB10 := blk_below B10.out hb; clear HV HK B10 hb; have HV := Aside0.mk m_; have HK := Aside0.mk k_; have B10 := Aside0.mk mB10; clear mB10; clear m_ k_; have B11 := Aside0.mk hbox; clear hbox hg) | ((with_reducible refine gate_dst (N := 12) rfl ?_); refine box_event ?hg (N := 12) ?hd (cs := #[.string (⟨#[]⟩ : ByteArray), .slice none 0 0]) (t := 33) ?hr ?_; (case hd => rfl); (case hg => rfl); (case hr => first | (go_simp; done) | (go_simp; rfl)); intro g12 hg W hbox hb; have HN : Aside0 (gb < g10 ∧ gl < g10 ∧ g10 < V.heap.size ∧ V.heap.size ≤ g11 ∧ g11 < g12) := ⟨by have := HN2.out; have := blk_lt B11.out; omega⟩; clear HN2; have m_ := below_step HV.out hb; have k_ := BookAt.below HK.out hb; have mB10 := blk_below B10.out hb; have mB11 := blk_below B11.out hb; clear HV HK B10 B11 hb; have HV := Aside0.mk m_; have HK := Aside0.mk k_; have B10 := Aside0.mk mB10; clear mB10; have B11 := Aside0.mk mB11; clear mB11; clear m_ k_; have B12 := Aside0.mk hbox; clear hbox hg) | ((with_reducible refine gate_store (t := 33) (p := 11) rfl ?_); refine store_row_all rfl 33 _ _ rfl rfl g11 #[.string m1, .slice A1 l1.length n1] rfl rfl 33 _ B11.out size33 rfl (one2 _ _ _ _) ?_; intro W hbox ho hb; have m_ := low HV.out (by have q_ := HN.out; omega) hb; have k_ := BookAt.other HK.out ho (by have q_ := HN.out; omega) (by have q_ := HN.out; omega); have mB10 := (ho g10 (by have q_ := HN.out; omega)).trans B10.out; have mB12 := (ho g12 (by have q_ := HN.out; omega)).trans B12.out; clear HV HK B11 B10 B12 hb ho; have HV := Aside0.mk m_; have HK := Aside0.mk k_; have B11 := Aside0.mk hbox; have B10 := Aside0.mk mB10; clear mB10; have B12 := Aside0.mk mB12; clear mB12; clear m_ k_ hbox) | ((with_reducible refine gate_store (t := 33) (p := 12) rfl ?_); refine store_row_all rfl 33 _ _ rfl rfl g12 #[.string m2, .slice A2 l2.length n2] rfl rfl 33 _ B12.out size33 rfl (one2 _ _ _ _) ?_; intro W hbox ho hb; have m_ := low HV.out (by have q_ := HN.out; omega) hb; have k_ := BookAt.other HK.out ho (by have q_ := HN.out; omega) (by have q_ := HN.out; omega); have mB10 := (ho g10 (by have q_ := HN.out; omega)).trans B10.out; have mB11 := (ho g11 (by have q_ := HN.out; omega)).trans B11.out; clear HV HK B12 B10 B11 hb ho; have HV := Aside0.mk m_; have HK := Aside0.mk k_; have B12 := Aside0.mk hbox; have B10 := Aside0.mk mB10; clear mB10; have B11 := Aside0.mk mB11; clear mB11; clear m_ k_ hbox))
          have BD := blk_drew B10.out; have BE := blk_drew B11.out; have BF := blk_drew B12.out; have BV := below_drew1 HV.out; have BQ : BookAt W.drew gb gl _ := HK.out.drewN 1
          clear B10 B11 B12 HV HK
          have HNW : Aside0 (gb < g10 ∧ gl < g10 ∧ g10 < V.heap.size ∧ V.heap.size ≤ g11 ∧ g11 < g12) := ⟨HN.out⟩
          refine start_ (S := fun w' => w'.heap[g10]? = some (.cells #[.int .i64 d.link, .int .i64 d.what, .int .i64 d.am, .bool d.cr, .bool d.yes] 58 (0, 0)) ∧ w'.heap[g11]? = some (.cells #[.string m1, .slice A1 l1.length n1] 33 (0, 0)) ∧ w'.heap[g12]? = some (.cells #[.string m2, .slice A2 l2.length n2] 33 (0, 0))) (ds := [7]) (n := 9) #[false, false, false, false, false, false, false, false, false] (by kernel_rfl) rfl rfl ⟨BD, BE, BF⟩ (fun hHeld => ?_)
          clear BD BE BF
          generalize W.drew = Wd at hHeld BV BQ ⊢
          have HV := Aside0.mk BV; have HK := Aside0.mk BQ; clear BV BQ
          refine with_tabW noted_tab11 noted_bits11 (fun HT_ HW_ => ?_)
          refine pure_ (i := 0) (N := some 54) (v := ?_) (a' := ?_) #[true, false, false, false, false, false, false, false, false] rfl rfl (any_of HT_.out (by kernel_rfl)) (fun _ _ _ h => h) (Or.inl ⟨by rfl, ?_⟩) ?_ ?_
          rotate_left
          · intro w'
            go_simp
            with_reducible rfl
          rotate_left
          · simp only [Act.put, List.setIfInBounds_toArray, List.set_cons_zero, List.set_cons_succ, i64_w, i32_w]
            rfl
          refine pure_ (i := 1) (N := some 55) (v := ?_) (a' := ?_) #[true, true, false, false, false, false, false, false, false] rfl rfl (any_of HT_.out (by kernel_rfl)) (fun _ _ _ h => h) (Or.inl ⟨by rfl, ?_⟩) ?_ ?_
          rotate_left
          · intro w'
            go_simp
            with_reducible rfl
          rotate_left
          · simp only [Act.put, List.setIfInBounds_toArray, List.set_cons_zero, List.set_cons_succ, i64_w, i32_w]
            rfl
          refine take_ (i := 2) (N := some 56) (v := ?_) (a' := ?_) #[true, true, true, false, false, false, false, false, false] rfl rfl (take_ofW HT_.out HW_.out (by kernel_rfl)) (fun _ _ _ h => h) (Or.inl ⟨by rfl, ?_⟩) hHeld ?_ ?_
          rotate_left
          · rintro w' ⟨s0, s1, s2⟩
            have hk := blk_cell s0 0
            have hf := blk_frozen s0 0
            clear s0 s1 s2
            go_simp
            with_reducible rfl
          rotate_left
          · simp only [Act.put, List.setIfInBounds_toArray, List.set_cons_zero, List.set_cons_succ, i64_w, i32_w]
            rfl
          refine pure_ (i := 3) (N := some 57) (v := ?_) (a' := ?_) #[true, true, true, true, false, false, false, false, false] rfl rfl (any_of HT_.out (by kernel_rfl)) (fun _ _ _ h => h) (Or.inl ⟨by rfl, ?_⟩) ?_ ?_
          rotate_left
          · intro w'
            go_simp
            with_reducible rfl
          rotate_left
          · simp only [Act.put, List.setIfInBounds_toArray, List.set_cons_zero, List.set_cons_succ, i64_w, i32_w]
            rfl
          refine take_ (i := 5) (N := some 59) (v := .agg #[.string m1, .slice A1 l1.length n1]) (a' := ?_) #[true, true, true, true, false, true, false, false, false] rfl rfl (take_ofW HT_.out HW_.out (by kernel_rfl)) (fun _ _ _ h => h) (yields_load_row (S := fun w' => w'.heap[g10]? = some (.cells #[.int .i64 d.link, .int .i64 d.what, .int .i64 d.am, .bool d.cr, .bool d.yes] 58 (0, 0)) ∧ w'.heap[g11]? = some (.cells #[.string m1, .slice A1 l1.length n1] 33 (0, 0)) ∧ w'.heap[g12]? = some (.cells #[.string m2, .slice A2 l2.length n2] 33 (0, 0))) 33 _ rfl g11 rfl 33 #[.string m1, .slice A1 l1.length n1] (0, 0) _ (fun w h => h.2.1) Try.underlying33 rfl size33 rfl) hHeld ?_ ?_
          rotate_left
          · simp only [Act.put, List.setIfInBounds_toArray, List.set_cons_zero, List.set_cons_succ, i64_w, i32_w]
            rfl
          refine take_ (i := 6) (N := some 60) (v := .agg #[.string m2, .slice A2 l2.length n2]) (a' := ?_) #[true, true, true, true, false, true, true, false, false] rfl rfl (take_ofW HT_.out HW_.out (by kernel_rfl)) (fun _ _ _ h => h) (yields_load_row (S := fun w' => w'.heap[g10]? = some (.cells #[.int .i64 d.link, .int .i64 d.what, .int .i64 d.am, .bool d.cr, .bool d.yes] 58 (0, 0)) ∧ w'.heap[g11]? = some (.cells #[.string m1, .slice A1 l1.length n1] 33 (0, 0)) ∧ w'.heap[g12]? = some (.cells #[.string m2, .slice A2 l2.length n2] 33 (0, 0))) 33 _ rfl g12 rfl 33 #[.string m2, .slice A2 l2.length n2] (0, 0) _ (fun w h => h.2.2) Try.underlying33 rfl size33 rfl) hHeld ?_ ?_
          rotate_left
          · simp only [Act.put, List.setIfInBounds_toArray, List.set_cons_zero, List.set_cons_succ, i64_w, i32_w]
            rfl
          refine one_ (i := 4) (N := some 58) #[true, true, true, true, true, true, true, false, false] rfl rfl (one_of HT_.out (by kernel_rfl)) (by decide) (fun K hK => ?_)
          refine goes_ Try.func11 (by kernel_rfl) rfl #[.int .i64 d.link, .int .i64 (n : Int)] (by rfl) rfl rfl (by (try simp only [List.map_toArray, List.map_cons, List.map_nil]); first | done | rfl) ?_
          with_reducible refine (turnstilelaw22_pick.calls _ _ _ _ (pickZ_f d.link (n : Int) (by omega) HOK.out.link)).mono ?_
          rintro e w' ⟨rfl, ⟨nd, rfl⟩⟩
          refine ⟨_, rfl, ?_⟩
          refine hK.out _ _ ⟨hHeld.1, hHeld.2.1, hHeld.2.2⟩ (fun hHeld2 => ?_)
          clear hK K hHeld hHeld2
          have n1_ := pw_below_drewN HV.out nd; have n2_ := HK.out.drewN nd; clear HV HK; have HV := Aside0.mk n1_; have HK := Aside0.mk n2_; clear n1_ n2_
          generalize World.drewN Wd nd = We at HV HK ⊢
          refine norm_ (a' := ?_) ?_ ?_
          rotate_left
          · show Act.put _ (some 58) _ = _
            simp only [Act.put, List.setIfInBounds_toArray, List.set_cons_zero, List.set_cons_succ, i64_w, i32_w]
            rfl
          refine last_ (i := 7) (N := some 61) #[true, true, true, true, true, true, true, true, false] rfl rfl (one_of HT_.out (by kernel_rfl)) (by decide) (fun K hK => ?_)
          refine goes_ Try.func22 (by kernel_rfl) rfl #[.pointer (some ⟨gb, 0, none⟩), .int .i64 (pickZ d.link (n : Int)), .agg #[.string m1, .slice A1 l1.length n1], .agg #[.string m2, .slice A2 l2.length n2]] (by rfl) rfl rfl (by (try simp only [List.map_toArray, List.map_cons, List.map_nil]); first | done | rfl) ?_
          have kr := pickZ_range d.link (n : Int) (by omega)
          have kl : (pickZ d.link (n : Int)).toNat < (bookL n ((ordD true l).take i)).length := by rw [bookL_length]; omega
          have bn : BndL ((ordD true l).take i).length (bookL n ((ordD true l).take i)) := bookL_bnd _ _ (by rw [List.length_take, ordD_length]; omega)
          obtain ⟨x0, hx0⟩ : ∃ x0, (bookL n ((ordD true l).take i))[(pickZ d.link (n : Int)).toNat]? = some x0 := ⟨_, List.getElem?_eq_getElem kl⟩
          have bx : Bnd _ x0 := bn x0 (List.mem_of_getElem? hx0)
          have hcn : countL x0 (nD d) (decide (3 < tD d)) (decide (2 < tD d)) d.yes d.cr = cntDl x0 d := cntD_adv _ _ _ _ _ (tD_range d)
          have hwi : withinL (countL x0 (nD d) (decide (3 < tD d)) (decide (2 < tD d)) d.yes d.cr) = true := by rw [hcn]; exact (cntD_bnd _ _ _ _ _ _ bx (by rw [List.length_take, ordD_length]; omega) (nD_range d)).within (by rw [List.length_take, ordD_length]; omega)
          have hstep : (bookL n ((ordD true l).take i)).set (pickZ d.link (n : Int)).toNat (countL x0 (nD d) (decide (3 < tD d)) (decide (2 < tD d)) d.yes d.cr) = bookL n ((ordD true l).take (i + 1)) := by
            rw [hcn, List.take_add_one, HDD.out, Option.toList_some, bookL_snoc]
            unfold stepL kD
            rw [List.getD_eq_getElem?_getD, hx0, Option.getD_some]
          have hN_ := totals_Note.calls k gb gl _ (pickZ d.link (n : Int)) m1 A1 n1 l1 m2 A2 n2 l2 We HK.out kr.1 (by rw [bookL_length]; exact kr.2) (Kd.C_below HR1.out HV.out) hn1 (Kd.C_below HR2.out HV.out) hn2 _ _ _ F.out.cls F.out.func F.out.ans (counted_kind _ (tD_range d)) (beq_self_eq_true _) x0 hx0 (codeOf d.yes) true F.out.code d.yes (yes_code _) _ _ _ _ F.out.amount F.out.credit (cls_back _ (tD_range d)) (fun_adv _ (tD_range d))
          have hN2 := hN_.mono (fun e w' h => (by split at h; exact h; (rename_i hh_; exact absurd hwi hh_) : e = .returned (.int .i64 0) ∧ BookAt w' gb gl ((bookL n ((ordD true l).take i)).set (pickZ d.link (n : Int)).toNat (countL x0 (nD d) (decide (3 < tD d)) (decide (2 < tD d)) d.yes d.cr)) ∧ We.grownBy w' (some gl)))
          rw [hstep] at hN2
          clear hN_ hstep hwi hcn bx bn kl kr hx0
          with_reducible refine hN2.mono ?_
          rintro e w' ⟨rfl, hbk, hgr⟩
          refine ⟨_, rfl, ?_⟩
          refine hK.out _ _ ?_
          clear hK K hN2
          have hb_ := Below.grown (low H0.out H0.out.size HV.out) hgr (low H0.out H0.out.size HV.out).size (fun k hk => by injection hk with hk; rw [← hk]; exact GL.out)
          have HB := Aside0.mk hb_; have HK2 := Aside0.mk hbk; clear hb_ hbk hgr HV HK H0
          refine norm_ (a' := ?_) ?_ ?_
          rotate_left
          · show Act.put _ (some 61) _ = _
            simp only [Act.put, List.setIfInBounds_toArray, List.set_cons_zero, List.set_cons_succ, i64_w, i32_w]
            rfl
          refine pure_ (i := 8) (N := some 13) (v := ?_) (a' := ?_) #[true, true, true, true, true, true, true, true, true] rfl rfl (any_of HT_.out (by kernel_rfl)) (fun _ _ _ h => h) (Or.inl ⟨by rfl, ?_⟩) ?_ ?_
          rotate_left
          · intro w'
            go_simp
            with_reducible rfl
          rotate_left
          · simp only [Act.put, List.setIfInBounds_toArray, List.set_cons_zero, List.set_cons_succ, i64_w, i32_w]
            rfl
          refine done_ (done_of HT_.out (by kernel_rfl)) ?_
          clear HT_ HW_
          have wx : wrap64 (x + 1) = x + 1 := w64 (by have := HX.out; have := HI.out; have := HNN.out; omega)
          go_wp2
          go_roundg (gk - 1)
          case measure => have := HI.out; omega
          case rel => exact ⟨x + 1, i + 1, (by first | rfl | (simp [wx]; done)), ⟨by have := HX.out; omega⟩, ⟨by have := HI.out; have := HNN.out; have := HI0.out; omega, by have := HI.out; have := HI0.out; omega⟩, HK2, HB⟩
        · have hl1 : ((300 : Int) < (l.length : Int)) = False := eq_false (by omega)
          have hl2 : 300 < l.length ↔ False := ⟨fun h => hl h, fun h => h.elim⟩
          have q1 : (0 ≤ wrap64 ((l.length : Int) - 1 - x)) = True := eq_true (by have := HX.out; have := HI0.out; have := HNN.out; rw [w64 (by omega)]; omega)
          have q2 : (wrap64 ((l.length : Int) - 1 - x) < (l.length : Int)) = True := eq_true (by have := HX.out; have := HI0.out; have := HNN.out; rw [w64 (by omega)]; omega)
          have HCd : Aside0 (∀ (j : Nat) (v : Value), d.cells[j]? = some v → w.cell? ((a.add ((wrap64 ((l.length : Int) - 1 - x)).toNat * 5)).add j) = some v) := ⟨by
            have e : (wrap64 ((l.length : Int) - 1 - x)).toNat = N - 1 - i := by have := HX.out; have := HI0.out; have := HNN.out; rw [w64 (by omega)]; omega
            rw [e]; exact hcq⟩
          clear hcq
          go_wp2_with (first | ((with_reducible refine gate_dst (N := 10) rfl ?_); refine box_event ?hg (N := 10) ?hd (cs := #[.int .i64 0, .int .i64 0, .int .i64 0, .bool false, .bool false]) (t := 58) ?hr ?_; (case hd => rfl); (case hg => rfl); (case hr => first | (go_simp; done) | (go_simp; rfl)); intro g10 hg W hbox hb; have G10 : Aside0 (w.heap.size ≤ g10) := ⟨by rw [hg]; exact HB.out.size⟩; have HN : Aside0 (gb < g10 ∧ gl < g10) := ⟨by rw [hg]; exact HK.out.lt⟩; have m_ := below_step HB.out hb; have k_ := BookAt.below HK.out hb; clear HB HK  hb; have HB := Aside0.mk m_; have HK := Aside0.mk k_; clear m_ k_; have B10 := Aside0.mk hbox; clear hbox hg) | ((with_reducible refine gate_dst (N := 38) rfl ?_); refine wpList_load_any rfl 58 _ rfl (a.add (x.toNat * 5)) rfl [.int .i64 d0.link, .int .i64 d0.what, .int .i64 d0.am, .bool d0.cr, .bool d0.yes] _ (fun j v hv => pw_cell_below HB.out (HCd0.out j v hv)) Try.underlying58 rfl size58 ?_) | ((with_reducible refine gate_dst (N := 48) rfl ?_); refine wpList_load_any rfl 58 _ rfl (a.add ((wrap64 ((l.length : Int) - 1 - x)).toNat * 5)) rfl [.int .i64 d.link, .int .i64 d.what, .int .i64 d.am, .bool d.cr, .bool d.yes] _ (fun j v hv => pw_cell_below HB.out (HCd.out j v hv)) Try.underlying58 rfl size58 ?_) | ((with_reducible refine gate_store (t := 58) (p := 10) rfl ?_); refine store_row_all rfl 58 _ _ rfl rfl g10 #[.int .i64 d0.link, .int .i64 d0.what, .int .i64 d0.am, .bool d0.cr, .bool d0.yes] rfl rfl 58 _ B10.out size58 rfl (one5 _ _ _ _ _) ?_; intro W hbox ho hb; have m_ := low HB.out G10.out hb; have k_ := BookAt.other HK.out ho (by have q_ := HN.out; omega) (by have q_ := HN.out; omega); clear HB HK B10  hb ho; have HB := Aside0.mk m_; have HK := Aside0.mk k_; have B10 := Aside0.mk hbox; clear m_ k_ hbox) | ((with_reducible refine gate_store (t := 58) (p := 10) rfl ?_); refine store_row_all rfl 58 _ _ rfl rfl g10 #[.int .i64 d.link, .int .i64 d.what, .int .i64 d.am, .bool d.cr, .bool d.yes] rfl rfl 58 _ B10.out size58 rfl (one5 _ _ _ _ _) ?_; intro W hbox ho hb; have m_ := low HB.out G10.out hb; have k_ := BookAt.other HK.out ho (by have q_ := HN.out; omega) (by have q_ := HN.out; omega); clear HB HK B10  hb ho; have HB := Aside0.mk m_; have HK := Aside0.mk k_; have B10 := Aside0.mk hbox; clear m_ k_ hbox) | ((with_reducible refine gate_dst (N := 50) rfl ?_); refine wpList_load_row rfl 58 _ rfl g10 rfl 58 #[.int .i64 d.link, .int .i64 d.what, .int .i64 d.am, .bool d.cr, .bool d.yes] (0, 0) _ B10.out Try.underlying58 rfl size58 ?_) | ((with_reducible refine gate_callee (f := 35) rfl ?_); refine goesL_ (some 51) rfl rfl Try.func35 (by kernel_rfl) rfl #[.agg #[.int .i64 d.link, .int .i64 d.what, .int .i64 d.am, .bool d.cr, .bool d.yes]] rfl (by (try simp only [List.map_toArray, List.map_cons, List.map_nil]); first | done | rfl) ?_; (with_reducible refine (turnstilelaw22_deal.calls k _ _ _ _ _ _ _ _ _ _ F.out.deal).mono ?_); rintro e V ⟨v1_, v3_, rfl, hR1, hR3, hb⟩; refine ⟨_, rfl, ?_⟩; obtain ⟨A1, n1, rfl, hn1, hC1⟩ := Kd.R_reads hR1; obtain ⟨A2, n2, rfl, hn2, hC2⟩ := Kd.R_reads hR3; clear hR1 hR3; have m_ := below_step HB.out hb; have k_ := Aside0.mk (BookAt.below HK.out hb); have b_ := Aside0.mk (blk_below B10.out hb); clear HB HK B10 hb; have H0 := Aside0.mk m_; have HV := Aside0.mk (Below.refl V.heap.size V); have HK := k_; have B10 := b_; clear m_ k_ b_; have HN1 : Aside0 (gb < g10 ∧ gl < g10 ∧ g10 < V.heap.size) := ⟨by have := HN.out; have := blk_lt B10.out; omega⟩; clear HN; have HR1 := Aside0.mk hC1; have HR2 := Aside0.mk hC2; clear hC1 hC2) | ((with_reducible refine gate_dst (N := 11) rfl ?_); refine box_event ?hg (N := 11) ?hd (cs := #[.string (⟨#[]⟩ : ByteArray), .slice none 0 0]) (t := 33) ?hr ?_; (case hd => rfl); (case hg => rfl); (case hr => first | (go_simp; done) | (go_simp; rfl)); intro g11 hg W hbox hb; have HN2 : Aside0 (gb < g10 ∧ gl < g10 ∧ g10 < V.heap.size ∧ V.heap.size ≤ g11) := ⟨by have := HN1.out; have := HV.out.size; omega⟩; clear HN1; have m_ := below_step HV.out hb; have k_ := BookAt.below HK.out hb; have mB10 := blk_below B10.out hb; clear HV HK B10 hb; have HV := Aside0.mk m_; have HK := Aside0.mk k_; have B10 := Aside0.mk mB10; clear mB10; clear m_ k_; have B11 := Aside0.mk hbox; clear hbox hg) | ((with_reducible refine gate_dst (N := 12) rfl ?_); refine box_event ?hg (N := 12) ?hd (cs := #[.string (⟨#[]⟩ : ByteArray), .slice none 0 0]) (t := 33) ?hr ?_; (case hd => rfl); (case hg => rfl); (case hr => first | (go_simp; done) | (go_simp; rfl)); intro g12 hg W hbox hb; have HN : Aside0 (gb < g10 ∧ gl < g10 ∧ g10 < V.heap.size ∧ V.heap.size ≤ g11 ∧ g11 < g12) := ⟨by have := HN2.out; have := blk_lt B11.out; omega⟩; clear HN2; have m_ := below_step HV.out hb; have k_ := BookAt.below HK.out hb; have mB10 := blk_below B10.out hb; have mB11 := blk_below B11.out hb; clear HV HK B10 B11 hb; have HV := Aside0.mk m_; have HK := Aside0.mk k_; have B10 := Aside0.mk mB10; clear mB10; have B11 := Aside0.mk mB11; clear mB11; clear m_ k_; have B12 := Aside0.mk hbox; clear hbox hg) | ((with_reducible refine gate_store (t := 33) (p := 11) rfl ?_); refine store_row_all rfl 33 _ _ rfl rfl g11 #[.string m1, .slice A1 l1.length n1] rfl rfl 33 _ B11.out size33 rfl (one2 _ _ _ _) ?_; intro W hbox ho hb; have m_ := low HV.out (by have q_ := HN.out; omega) hb; have k_ := BookAt.other HK.out ho (by have q_ := HN.out; omega) (by have q_ := HN.out; omega); have mB10 := (ho g10 (by have q_ := HN.out; omega)).trans B10.out; have mB12 := (ho g12 (by have q_ := HN.out; omega)).trans B12.out; clear HV HK B11 B10 B12 hb ho; have HV := Aside0.mk m_; have HK := Aside0.mk k_; have B11 := Aside0.mk hbox; have B10 := Aside0.mk mB10; clear mB10; have B12 := Aside0.mk mB12; clear mB12; clear m_ k_ hbox) | ((with_reducible refine gate_store (t := 33) (p := 12) rfl ?_); refine store_row_all rfl 33 _ _ rfl rfl g12 #[.string m2, .slice A2 l2.length n2] rfl rfl 33 _ B12.out size33 rfl (one2 _ _ _ _) ?_; intro W hbox ho hb; have m_ := low HV.out (by have q_ := HN.out; omega) hb; have k_ := BookAt.other HK.out ho (by have q_ := HN.out; omega) (by have q_ := HN.out; omega); have mB10 := (ho g10 (by have q_ := HN.out; omega)).trans B10.out; have mB11 := (ho g11 (by have q_ := HN.out; omega)).trans B11.out; clear HV HK B12 B10 B11 hb ho; have HV := Aside0.mk m_; have HK := Aside0.mk k_; have B12 := Aside0.mk hbox; have B10 := Aside0.mk mB10; clear mB10; have B11 := Aside0.mk mB11; clear mB11; clear m_ k_ hbox))
          have BD := blk_drew B10.out; have BE := blk_drew B11.out; have BF := blk_drew B12.out; have BV := below_drew1 HV.out; have BQ : BookAt W.drew gb gl _ := HK.out.drewN 1
          clear B10 B11 B12 HV HK
          have HNW : Aside0 (gb < g10 ∧ gl < g10 ∧ g10 < V.heap.size ∧ V.heap.size ≤ g11 ∧ g11 < g12) := ⟨HN.out⟩
          refine start_ (S := fun w' => w'.heap[g10]? = some (.cells #[.int .i64 d.link, .int .i64 d.what, .int .i64 d.am, .bool d.cr, .bool d.yes] 58 (0, 0)) ∧ w'.heap[g11]? = some (.cells #[.string m1, .slice A1 l1.length n1] 33 (0, 0)) ∧ w'.heap[g12]? = some (.cells #[.string m2, .slice A2 l2.length n2] 33 (0, 0))) (ds := [7]) (n := 9) #[false, false, false, false, false, false, false, false, false] (by kernel_rfl) rfl rfl ⟨BD, BE, BF⟩ (fun hHeld => ?_)
          clear BD BE BF
          generalize W.drew = Wd at hHeld BV BQ ⊢
          have HV := Aside0.mk BV; have HK := Aside0.mk BQ; clear BV BQ
          refine with_tabW noted_tab11 noted_bits11 (fun HT_ HW_ => ?_)
          refine pure_ (i := 0) (N := some 54) (v := ?_) (a' := ?_) #[true, false, false, false, false, false, false, false, false] rfl rfl (any_of HT_.out (by kernel_rfl)) (fun _ _ _ h => h) (Or.inl ⟨by rfl, ?_⟩) ?_ ?_
          rotate_left
          · intro w'
            go_simp
            with_reducible rfl
          rotate_left
          · simp only [Act.put, List.setIfInBounds_toArray, List.set_cons_zero, List.set_cons_succ, i64_w, i32_w]
            rfl
          refine pure_ (i := 1) (N := some 55) (v := ?_) (a' := ?_) #[true, true, false, false, false, false, false, false, false] rfl rfl (any_of HT_.out (by kernel_rfl)) (fun _ _ _ h => h) (Or.inl ⟨by rfl, ?_⟩) ?_ ?_
          rotate_left
          · intro w'
            go_simp
            with_reducible rfl
          rotate_left
          · simp only [Act.put, List.setIfInBounds_toArray, List.set_cons_zero, List.set_cons_succ, i64_w, i32_w]
            rfl
          refine take_ (i := 2) (N := some 56) (v := ?_) (a' := ?_) #[true, true, true, false, false, false, false, false, false] rfl rfl (take_ofW HT_.out HW_.out (by kernel_rfl)) (fun _ _ _ h => h) (Or.inl ⟨by rfl, ?_⟩) hHeld ?_ ?_
          rotate_left
          · rintro w' ⟨s0, s1, s2⟩
            have hk := blk_cell s0 0
            have hf := blk_frozen s0 0
            clear s0 s1 s2
            go_simp
            with_reducible rfl
          rotate_left
          · simp only [Act.put, List.setIfInBounds_toArray, List.set_cons_zero, List.set_cons_succ, i64_w, i32_w]
            rfl
          refine pure_ (i := 3) (N := some 57) (v := ?_) (a' := ?_) #[true, true, true, true, false, false, false, false, false] rfl rfl (any_of HT_.out (by kernel_rfl)) (fun _ _ _ h => h) (Or.inl ⟨by rfl, ?_⟩) ?_ ?_
          rotate_left
          · intro w'
            go_simp
            with_reducible rfl
          rotate_left
          · simp only [Act.put, List.setIfInBounds_toArray, List.set_cons_zero, List.set_cons_succ, i64_w, i32_w]
            rfl
          refine take_ (i := 5) (N := some 59) (v := .agg #[.string m1, .slice A1 l1.length n1]) (a' := ?_) #[true, true, true, true, false, true, false, false, false] rfl rfl (take_ofW HT_.out HW_.out (by kernel_rfl)) (fun _ _ _ h => h) (yields_load_row (S := fun w' => w'.heap[g10]? = some (.cells #[.int .i64 d.link, .int .i64 d.what, .int .i64 d.am, .bool d.cr, .bool d.yes] 58 (0, 0)) ∧ w'.heap[g11]? = some (.cells #[.string m1, .slice A1 l1.length n1] 33 (0, 0)) ∧ w'.heap[g12]? = some (.cells #[.string m2, .slice A2 l2.length n2] 33 (0, 0))) 33 _ rfl g11 rfl 33 #[.string m1, .slice A1 l1.length n1] (0, 0) _ (fun w h => h.2.1) Try.underlying33 rfl size33 rfl) hHeld ?_ ?_
          rotate_left
          · simp only [Act.put, List.setIfInBounds_toArray, List.set_cons_zero, List.set_cons_succ, i64_w, i32_w]
            rfl
          refine take_ (i := 6) (N := some 60) (v := .agg #[.string m2, .slice A2 l2.length n2]) (a' := ?_) #[true, true, true, true, false, true, true, false, false] rfl rfl (take_ofW HT_.out HW_.out (by kernel_rfl)) (fun _ _ _ h => h) (yields_load_row (S := fun w' => w'.heap[g10]? = some (.cells #[.int .i64 d.link, .int .i64 d.what, .int .i64 d.am, .bool d.cr, .bool d.yes] 58 (0, 0)) ∧ w'.heap[g11]? = some (.cells #[.string m1, .slice A1 l1.length n1] 33 (0, 0)) ∧ w'.heap[g12]? = some (.cells #[.string m2, .slice A2 l2.length n2] 33 (0, 0))) 33 _ rfl g12 rfl 33 #[.string m2, .slice A2 l2.length n2] (0, 0) _ (fun w h => h.2.2) Try.underlying33 rfl size33 rfl) hHeld ?_ ?_
          rotate_left
          · simp only [Act.put, List.setIfInBounds_toArray, List.set_cons_zero, List.set_cons_succ, i64_w, i32_w]
            rfl
          refine one_ (i := 4) (N := some 58) #[true, true, true, true, true, true, true, false, false] rfl rfl (one_of HT_.out (by kernel_rfl)) (by decide) (fun K hK => ?_)
          refine goes_ Try.func11 (by kernel_rfl) rfl #[.int .i64 d.link, .int .i64 (n : Int)] (by rfl) rfl rfl (by (try simp only [List.map_toArray, List.map_cons, List.map_nil]); first | done | rfl) ?_
          with_reducible refine (turnstilelaw22_pick.calls _ _ _ _ (pickZ_f d.link (n : Int) (by omega) HOK.out.link)).mono ?_
          rintro e w' ⟨rfl, ⟨nd, rfl⟩⟩
          refine ⟨_, rfl, ?_⟩
          refine hK.out _ _ ⟨hHeld.1, hHeld.2.1, hHeld.2.2⟩ (fun hHeld2 => ?_)
          clear hK K hHeld hHeld2
          have n1_ := pw_below_drewN HV.out nd; have n2_ := HK.out.drewN nd; clear HV HK; have HV := Aside0.mk n1_; have HK := Aside0.mk n2_; clear n1_ n2_
          generalize World.drewN Wd nd = We at HV HK ⊢
          refine norm_ (a' := ?_) ?_ ?_
          rotate_left
          · show Act.put _ (some 58) _ = _
            simp only [Act.put, List.setIfInBounds_toArray, List.set_cons_zero, List.set_cons_succ, i64_w, i32_w]
            rfl
          refine last_ (i := 7) (N := some 61) #[true, true, true, true, true, true, true, true, false] rfl rfl (one_of HT_.out (by kernel_rfl)) (by decide) (fun K hK => ?_)
          refine goes_ Try.func22 (by kernel_rfl) rfl #[.pointer (some ⟨gb, 0, none⟩), .int .i64 (pickZ d.link (n : Int)), .agg #[.string m1, .slice A1 l1.length n1], .agg #[.string m2, .slice A2 l2.length n2]] (by rfl) rfl rfl (by (try simp only [List.map_toArray, List.map_cons, List.map_nil]); first | done | rfl) ?_
          have kr := pickZ_range d.link (n : Int) (by omega)
          have kl : (pickZ d.link (n : Int)).toNat < (bookL n ((ordD true l).take i)).length := by rw [bookL_length]; omega
          have bn : BndL ((ordD true l).take i).length (bookL n ((ordD true l).take i)) := bookL_bnd _ _ (by rw [List.length_take, ordD_length]; omega)
          obtain ⟨x0, hx0⟩ : ∃ x0, (bookL n ((ordD true l).take i))[(pickZ d.link (n : Int)).toNat]? = some x0 := ⟨_, List.getElem?_eq_getElem kl⟩
          have bx : Bnd _ x0 := bn x0 (List.mem_of_getElem? hx0)
          have hcn : countL x0 (nD d) (decide (3 < tD d)) (decide (2 < tD d)) d.yes d.cr = cntDl x0 d := cntD_adv _ _ _ _ _ (tD_range d)
          have hwi : withinL (countL x0 (nD d) (decide (3 < tD d)) (decide (2 < tD d)) d.yes d.cr) = true := by rw [hcn]; exact (cntD_bnd _ _ _ _ _ _ bx (by rw [List.length_take, ordD_length]; omega) (nD_range d)).within (by rw [List.length_take, ordD_length]; omega)
          have hstep : (bookL n ((ordD true l).take i)).set (pickZ d.link (n : Int)).toNat (countL x0 (nD d) (decide (3 < tD d)) (decide (2 < tD d)) d.yes d.cr) = bookL n ((ordD true l).take (i + 1)) := by
            rw [hcn, List.take_add_one, HDD.out, Option.toList_some, bookL_snoc]
            unfold stepL kD
            rw [List.getD_eq_getElem?_getD, hx0, Option.getD_some]
          have hN_ := totals_Note.calls k gb gl _ (pickZ d.link (n : Int)) m1 A1 n1 l1 m2 A2 n2 l2 We HK.out kr.1 (by rw [bookL_length]; exact kr.2) (Kd.C_below HR1.out HV.out) hn1 (Kd.C_below HR2.out HV.out) hn2 _ _ _ F.out.cls F.out.func F.out.ans (counted_kind _ (tD_range d)) (beq_self_eq_true _) x0 hx0 (codeOf d.yes) true F.out.code d.yes (yes_code _) _ _ _ _ F.out.amount F.out.credit (cls_back _ (tD_range d)) (fun_adv _ (tD_range d))
          have hN2 := hN_.mono (fun e w' h => (by split at h; exact h; (rename_i hh_; exact absurd hwi hh_) : e = .returned (.int .i64 0) ∧ BookAt w' gb gl ((bookL n ((ordD true l).take i)).set (pickZ d.link (n : Int)).toNat (countL x0 (nD d) (decide (3 < tD d)) (decide (2 < tD d)) d.yes d.cr)) ∧ We.grownBy w' (some gl)))
          rw [hstep] at hN2
          clear hN_ hstep hwi hcn bx bn kl kr hx0
          with_reducible refine hN2.mono ?_
          rintro e w' ⟨rfl, hbk, hgr⟩
          refine ⟨_, rfl, ?_⟩
          refine hK.out _ _ ?_
          clear hK K hN2
          have hb_ := Below.grown (low H0.out H0.out.size HV.out) hgr (low H0.out H0.out.size HV.out).size (fun k hk => by injection hk with hk; rw [← hk]; exact GL.out)
          have HB := Aside0.mk hb_; have HK2 := Aside0.mk hbk; clear hb_ hbk hgr HV HK H0
          refine norm_ (a' := ?_) ?_ ?_
          rotate_left
          · show Act.put _ (some 61) _ = _
            simp only [Act.put, List.setIfInBounds_toArray, List.set_cons_zero, List.set_cons_succ, i64_w, i32_w]
            rfl
          refine pure_ (i := 8) (N := some 13) (v := ?_) (a' := ?_) #[true, true, true, true, true, true, true, true, true] rfl rfl (any_of HT_.out (by kernel_rfl)) (fun _ _ _ h => h) (Or.inl ⟨by rfl, ?_⟩) ?_ ?_
          rotate_left
          · intro w'
            go_simp
            with_reducible rfl
          rotate_left
          · simp only [Act.put, List.setIfInBounds_toArray, List.set_cons_zero, List.set_cons_succ, i64_w, i32_w]
            rfl
          refine done_ (done_of HT_.out (by kernel_rfl)) ?_
          clear HT_ HW_
          have wx : wrap64 (x + 1) = x + 1 := w64 (by have := HX.out; have := HI.out; have := HNN.out; omega)
          go_wp2
          go_roundg (gk - 1)
          case measure => have := HI.out; omega
          case rel => exact ⟨x + 1, i + 1, (by first | rfl | (simp [wx]; done)), ⟨by have := HX.out; omega⟩, ⟨by have := HI.out; have := HNN.out; have := HI0.out; omega, by have := HI.out; have := HI0.out; omega⟩, HK2, HB⟩
    · have hNN := HNN.out
      have hI := HI.out
      have hiN : i = N := by omega
      have hfull : (ordD back l).take i = ordD back l := List.take_of_length_le (by rw [ordD_length]; omega)
      rw [hfull] at HK
      by_cases hl : l.length ≤ 300
      · have c1 : decide (x < (l.length : Int)) = false := decide_eq_false (by omega)
        clear hNN hI hiN hfull hi hl hx
        go_wp2
        go_ret
        exact ⟨gb, gl, rfl, GB.out, GL.out, HK.out, HB.out⟩
      · have c1 : decide (x < (l.length : Int)) = true := decide_eq_true (by omega)
        have c2 : decide (x < 300) = false := decide_eq_false (by omega)
        clear hNN hI hiN hfull hi hl hx
        go_wp2
        go_ret
        exact ⟨gb, gl, rfl, GB.out, GL.out, HK.out, HB.out⟩
end Go.Proofs.Ytdiodnjkejogdaa.All
