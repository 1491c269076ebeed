import Derived.Test.YtaijclimdfchfaaGreatF4
/- The spans as the document has them. Conditions: none. -/
namespace Go.Proofs.YtaijclimdfchfaaGreat
open Go.Proofs Go.RowKit Go.Shelf

theorem o_storeRF {C : Cx} {s : St} {d : Option Nat} {x z : Operand} {T ty : TypeId} {pos : String} {aft : Array Edge} {gd : Option (Nat × Bool)} {v u : Value} {E esz n j f key : Nat} {xs : List Value} [ht : TOne C.P T] (h : ev C s x = some (.pointer (some ⟨blkOf v, offOf v + j * esz + f, none⟩))) (h2 : ev C s z = some u) (hc : u.cells.toList = [u]) (h1 : u.oneCell' = true) (hm : s.m key = some (.own v E esz n xs)) (hlt : j < n) (hf : f < esz) :
    OpS C s ⟨d, .store T x z, ty, pos, aft, gd⟩ key (.own v E esz n xs) (.own v E esz n (xs.take (j * esz + f) ++ [u] ++ xs.drop (j * esz + f + 1))) :=
  ⟨by simp, hm, rfl, fun ρ w hr hok => by
    have hxl := (show (Hp.own v E esz n xs).ok w from hok).1.1
    have hmul : j * esz + esz ≤ n * esz := by rw [← Nat.succ_mul]; exact Nat.mul_le_mul_right _ hlt
    obtain ⟨w', h3, h4, h5⟩ := own_store (P := C.P) hok (j * esz + f) [u] (by rw [hxl]; show j * esz + f + 1 ≤ _; omega) (fun q hq => by rw [List.mem_singleton.1 hq]; exact h1) (by simp)
    refine ⟨w', ?_, h4, h5⟩
    have hus : u.cells.size = 1 := by
      have : u.cells.toList.length = 1 := by rw [hc]; rfl
      simpa using this
    have hrow : (storeVar T ⟨blkOf v, offOf v + j * esz + f, none⟩ u).run C.P w = .ok () w' := by
      unfold storeVar
      rw [Sem.run_bind, ht.sz]
      rw [← Nat.add_assoc] at h3
      simp [Result.andThen, hus, hc, h3]
    simp [execOp, rd1 hr (x := x) (by simp [Op.operands]) h, rd1 hr (x := z) (by simp [Op.operands]) h2, Instr.storeAt, Instr.sureAddr, Sem.run_bind, Result.andThen, hrow]⟩
def eC (c : Int × Int) : List Value := [.int .i64 c.1, .int .i64 c.2]
def dC : Int × Int := (0, 0)
theorem eC_len (c : Int × Int) : (eC c).length = 2 := rfl
theorem takeSnoc {α : Type} {l : List α} {i : Nat} (d : α) (h : i < l.length) : l.take (i + 1) = l.take i ++ [l.getD i d] := by
  rw [List.take_add_one, List.getElem?_eq_getElem h, List.getD_eq_getElem?_getD, List.getElem?_eq_getElem h]; rfl
theorem sumTo_snoc (cs : List (Int × Int)) (c : Int × Int) (x : Int) : sumTo (cs ++ [c]) x = sumTo cs x + if c.1 ≤ x then c.2 else 0 := by
  unfold sumTo; rw [sumF_append]; simp [sumF]
theorem sumTo_bound {cs : List (Int × Int)} (h : WiOk cs) (x : Int) : -(cs.length : Int) ≤ sumTo cs x ∧ sumTo cs x ≤ cs.length :=
  sumF_bound cs fun c hc => by have := h c hc; split <;> omega
theorem wiOk_getD {cs : List (Int × Int)} (h : WiOk cs) {i : Nat} (hi : i < cs.length) : (cs.getD i dC).2 = 1 ∨ (cs.getD i dC).2 = -1 := by
  rw [List.getD_eq_getElem?_getD, List.getElem?_eq_getElem hi]; exact h _ (List.getElem_mem hi)
theorem crs_get {r : Int} {es : List EdgeT} {i : Nat} (h : i < es.length) : (crs r es).getD i dC = (atE (es.getD i dE) r, (es.getD i dE).wi) := by
  rw [List.getD_eq_getElem?_getD, crs_getD h]; rfl
/-- a place is put in its order -/
theorem keys_put {cs : List (Int × Int)} {c : Int × Int} {j : Nat} (h1 : j ≤ (keysOf cs).length) (h2 : ∀ k, k < j → (keysOf cs).getD k 0 < c.1) (h3 : j < (keysOf cs).length → ¬ (keysOf cs).getD j 0 < c.1) (h4 : j < (keysOf cs).length → (keysOf cs).getD j 0 ≠ c.1) : keysOf (cs ++ [c]) = (keysOf cs).take j ++ c.1 :: (keysOf cs).drop j := by
  rw [keysOf_snoc, insU_at _ j h1 h2 h3, if_neg fun h => h4 h.1 h.2]
theorem keys_has {cs : List (Int × Int)} {c : Int × Int} {j : Nat} (h1 : j < (keysOf cs).length) (h2 : ∀ k, k < j → (keysOf cs).getD k 0 < c.1) (h4 : (keysOf cs).getD j 0 = c.1) : keysOf (cs ++ [c]) = keysOf cs := by
  rw [keysOf_snoc, insU_at _ j (Nat.le_of_lt h1) h2 (fun _ => by omega), if_pos ⟨h1, h4⟩]
theorem keys_flat {l l' : List Int} {x : Int} {j : Nat} (h : l' = l.take j ++ x :: l.drop j) : [] ++ (l.map (Value.int .i64)).take (j * 1) ++ [.int .i64 x] ++ (l.map (Value.int .i64)).drop (j * 1) = l'.map (Value.int .i64) := by
  subst h; simp [List.map_take, List.map_drop]
theorem keys_len {l l' : List Int} {x : Int} {j : Nat} (h : l' = l.take j ++ x :: l.drop j) (hj : j ≤ l.length) : 0 + j + 1 + (l.length - j) = l'.length := by
  subst h; simp [List.length_take, List.length_drop]; omega
theorem doc0 {cs : List (Int × Int)} {k : Nat} (h : sumTo cs ((keysOf cs).getD k 0) = 0) : docTo cs (k + 1) = docTo cs k := by
  rw [docTo_succ, docStep, if_pos h]
theorem last_getD {o : List SpanT} (h : 0 < o.length) : o.getLast? = some (o.getD (o.length - 1) dS) := by
  rw [List.getLast?_eq_getElem?, List.getD_eq_getElem?_getD, List.getElem?_eq_getElem (show o.length - 1 < o.length by omega)]; rfl
theorem doc1 {cs : List (Int × Int)} {k : Nat} (h : ¬ sumTo cs ((keysOf cs).getD k 0) = 0) (h0 : 0 < (docTo cs k).length) (h1 : ((docTo cs k).getD ((docTo cs k).length - 1) dS).to = (keysOf cs).getD k 0) :
    docTo cs (k + 1) = (docTo cs k).dropLast ++ [⟨((docTo cs k).getD ((docTo cs k).length - 1) dS).fr, (keysOf cs).getD (k + 1) 0⟩] := by
  rw [docTo_succ, docStep, if_neg h, last_getD h0]; simp only; rw [if_pos h1]
theorem doc2 {cs : List (Int × Int)} {k : Nat} (h : ¬ sumTo cs ((keysOf cs).getD k 0) = 0) (h1 : 0 < (docTo cs k).length → ¬ ((docTo cs k).getD ((docTo cs k).length - 1) dS).to = (keysOf cs).getD k 0) :
    docTo cs (k + 1) = docTo cs k ++ [⟨(keysOf cs).getD k 0, (keysOf cs).getD (k + 1) 0⟩] := by
  rw [docTo_succ, docStep, if_neg h]
  rcases Nat.eq_zero_or_pos (docTo cs k).length with h0 | h0
  · rw [List.eq_nil_of_length_eq_zero h0]; rfl
  · rw [last_getD h0]; simp only; rw [if_neg (h1 h0)]
theorem docTo_len (cs : List (Int × Int)) : ∀ k, (docTo cs k).length ≤ k
  | 0 => Nat.le_refl _
  | k + 1 => by
    have ih := docTo_len cs k
    by_cases h : sumTo cs ((keysOf cs).getD k 0) = 0
    · rw [doc0 h]; omega
    · by_cases h1 : 0 < (docTo cs k).length ∧ ((docTo cs k).getD ((docTo cs k).length - 1) dS).to = (keysOf cs).getD k 0
      · rw [doc1 h h1.1 h1.2, List.length_append, List.length_dropLast]; simp; omega
      · rw [doc2 h fun h0 h2 => h1 ⟨h0, h2⟩, List.length_append]; simp; omega
theorem flat_last : ∀ {o : List SpanT} {y : Int}, 0 < o.length → (o.flatMap eS).take ((o.length - 1) * 2 + 1) ++ [.int .i64 y] ++ (o.flatMap eS).drop ((o.length - 1) * 2 + 1 + 1) = (o.dropLast ++ [(⟨(o.getD (o.length - 1) dS).fr, y⟩ : SpanT)]).flatMap eS
  | [], _, h => by simp at h
  | [s], y, _ => rfl
  | s :: t :: r, y, _ => by
    have ih := flat_last (o := t :: r) (y := y) (by simp)
    have e : ((s :: t :: r).length - 1) * 2 = ((t :: r).length - 1) * 2 + 2 := by simp [List.length_cons]; omega
    have e2 : (s :: t :: r).getD ((s :: t :: r).length - 1) dS = (t :: r).getD ((t :: r).length - 1) dS := by simp [List.length_cons]
    rw [e, e2, List.dropLast_cons_cons, List.cons_append]
    conv => rhs; rw [List.flatMap_cons, ← ih]
    have e3 : ((t :: r).length - 1) * 2 + 2 + 1 = (((t :: r).length - 1) * 2 + 1) + 1 + 1 := by omega
    rw [e3]
    rfl
theorem dropLast_len {o : List SpanT} {s : SpanT} (h : 0 < o.length) : o.length = (o.dropLast ++ [s]).length := by rw [List.length_append, List.length_dropLast]; simp; omega
theorem crs_flat_snoc {cs : List (Int × Int)} {c : Int × Int} : cs.flatMap eC ++ eC c = (cs ++ [c]).flatMap eC := by simp
theorem zeroSum_crs (r : Int) (es : List EdgeT) : sumF (fun c => c.2) (crs r es) = windSum es := by
  unfold crs
  rw [sumF_map]
  induction es with
  | nil => rfl
  | cons e es ih => simp only [sumF, windSum, List.map_cons, List.sum_cons] at *; rw [ih]
theorem wind_all (r : Int) : ∀ ps : List (List PtT), windSum (liveT r (edgesAll ps)) = 0
  | [] => rfl
  | pc :: ps => by
    have ih := wind_all r ps
    unfold edgesAll at ih ⊢
    rw [List.flatMap_cons, live_append, windSum_append, wind_zero, ih]; rfl
theorem docRow_all (r : Int) (ps : List (List PtT)) : docRow (crs r (liveT r (edgesAll ps))) = rowS (crs r (liveT r (edgesAll ps))) := docRow_eq (by rw [zeroSum_crs, wind_all])
theorem r_winding (w : World) (v : Value) (cs : List (Int × Int)) (x : Int) (hn : cs.length ≤ 1000000) (hw : WiOk cs) (hV : RowV v cs.length) (hrow : RowAt w v 2 cs.length (cs.flatMap eC)) :
    Calls Tryz.prog 36 #[v, .int .i64 x] w fun e w' => e = .returned (.int .i64 (sumTo cs x)) ∧ Below w.heap.size w w' := by
  have hr : ∀ w', Chg (fun _ => False) w w' → RowAt w' v 2 cs.length (cs.flatMap eC) := fun w' h => hrow.chg h (fun h => h)
  refine calls_of (args := [v, .int .i64 x]) Tryz.func36 rfl Tryz.ntmps36 Tryz.results36 rfl ?_
  refine v_seq ?_
  refine v_region ?_
  refine l_val rfl (o_assign rfl) ?_
  refine l_nil ?_
  refine kt_norm ?_
  refine v_seq ?_
  refine v_region ?_
  refine l_val rfl (o_assign rfl) ?_
  refine l_nil ?_
  refine kt_norm ?_
  refine v_seq ?_
  refine v_seq ?_
  refine v_region ?_
  refine l_val rfl (o_assign rfl) ?_
  refine l_nil ?_
  refine kt_norm ?_
  refine v_block ?_
  refine v_loopS (α := Nat) (fun i => [(6, .int .i64 (i : Int)), (5, .int .i64 (sumTo (cs.take i) x))]) (fun i => [])  (fun i => i ≤ cs.length) (fun i => cs.length - i) 0 [0, 1] [] (Nat.zero_le _)  (And.intro rfl (And.intro rfl (True.intro))) rfl (True.intro) rfl ?_
  rintro i hi
  refine v_seq ?_
  refine v_seq ?_
  refine v_region ?_
  refine l_val rfl (o_move rfl) ?_
  refine l_val rfl (o_move rfl) ?_
  refine l_val rfl (o_len rfl hV) ?_
  refine l_split rfl (o_lss rfl rfl) (fun q1 => ?_) (fun q1 => ?_)
  · have hil : i < cs.length := by omega
    have hb1 := sumTo_bound (wiOk_take hw i) x
    have hb2 := wiOk_getD hw hil
    have hb3 := List.length_take (i := i) (l := cs)
    have hst : sumTo (cs.take (i + 1)) x = sumTo (cs.take i) x + if (cs.getD i dC).1 ≤ x then (cs.getD i dC).2 else 0 := by rw [takeSnoc dC hil, sumTo_snoc]
    refine l_nil ?_
    refine kt_norm ?_
    refine v_condT rfl ?_
    refine v_skip ?_
    refine kt_norm ?_
    refine v_seq ?_
    refine v_block ?_
    refine v_seq ?_
    refine v_region ?_
    refine l_val rfl (o_move rfl) ?_
    refine l_val rfl (o_move rfl) ?_
    refine l_val rfl (o_idx (i) rfl hV rfl (by first | rfl | omega) (by omega)) ?_
    refine l_val rfl (o_fld rfl) ?_
    refine l_val rfl (o_loadRF (f := 0) rfl (row_imm hr) (el_flat eC_len dC cs (i) (by omega)) rfl) ?_
    refine l_val rfl (o_move rfl) ?_
    refine l_split rfl (o_leq rfl rfl) (fun h56 => ?_) (fun h56 => ?_)
    · skip
      refine l_nil ?_
      refine kt_norm ?_
      refine v_sel [6, 5, 0, 1, 19] [] rfl rfl ?_
      refine v_condT rfl ?_
      refine v_region ?_
      refine l_val rfl (o_move rfl) ?_
      refine l_val rfl (o_move rfl) ?_
      refine l_val rfl (o_move rfl) ?_
      refine l_val rfl (o_idx (i) rfl hV rfl (by first | rfl | omega) (by omega)) ?_
      refine l_val rfl (o_fld rfl) ?_
      refine l_val rfl (o_loadRF (f := 1) rfl (row_imm hr) (el_flat eC_len dC cs (i) (by omega)) rfl) ?_
      refine l_val rfl (o_addi rfl rfl ?_) ?_
      · omega
      refine l_val rfl (o_assign rfl) ?_
      refine l_nil ?_
      refine kb_norm ?_
      refine kt_norm ?_
      refine v_sel [6, 5, 0, 1] [] rfl rfl ?_
      refine v_region ?_
      refine l_val rfl (o_move rfl) ?_
      refine l_val rfl (o_addi rfl rfl ?_) ?_
      · omega
      refine l_val rfl (o_assign rfl) ?_
      refine l_nil ?_
      refine kt_norm ?_
      refine ⟨i + 1, hil, by omega, le_app (And.intro rfl (And.intro (congrArg (fun q => some (Value.int .i64 q)) (by rw [hst, if_pos h56])) (True.intro))) [0, 1] rfl (True.intro) [] rfl⟩
    · skip
      refine l_nil ?_
      refine kt_norm ?_
      refine v_sel [6, 5, 0, 1, 19] [] rfl rfl ?_
      refine v_condF rfl ?_
      refine v_skip ?_
      refine kb_norm ?_
      refine kt_norm ?_
      refine v_region ?_
      refine l_val rfl (o_move rfl) ?_
      refine l_val rfl (o_addi rfl rfl ?_) ?_
      · omega
      refine l_val rfl (o_assign rfl) ?_
      refine l_nil ?_
      refine kt_norm ?_
      refine ⟨i + 1, hil, by omega, le_app (And.intro rfl (And.intro (congrArg (fun q => some (Value.int .i64 q)) (by rw [hst, if_neg h56]; omega)) (True.intro))) [0, 1] rfl (True.intro) [] rfl⟩
  · skip
    refine l_nil ?_
    refine kt_norm ?_
    refine v_condF rfl ?_
    refine v_exit ?_
    refine kt_exit ?_
    refine kt_exit ?_
    refine kb_eq ?_
    refine kt_norm ?_
    refine v_sel [5] [] rfl rfl ?_
    refine v_seq ?_
    refine v_region ?_
    obtain rfl : i = cs.length := by omega
    refine l_val rfl (o_move rfl) ?_
    refine l_val rfl (o_assign rfl) ?_
    refine l_nil ?_
    refine kt_norm ?_
    refine v_ret ?_
    refine ⟨[_], .cons (.tmp rfl) (ResAll.nil), ?_⟩
    exact congrArg (Value.int .i64) (by rw [List.take_length])
set_option maxHeartbeats 2000000 in
theorem r_SpansR (w : World) (v : Value) (es : List EdgeT) (r : Int) (hn : es.length ≤ 100000) (hV : RowV v es.length) (hrow : RowAt w v 7 es.length (es.flatMap eE)) (hc : ∀ e ∈ liveT r es, CrossOk r e) :
    Calls Tryz.prog 12 #[v, .int .i64 r] w fun e w' => ∃ y, e = .returned y ∧ Below w.heap.size w w' ∧ OwnAt w.heap.size w' y 83 2 (docRow (crs r (liveT r es))).length ((docRow (crs r (liveT r es))).flatMap eS) := by
  have hr : ∀ w', Chg (fun _ => False) w w' → RowAt w' v 7 es.length (es.flatMap eE) := fun w' h => hrow.chg h (fun h => h)
  have hll : (liveT r es).length ≤ es.length := List.length_filter_le _ _
  have hcl := crs_len r (liveT r es)
  have hkc := keysOf_len (crs r (liveT r es))
  refine calls_own (args := [v, .int .i64 r]) Tryz.func12 rfl Tryz.ntmps12 Tryz.results12 rfl ?_
  refine v_seq ?_
  refine v_region ?_
  refine l_val rfl (o_assign rfl) ?_
  refine l_nil ?_
  refine kt_norm ?_
  refine v_seq ?_
  refine v_region ?_
  refine l_val rfl (o_move rfl) ?_
  refine l_val rfl (o_move rfl) ?_
  refine l_gown (ks := []) (caps := #[]) (vs := [_, _]) rfl rfl (ent_of Tryz.func34 rfl rfl) rfl (fun w' hg hh => r_Live w' v es r (by omega) hV (hr w' hg)) fun y hy => ?_
  refine l_val rfl (o_assign rfl) ?_
  refine l_nil ?_
  refine kt_norm ?_
  refine v_seq ?_
  refine v_region ?_
  refine l_buildSlice (vs := []) (cs := []) rfl rfl rfl rfl rfl rfl fun v16 hv16 => ?_
  refine l_val rfl (o_assign rfl) ?_
  refine l_nil ?_
  refine kt_norm ?_
  refine v_sel [1, 5, 6] [15, 16] rfl rfl ?_
  refine v_seq ?_
  refine v_region ?_
  refine l_buildSlice (vs := []) (cs := []) rfl rfl rfl rfl rfl rfl fun v17 hv17 => ?_
  refine l_val rfl (o_assign rfl) ?_
  refine l_nil ?_
  refine kt_norm ?_
  refine v_seq ?_
  refine v_seq ?_
  refine v_region ?_
  refine l_val rfl (o_assign rfl) ?_
  refine l_nil ?_
  refine kt_norm ?_
  refine v_block ?_
  refine v_ren 16 39 [15, 17] rfl rfl rfl ?_
  refine v_ren 17 2007 [15, 39] rfl rfl rfl ?_
  refine v_loopS (α := Nat × Value × Value) (fun ⟨i, v6, v7⟩ => [(8, .int .i64 (i : Int)), (6, v6), (7, v7)]) (fun ⟨i, v6, v7⟩ => [(39, Hp.own v6 81 2 i (((crs r (liveT r es)).take i).flatMap eC)), (2007, Hp.own v7 3 1 (keysOf ((crs r (liveT r es)).take i)).length ((keysOf ((crs r (liveT r es)).take i)).map (Value.int .i64)))])  (fun ⟨i, v6, v7⟩ => i ≤ (liveT r es).length ∧ RowV v6 i ∧ RowV v7 (keysOf ((crs r (liveT r es)).take i)).length) (fun ⟨i, v6, v7⟩ => (liveT r es).length - i) (0, v16, v17) [1, 5] [15] ⟨Nat.zero_le _, hv16, hv17⟩  (And.intro rfl (And.intro rfl (And.intro rfl (True.intro)))) rfl (And.intro rfl (And.intro rfl (True.intro))) rfl ?_
  rintro ⟨i, v6, v7⟩ ⟨hi, hv6, hv7⟩
  refine v_seq ?_
  refine v_seq ?_
  refine v_region ?_
  refine l_val rfl (o_move rfl) ?_
  refine l_val rfl (o_move rfl) ?_
  refine l_val rfl (o_len rfl hy) ?_
  refine l_split rfl (o_lss rfl rfl) (fun q1 => ?_) (fun q1 => ?_)
  · have hil : i < (liveT r es).length := by omega
    have hk := live_getD hc hil
    have hka := hk.at_
    have hct := crs_take (r := r) hil
    have htl := List.length_take (i := i) (l := (crs r (liveT r es)))
    have hkl := keysOf_len ((crs r (liveT r es)).take i)
    refine l_nil ?_
    refine kt_norm ?_
    refine v_condT rfl ?_
    refine v_skip ?_
    refine kt_norm ?_
    refine v_seq ?_
    refine v_block ?_
    refine v_seq ?_
    refine v_region ?_
    refine l_val rfl (o_move rfl) ?_
    refine l_val rfl (o_move rfl) ?_
    refine l_val rfl (o_idx (i) rfl hy rfl (by first | rfl | omega) (by omega)) ?_
    refine l_val rfl (o_loadRE (c' := [_, _, _, _, _, _, _]) rfl (row_own (key := 15) rfl) (el_flat eE_len dE (liveT r es) (i) (by omega)) rfl) ?_
    refine l_val rfl (o_move rfl) ?_
    refine l_ans (vs := [_, _]) rfl rfl (r_At ((liveT r es).getD i dE) r hk.rr hk.x hk.y hk.d hk.dy hk.p) ?_
    refine l_val rfl (o_assign rfl) ?_
    refine l_nil ?_
    refine kt_norm ?_
    refine v_sel [8, 6, 7, 1, 5, 9] [15, 39, 2007] rfl rfl ?_
    refine v_seq ?_
    refine v_region ?_
    refine l_val rfl (o_move rfl) ?_
    refine l_val rfl (o_move rfl) ?_
    refine l_val rfl (o_move rfl) ?_
    refine l_val rfl (o_move rfl) ?_
    refine l_val rfl (o_idx (i) rfl hy rfl (by first | rfl | omega) (by omega)) ?_
    refine l_val rfl (o_fld rfl) ?_
    refine l_val rfl (o_loadRF (f := 4) rfl (row_own (key := 15) rfl) (el_flat eE_len dE (liveT r es) (i) (by omega)) rfl) ?_
    refine l_val rfl (o_build (vs := [_, _]) (cs := [_, _]) rfl rfl) ?_
    refine l_buildSlice (vs := [_]) (cs := [_, _]) rfl rfl rfl rfl rfl rfl fun v38 hv38 => ?_
    refine l_append 39 [15, 38, 2007] rfl rfl rfl rfl rfl rfl rfl hv38 (row_own (key := 38) rfl) (by omega) fun v39 hv39 => ?_
    refine l_val rfl (o_assign rfl) ?_
    refine l_nil ?_
    refine kt_norm ?_
    refine v_sel [8, 6, 7, 1, 5, 9] [15, 39, 2007] rfl rfl ?_
    refine v_seq ?_
    refine v_region ?_
    refine l_val rfl (o_assign rfl) ?_
    refine l_nil ?_
    refine kt_norm ?_
    refine v_seq ?_
    refine v_block ?_
    refine v_loopS (α := Nat) (fun j => [(10, .int .i64 (j : Int))]) (fun j => [])  (fun j => j ≤ (keysOf ((crs r (liveT r es)).take i)).length ∧ ∀ k, k < j → (keysOf ((crs r (liveT r es)).take i)).getD k 0 < (atE ((liveT r es).getD i dE) r)) (fun j => (keysOf ((crs r (liveT r es)).take i)).length - j) 0 [8, 6, 7, 1, 5, 9] [15, 39, 2007] ⟨Nat.zero_le _, fun k h => by omega⟩  (And.intro rfl (True.intro)) rfl (True.intro) rfl ?_
    rintro j ⟨hj, hB⟩
    refine v_seq ?_
    refine v_seq ?_
    refine v_region ?_
    refine l_val rfl (o_move rfl) ?_
    refine l_val rfl (o_move rfl) ?_
    refine l_val rfl (o_len rfl hv7) ?_
    refine l_split rfl (o_lss rfl rfl) (fun q2 => ?_) (fun q2 => ?_)
    · skip
      refine l_val rfl (o_move rfl) ?_
      refine l_val rfl (o_move rfl) ?_
      refine l_val rfl (o_move rfl) ?_
      refine l_val rfl (o_idx (j) rfl hv7 rfl (by first | rfl | omega) (by omega)) ?_
      refine l_val rfl (o_loadR1 rfl (row_own (key := 2007) rfl) (el_int (l := (keysOf ((crs r (liveT r es)).take i))) (i := j) (by omega))) ?_
      refine l_val rfl (o_move rfl) ?_
      refine l_split rfl (o_lss rfl rfl) (fun h1010 => ?_) (fun h1010 => ?_)
      · skip
        refine l_val rfl (o_pickT rfl rfl) ?_
        refine l_nil ?_
        refine kt_norm ?_
        refine v_condT rfl ?_
        refine v_skip ?_
        refine kt_norm ?_
        refine v_sel [10, 8, 6, 7, 1, 5, 9, 45, 46, 47, 48, 49, 50] [15, 39, 2007] rfl rfl ?_
        refine v_block ?_
        refine v_region ?_
        refine l_val rfl (o_move rfl) ?_
        refine l_val rfl (o_addi rfl rfl ?_) ?_
        · omega
        refine l_val rfl (o_assign rfl) ?_
        refine l_nil ?_
        refine kb_norm ?_
        refine kt_norm ?_
        refine ⟨j + 1, ⟨by omega, fun k hk2 => by rcases Nat.lt_or_eq_of_le (Nat.le_of_lt_succ hk2) with h | h; exact hB k h; subst h; exact h1010⟩, by omega, le_app (And.intro rfl (True.intro)) [8, 6, 7, 1, 5, 9] rfl (True.intro) [15, 39, 2007] rfl⟩
      · skip
        refine l_val rfl (o_pickT rfl rfl) ?_
        refine l_nil ?_
        refine kt_norm ?_
        refine v_condF rfl ?_
        refine v_exit ?_
        refine kt_exit ?_
        refine kt_exit ?_
        refine kb_eq ?_
        refine kt_norm ?_
        refine v_sel [10, 8, 6, 7, 1, 5, 9, 45, 46, 47, 48, 49, 50] [15, 39, 2007] rfl rfl ?_
        refine v_seq ?_
        refine v_region ?_
        refine l_val rfl (o_move rfl) ?_
        refine l_val rfl (o_move rfl) ?_
        refine l_val rfl (o_len rfl hv7) ?_
        refine l_split rfl (o_eql rfl rfl) (fun q3 => ?_) (fun q3 => ?_)
        · skip
          refine l_val rfl (o_move rfl) ?_
          refine l_no rfl ?_
          refine l_no rfl ?_
          refine l_no rfl ?_
          refine l_no rfl ?_
          refine l_no rfl ?_
          refine l_no rfl ?_
          refine l_val rfl (o_pickT rfl rfl) ?_
          refine l_nil ?_
          refine kt_norm ?_
          refine v_condT rfl ?_
          refine v_drawW [(70, 0 + j), (73, 0 + j + 1), (77, 0 + j + 1 + ((keysOf ((crs r (liveT r es)).take i)).length - j))] [[], [], [], [2007], [66, 2007], [], [], [66, 72], [], [], [], [66, 2007], []] mixed ?_ (by kernel_rfl) (by kernel_rfl)
          have hput : keysOf ((crs r (liveT r es)).take (i + 1)) = (keysOf ((crs r (liveT r es)).take i)).take j ++ (atE ((liveT r es).getD i dE) r) :: (keysOf ((crs r (liveT r es)).take i)).drop j := by rw [hct]; exact keys_put hj hB (fun h => by first | (exfalso; omega) | exact h1010) (fun h => by first | (exfalso; omega) | exact h1210)
          refine d_bsO (n := 0) (vs := fun _ => []) (cs := fun _ => []) (fun _ => rfl) (fun _ => rfl) (fun _ => rfl) rfl rfl (fun _ => rfl) (fun _ => rfl) ?_
          refine d_val (fun _ => rfl) rfl rfl (fun σ13 => o_move rfl) ?_
          refine d_val (fun _ => rfl) rfl rfl (fun σ13 => o_move rfl) ?_
          refine d_val (fun _ => rfl) rfl rfl (fun _ => o_sliceTo (key := 2007) j rfl rfl rfl rfl (by omega)) ?_
          refine d_app 66 (n := 0) (mm := j) (κ := [2007]) (fun _ => rfl) (fun _ => rfl) (fun _ => rfl) (fun _ => rfl) rfl (fun σ13 => rowV_to hv7 (by omega)) (fun σ13 => row_to (key := 2007) rfl (by omega)) (by omega) (fun _ h => h) ?_
          refine d_val (fun _ => rfl) rfl rfl (fun σ13 => o_move rfl) ?_
          refine d_bsO (n := 1) (vs := fun _ => [_]) (cs := fun _ => [_]) (fun _ => rfl) (fun _ => rfl) (fun _ => rfl) rfl rfl (fun _ => rfl) (fun _ => rfl) ?_
          refine d_app 66 (n := 0 + j) (mm := 1) (κ := [72]) (fun _ => rfl) (fun _ => rfl) (fun _ => rfl) (fun _ => rfl) rfl (fun σ13 => .inl ⟨_, _, _, rfl⟩) (fun σ13 => row_own (key := 72) rfl) (by omega) (fun _ h => h) ?_
          refine d_val (fun _ => rfl) rfl rfl (fun σ13 => o_move rfl) ?_
          refine d_val (fun _ => rfl) rfl rfl (fun σ13 => o_move rfl) ?_
          refine d_val (fun _ => rfl) rfl rfl (fun _ => o_sliceFrom (lo := j) rfl hv7 rfl rfl (by omega)) ?_
          refine d_app 66 (n := 0 + j + 1) (mm := (keysOf ((crs r (liveT r es)).take i)).length - j) (κ := [2007]) (fun _ => rfl) (fun _ => rfl) (fun _ => rfl) (fun _ => rfl) rfl (fun σ13 => rowV_from hv7 (by omega)) (fun σ13 => row_from (key := 2007) rfl (by omega)) (by omega) (fun _ h => h) ?_
          refine d_val (fun _ => rfl) rfl rfl (fun σ13 => o_assign rfl) ?_
          refine d_nil (fun σ13 => ?_)
          refine l_nil ?_
          refine kb_norm ?_
          refine kt_norm ?_
          refine v_sel [8, 6, 7, 1, 5, 45, 46, 47, 48, 49, 50, 59, 60, 61, 62, 63, 64] [15, 39, 66, 2007] rfl rfl ?_
          refine v_region ?_
          refine l_ren 66 2007 [15, 39] rfl rfl rfl ?_
          refine l_val rfl (o_move rfl) ?_
          refine l_val rfl (o_addi rfl rfl ?_) ?_
          · omega
          refine l_val rfl (o_assign rfl) ?_
          refine l_nil ?_
          refine kt_norm ?_
          refine ⟨(i + 1, v39, σ13.v 77), ⟨hil, hv39, RowV.to (show RowV (σ13.v 77) (0 + j + 1 + ((keysOf ((crs r (liveT r es)).take i)).length - j)) from σ13.ok 77) (keys_len hput hj)⟩, (by show (liveT r es).length - (i + 1) < (liveT r es).length - i; omega), le_app (And.intro rfl (And.intro rfl (And.intro rfl (True.intro)))) [1, 5] rfl (And.intro (congrArg some (own_congr rfl (by rw [hct]; exact crs_flat_snoc (cs := ((crs r (liveT r es)).take i)) (c := ((atE ((liveT r es).getD i dE) r), ((liveT r es).getD i dE).wi))))) (And.intro (congrArg some (own_congr (keys_len hput hj) (keys_flat hput))) (True.intro))) [15] rfl⟩
        · skip
          refine l_val rfl (o_move rfl) ?_
          refine l_val rfl (o_move rfl) ?_
          refine l_val rfl (o_move rfl) ?_
          refine l_val rfl (o_idx (j) rfl hv7 rfl (by first | rfl | omega) (by omega)) ?_
          refine l_val rfl (o_loadR1 rfl (row_own (key := 2007) rfl) (el_int (l := (keysOf ((crs r (liveT r es)).take i))) (i := j) (by omega))) ?_
          refine l_val rfl (o_move rfl) ?_
          refine l_split rfl (o_neq rfl rfl) (fun h1210 => ?_) (fun h1210 => ?_)
          · skip
            refine l_val rfl (o_pickF rfl rfl) ?_
            refine l_nil ?_
            refine kt_norm ?_
            refine v_condT rfl ?_
            refine v_drawW [(70, 0 + j), (73, 0 + j + 1), (77, 0 + j + 1 + ((keysOf ((crs r (liveT r es)).take i)).length - j))] [[], [], [], [2007], [66, 2007], [], [], [66, 72], [], [], [], [66, 2007], []] mixed ?_ (by kernel_rfl) (by kernel_rfl)
            have hput : keysOf ((crs r (liveT r es)).take (i + 1)) = (keysOf ((crs r (liveT r es)).take i)).take j ++ (atE ((liveT r es).getD i dE) r) :: (keysOf ((crs r (liveT r es)).take i)).drop j := by rw [hct]; exact keys_put hj hB (fun h => by first | (exfalso; omega) | exact h1010) (fun h => by first | (exfalso; omega) | exact h1210)
            refine d_bsO (n := 0) (vs := fun _ => []) (cs := fun _ => []) (fun _ => rfl) (fun _ => rfl) (fun _ => rfl) rfl rfl (fun _ => rfl) (fun _ => rfl) ?_
            refine d_val (fun _ => rfl) rfl rfl (fun σ13 => o_move rfl) ?_
            refine d_val (fun _ => rfl) rfl rfl (fun σ13 => o_move rfl) ?_
            refine d_val (fun _ => rfl) rfl rfl (fun _ => o_sliceTo (key := 2007) j rfl rfl rfl rfl (by omega)) ?_
            refine d_app 66 (n := 0) (mm := j) (κ := [2007]) (fun _ => rfl) (fun _ => rfl) (fun _ => rfl) (fun _ => rfl) rfl (fun σ13 => rowV_to hv7 (by omega)) (fun σ13 => row_to (key := 2007) rfl (by omega)) (by omega) (fun _ h => h) ?_
            refine d_val (fun _ => rfl) rfl rfl (fun σ13 => o_move rfl) ?_
            refine d_bsO (n := 1) (vs := fun _ => [_]) (cs := fun _ => [_]) (fun _ => rfl) (fun _ => rfl) (fun _ => rfl) rfl rfl (fun _ => rfl) (fun _ => rfl) ?_
            refine d_app 66 (n := 0 + j) (mm := 1) (κ := [72]) (fun _ => rfl) (fun _ => rfl) (fun _ => rfl) (fun _ => rfl) rfl (fun σ13 => .inl ⟨_, _, _, rfl⟩) (fun σ13 => row_own (key := 72) rfl) (by omega) (fun _ h => h) ?_
            refine d_val (fun _ => rfl) rfl rfl (fun σ13 => o_move rfl) ?_
            refine d_val (fun _ => rfl) rfl rfl (fun σ13 => o_move rfl) ?_
            refine d_val (fun _ => rfl) rfl rfl (fun _ => o_sliceFrom (lo := j) rfl hv7 rfl rfl (by omega)) ?_
            refine d_app 66 (n := 0 + j + 1) (mm := (keysOf ((crs r (liveT r es)).take i)).length - j) (κ := [2007]) (fun _ => rfl) (fun _ => rfl) (fun _ => rfl) (fun _ => rfl) rfl (fun σ13 => rowV_from hv7 (by omega)) (fun σ13 => row_from (key := 2007) rfl (by omega)) (by omega) (fun _ h => h) ?_
            refine d_val (fun _ => rfl) rfl rfl (fun σ13 => o_assign rfl) ?_
            refine d_nil (fun σ13 => ?_)
            refine l_nil ?_
            refine kb_norm ?_
            refine kt_norm ?_
            refine v_sel [8, 6, 7, 1, 5, 45, 46, 47, 48, 49, 50, 59, 60, 61, 62, 63, 64] [15, 39, 66, 2007] rfl rfl ?_
            refine v_region ?_
            refine l_ren 66 2007 [15, 39] rfl rfl rfl ?_
            refine l_val rfl (o_move rfl) ?_
            refine l_val rfl (o_addi rfl rfl ?_) ?_
            · omega
            refine l_val rfl (o_assign rfl) ?_
            refine l_nil ?_
            refine kt_norm ?_
            refine ⟨(i + 1, v39, σ13.v 77), ⟨hil, hv39, RowV.to (show RowV (σ13.v 77) (0 + j + 1 + ((keysOf ((crs r (liveT r es)).take i)).length - j)) from σ13.ok 77) (keys_len hput hj)⟩, (by show (liveT r es).length - (i + 1) < (liveT r es).length - i; omega), le_app (And.intro rfl (And.intro rfl (And.intro rfl (True.intro)))) [1, 5] rfl (And.intro (congrArg some (own_congr rfl (by rw [hct]; exact crs_flat_snoc (cs := ((crs r (liveT r es)).take i)) (c := ((atE ((liveT r es).getD i dE) r), ((liveT r es).getD i dE).wi))))) (And.intro (congrArg some (own_congr (keys_len hput hj) (keys_flat hput))) (True.intro))) [15] rfl⟩
          · skip
            refine l_val rfl (o_pickF rfl rfl) ?_
            refine l_nil ?_
            refine kt_norm ?_
            refine v_condF rfl ?_
            refine v_skip ?_
            refine kb_norm ?_
            refine kt_norm ?_
            refine v_sel [8, 6, 7, 1, 5, 45, 46, 47, 48, 49, 50, 59, 60, 61, 62, 63, 64] [15, 39, 2007] rfl rfl ?_
            refine v_region ?_
            have hhas : keysOf ((crs r (liveT r es)).take (i + 1)) = (keysOf ((crs r (liveT r es)).take i)) := by rw [hct]; exact keys_has (by omega) hB (Decidable.not_not.1 h1210)
            refine l_val rfl (o_move rfl) ?_
            refine l_val rfl (o_addi rfl rfl ?_) ?_
            · omega
            refine l_val rfl (o_assign rfl) ?_
            refine l_nil ?_
            refine kt_norm ?_
            refine ⟨(i + 1, v39, v7), ⟨hil, hv39, by rw [hhas]; exact hv7⟩, (by show (liveT r es).length - (i + 1) < (liveT r es).length - i; omega), le_app (And.intro rfl (And.intro rfl (And.intro rfl (True.intro)))) [1, 5] rfl (And.intro (congrArg some (own_congr rfl (by rw [hct]; exact crs_flat_snoc (cs := ((crs r (liveT r es)).take i)) (c := ((atE ((liveT r es).getD i dE) r), ((liveT r es).getD i dE).wi))))) (And.intro (congrArg some (own_congr (by rw [hhas]) (by rw [hhas]))) (True.intro))) [15] rfl⟩
    · skip
      refine l_val rfl (o_move rfl) ?_
      refine l_no rfl ?_
      refine l_no rfl ?_
      refine l_no rfl ?_
      refine l_no rfl ?_
      refine l_no rfl ?_
      refine l_no rfl ?_
      refine l_val rfl (o_pickF rfl rfl) ?_
      refine l_nil ?_
      refine kt_norm ?_
      refine v_condF rfl ?_
      refine v_exit ?_
      refine kt_exit ?_
      refine kt_exit ?_
      refine kb_eq ?_
      refine kt_norm ?_
      refine v_sel [10, 8, 6, 7, 1, 5, 9, 45, 46, 47, 48, 49, 50] [15, 39, 2007] rfl rfl ?_
      refine v_seq ?_
      refine v_region ?_
      refine l_val rfl (o_move rfl) ?_
      refine l_val rfl (o_move rfl) ?_
      refine l_val rfl (o_len rfl hv7) ?_
      refine l_split rfl (o_eql rfl rfl) (fun q4 => ?_) (fun q4 => ?_)
      · skip
        refine l_val rfl (o_move rfl) ?_
        refine l_no rfl ?_
        refine l_no rfl ?_
        refine l_no rfl ?_
        refine l_no rfl ?_
        refine l_no rfl ?_
        refine l_no rfl ?_
        refine l_val rfl (o_pickT rfl rfl) ?_
        refine l_nil ?_
        refine kt_norm ?_
        refine v_condT rfl ?_
        refine v_drawW [(70, 0 + j), (73, 0 + j + 1), (77, 0 + j + 1 + ((keysOf ((crs r (liveT r es)).take i)).length - j))] [[], [], [], [2007], [66, 2007], [], [], [66, 72], [], [], [], [66, 2007], []] mixed ?_ (by kernel_rfl) (by kernel_rfl)
        have hput : keysOf ((crs r (liveT r es)).take (i + 1)) = (keysOf ((crs r (liveT r es)).take i)).take j ++ (atE ((liveT r es).getD i dE) r) :: (keysOf ((crs r (liveT r es)).take i)).drop j := by rw [hct]; exact keys_put hj hB (fun h => by first | (exfalso; omega) | exact h1010) (fun h => by first | (exfalso; omega) | exact h1210)
        refine d_bsO (n := 0) (vs := fun _ => []) (cs := fun _ => []) (fun _ => rfl) (fun _ => rfl) (fun _ => rfl) rfl rfl (fun _ => rfl) (fun _ => rfl) ?_
        refine d_val (fun _ => rfl) rfl rfl (fun σ13 => o_move rfl) ?_
        refine d_val (fun _ => rfl) rfl rfl (fun σ13 => o_move rfl) ?_
        refine d_val (fun _ => rfl) rfl rfl (fun _ => o_sliceTo (key := 2007) j rfl rfl rfl rfl (by omega)) ?_
        refine d_app 66 (n := 0) (mm := j) (κ := [2007]) (fun _ => rfl) (fun _ => rfl) (fun _ => rfl) (fun _ => rfl) rfl (fun σ13 => rowV_to hv7 (by omega)) (fun σ13 => row_to (key := 2007) rfl (by omega)) (by omega) (fun _ h => h) ?_
        refine d_val (fun _ => rfl) rfl rfl (fun σ13 => o_move rfl) ?_
        refine d_bsO (n := 1) (vs := fun _ => [_]) (cs := fun _ => [_]) (fun _ => rfl) (fun _ => rfl) (fun _ => rfl) rfl rfl (fun _ => rfl) (fun _ => rfl) ?_
        refine d_app 66 (n := 0 + j) (mm := 1) (κ := [72]) (fun _ => rfl) (fun _ => rfl) (fun _ => rfl) (fun _ => rfl) rfl (fun σ13 => .inl ⟨_, _, _, rfl⟩) (fun σ13 => row_own (key := 72) rfl) (by omega) (fun _ h => h) ?_
        refine d_val (fun _ => rfl) rfl rfl (fun σ13 => o_move rfl) ?_
        refine d_val (fun _ => rfl) rfl rfl (fun σ13 => o_move rfl) ?_
        refine d_val (fun _ => rfl) rfl rfl (fun _ => o_sliceFrom (lo := j) rfl hv7 rfl rfl (by omega)) ?_
        refine d_app 66 (n := 0 + j + 1) (mm := (keysOf ((crs r (liveT r es)).take i)).length - j) (κ := [2007]) (fun _ => rfl) (fun _ => rfl) (fun _ => rfl) (fun _ => rfl) rfl (fun σ13 => rowV_from hv7 (by omega)) (fun σ13 => row_from (key := 2007) rfl (by omega)) (by omega) (fun _ h => h) ?_
        refine d_val (fun _ => rfl) rfl rfl (fun σ13 => o_assign rfl) ?_
        refine d_nil (fun σ13 => ?_)
        refine l_nil ?_
        refine kb_norm ?_
        refine kt_norm ?_
        refine v_sel [8, 6, 7, 1, 5, 45, 46, 47, 48, 49, 50, 59, 60, 61, 62, 63, 64] [15, 39, 66, 2007] rfl rfl ?_
        refine v_region ?_
        refine l_ren 66 2007 [15, 39] rfl rfl rfl ?_
        refine l_val rfl (o_move rfl) ?_
        refine l_val rfl (o_addi rfl rfl ?_) ?_
        · omega
        refine l_val rfl (o_assign rfl) ?_
        refine l_nil ?_
        refine kt_norm ?_
        refine ⟨(i + 1, v39, σ13.v 77), ⟨hil, hv39, RowV.to (show RowV (σ13.v 77) (0 + j + 1 + ((keysOf ((crs r (liveT r es)).take i)).length - j)) from σ13.ok 77) (keys_len hput hj)⟩, (by show (liveT r es).length - (i + 1) < (liveT r es).length - i; omega), le_app (And.intro rfl (And.intro rfl (And.intro rfl (True.intro)))) [1, 5] rfl (And.intro (congrArg some (own_congr rfl (by rw [hct]; exact crs_flat_snoc (cs := ((crs r (liveT r es)).take i)) (c := ((atE ((liveT r es).getD i dE) r), ((liveT r es).getD i dE).wi))))) (And.intro (congrArg some (own_congr (keys_len hput hj) (keys_flat hput))) (True.intro))) [15] rfl⟩
      · skip
        refine l_val rfl (o_move rfl) ?_
        refine l_val rfl (o_move rfl) ?_
        refine l_val rfl (o_move rfl) ?_
        refine l_val rfl (o_idx (j) rfl hv7 rfl (by first | rfl | omega) (by omega)) ?_
        refine l_val rfl (o_loadR1 rfl (row_own (key := 2007) rfl) (el_int (l := (keysOf ((crs r (liveT r es)).take i))) (i := j) (by omega))) ?_
        refine l_val rfl (o_move rfl) ?_
        refine l_split rfl (o_neq rfl rfl) (fun h1210 => ?_) (fun h1210 => ?_)
        · skip
          refine l_val rfl (o_pickF rfl rfl) ?_
          refine l_nil ?_
          refine kt_norm ?_
          refine v_condT rfl ?_
          refine v_drawW [(70, 0 + j), (73, 0 + j + 1), (77, 0 + j + 1 + ((keysOf ((crs r (liveT r es)).take i)).length - j))] [[], [], [], [2007], [66, 2007], [], [], [66, 72], [], [], [], [66, 2007], []] mixed ?_ (by kernel_rfl) (by kernel_rfl)
          have hput : keysOf ((crs r (liveT r es)).take (i + 1)) = (keysOf ((crs r (liveT r es)).take i)).take j ++ (atE ((liveT r es).getD i dE) r) :: (keysOf ((crs r (liveT r es)).take i)).drop j := by rw [hct]; exact keys_put hj hB (fun h => by first | (exfalso; omega) | exact h1010) (fun h => by first | (exfalso; omega) | exact h1210)
          refine d_bsO (n := 0) (vs := fun _ => []) (cs := fun _ => []) (fun _ => rfl) (fun _ => rfl) (fun _ => rfl) rfl rfl (fun _ => rfl) (fun _ => rfl) ?_
          refine d_val (fun _ => rfl) rfl rfl (fun σ13 => o_move rfl) ?_
          refine d_val (fun _ => rfl) rfl rfl (fun σ13 => o_move rfl) ?_
          refine d_val (fun _ => rfl) rfl rfl (fun _ => o_sliceTo (key := 2007) j rfl rfl rfl rfl (by omega)) ?_
          refine d_app 66 (n := 0) (mm := j) (κ := [2007]) (fun _ => rfl) (fun _ => rfl) (fun _ => rfl) (fun _ => rfl) rfl (fun σ13 => rowV_to hv7 (by omega)) (fun σ13 => row_to (key := 2007) rfl (by omega)) (by omega) (fun _ h => h) ?_
          refine d_val (fun _ => rfl) rfl rfl (fun σ13 => o_move rfl) ?_
          refine d_bsO (n := 1) (vs := fun _ => [_]) (cs := fun _ => [_]) (fun _ => rfl) (fun _ => rfl) (fun _ => rfl) rfl rfl (fun _ => rfl) (fun _ => rfl) ?_
          refine d_app 66 (n := 0 + j) (mm := 1) (κ := [72]) (fun _ => rfl) (fun _ => rfl) (fun _ => rfl) (fun _ => rfl) rfl (fun σ13 => .inl ⟨_, _, _, rfl⟩) (fun σ13 => row_own (key := 72) rfl) (by omega) (fun _ h => h) ?_
          refine d_val (fun _ => rfl) rfl rfl (fun σ13 => o_move rfl) ?_
          refine d_val (fun _ => rfl) rfl rfl (fun σ13 => o_move rfl) ?_
          refine d_val (fun _ => rfl) rfl rfl (fun _ => o_sliceFrom (lo := j) rfl hv7 rfl rfl (by omega)) ?_
          refine d_app 66 (n := 0 + j + 1) (mm := (keysOf ((crs r (liveT r es)).take i)).length - j) (κ := [2007]) (fun _ => rfl) (fun _ => rfl) (fun _ => rfl) (fun _ => rfl) rfl (fun σ13 => rowV_from hv7 (by omega)) (fun σ13 => row_from (key := 2007) rfl (by omega)) (by omega) (fun _ h => h) ?_
          refine d_val (fun _ => rfl) rfl rfl (fun σ13 => o_assign rfl) ?_
          refine d_nil (fun σ13 => ?_)
          refine l_nil ?_
          refine kb_norm ?_
          refine kt_norm ?_
          refine v_sel [8, 6, 7, 1, 5, 45, 46, 47, 48, 49, 50, 59, 60, 61, 62, 63, 64] [15, 39, 66, 2007] rfl rfl ?_
          refine v_region ?_
          refine l_ren 66 2007 [15, 39] rfl rfl rfl ?_
          refine l_val rfl (o_move rfl) ?_
          refine l_val rfl (o_addi rfl rfl ?_) ?_
          · omega
          refine l_val rfl (o_assign rfl) ?_
          refine l_nil ?_
          refine kt_norm ?_
          refine ⟨(i + 1, v39, σ13.v 77), ⟨hil, hv39, RowV.to (show RowV (σ13.v 77) (0 + j + 1 + ((keysOf ((crs r (liveT r es)).take i)).length - j)) from σ13.ok 77) (keys_len hput hj)⟩, (by show (liveT r es).length - (i + 1) < (liveT r es).length - i; omega), le_app (And.intro rfl (And.intro rfl (And.intro rfl (True.intro)))) [1, 5] rfl (And.intro (congrArg some (own_congr rfl (by rw [hct]; exact crs_flat_snoc (cs := ((crs r (liveT r es)).take i)) (c := ((atE ((liveT r es).getD i dE) r), ((liveT r es).getD i dE).wi))))) (And.intro (congrArg some (own_congr (keys_len hput hj) (keys_flat hput))) (True.intro))) [15] rfl⟩
        · skip
          refine l_val rfl (o_pickF rfl rfl) ?_
          refine l_nil ?_
          refine kt_norm ?_
          refine v_condF rfl ?_
          refine v_skip ?_
          refine kb_norm ?_
          refine kt_norm ?_
          refine v_sel [8, 6, 7, 1, 5, 45, 46, 47, 48, 49, 50, 59, 60, 61, 62, 63, 64] [15, 39, 2007] rfl rfl ?_
          refine v_region ?_
          have hhas : keysOf ((crs r (liveT r es)).take (i + 1)) = (keysOf ((crs r (liveT r es)).take i)) := by rw [hct]; exact keys_has (by omega) hB (Decidable.not_not.1 h1210)
          refine l_val rfl (o_move rfl) ?_
          refine l_val rfl (o_addi rfl rfl ?_) ?_
          · omega
          refine l_val rfl (o_assign rfl) ?_
          refine l_nil ?_
          refine kt_norm ?_
          refine ⟨(i + 1, v39, v7), ⟨hil, hv39, by rw [hhas]; exact hv7⟩, (by show (liveT r es).length - (i + 1) < (liveT r es).length - i; omega), le_app (And.intro rfl (And.intro rfl (And.intro rfl (True.intro)))) [1, 5] rfl (And.intro (congrArg some (own_congr rfl (by rw [hct]; exact crs_flat_snoc (cs := ((crs r (liveT r es)).take i)) (c := ((atE ((liveT r es).getD i dE) r), ((liveT r es).getD i dE).wi))))) (And.intro (congrArg some (own_congr (by rw [hhas]) (by rw [hhas]))) (True.intro))) [15] rfl⟩
  · skip
    refine l_nil ?_
    refine kt_norm ?_
    refine v_condF rfl ?_
    refine v_exit ?_
    refine kt_exit ?_
    refine kt_exit ?_
    refine kb_eq ?_
    refine kt_norm ?_
    refine v_sel [6, 7] [15, 39, 2007] rfl rfl ?_
    refine v_seq ?_
    refine v_region ?_
    obtain rfl : i = (liveT r es).length := by omega
    have htk : (crs r (liveT r es)).take (liveT r es).length = (crs r (liveT r es)) := List.take_of_length_le (by omega)
    rw [htk] at hv7
    have hw6 : RowV v6 (crs r (liveT r es)).length := by rw [hcl]; exact hv6
    refine l_buildSlice (vs := []) (cs := []) rfl rfl rfl rfl rfl rfl fun v78 hv78 => ?_
    refine l_val rfl (o_assign rfl) ?_
    refine l_nil ?_
    refine kt_norm ?_
    refine v_seq ?_
    refine v_seq ?_
    refine v_region ?_
    refine l_val rfl (o_assign rfl) ?_
    refine l_nil ?_
    refine kt_norm ?_
    refine v_block ?_
    refine v_ren 78 133 [15, 39, 2007] rfl rfl rfl ?_
    refine v_ren 39 2006 [15, 133, 2007] rfl rfl rfl ?_
    refine v_loopS (α := Nat × Value) (fun ⟨k, v11⟩ => [(12, .int .i64 (k : Int)), (11, v11)]) (fun ⟨k, v11⟩ => [(133, Hp.own v11 83 2 (docTo (crs r (liveT r es)) k).length ((docTo (crs r (liveT r es)) k).flatMap eS)), (2006, Hp.own v6 81 2 (crs r (liveT r es)).length ((crs r (liveT r es)).flatMap eC)), (2007, Hp.own v7 3 1 (keysOf (crs r (liveT r es))).length ((keysOf (crs r (liveT r es))).map (Value.int .i64)))])  (fun ⟨k, v11⟩ => k ≤ (keysOf (crs r (liveT r es))).length - 1 ∧ RowV v11 (docTo (crs r (liveT r es)) k).length) (fun ⟨k, v11⟩ => (keysOf (crs r (liveT r es))).length - k) (0, v78) [6, 7] [15] ⟨Nat.zero_le _, hv78⟩  (And.intro rfl (And.intro rfl (True.intro))) rfl (And.intro rfl (And.intro (congrArg some (own_congr hcl.symm (by rw [htk]))) (And.intro (congrArg some (own_congr (by rw [htk]) (by rw [htk]))) (True.intro)))) rfl ?_
    rintro ⟨k, v11⟩ ⟨hk, hv11⟩
    refine v_seq ?_
    refine v_seq ?_
    refine v_region ?_
    refine l_val rfl (o_move rfl) ?_
    refine l_val rfl (o_addi rfl rfl ?_) ?_
    · omega
    refine l_val rfl (o_move rfl) ?_
    refine l_val rfl (o_len rfl hv7) ?_
    refine l_split rfl (o_lss rfl rfl) (fun q5 => ?_) (fun q5 => ?_)
    · have hkl2 : k + 1 < (keysOf (crs r (liveT r es))).length := by omega
      have hdl := docTo_len (crs r (liveT r es)) k
      refine l_nil ?_
      refine kt_norm ?_
      refine v_condT rfl ?_
      refine v_skip ?_
      refine kt_norm ?_
      refine v_seq ?_
      refine v_block ?_
      refine v_seq ?_
      refine v_seq ?_
      refine v_region ?_
      refine l_val rfl (o_move rfl) ?_
      refine l_val rfl (o_move rfl) ?_
      refine l_val rfl (o_move rfl) ?_
      refine l_val rfl (o_idx (k) rfl hv7 rfl (by first | rfl | omega) (by omega)) ?_
      refine l_val rfl (o_loadR1 rfl (row_own (key := 2007) rfl) (el_int (l := (keysOf (crs r (liveT r es)))) (i := k) (by omega))) ?_
      refine l_call (ks := [2006]) rfl (o_callC (vs := [_, _]) (r := .int .i64 (sumTo (crs r (liveT r es)) ((keysOf (crs r (liveT r es))).getD k 0))) (ent_of Tryz.func36 rfl rfl) rfl (fun w' hg hh => r_winding w' v6 (crs r (liveT r es)) _ (by omega) (crs_wi hc) hw6 (rowAt_own (hh 2006 (by simp) _ rfl)))) ?_
      refine l_split rfl (o_eql rfl rfl) (fun h186 => ?_) (fun h186 => ?_)
      · skip
        refine l_nil ?_
        refine kt_norm ?_
        refine v_sel [12, 11, 6, 7, 92] [15, 133, 2006, 2007] rfl rfl ?_
        refine v_condT rfl ?_
        refine v_exit ?_
        refine kt_exit ?_
        refine kb_eq ?_
        refine kt_norm ?_
        refine v_region ?_
        refine l_val rfl (o_move rfl) ?_
        refine l_val rfl (o_addi rfl rfl ?_) ?_
        · omega
        refine l_val rfl (o_assign rfl) ?_
        refine l_nil ?_
        refine kt_norm ?_
        have hd := doc0 h186
        refine ⟨(k + 1, v11), ⟨by omega, by rw [hd]; exact hv11⟩, (by show (keysOf (crs r (liveT r es))).length - (k + 1) < (keysOf (crs r (liveT r es))).length - k; omega), le_app (And.intro rfl (And.intro rfl (True.intro))) [6, 7] rfl (And.intro (congrArg some (own_congr (by rw [hd]) (by rw [hd]))) (And.intro rfl (And.intro rfl (True.intro)))) [15] rfl⟩
      · skip
        refine l_nil ?_
        refine kt_norm ?_
        refine v_sel [12, 11, 6, 7, 92] [15, 133, 2006, 2007] rfl rfl ?_
        refine v_condF rfl ?_
        refine v_skip ?_
        refine kt_norm ?_
        refine v_seq ?_
        refine v_drawZ [[], [], [], [], [], [], [], [], [], [], [133], [], [], [], [2007], [], []] mixed ?_ (by kernel_rfl) (by kernel_rfl)
        refine d_val (fun _ => rfl) rfl rfl (fun _ => o_move rfl) ?_
        refine d_val (fun _ => rfl) rfl rfl (fun _ => o_len rfl hv11) ?_
        refine d_gtr (fun _ => rfl) (fun _ => rfl) (fun _ => rfl) (fun h192 => ?_) (fun h192 => ?_)
        · skip
          refine d_val (fun _ => rfl) rfl rfl (fun _ => o_move rfl) ?_
          refine d_val (fun _ => rfl) rfl rfl (fun _ => o_move rfl) ?_
          refine d_val (fun _ => rfl) rfl rfl (fun _ => o_move rfl) ?_
          refine d_val (fun _ => rfl) rfl rfl (fun _ => o_len rfl hv11) ?_
          refine d_val (fun _ => rfl) rfl rfl (fun _ => o_subi rfl rfl ?_) ?_
          · omega
          refine d_val (fun _ => rfl) rfl rfl (fun _ => o_idx ((docTo (crs r (liveT r es)) k).length - 1) rfl hv11 rfl (by first | rfl | omega) (by omega)) ?_
          refine d_val (fun _ => rfl) rfl rfl (fun _ => o_fld rfl) ?_
          refine d_val (fun _ => rfl) rfl rfl (fun _ => o_loadRF (f := 1) rfl (row_own (key := 133) rfl) (el_flat eS_len dS (docTo (crs r (liveT r es)) k) ((docTo (crs r (liveT r es)) k).length - 1) (by omega)) rfl) ?_
          refine d_val (fun _ => rfl) rfl rfl (fun _ => o_move rfl) ?_
          refine d_val (fun _ => rfl) rfl rfl (fun _ => o_move rfl) ?_
          refine d_val (fun _ => rfl) rfl rfl (fun _ => o_idx (k) rfl hv7 rfl (by first | rfl | omega) (by omega)) ?_
          refine d_val (fun _ => rfl) rfl rfl (fun _ => o_loadR1 rfl (row_own (key := 2007) rfl) (el_int (l := (keysOf (crs r (liveT r es)))) (i := k) (by omega))) ?_
          refine d_eql (fun _ => rfl) (fun _ => rfl) (fun _ => rfl) (fun h1915 => ?_) (fun h1915 => ?_)
          · skip
            refine d_val (fun _ => rfl) rfl rfl (fun _ => o_pickT rfl rfl) ?_
            refine d_nil (fun σ => ?_)
            refine l_nil ?_
            refine kt_norm ?_
            refine v_condT rfl ?_
            refine v_region ?_
            refine l_val rfl (o_move rfl) ?_
            refine l_val rfl (o_move rfl) ?_
            refine l_val rfl (o_len rfl hv11) ?_
            refine l_val rfl (o_subi rfl rfl ?_) ?_
            · omega
            refine l_val rfl (o_move rfl) ?_
            refine l_val rfl (o_move rfl) ?_
            refine l_val rfl (o_addi rfl rfl ?_) ?_
            · omega
            refine l_val rfl (o_idx (k + 1) rfl hv7 rfl (by first | rfl | omega) (by omega)) ?_
            refine l_val rfl (o_loadR1 rfl (row_own (key := 2007) rfl) (el_int (l := (keysOf (crs r (liveT r es)))) (i := k + 1) (by omega))) ?_
            refine l_val rfl (o_idx ((docTo (crs r (liveT r es)) k).length - 1) rfl hv11 rfl (by first | rfl | omega) (by omega)) ?_
            refine l_val rfl (o_fld rfl) ?_
            refine l_store rfl (o_storeRF (key := 133) rfl rfl rfl rfl rfl (by omega) (by decide)) ?_
            refine l_nil ?_
            refine kb_norm ?_
            refine kt_norm ?_
            refine v_sel [12, 11, 6, 7, 97, 98, 99, 100, 101, 102, 103, 104, 105, 106, 107, 108] [15, 133, 2006, 2007] rfl rfl ?_
            refine v_region ?_
            refine l_val rfl (o_move rfl) ?_
            refine l_val rfl (o_addi rfl rfl ?_) ?_
            · omega
            refine l_val rfl (o_assign rfl) ?_
            refine l_nil ?_
            refine kt_norm ?_
            have hd := doc1 h186 (by omega) h1915
            refine ⟨(k + 1, v11), ⟨by omega, by rw [hd]; exact hv11.to (dropLast_len (by omega))⟩, (by show (keysOf (crs r (liveT r es))).length - (k + 1) < (keysOf (crs r (liveT r es))).length - k; omega), le_app (And.intro rfl (And.intro rfl (True.intro))) [6, 7] rfl (And.intro (congrArg some (own_congr (by rw [hd]; exact dropLast_len (by omega)) (by rw [hd]; exact flat_last (by omega)))) (And.intro rfl (And.intro rfl (True.intro)))) [15] rfl⟩
          · skip
            refine d_val (fun _ => rfl) rfl rfl (fun _ => o_pickT rfl rfl) ?_
            refine d_nil (fun σ => ?_)
            refine l_nil ?_
            refine kt_norm ?_
            refine v_condF rfl ?_
            refine v_drawZ [[], [], [], [], [2007], [], [], [], [], [2007], [], []] mixed ?_ (by kernel_rfl) (by kernel_rfl)
            refine d_val (fun _ => rfl) rfl rfl (fun _ => o_move rfl) ?_
            refine d_val (fun _ => rfl) rfl rfl (fun _ => o_move rfl) ?_
            refine d_val (fun _ => rfl) rfl rfl (fun _ => o_move rfl) ?_
            refine d_val (fun _ => rfl) rfl rfl (fun _ => o_idx (k) rfl hv7 rfl (by first | rfl | omega) (by omega)) ?_
            refine d_val (fun _ => rfl) rfl rfl (fun _ => o_loadR1 rfl (row_own (key := 2007) rfl) (el_int (l := (keysOf (crs r (liveT r es)))) (i := k) (by omega))) ?_
            refine d_val (fun _ => rfl) rfl rfl (fun _ => o_move rfl) ?_
            refine d_val (fun _ => rfl) rfl rfl (fun _ => o_move rfl) ?_
            refine d_val (fun _ => rfl) rfl rfl (fun _ => o_addi rfl rfl ?_) ?_
            · omega
            refine d_val (fun _ => rfl) rfl rfl (fun _ => o_idx (k + 1) rfl hv7 rfl (by first | rfl | omega) (by omega)) ?_
            refine d_val (fun _ => rfl) rfl rfl (fun _ => o_loadR1 rfl (row_own (key := 2007) rfl) (el_int (l := (keysOf (crs r (liveT r es)))) (i := k + 1) (by omega))) ?_
            refine d_val (fun _ => rfl) rfl rfl (fun _ => o_build (vs := [_, _]) (cs := [_, _]) rfl rfl) ?_
            refine d_newS (fun _ => rfl) rfl rfl (fun _ => o_bs (vs := [_]) (cs := [_, _]) rfl rfl rfl rfl) ?_
            refine d_nil (fun σ => ?_)
            refine l_toOwn 132 [15, 133, 2006, 2007] (n := 1) 2 rfl rfl rfl rfl rfl rfl ?_
            refine l_append 133 [15, 132, 2006, 2007] rfl rfl rfl rfl rfl rfl rfl (.inl ⟨_, _, _, rfl⟩) (row_own (key := 132) rfl) (by omega) fun v133 hv133 => ?_
            refine l_val rfl (o_assign rfl) ?_
            refine l_nil ?_
            refine kb_norm ?_
            refine kt_norm ?_
            refine v_sel [12, 11, 6, 7, 97, 98, 99, 100, 101, 102, 103, 104, 105, 106, 107, 108] [15, 133, 2006, 2007] rfl rfl ?_
            refine v_region ?_
            refine l_val rfl (o_move rfl) ?_
            refine l_val rfl (o_addi rfl rfl ?_) ?_
            · omega
            refine l_val rfl (o_assign rfl) ?_
            refine l_nil ?_
            refine kt_norm ?_
            have hd := doc2 h186 (fun hp => by first | (exfalso; omega) | exact h1915)
            refine ⟨(k + 1, v133), ⟨by omega, by rw [hd, List.length_append]; exact hv133⟩, (by show (keysOf (crs r (liveT r es))).length - (k + 1) < (keysOf (crs r (liveT r es))).length - k; omega), le_app (And.intro rfl (And.intro rfl (True.intro))) [6, 7] rfl (And.intro (congrArg some (own_congr (by rw [hd, List.length_append]; rfl) (by rw [hd, List.flatMap_append]; simp [eS]))) (And.intro rfl (And.intro rfl (True.intro)))) [15] rfl⟩
        · skip
          refine d_val (fun _ => rfl) rfl rfl (fun _ => o_move rfl) ?_
          refine d_no (fun _ => rfl) ?_
          refine d_no (fun _ => rfl) ?_
          refine d_no (fun _ => rfl) ?_
          refine d_no (fun _ => rfl) ?_
          refine d_no (fun _ => rfl) ?_
          refine d_no (fun _ => rfl) ?_
          refine d_no (fun _ => rfl) ?_
          refine d_no (fun _ => rfl) ?_
          refine d_no (fun _ => rfl) ?_
          refine d_no (fun _ => rfl) ?_
          refine d_no (fun _ => rfl) ?_
          refine d_no (fun _ => rfl) ?_
          refine d_val (fun _ => rfl) rfl rfl (fun _ => o_pickF rfl rfl) ?_
          refine d_nil (fun σ => ?_)
          refine l_nil ?_
          refine kt_norm ?_
          refine v_condF rfl ?_
          refine v_drawZ [[], [], [], [], [2007], [], [], [], [], [2007], [], []] mixed ?_ (by kernel_rfl) (by kernel_rfl)
          refine d_val (fun _ => rfl) rfl rfl (fun _ => o_move rfl) ?_
          refine d_val (fun _ => rfl) rfl rfl (fun _ => o_move rfl) ?_
          refine d_val (fun _ => rfl) rfl rfl (fun _ => o_move rfl) ?_
          refine d_val (fun _ => rfl) rfl rfl (fun _ => o_idx (k) rfl hv7 rfl (by first | rfl | omega) (by omega)) ?_
          refine d_val (fun _ => rfl) rfl rfl (fun _ => o_loadR1 rfl (row_own (key := 2007) rfl) (el_int (l := (keysOf (crs r (liveT r es)))) (i := k) (by omega))) ?_
          refine d_val (fun _ => rfl) rfl rfl (fun _ => o_move rfl) ?_
          refine d_val (fun _ => rfl) rfl rfl (fun _ => o_move rfl) ?_
          refine d_val (fun _ => rfl) rfl rfl (fun _ => o_addi rfl rfl ?_) ?_
          · omega
          refine d_val (fun _ => rfl) rfl rfl (fun _ => o_idx (k + 1) rfl hv7 rfl (by first | rfl | omega) (by omega)) ?_
          refine d_val (fun _ => rfl) rfl rfl (fun _ => o_loadR1 rfl (row_own (key := 2007) rfl) (el_int (l := (keysOf (crs r (liveT r es)))) (i := k + 1) (by omega))) ?_
          refine d_val (fun _ => rfl) rfl rfl (fun _ => o_build (vs := [_, _]) (cs := [_, _]) rfl rfl) ?_
          refine d_newS (fun _ => rfl) rfl rfl (fun _ => o_bs (vs := [_]) (cs := [_, _]) rfl rfl rfl rfl) ?_
          refine d_nil (fun σ => ?_)
          refine l_toOwn 132 [15, 133, 2006, 2007] (n := 1) 2 rfl rfl rfl rfl rfl rfl ?_
          refine l_append 133 [15, 132, 2006, 2007] rfl rfl rfl rfl rfl rfl rfl (.inl ⟨_, _, _, rfl⟩) (row_own (key := 132) rfl) (by omega) fun v133 hv133 => ?_
          refine l_val rfl (o_assign rfl) ?_
          refine l_nil ?_
          refine kb_norm ?_
          refine kt_norm ?_
          refine v_sel [12, 11, 6, 7, 97, 98, 99, 100, 101, 102, 103, 104, 105, 106, 107, 108] [15, 133, 2006, 2007] rfl rfl ?_
          refine v_region ?_
          refine l_val rfl (o_move rfl) ?_
          refine l_val rfl (o_addi rfl rfl ?_) ?_
          · omega
          refine l_val rfl (o_assign rfl) ?_
          refine l_nil ?_
          refine kt_norm ?_
          have hd := doc2 h186 (fun hp => by first | (exfalso; omega) | exact h1915)
          refine ⟨(k + 1, v133), ⟨by omega, by rw [hd, List.length_append]; exact hv133⟩, (by show (keysOf (crs r (liveT r es))).length - (k + 1) < (keysOf (crs r (liveT r es))).length - k; omega), le_app (And.intro rfl (And.intro rfl (True.intro))) [6, 7] rfl (And.intro (congrArg some (own_congr (by rw [hd, List.length_append]; rfl) (by rw [hd, List.flatMap_append]; simp [eS]))) (And.intro rfl (And.intro rfl (True.intro)))) [15] rfl⟩
    · skip
      refine l_nil ?_
      refine kt_norm ?_
      refine v_condF rfl ?_
      refine v_exit ?_
      refine kt_exit ?_
      refine kt_exit ?_
      refine kb_eq ?_
      refine kt_norm ?_
      refine v_sel [11] [15, 133, 2006, 2007] rfl rfl ?_
      refine v_seq ?_
      refine v_region ?_
      obtain rfl : k = (keysOf (crs r (liveT r es))).length - 1 := by omega
      refine l_val rfl (o_move rfl) ?_
      refine l_val rfl (o_assign rfl) ?_
      refine l_nil ?_
      refine kt_norm ?_
      refine v_ret ?_
      refine ⟨[_], .cons (.tmp rfl) (ResAll.nil), ?_⟩
      exact ⟨133, rfl⟩
end Go.Proofs.YtaijclimdfchfaaGreat
