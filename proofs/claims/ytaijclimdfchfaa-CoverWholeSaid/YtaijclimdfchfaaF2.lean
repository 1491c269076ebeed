import Derived.Test.YtaijclimdfchfaaF1
/- The spans of a row. Conditions: none. -/
namespace Go.Proofs.Ytaijclimdfchfaa
open Go.Proofs Go.RowKit Go.Shelf

/-- an edge whose crossing of row r can be told -/
structure CrossOk (r : Int) (e : EdgeT) : Prop where
  rr : -1073741824 ≤ r ∧ r ≤ 1073741824
  x : -1099511627776 ≤ e.x ∧ e.x ≤ 1099511627776
  y : -1099511627776 ≤ e.y ∧ e.y ≤ 1099511627776
  d : -1099511627776 ≤ e.dx ∧ e.dx ≤ 1099511627776
  dy : 0 < e.dy ∧ e.dy ≤ 1099511627776
  p : -4611686018427387904 ≤ (16 * r + 8 - e.y) * e.dx ∧ (16 * r + 8 - e.y) * e.dx ≤ 4611686018427387904
  at_ : -1073741824 ≤ atE e r ∧ atE e r ≤ 1073741824
  wi : Unit e
theorem crossOk_of {e : EdgeT} {r : Int} (h : EdgeOk e) (hu : Unit e) (h1 : e.fr ≤ r) (h2 : r < e.to) : CrossOk r e := by
  have hr := h.rows; have hx := h.x; have hx2 := h.x2; have hy := h.y; have hy2 := h.y2; have hd := h.dy
  exact ⟨by omega, by omega, by omega, by omega, by omega, h.prod h1 h2, h.at_ h1 h2, hu⟩
theorem crossOk_cut {e : EdgeT} {r f t : Int} (h : CrossOk r e) : CrossOk r (cutE f t e) := ⟨h.rr, h.x, h.y, h.d, h.dy, h.p, h.at_, h.wi⟩
/-- the crossings of a row -/
def crs (r : Int) (es : List EdgeT) : List (Int × Int) := es.map fun e => (atE e r, e.wi)
theorem crs_len (r : Int) (es : List EdgeT) : (crs r es).length = es.length := by simp [crs]
theorem crs_getD {r : Int} {es : List EdgeT} {i : Nat} (h : i < es.length) : (crs r es)[i]? = some (atE (es.getD i dE) r, (es.getD i dE).wi) := by
  unfold crs
  rw [List.getElem?_map, List.getElem?_eq_getElem h, List.getD_eq_getElem?_getD, List.getElem?_eq_getElem h]; rfl
theorem crs_take {r : Int} {es : List EdgeT} {i : Nat} (h : i < es.length) : (crs r es).take (i + 1) = (crs r es).take i ++ [(atE (es.getD i dE) r, (es.getD i dE).wi)] := by
  rw [List.take_add_one, crs_getD h]; rfl
def WiOk (cs : List (Int × Int)) : Prop := ∀ c ∈ cs, c.2 = 1 ∨ c.2 = -1
theorem sumAt_bound {cs : List (Int × Int)} (h : WiOk cs) (x : Int) : -(cs.length : Int) ≤ sumAt cs x ∧ sumAt cs x ≤ cs.length :=
  sumF_bound cs fun c hc => by have := h c hc; split <;> omega
theorem rowTo_bound {cs : List (Int × Int)} (h : WiOk cs) (k : Nat) (hk : k ≤ (keysOf cs).length) : -(cs.length : Int) ≤ (rowTo cs k).1 ∧ (rowTo cs k).1 ≤ cs.length := by
  rw [rowTo_w cs k hk, sum_keys cs (inc_take (keysOf_inc cs) k)]
  exact sumF_bound cs fun c hc => by have := h c hc; split <;> omega
theorem crs_wi {r : Int} {es : List EdgeT} (h : ∀ e ∈ es, CrossOk r e) : WiOk (crs r es) := fun c hc => by
  obtain ⟨e, he, rfl⟩ := List.mem_map.1 hc
  exact (h e he).wi
theorem wiOk_take {cs : List (Int × Int)} (h : WiOk cs) (k : Nat) : WiOk (cs.take k) := fun c hc => h c (List.mem_of_mem_take hc)
theorem live_getD {r : Int} {es : List EdgeT} {i : Nat} (h : ∀ e ∈ liveT r es, CrossOk r e) (hi : i < (liveT r es).length) : CrossOk r ((liveT r es).getD i dE) := by
  refine h _ ?_
  rw [List.getD_eq_getElem?_getD, List.getElem?_eq_getElem hi]; exact List.getElem_mem hi
/-- what is handed on, by place -/
def prs (cs : List (Int × Int)) : List (Int × Int) := (keysOf cs).map fun x => (x, sumAt cs x)
theorem prs_get {cs : List (Int × Int)} {k : Nat} {p : Int × Int} (h : (prs cs)[k]? = some p) : k < (keysOf cs).length ∧ p = ((keysOf cs).getD k 0, sumAt cs ((keysOf cs).getD k 0)) := by
  unfold prs at h
  rw [List.getElem?_map] at h
  by_cases hk : k < (keysOf cs).length
  · rw [List.getElem?_eq_getElem hk] at h
    simp only [Option.map_some, Option.some.injEq] at h
    refine ⟨hk, ?_⟩
    rw [List.getD_eq_getElem?_getD, List.getElem?_eq_getElem hk]; exact h.symm
  · rw [List.getElem?_eq_none (by omega)] at h; cases h
theorem prs_at {cs : List (Int × Int)} {k : Nat} (h : k < (keysOf cs).length) : (prs cs)[k]? = some ((keysOf cs).getD k 0, sumAt cs ((keysOf cs).getD k 0)) := by
  unfold prs
  rw [List.getElem?_map, List.getElem?_eq_getElem h, List.getD_eq_getElem?_getD, List.getElem?_eq_getElem h]; rfl
theorem prs_len (cs : List (Int × Int)) : (prs cs).length = (keysOf cs).length := by simp [prs]
theorem el_int {l : List Int} {i : Nat} (h : i < l.length) : El (l.map (Value.int .i64)) 1 i [.int .i64 (l.getD i 0)] := ⟨rfl, fun f hf => by
  obtain rfl : f = 0 := by omega
  rw [Nat.mul_one, Nat.add_zero, List.getElem?_map, List.getElem?_eq_getElem h, List.getD_eq_getElem?_getD, List.getElem?_eq_getElem h]; rfl⟩
theorem key_bound {cs : List (Int × Int)} {B : Int} (h : ∀ c ∈ cs, -B ≤ c.1 ∧ c.1 ≤ B) {k : Nat} (hk : k < (keysOf cs).length) : -B ≤ (keysOf cs).getD k 0 ∧ (keysOf cs).getD k 0 ≤ B := by
  obtain ⟨c, hc, e⟩ := keysOf_mem.1 (getD_mem hk)
  rw [← e]; exact h c hc
theorem crs_bound {r : Int} {es : List EdgeT} (h : ∀ e ∈ es, CrossOk r e) : ∀ c ∈ crs r es, -1073741824 ≤ c.1 ∧ c.1 ≤ 1073741824 := fun c hc => by
  obtain ⟨e, he, rfl⟩ := List.mem_map.1 hc
  exact (h e he).at_
/-- spans lie between the least place and the greatest -/
theorem rowS_bound {cs : List (Int × Int)} {B : Int} (h : ∀ c ∈ cs, -B ≤ c.1 ∧ c.1 ≤ B) : ∀ s ∈ rowS cs, -B ≤ s.fr ∧ s.fr < s.to ∧ s.to ≤ B := fun s hs => by
  have hq := rowQ cs _ (Nat.le_refl _)
  obtain ⟨h1, h2⟩ := hq.from_ s hs
  obtain ⟨c, hc, e⟩ := keysOf_mem.1 h1
  obtain ⟨c', hc', e'⟩ := keysOf_mem.1 h2
  have b1 := h c hc; have b2 := h c' hc'
  exact ⟨by omega, hq.pos s hs, by omega⟩
theorem rowTo_out_len (cs : List (Int × Int)) : ∀ k, k ≤ (keysOf cs).length → (rowTo cs k).2.2.length ≤ k
  | 0, _ => Nat.le_refl _
  | k + 1, h => by
    have ih := rowTo_out_len cs k (by omega)
    rw [rowTo_succ (by omega)]
    simp only [stepR]
    split
    · omega
    · split
      · rw [List.length_append]; simp; omega
      · omega
theorem rowS_len (cs : List (Int × Int)) : (rowS cs).length ≤ cs.length := Nat.le_trans (rowTo_out_len cs _ (Nat.le_refl _)) (keysOf_len cs)
theorem a_crossed (w : World) (v : Value) (es : List EdgeT) (r : Int) (hn : es.length ≤ 100000) (hV : RowV v es.length) (hrow : RowAt w v 7 es.length (es.flatMap eE)) (hc : ∀ e ∈ liveT r es, CrossOk r e) :
    Calls Try.prog 44 #[v, .int .i64 r] w fun e w' => ∃ x : Nat × Nat, e = .returned (.func (.func 66) #[] #[.pointer (some ⟨x.1, 0, none⟩)]) ∧ Below w.heap.size w w' ∧ (Blk w' x.1 #[.map (some x.2)] 110 ∧ TallyAt w' x.2 (liveT r es).length (crs r (liveT r es))) ∧ ∀ b, (b = x.1 ∨ b = x.2) → w.heap.size ≤ b := by
  have hr : ∀ w', Chg (fun _ => False) w w' → RowAt w' v 7 es.length (es.flatMap eE) := fun w' h => hrow.chg h (fun h => h)
  have hll : (liveT r es).length ≤ es.length := List.length_filter_le _ _
  have hcl := crs_len r (liveT r es)
  refine calls_said (args := [v, .int .i64 r]) (fun x : Nat × Nat => .func (.func 66) #[] #[.pointer (some ⟨x.1, 0, none⟩)]) (fun x w' => Blk w' x.1 #[.map (some x.2)] 110 ∧ TallyAt w' x.2 (liveT r es).length (crs r (liveT r es))) (fun x b => b = x.1 ∨ b = x.2) Try.func44 rfl Try.ntmps44 Try.results44 rfl ?_
  refine v_seq ?_
  refine v_region ?_
  refine l_val rfl (o_assign rfl) ?_
  refine l_nil ?_
  refine kt_norm ?_
  refine v_seq ?_
  refine v_region ?_
  refine l_mapNew (fun b w => TallyAt w b 0 []) rfl tally_new (fun _ _ _ h e => tally_st h e) (fun _ _ h => tally_lt h) (fun bm hbm => ?_)
  refine l_new rfl o_alloc fun b5 => ?_
  refine l_store rfl (o_store1 (key := 5) (rs := [_]) rfl rfl rfl rfl rfl rfl rfl) ?_
  refine l_nil ?_
  refine kt_norm ?_
  refine v_seq ?_
  refine v_seq ?_
  refine v_region ?_
  skip
  refine l_val rfl (o_move rfl) ?_
  refine l_val rfl (o_move rfl) ?_
  refine l_gown (ks := []) (caps := #[]) (vs := [_, _]) rfl rfl (ent_of Try.func48 rfl rfl) rfl (fun w' hg hh => a_Live w' v es r (by omega) hV (hr w' hg.1)) fun y hy => ?_
  refine l_val rfl (o_len rfl hy) ?_
  refine l_val rfl (o_move rfl) ?_
  refine l_nil ?_
  refine kt_norm ?_
  refine v_block ?_
  refine v_loopL (α := Nat) (fun i => [(13, .int .i64 (i : Int))]) (fun i => []) (fun i => fun w' => Chg (fun _ => False) w w' ∧ TallyAt w' bm i ((crs r (liveT r es)).take i)) (fun i => fun b => (b < w.heap.size ∧ ¬ False) ∨ b = bm) (fun i => i ≤ (liveT r es).length) (fun i => (liveT r es).length - i) 0 [1, 5, 11, 12] [5, 11] (Nat.zero_le _) rfl rfl (And.intro rfl (True.intro)) rfl (True.intro) rfl ?_
  rintro i hi
  refine v_seq ?_
  refine v_region ?_
  refine l_split rfl (o_lss rfl rfl) (fun q1 => ?_) (fun q1 => ?_)
  · have hil : i < (liveT r es).length := by omega
    have hk := live_getD hc hil
    have hka := hk.at_
    have hkw := hk.wi
    unfold Unit at hkw
    have hct := crs_take (r := r) hil
    have hsb := sumAt_bound (wiOk_take (crs_wi hc) i) (atE ((liveT r es).getD i dE) r)
    have htl := List.length_take (i := i) (l := (crs r (liveT r es)))
    refine l_nil ?_
    refine kt_norm ?_
    refine v_seq ?_
    refine v_condT rfl ?_
    refine v_skip ?_
    refine kt_norm ?_
    refine v_seq ?_
    refine v_block ?_
    refine v_seq ?_
    refine v_region ?_
    refine l_val rfl (o_idx (i) rfl hy rfl (by first | rfl | omega) (by omega)) ?_
    refine l_val rfl (o_loadRE (c' := [_, _, _, _, _, _, _]) rfl (row_own (key := 11) rfl) (el_flat eE_len dE (liveT r es) (i) (by omega)) rfl) ?_
    refine l_new rfl o_alloc fun b7 => ?_
    refine l_store rfl (o_storeW (key := 7) (xs := [_, _, _, _, _, _, _]) rfl rfl rfl rfl rfl rfl rfl) ?_
    refine l_nil ?_
    refine kt_norm ?_
    refine v_drawZ [[5], [7], [], [], [], [7]] mixed ?_ (by kernel_rfl) (by kernel_rfl)
    refine d_val (fun _ => rfl) rfl rfl (fun _ => o_load1 (key := 5) rfl rfl rfl) ?_
    refine d_val (fun _ => rfl) rfl rfl (fun _ => o_loadW (key := 7) rfl rfl rfl) ?_
    refine d_val (fun _ => rfl) rfl rfl (fun _ => o_move rfl) ?_
    refine d_ans (vs := [_, _]) (fun _ => rfl) (fun _ => rfl) (a_At ((liveT r es).getD i dE) r hk.rr hk.x hk.y hk.d hk.dy hk.p) ?_
    refine d_val (fun _ => rfl) rfl rfl (fun _ => o_fld rfl) ?_
    refine d_val (fun _ => rfl) rfl rfl (fun _ => o_load1 (key := 7) rfl rfl rfl) ?_
    refine d_nil (fun σ => ?_)
    refine l_gturn (ks := []) (S := fun z => z = bm) (g' := fun w' => Chg (fun _ => False) w w' ∧ TallyAt w' bm (i + 1) ((crs r (liveT r es)).take (i + 1))) (caps := #[]) (vs := [_, _, _]) rfl rfl (ent_of Try.func64 rfl rfl) rfl (fun z hz => by subst hz; exact ⟨.inr rfl, .inl hbm⟩) (fun w1 w2 hc h1 => ⟨h1.1.trans (hc.mono fun k _ hk => .inr (Decidable.byContradiction fun hn => hk (.inl ⟨by omega, fun h => h⟩))), tally_st h1.2 (hc.block bm (tally_lt h1.2) fun hn => hn (.inr rfl))⟩) (fun w' hg _ => (a_Tally w' bm i ((crs r (liveT r es)).take i) _ _ (by omega) (by omega) (by omega) (by unfold maxLen; omega) hg.2).mono fun e w2 ⟨e1, e2, e3⟩ => ⟨e1, e2, hg.1.trans (e2.mono fun k _ hk => .inr (by subst hk; exact hbm)), by rw [hct]; exact e3⟩) (fun y2 => ?_)
    refine l_nil ?_
    refine kb_norm ?_
    refine kt_norm ?_
    refine v_sel [13, 1, 5, 11, 12] [5, 11] rfl rfl ?_
    refine v_region ?_
    refine l_val rfl (o_addi rfl rfl ?_) ?_
    · omega
    refine l_val rfl (o_move rfl) ?_
    refine l_nil ?_
    refine kt_norm ?_
    refine ⟨i + 1, hil, by omega, le_app (And.intro rfl (True.intro)) [1, 5, 11, 12] rfl (True.intro) [5, 11] rfl⟩
  · skip
    refine l_nil ?_
    refine kt_norm ?_
    refine v_seq ?_
    refine v_condF rfl ?_
    refine v_exit ?_
    refine kt_exit ?_
    refine kt_exit ?_
    refine kb_eq ?_
    refine kt_norm ?_
    refine v_seq ?_
    refine v_region ?_
    obtain rfl : i = (liveT r es).length := by omega
    refine l_val rfl (o_makeFunc (vs := [_]) rfl) ?_
    refine l_val rfl (o_assign rfl) ?_
    refine l_nil ?_
    refine kt_norm ?_
    refine v_sel [4] [5, 11] rfl rfl ?_
    refine v_ret ?_
    refine ⟨[_], .cons (.tmp rfl) (ResAll.nil), ?_⟩
    exact ⟨(b5, bm), rfl, fun w' ho => ⟨⟨(ho.mo 5 _ rfl).1, by have h1 := ho.gh.2; rw [List.take_of_length_le (by omega)] at h1; exact h1⟩, fun b hb => by rcases hb with rfl | rfl; exact ((ho.mo 5 _ rfl).2 _ rfl).elim id False.elim; exact hbm⟩⟩
set_option maxHeartbeats 1000000 in
theorem a_crossed1 (bx bm n : Nat) (cs : List (Int × Int)) (hl : cs.length ≤ 1000000) (hB : ∀ c ∈ cs, -1073741824 ≤ c.1 ∧ c.1 ≤ 1073741824) : Iter Try.prog 66 #[.pointer (some ⟨bx, 0, none⟩)] (fun p : Int × Int => [.int .i64 p.1, .int .i64 p.2]) (prs cs) (fun w => Blk w bx #[.map (some bm)] 110 ∧ TallyAt w bm n cs) := by
  intro lp J Jx O0 W hJ hJx hJG hround hJ0
  have gst : ∀ {w w' : World}, Blk w bx #[.map (some bm)] 110 ∧ TallyAt w bm n cs → Chg (fun _ => False) w w' → Blk w' bx #[.map (some bm)] 110 ∧ TallyAt w' bm n cs := fun h hc => ⟨(hc.block bx (Blk.lt h.1) (fun h => h)).trans h.1, tally_st h.2 (hc.block bm (tally_lt h.2) (fun h => h))⟩
  have hG0 := (hJG _ _ _ hJ0).1
  have hkl := keysOf_len cs
  refine enterI (A := fun W' => (∃ O', J (prs cs).length O' W') ∨ Jx W') (args := [.func (.yield lp) #[] #[], .pointer (some ⟨bx, 0, none⟩)]) Try.func66 rfl Try.ntmps66 Try.results66 rfl (fun w w' h hc => h.imp (fun ⟨O, h⟩ => ⟨O, hJ _ _ _ _ h hc⟩) (fun h => hJx _ _ h hc)) ?_
  refine v_seq ?_
  refine v_region ?_
  refine l_val rfl (o_loadG1 rfl (fun w hg => (gst hG0 hg).1.cell 0 _ rfl)) ?_
  refine l_gsaid (ks := []) (fun b : Nat => .func (.func 86) #[] #[.pointer (some ⟨b, 0, none⟩)]) (fun b w => Blk w b #[.map (some bm)] 110) (fun b z => z = b) (caps := #[]) (vs := [_]) rfl rfl (ent_of Try.func68 rfl rfl) rfl (fun b w1 w2 h e => (e b rfl).trans h) (fun b w1 z h e => by subst e; exact Blk.lt h) (fun w' hg _ => a_KeysM w' (some bm)) (fun b6 => ?_)
  refine l_gownB (ks := []) (caps := #[]) (vs := [_]) rfl rfl (ent_of Try.func67 rfl rfl) rfl (fun w' hg _ => a_SortedK w' b6 bm n cs hl hg.2 (gst hG0 hg.1).2) (fun y7 hy7 hyb => ?_)
  refine l_val rfl (o_len rfl hy7) ?_
  refine l_val rfl (o_move rfl) ?_
  refine l_nil ?_
  refine kt_norm ?_
  refine v_block ?_
  refine v_rebase (fun _ => trivial) (fun h => h) (fun W1 hg1 hm1 => ?_)
  have hok1 : (Hp.own y7 3 1 (keysOf cs).length ((keysOf cs).map (Value.int .i64))).ok W1 := hm1 7 _ rfl
  have hJ1 : J 0 O0 W1 := hJ _ _ _ _ hJ0 hg1.1
  have hO1 : ∀ b, y7.ownBlock = some b → ¬ O0 b := fun b hb ho => by have h1 := (hJG _ _ _ hJ0).2 b ho; have h2 : W.heap.size ≤ b := hyb b hb; omega
  refine v_loopL (α := Nat × World) (fun ⟨i, W2⟩ => [(9, .int .i64 (i : Int))]) (fun ⟨i, W2⟩ => []) (fun ⟨i, W2⟩ => fun w => Chg (fun _ => False) W2 w) (fun ⟨i, W2⟩ => fun b => b < W2.heap.size) (fun ⟨i, W2⟩ => i ≤ (keysOf cs).length ∧ ∃ O2, J i O2 W2 ∧ (∀ b, y7.ownBlock = some b → ¬ O2 b) ∧ (Hp.own y7 3 1 (keysOf cs).length ((keysOf cs).map (Value.int .i64))).ok W2) (fun ⟨i, W2⟩ => (keysOf cs).length - i) (0, W1) [0, 1, 7, 8] [] ⟨Nat.zero_le _, O0, hJ1, hO1, hok1⟩ rfl rfl (And.intro rfl (True.intro)) rfl (True.intro) rfl ?_
  rintro ⟨i, W2⟩ ⟨hi, O2, hJ2, hO2, hok2⟩
  have hrowK := fun w (hg : Chg (fun _ => False) W2 w) => (rowAt_own hok2).chg hg (fun h => h)
  have hGk := fun w (hg : Chg (fun _ => False) W2 w) => gst (hJG _ _ _ hJ2).1 hg
  refine v_seq ?_
  refine v_region ?_
  refine l_split rfl (o_lss rfl rfl) (fun q1 => ?_) (fun q1 => ?_)
  · have hil : i < (keysOf cs).length := by omega
    have hkb := key_bound hB hil
    refine l_nil ?_
    refine kt_norm ?_
    refine v_seq ?_
    refine v_condT rfl ?_
    refine v_skip ?_
    refine kt_norm ?_
    refine v_seq ?_
    refine v_block ?_
    refine v_seq ?_
    refine v_region ?_
    refine l_val rfl (o_idx (i) rfl hy7 rfl (by first | rfl | omega) (by omega)) ?_
    refine l_val rfl (o_loadR1 rfl (row_imm hrowK) (el_int (by omega))) ?_
    refine l_val rfl (o_assign rfl) ?_
    refine l_nil ?_
    refine kt_norm ?_
    refine v_seq ?_
    refine v_region ?_
    refine l_val rfl (o_move rfl) ?_
    refine l_val rfl (o_move rfl) ?_
    refine l_val rfl (o_loadG1 rfl (fun w hg => (hGk w hg).1.cell 0 _ rfl)) ?_
    refine l_val rfl (o_move rfl) ?_
    refine l_val rfl (o_lookup (b := bm) rfl rfl (fun w hg => tally_look (hGk w hg).2 (wf_of (by omega)))) ?_
    refine l_yield (k := 0) (vs := [_, _]) (A := fun W3 => ∃ O3, J (i + 1) O3 W3 ∧ (∀ b, y7.ownBlock = some b → ¬ O3 b) ∧ (Hp.own y7 3 1 (keysOf cs).length ((keysOf cs).map (Value.int .i64))).ok W3) (B := Jx) rfl rfl (fun _ => trivial) (fun h => h) rfl rfl rfl (fun w hg => ⟨O2, yieldAt_mono (hround _ _ O2 w (prs_at hil) (hJ _ _ _ _ hJ2 hg)) (fun e w2 h => h.imp (fun h => ⟨h.1, h.2.1, h.2.2.imp fun O3 h3 => ⟨h3.1, yield_keeps hok2 hg hO2 h.2.1 h3.2⟩⟩) id)⟩) (fun W3 hA => ?_) (fun W3 hBx => ?_)
    · obtain ⟨O3, hJ3, hO3, hok3⟩ := hA
      refine l_val rfl (o_not rfl rfl) ?_
      refine l_nil ?_
      refine kt_norm ?_
      refine v_sel [9, 0, 1, 7, 8, 19] [] rfl rfl ?_
      refine v_condF rfl ?_
      refine v_skip ?_
      refine kb_norm ?_
      refine kt_norm ?_
      refine v_region ?_
      refine l_val rfl (o_addi rfl rfl ?_) ?_
      · omega
      refine l_val rfl (o_move rfl) ?_
      refine l_nil ?_
      refine kt_norm ?_
      refine ⟨(i + 1, W3), ⟨hil, O3, hJ3, hO3, hok3⟩, (by show (keysOf cs).length - (i + 1) < (keysOf cs).length - i; omega), le_app (And.intro rfl (True.intro)) [0, 1, 7, 8] rfl (True.intro) [] rfl⟩
    · skip
      refine l_val rfl (o_not rfl rfl) ?_
      refine l_nil ?_
      refine kt_norm ?_
      refine v_sel [9, 0, 1, 7, 8, 19] [] rfl rfl ?_
      refine v_condT rfl ?_
      refine v_ret ?_
      refine kb_ret ?_
      refine kt_ret ?_
      refine kt_ret ?_
      refine kb_ret ?_
      refine ⟨[], ResAll.nil, ?_⟩
      first
        | exact ⟨rfl, fun w hg => .inr (hJx _ _ hBx hg)⟩
        | exact ⟨rfl, fun w hg => .inl ⟨O2, hJ _ _ _ _ (by rw [prs_len, show (keysOf cs).length = i by omega]; exact hJ2) hg⟩⟩
  · skip
    refine l_nil ?_
    refine kt_norm ?_
    refine v_seq ?_
    refine v_condF rfl ?_
    refine v_exit ?_
    refine kt_exit ?_
    refine kt_exit ?_
    refine kb_eq ?_
    refine ⟨[], ResAll.nil, ?_⟩
    first
      | exact ⟨rfl, fun w hg => .inr (hJx _ _ hBx hg)⟩
      | exact ⟨rfl, fun w hg => .inl ⟨O2, hJ _ _ _ _ (by rw [prs_len, show (keysOf cs).length = i by omega]; exact hJ2) hg⟩⟩
set_option maxHeartbeats 1000000 in
theorem a_Spans (w : World) (v : Value) (es : List EdgeT) (r : Int) (hn : es.length ≤ 100000) (hV : RowV v es.length) (hrow : RowAt w v 7 es.length (es.flatMap eE)) (hc : ∀ e ∈ liveT r es, CrossOk r e) :
    Calls Try.prog 17 #[v, .int .i64 r] w fun e w' => ∃ y, e = .returned y ∧ Below w.heap.size w w' ∧ OwnAt w.heap.size w' y 31 2 (rowS (crs r (liveT r es))).length ((rowS (crs r (liveT r es))).flatMap eS) := by
  have hr : ∀ w', Chg (fun _ => False) w w' → RowAt w' v 7 es.length (es.flatMap eE) := fun w' h => hrow.chg h (fun h => h)
  have hll : (liveT r es).length ≤ es.length := List.length_filter_le _ _
  have hcl := crs_len r (liveT r es)
  have hkl := keysOf_len (crs r (liveT r es))
  refine calls_own (args := [v, .int .i64 r]) Try.func17 rfl Try.ntmps17 Try.results17 rfl ?_
  refine v_seq ?_
  refine v_region ?_
  refine l_new rfl o_alloc fun b4 => ?_
  refine l_nil ?_
  refine kt_norm ?_
  refine v_seq ?_
  refine v_region ?_
  refine l_new rfl o_alloc fun b5 => ?_
  refine l_new rfl o_alloc fun b6 => ?_
  refine l_store rfl (o_store1 (key := 5) (rs := [_]) rfl rfl rfl rfl rfl rfl rfl) ?_
  refine l_store rfl (o_store1 (key := 6) (rs := [_]) rfl rfl rfl rfl rfl rfl rfl) ?_
  refine l_nil ?_
  refine kt_norm ?_
  refine v_seq ?_
  refine v_seq ?_
  refine v_region ?_
  refine l_val rfl (o_move rfl) ?_
  refine l_val rfl (o_move rfl) ?_
  refine l_gsaid (ks := []) (fun x : Nat × Nat => .func (.func 66) #[] #[.pointer (some ⟨x.1, 0, none⟩)]) (fun x w' => Blk w' x.1 #[.map (some x.2)] 110 ∧ TallyAt w' x.2 (liveT r es).length (crs r (liveT r es))) (fun x b => b = x.1 ∨ b = x.2) (caps := #[]) (vs := [_, _]) rfl rfl (ent_of Try.func44 rfl rfl) rfl (fun x w1 w2 h e => ⟨(e x.1 (.inl rfl)).trans h.1, tally_st h.2 (e x.2 (.inr rfl))⟩) (fun x w1 b h hb => by rcases hb with rfl | rfl; exact Blk.lt h.1; exact tally_lt h.2) (fun w' hg _ => a_crossed w' v es r hn hV (hr w' hg) hc) (fun x12 => ?_)
  refine l_nil ?_
  refine kt_norm ?_
  refine v_block ?_
  refine v_ghost 31 31 2 ?_
  refine v_range (τ := Value × RowS) rfl rfl rfl (ent_of Try.func66 rfl rfl) (a_crossed1 x12.1 x12.2 (liveT r es).length (crs r (liveT r es)) (by omega) (crs_bound hc)) (fun w' hg => hg.2) (fun _ => rfl) (fun t => [(4, .box b4 26 [t.1]), (5, .box b5 3 [.int .i64 t.2.1]), (6, .box b6 3 [.int .i64 t.2.2.1]), (31, .own t.1 31 2 t.2.2.2.length (t.2.2.2.flatMap eS))]) (fun k t => t.2 = rowTo (crs r (liveT r es)) k ∧ RowV t.1 t.2.2.2.length) (.slice none 0 0, 0, 0, []) ⟨rfl, .nil0⟩ [4, 5, 6, 31] rfl ?_ ?_
  · rintro k x ⟨va, wn, fr, out⟩ lp W1 Wa hx ⟨hs, hva⟩
    dsimp only at hs hva
    obtain ⟨hk, rfl⟩ := prs_get hx
    have e1 : wn = (rowTo (crs r (liveT r es)) k).1 := by rw [← hs]
    have e3 : out = (rowTo (crs r (liveT r es)) k).2.2 := by rw [← hs]
    have hb1 := rowTo_bound (crs_wi hc) k (by omega)
    have hb2 := sumAt_bound (crs_wi hc) ((keysOf (crs r (liveT r es))).getD k 0)
    have hb3 := rowTo_out_len (crs r (liveT r es)) k (by omega)
    rw [← e1] at hb1
    rw [← e3] at hb3
    dsimp only
    refine v_seq ?_
    refine v_region ?_
    refine l_val rfl (o_assign rfl) ?_
    refine l_nil ?_
    refine kt_norm ?_
    refine v_region ?_
    refine l_val rfl (o_assign rfl) ?_
    refine l_nil ?_
    refine ⟨rfl, rfl, rfl, rfl, fun W2 Wb => ?_⟩
    refine v_block ?_
    refine v_seq ?_
    refine v_region ?_
    refine l_val rfl (o_load1 (key := 5) rfl rfl rfl) ?_
    refine l_val rfl (o_assign rfl) ?_
    refine l_nil ?_
    refine kt_norm ?_
    refine v_sel [0, 1, 4, 5, 6, 7, 8, 9] [4, 5, 6, 31] rfl rfl ?_
    refine v_seq ?_
    refine v_region ?_
    refine l_val rfl (o_load1 (key := 5) rfl rfl rfl) ?_
    refine l_val rfl (o_move rfl) ?_
    refine l_val rfl (o_addi rfl rfl ?_) ?_
    · omega
    refine l_store rfl (o_store1 (key := 5) (rs := [_]) rfl rfl rfl rfl rfl rfl rfl) ?_
    refine l_nil ?_
    refine kt_norm ?_
    refine v_block ?_
    refine v_seq ?_
    refine v_region ?_
    refine l_val rfl (o_move rfl) ?_
    refine l_split rfl (o_eql rfl rfl) (fun h71 => ?_) (fun h71 => ?_)
    · skip
      refine l_val rfl (o_assign rfl) ?_
      refine l_nil ?_
      refine kt_norm ?_
      refine v_sel [0, 1, 4, 5, 6, 7, 8, 19] [4, 5, 6, 31] rfl rfl ?_
      refine v_condT rfl ?_
      refine v_region ?_
      refine l_val rfl (o_move rfl) ?_
      refine l_store rfl (o_store1 (key := 6) (rs := [_]) rfl rfl rfl rfl rfl rfl rfl) ?_
      refine l_nil ?_
      refine kb_norm ?_
      refine kb_norm ?_
      exact ⟨rfl, (va, wn + sumAt (crs r (liveT r es)) ((keysOf (crs r (liveT r es))).getD k 0), ((keysOf (crs r (liveT r es))).getD k 0), out), ⟨by rw [rowTo_succ hk, ← hs, stepR0 h71], hva⟩, ⟨fun _ _ h => (by cases h), leL_ok _ (And.intro rfl (And.intro rfl (And.intro rfl (And.intro rfl True.intro)))), rfl, rfl, rfl⟩⟩
    · skip
      refine l_val rfl (o_assign rfl) ?_
      refine l_nil ?_
      refine kt_norm ?_
      refine v_sel [0, 1, 4, 5, 6, 7, 8, 19] [4, 5, 6, 31] rfl rfl ?_
      refine v_condF rfl ?_
      refine v_seq ?_
      refine v_region ?_
      refine l_val rfl (o_load1 (key := 5) rfl rfl rfl) ?_
      refine l_split rfl (o_eql rfl rfl) (fun h91 => ?_) (fun h91 => ?_)
      · skip
        refine l_val rfl (o_assign rfl) ?_
        refine l_nil ?_
        refine kt_norm ?_
        refine v_condT rfl ?_
        refine v_region ?_
        refine l_val rfl (o_load1 (key := 4) rfl rfl rfl) ?_
        refine l_val rfl (o_load1 (key := 6) rfl rfl rfl) ?_
        refine l_val rfl (o_move rfl) ?_
        refine l_val rfl (o_build (vs := [_, _]) (cs := [_, _]) rfl rfl) ?_
        refine l_buildSlice (vs := [_]) (cs := [_, _]) rfl rfl rfl rfl rfl rfl fun v30 hv30 => ?_
        refine l_append 31 [4, 5, 6, 30] rfl rfl rfl rfl rfl rfl rfl hv30 (row_own (key := 30) rfl) (by omega) fun v31 hv31 => ?_
        refine l_store rfl (o_store1 (key := 4) (rs := [_]) rfl rfl (rowV_cells hv31) rfl rfl (rowV_one hv31) rfl) ?_
        refine l_nil ?_
        refine kb_norm ?_
        refine kb_norm ?_
        exact ⟨rfl, (v31, wn + sumAt (crs r (liveT r es)) ((keysOf (crs r (liveT r es))).getD k 0), fr, out ++ [⟨fr, ((keysOf (crs r (liveT r es))).getD k 0)⟩]), ⟨by rw [rowTo_succ hk, ← hs, stepR1 h71 h91], by rw [List.length_append]; exact hv31⟩, ⟨fun _ _ h => (by cases h), leL_ok _ (And.intro rfl (And.intro rfl (And.intro rfl (And.intro (congrArg some (own_congr (by simp) (by simp [eS]))) True.intro)))), rfl, rfl, rfl⟩⟩
      · skip
        refine l_val rfl (o_assign rfl) ?_
        refine l_nil ?_
        refine kt_norm ?_
        refine v_condF rfl ?_
        refine v_skip ?_
        refine kb_norm ?_
        refine kb_norm ?_
        exact ⟨rfl, (va, wn + sumAt (crs r (liveT r es)) ((keysOf (crs r (liveT r es))).getD k 0), fr, out), ⟨by rw [rowTo_succ hk, ← hs, stepR2 h71 h91], hva⟩, ⟨fun _ _ h => (by cases h), leL_ok _ (And.intro rfl (And.intro rfl (And.intro rfl (And.intro rfl True.intro)))), rfl, rfl, rfl⟩⟩
  · rintro ⟨va, wn, fr, out⟩ D ⟨hs, hva⟩
    dsimp only at hs hva
    rw [prs_len] at hs
    obtain rfl : out = rowS (crs r (liveT r es)) := congrArg (fun t : RowS => t.2.2) hs
    refine kb_norm ?_
    refine kt_norm ?_
    refine v_sel [4] [4, 31] rfl rfl ?_
    refine v_seq ?_
    refine v_region ?_
    refine l_val rfl (o_load1 (key := 4) rfl rfl rfl) ?_
    refine l_store rfl (o_store1 (key := 4) (rs := [_]) rfl rfl (rowV_cells hva) rfl rfl (rowV_one hva) rfl) ?_
    refine l_nil ?_
    refine kt_norm ?_
    refine v_ret ?_
    refine ⟨[_], .cons (.cell1 (key := 4) rfl rfl) (ResAll.nil), ?_⟩
    exact ⟨31, rfl⟩
end Go.Proofs.Ytaijclimdfchfaa
