import Derived.Test.YtaijclimdfchfaaF9
/- The cover of pieces in a view. Conditions: none. -/
namespace Go.Proofs.Ytaijclimdfchfaa
open Go.Proofs Go.RowKit Go.Shelf

/-- a slice's capacity is no less than its length -/
def Capd (v : Value) : Prop := ∀ a n c, v = .slice a n c → n ≤ c
theorem capd_own {w : World} {v : Value} {E esz n : Nat} {xs : List Value} (h : (Hp.own v E esz n xs).ok w) : Capd v := fun a n' c e => by
  rcases h.1.2 with ⟨rfl, rfl⟩ | ⟨g, cap, cur, rfl, h0, hg, hnc, hcm, hcs, htake⟩
  · cases e; exact Nat.le_refl _
  · cases e; exact hnc
theorem capd_from {v : Value} {esz lo : Nat} (h : Capd v) : Capd (subFrom v esz lo) := fun a n c e => by
  unfold subFrom at e
  split at e
  · rename_i a' n' c'
    have := h a' n' c' rfl
    cases e; omega
  · exact h a n c e
theorem rowAt_drop {w : World} {v : Value} {esz n lo : Nat} {xs : List Value} (h : RowAt w v esz n xs) (hv : RowV v n) (hc : Capd v) (hle : lo ≤ n) : RowAt w (subFrom v esz lo) esz (n - lo) (xs.drop (lo * esz)) := by
  refine ⟨by rw [List.length_drop, h.len, Nat.sub_mul], fun j u hu => ?_, fun u hu => h.one u (List.mem_of_mem_drop hu)⟩
  rw [List.getElem?_drop] at hu
  have h1 := h.at_ _ u hu
  have hj : lo * esz + j < xs.length := (List.getElem?_eq_some_iff.1 hu).1
  rw [h.len] at hj
  have hlt : lo < n := by
    rcases Nat.lt_or_ge lo n with h | h
    · exact h
    · have := Nat.mul_le_mul_right esz h; omega
  rcases hv with ⟨b, o, c, rfl⟩ | ⟨rfl, rfl⟩ | ⟨a, c, rfl, rfl⟩
  · have h2 := hc _ _ _ rfl
    simp only [subFrom, if_neg (show ¬ c = lo by omega), Option.map_some, addAt, blkOf, offOf] at h1 ⊢
    rw [Nat.add_assoc]; exact h1
  · omega
  · omega
set_option maxHeartbeats 2000000 in
theorem a_cover (w : World) (v : Value) (pvs : List Value) (ps : List (List PtT)) (X Y : Int) (n h : Nat) (hb : Bnd ps) (hvp : PcsV v pvs ps) (hat : PcsAt w v pvs ps) (hvw : ViewOk X Y (n : Int) (h : Int)) :
    Calls Try.prog 26 #[v, .agg #[.int .i64 X, .int .i64 Y, .int .i64 (n : Int), .int .i64 (h : Int)]] w fun e w' => ∃ x : Value, e = .returned (.tuple #[.agg #[.int .i64 (n : Int), .int .i64 (h : Int), x], .int .i64 0]) ∧ Below w.heap.size w w' ∧ (Hp.own x 5 1 (pixT (tabT X Y (n : Int) (h : Int) ps) X Y n h).length (iU (pixT (tabT X Y (n : Int) (h : Int) ps) X Y n h))).ok w' ∧ ∀ b, x.ownBlock = some b → w.heap.size ≤ b := by
  have vd := (viewOk_def X Y (n : Int) (h : Int)).1 hvw
  refine calls_said (args := [v, .agg #[.int .i64 X, .int .i64 Y, .int .i64 (n : Int), .int .i64 (h : Int)]]) (fun x => .tuple #[.agg #[.int .i64 (n : Int), .int .i64 (h : Int), x], .int .i64 0]) (fun x w' => (Hp.own x 5 1 (pixT (tabT X Y (n : Int) (h : Int) ps) X Y n h).length (iU (pixT (tabT X Y (n : Int) (h : Int) ps) X Y n h))).ok w') (fun x b => x.ownBlock = some b) Try.func26 rfl Try.ntmps26 Try.results26 rfl ?_
  refine v_seq ?_
  refine v_region ?_
  refine l_new rfl (o_box (cs := [_, _, _, _]) rfl rfl) fun b3 => ?_
  refine l_new rfl o_alloc fun b4 => ?_
  refine l_val rfl (o_assign rfl) ?_
  refine l_nil ?_
  refine kt_norm ?_
  refine v_seq ?_
  refine v_seq ?_
  refine v_region ?_
  refine l_val rfl (o_loadW (key := 3) rfl rfl rfl) ?_
  refine l_ans (vs := [_]) rfl rfl ((show Ans Try.prog _ _ (.int .i64 0) by have := a_Check X Y (n : Int) (h : Int); rwa [if_pos hvw] at this)) ?_
  refine l_val rfl (o_assign rfl) ?_
  refine l_nil ?_
  refine kt_norm ?_
  refine v_seq ?_
  refine v_region ?_
  refine l_val rfl (o_move rfl) ?_
  refine l_split rfl (o_neq rfl rfl) (fun q1 => absurd q1 (by omega)) (fun q1 => ?_)
  refine l_nil ?_
  refine kt_norm ?_
  refine v_condF rfl ?_
  refine v_skip ?_
  refine kt_norm ?_
  refine v_sel [0, 3, 4] [3, 4] rfl rfl ?_
  refine v_seq ?_
  refine v_drawW [] [[], [3], [], [3], [], [3], [], [3], [], [], [], []] mixed ?_ (by kernel_rfl) (by kernel_rfl)
  refine d_val (fun _ => rfl) rfl rfl (fun σ4 => o_fld rfl) ?_
  refine d_val (fun _ => rfl) rfl rfl (fun σ4 => o_load1 (key := 3) rfl rfl rfl) ?_
  refine d_val (fun _ => rfl) rfl rfl (fun σ4 => o_fld rfl) ?_
  refine d_val (fun _ => rfl) rfl rfl (fun σ4 => o_load1 (key := 3) rfl rfl rfl) ?_
  refine d_val (fun _ => rfl) rfl rfl (fun σ4 => o_build (vs := [_, _]) (cs := [_, _, _]) rfl rfl) ?_
  refine d_val (fun _ => rfl) rfl rfl (fun σ4 => o_loadW (key := 3) rfl rfl rfl) ?_
  refine d_val (fun _ => rfl) rfl rfl (fun σ4 => o_fld rfl) ?_
  refine d_val (fun _ => rfl) rfl rfl (fun σ4 => o_load1 (key := 3) rfl rfl rfl) ?_
  refine d_mkO (n := n) (fun _ => rfl) (fun _ => rfl) (fun _ => rfl) rfl rfl (by omega) rfl ?_
  refine d_val (fun _ => rfl) rfl rfl (fun σ4 => o_build (vs := [_, _, _]) (cs := [_, _, _, _, _, _, _, _]) rfl rfl) ?_
  refine d_new (fun _ => rfl) rfl rfl (fun _ => o_box (cs := [_, _, _, _, _, _, _, _]) rfl rfl) ?_
  refine d_val (fun _ => rfl) rfl rfl (fun σ4 => o_assign rfl) ?_
  refine d_nil (fun σ4 => ?_)
  refine l_nil ?_
  refine kt_norm ?_
  refine v_sel [0, 3, 4, 7] [3, 4, 25, 27] rfl rfl ?_
  refine v_seq ?_
  refine v_region ?_
  refine l_val rfl (o_move rfl) ?_
  refine l_val rfl (o_loadW (key := 3) rfl rfl rfl) ?_
  refine l_gown (ks := []) (caps := #[]) (vs := [_, _]) rfl rfl (ent_of Try.func43 rfl rfl) rfl (fun w' hg hh => a_TableT w' v pvs ps X Y (n : Int) (h : Int) hb hvp (hat.keep hg)) fun tb htb => ?_
  refine l_freeze 30 [3, 4, 25, 27] rfl rfl rfl ?_
  have hTok : TOk (tabT X Y (n : Int) (h : Int) ps) := tOk_tab hb
  obtain ⟨T, hT⟩ : ∃ T, (tabT X Y (n : Int) (h : Int) ps) = T := ⟨_, rfl⟩
  rw [hT] at hTok htb ⊢
  have hTl := hTok.len
  refine l_val rfl (o_assign rfl) ?_
  refine l_nil ?_
  refine kt_norm ?_
  refine v_seq ?_
  refine v_region ?_
  refine l_val rfl (o_assign rfl) ?_
  refine l_nil ?_
  refine kt_norm ?_
  refine v_seq ?_
  refine v_seq ?_
  refine v_region ?_
  refine l_val rfl (o_fld rfl) ?_
  refine l_val rfl (o_load1 (key := 3) rfl rfl rfl) ?_
  refine l_val rfl (o_muli rfl rfl ?_) ?_
  · omega
  refine l_val rfl (o_assign rfl) ?_
  refine l_nil ?_
  refine kt_norm ?_
  refine v_sel [3, 4, 7, 8, 9, 10] [3, 4, 25, 27] rfl rfl ?_
  refine v_block ?_
  refine v_renH 25 1000 [3, 4, 27] rfl rfl rfl ?_
  refine v_renH 27 1001 [3, 4, 1000] rfl rfl rfl ?_
  refine v_ghost 23 5 1 ?_
  refine v_ghost 65 90 7 ?_
  refine v_loopS (α := Nat × Nat × Value × Value × List EdgeT × List Int × Value) (fun ⟨q, m, tv, wv, wt, sums, pv⟩ => [(10, .int .i64 (16 * Y + (q : Int))), (8, tv), (9, wv)]) (fun ⟨q, m, tv, wv, wt, sums, pv⟩ => [(1000, Hp.own (.slice (some ⟨σ4.b 25, 0, none⟩) n n) 3 1 n (iI sums)), (1001, Hp.box (σ4.b 27) 88 [.int .i64 (n : Int), .int .i64 (h : Int), pv, .int .i64 X, .int .i64 Y, .int .i64 (n : Int), .int .i64 (h : Int), (.slice (some ⟨σ4.b 25, 0, none⟩) n n)]), (23, Hp.own pv 5 1 (pixT T X Y n (q / 16)).length (iU (pixT T X Y n (q / 16)))), (65, Hp.own wv 90 7 wt.length (wt.flatMap eE))])  (fun ⟨q, m, tv, wv, wt, sums, pv⟩ => q ≤ 16 * h ∧ OQ T X (16 * Y) n q m wt sums ∧ RowV wv wt.length ∧ RowV tv (T.length - m) ∧ (∀ w', Chg (fun _ => False) w w' ∧ (Hp.own tb 90 7 T.length (T.flatMap eE)).ok w' → RowAt w' tv 7 (T.length - m) ((T.drop m).flatMap eE) ∧ Capd tv) ∧ RowV pv (pixT T X Y n (q / 16)).length) (fun ⟨q, m, tv, wv, wt, sums, pv⟩ => 16 * h - q) (0, 0, tb, .slice none 0 0, [], List.replicate n 0, .slice none 0 0) [3, 4, 7] [3, 4] ⟨Nat.zero_le _, ⟨Nat.zero_le _, rfl, fun e he => (by cases he), by simp, fun p hp => by rw [List.getD_eq_getElem?_getD, List.getElem?_replicate]; split <;> rfl⟩, .nil0, htb, fun w' hg => ⟨rowAt_own hg.2, capd_own hg.2⟩, .nil0⟩  (And.intro (congrArg (fun z => some (Value.int .i64 z)) (by omega)) (And.intro rfl (And.intro rfl (True.intro)))) rfl (And.intro (congrArg some (own_congr rfl (by simp [iI]))) (And.intro rfl (And.intro rfl (And.intro rfl (True.intro))))) rfl ?_
  rintro ⟨q, m, tv, wv, wt, sums, pv⟩ ⟨hq, hO, hwv, htv, htr, hpv⟩
  refine v_seq ?_
  refine v_seq ?_
  refine v_region ?_
  refine l_val rfl (o_move rfl) ?_
  refine l_val rfl (o_fld rfl) ?_
  refine l_val rfl (o_load1 (key := 3) rfl rfl rfl) ?_
  refine l_val rfl (o_fld rfl) ?_
  refine l_val rfl (o_load1 (key := 3) rfl rfl rfl) ?_
  refine l_val rfl (o_addi rfl rfl ?_) ?_
  · omega
  refine l_val rfl (o_muli rfl rfl ?_) ?_
  · omega
  refine l_split rfl (o_lss rfl rfl) (fun h87 => ?_) (fun h87 => ?_)
  · have hqh : q < 16 * h := by omega
    have hpl := pixT_len T X Y n (q / 16)
    have hpm : (q / 16) * n ≤ 256 * 256 := Nat.mul_le_mul (by omega) (by omega)
    refine l_nil ?_
    refine kt_norm ?_
    refine v_sel [10, 8, 9, 3, 4, 7, 41] [3, 4, 23, 65, 1000, 1001] rfl rfl ?_
    refine v_condT rfl ?_
    refine v_skip ?_
    refine kt_norm ?_
    refine v_seq ?_
    refine v_block ?_
    refine v_seq ?_
    refine v_block ?_
    refine v_loopS (α := Nat × Value × Value × List EdgeT) (fun ⟨m2, tv2, wv2, wt2⟩ => [(8, tv2), (9, wv2)]) (fun ⟨m2, tv2, wv2, wt2⟩ => [(65, Hp.own wv2 90 7 wt2.length (wt2.flatMap eE))])  (fun ⟨m2, tv2, wv2, wt2⟩ => IQ T (16 * Y + (q : Int)) m2 wt2 ∧ RowV wv2 wt2.length ∧ RowV tv2 (T.length - m2) ∧ (∀ w', Chg (fun _ => False) w w' ∧ (Hp.own tb 90 7 T.length (T.flatMap eE)).ok w' → RowAt w' tv2 7 (T.length - m2) ((T.drop m2).flatMap eE) ∧ Capd tv2)) (fun ⟨m2, tv2, wv2, wt2⟩ => T.length - m2) (m, tv, wv, wt) [10, 3, 4, 7] [3, 4, 23, 1000, 1001] ⟨hO.inner, hwv, htv, htr⟩  (And.intro rfl (And.intro rfl (True.intro))) rfl (And.intro rfl (True.intro)) rfl ?_
    rintro ⟨m2, tv2, wv2, wt2⟩ ⟨hI, hwv2, htv2, htr2⟩
    refine v_seq ?_
    refine v_seq ?_
    refine v_region ?_
    have hml2 := hI.ml
    have hwl2 := hI.wl
    refine l_val rfl (o_move rfl) ?_
    refine l_val rfl (o_len rfl htv2) ?_
    refine l_split rfl (o_gtr rfl rfl) (fun h102 => ?_) (fun h102 => ?_)
    · skip
      refine l_val rfl (o_move rfl) ?_
      refine l_val rfl (o_move rfl) ?_
      refine l_val rfl (o_idx (0) rfl htv2 rfl (by first | rfl | omega) (by omega)) ?_
      refine l_val rfl (o_fld rfl) ?_
      refine l_val rfl (o_loadRF (f := 5) rfl (row_imm (fun w' hg => (htr2 w' hg).1)) (el_flat eE_len dE (T.drop m2) (0) (by rw [List.length_drop]; omega)) rfl) ?_
      refine l_val rfl (o_move rfl) ?_
      refine l_split rfl (o_leq rfl rfl) (fun h109 => ?_) (fun h109 => ?_)
      · have hm2 : m2 < T.length := by omega
        have hE0 : ((T.drop m2).getD 0 dE) = T.getD m2 dE := by rw [List.getD_eq_getElem?_getD, List.getElem?_drop, Nat.add_zero, List.getD_eq_getElem?_getD]
        rw [hE0] at h109
        refine l_val rfl (o_pickT rfl rfl) ?_
        refine l_nil ?_
        refine kt_norm ?_
        refine v_condT rfl ?_
        refine v_skip ?_
        refine kt_norm ?_
        refine v_block ?_
        refine v_drawW [(60, wt2.length + 1)] [[], [], [], [], [], [65, 59], [], [], [], []] mixed ?_ (by kernel_rfl) (by kernel_rfl)
        refine d_val (fun _ => rfl) rfl rfl (fun σ11 => o_move rfl) ?_
        refine d_val (fun _ => rfl) rfl rfl (fun σ11 => o_move rfl) ?_
        refine d_val (fun _ => rfl) rfl rfl (fun σ11 => o_idx (0) rfl htv2 rfl (by first | rfl | omega) (by omega)) ?_
        refine d_val (fun _ => rfl) rfl rfl (fun σ11 => o_loadRE (c' := [_, _, _, _, _, _, _]) rfl (row_imm (fun w' hg => (htr2 w' hg).1)) (el_flat eE_len dE (T.drop m2) (0) (by rw [List.length_drop]; omega)) rfl) ?_
        refine d_bsO (n := 1) (vs := fun _ => [_]) (cs := fun _ => [_, _, _, _, _, _, _]) (fun _ => rfl) (fun _ => rfl) (fun _ => rfl) rfl rfl (fun _ => rfl) (fun _ => rfl) ?_
        refine d_app 65 (n := wt2.length) (mm := 1) (κ := [59]) (fun _ => rfl) (fun _ => rfl) (fun _ => rfl) (fun _ => rfl) rfl (fun σ11 => .inl ⟨_, _, _, rfl⟩) (fun σ11 => row_own (key := 59) rfl) (by omega) (fun _ h => h) ?_
        refine d_val (fun _ => rfl) rfl rfl (fun σ11 => o_move rfl) ?_
        refine d_val (fun _ => rfl) rfl rfl (fun _ => o_sliceFrom (lo := 1) rfl htv2 rfl rfl (by omega)) ?_
        refine d_val (fun _ => rfl) rfl rfl (fun σ11 => o_assign rfl) ?_
        refine d_val (fun _ => rfl) rfl rfl (fun σ11 => o_assign rfl) ?_
        refine d_nil (fun σ11 => ?_)
        refine l_nil ?_
        refine kb_norm ?_
        refine kt_norm ?_
        refine ⟨(m2 + 1, _, σ11.v 60, wt2 ++ [T.getD m2 dE]), ⟨hI.step hm2 h109, by rw [List.length_append]; exact (show RowV (σ11.v 60) (wt2.length + 1) from σ11.ok 60), (rowV_from htv2 (by omega)).to (by omega), fun w' hg => ⟨by have h1 := rowAt_drop (lo := 1) (htr2 w' hg).1 htv2 (htr2 w' hg).2 (by omega); rw [flat_drop eE_len, List.drop_drop] at h1; exact (show T.length - m2 - 1 = T.length - (m2 + 1) by omega) ▸ h1, capd_from (htr2 w' hg).2⟩⟩, (by show T.length - (m2 + 1) < T.length - m2; omega), le_app (And.intro rfl (And.intro rfl (True.intro))) [10, 3, 4, 7] rfl (And.intro (congrArg some (own_congr (by rw [List.length_append]; rfl) (by rw [← hE0, List.flatMap_append]; simp [eE]))) (True.intro)) [3, 4, 23, 1000, 1001] rfl⟩
      · skip
        refine l_val rfl (o_pickT rfl rfl) ?_
        refine l_nil ?_
        refine kt_norm ?_
        refine v_condF rfl ?_
        refine v_exit ?_
        refine kt_exit ?_
        refine kt_exit ?_
        refine kb_eq ?_
        refine kt_norm ?_
        refine v_seq ?_
        refine v_region ?_
        have hml2 := hI.ml
        have hwl2 := hI.wl
        have hE1 : ((T.drop m2).getD 0 dE) = T.getD m2 dE := by rw [List.getD_eq_getElem?_getD, List.getElem?_drop, Nat.add_zero, List.getD_eq_getElem?_getD]
        have hLT : liveT (16 * Y + (q : Int)) wt2 = liveT (16 * Y + (q : Int)) T := hI.fin hTok.srt (fun hm2 hle => by rw [← hE1] at hle; omega)
        have hll3 : (liveT (16 * Y + (q : Int)) wt2).length ≤ wt2.length := List.length_filter_le _ _
        have hsl3 : (rowS (crs (16 * Y + (q : Int)) (liveT (16 * Y + (q : Int)) (liveT (16 * Y + (q : Int)) wt2)))).length ≤ (liveT (16 * Y + (q : Int)) wt2).length := by have h1 := rowS_len (crs (16 * Y + (q : Int)) (liveT (16 * Y + (q : Int)) (liveT (16 * Y + (q : Int)) wt2))); rw [crs_len] at h1; have h2 : (liveT (16 * Y + (q : Int)) (liveT (16 * Y + (q : Int)) wt2)).length ≤ (liveT (16 * Y + (q : Int)) wt2).length := List.length_filter_le _ _; omega
        refine l_val rfl (o_move rfl) ?_
        refine l_val rfl (o_move rfl) ?_
        refine l_gown (ks := [65]) (caps := #[]) (vs := [_, _]) rfl rfl (ent_of Try.func48 rfl rfl) rfl (fun w' hg hh => a_Live w' wv2 wt2 (16 * Y + (q : Int)) (by omega) hwv2 (rowAt_own (hh 65 (by simp) _ rfl))) fun y65 hy65 => ?_
        refine l_val rfl (o_assign rfl) ?_
        refine l_nil ?_
        refine kt_norm ?_
        refine v_sel [8, 9, 10, 3, 4, 7, 48, 49, 50, 51, 52, 53] [3, 4, 23, 65, 1000, 1001] rfl rfl ?_
        refine v_seq ?_
        refine v_region ?_
        refine l_val rfl (o_move rfl) ?_
        refine l_val rfl (o_move rfl) ?_
        refine l_val rfl (o_move rfl) ?_
        refine l_gown (ks := [65]) (caps := #[]) (vs := [_, _]) rfl rfl (ent_of Try.func17 rfl rfl) rfl (fun w' hg hh => a_Spans w' y65 (liveT (16 * Y + (q : Int)) wt2) (16 * Y + (q : Int)) (by omega) hy65 (rowAt_own (hh 65 (by simp) _ rfl)) (fun e he => hTok.cross e (live_mem.1 (hLT ▸ live_live (16 * Y + (q : Int)) wt2 ▸ he)).1 _ (live_mem.1 he).2.1 (live_mem.1 he).2.2)) fun y69 hy69 => ?_
        refine l_gmulti (fun cur => GQ n sums cur (fun p => sumF (pxC (X * 256) p) (rowS (crs (16 * Y + (q : Int)) (liveT (16 * Y + (q : Int)) (liveT (16 * Y + (q : Int)) wt2)))))) (fun cur => [(1000, Hp.own (.slice (some ⟨σ4.b 25, 0, none⟩) n n) 3 1 n (iI cur)), (1001, Hp.box (σ4.b 27) 88 [.int .i64 (n : Int), .int .i64 (h : Int), pv, .int .i64 X, .int .i64 Y, .int .i64 (n : Int), .int .i64 (h : Int), (.slice (some ⟨σ4.b 25, 0, none⟩) n n)])]) [1000, 1001] [3, 4, 23, 65, 69] (caps := #[]) (vs := [_, _]) rfl rfl (ent_of Try.func49 rfl rfl) rfl rfl rfl rfl (fun w' hg hok hi hgb => a_gather w' y69 (.slice (some ⟨σ4.b 25, 0, none⟩) n n) pv (σ4.b 27) n X Y (h : Int) (rowS (crs (16 * Y + (q : Int)) (liveT (16 * Y + (q : Int)) (liveT (16 * Y + (q : Int)) wt2)))) sums (by omega) (by omega) (by omega) hO.sl (hO.bound hTl) hy69 (fun k h0 hh => hok k h0 (sel_ok [1000, 1001] _ rfl k h0 hh)) (fun k k' h0 h0' b h1 h2 => hi k k' h0 h0' b (sel_ok [1000, 1001] _ rfl k h0 h1) (sel_ok [1000, 1001] _ rfl k' h0' h2)) (fun w2 hc => row_safe (oks := [1000, 1001]) (key := 69) rfl hok hi rfl rfl hc)) (fun cur y70 hG => ?_)
        obtain ⟨hcs, hon, hof⟩ := hO.next hI hLT hG
        refine l_nil ?_
        refine kt_norm ?_
        refine v_seq ?_
        refine v_region ?_
        refine l_val rfl (o_move rfl) ?_
        refine l_val rfl (o_and15 rfl rfl) ?_
        refine l_split rfl (o_eql rfl rfl) (fun h142 => ?_) (fun h142 => ?_)
        · skip
          refine l_nil ?_
          refine kt_norm ?_
          refine v_sel [8, 9, 10, 3, 4, 7, 48, 49, 50, 51, 52, 53, 73] [3, 4, 23, 65, 1000, 1001] rfl rfl ?_
          refine v_condT rfl ?_
          refine v_region ?_
          refine l_val rfl (o_move rfl) ?_
          refine l_gmulti (fun pv2 => RowV pv2 ((pixT T X Y n (q / 16)) ++ cur.map valT).length) (fun pv2 => [(1000, Hp.own (.slice (some ⟨σ4.b 25, 0, none⟩) n n) 3 1 n (iI (List.replicate n 0))), (1001, Hp.box (σ4.b 27) 88 [.int .i64 (n : Int), .int .i64 (h : Int), pv2, .int .i64 X, .int .i64 Y, .int .i64 (n : Int), .int .i64 (h : Int), (.slice (some ⟨σ4.b 25, 0, none⟩) n n)]), (23, Hp.own pv2 5 1 (((pixT T X Y n (q / 16)) ++ cur.map valT)).length (iU ((pixT T X Y n (q / 16)) ++ cur.map valT)))]) [1000, 1001, 23] [3, 4, 65] (caps := #[]) (vs := [_]) rfl rfl (ent_of Try.func50 rfl rfl) rfl rfl rfl rfl (fun w' hg hok hi hgb => a_flush w' (.slice (some ⟨σ4.b 25, 0, none⟩) n n) pv (σ4.b 27) n X Y (h : Int) cur (pixT T X Y n (q / 16)) (by omega) hG.len (by omega) (fun p hp => by rw [hcs p hp]; have := rowSum_bound hTl X p (16 * Y + q - (q % 16 : Nat)) (q % 16 + 1); omega) (fun k h0 hh => hok k h0 (sel_ok [1000, 1001, 23] _ rfl k h0 hh)) (fun k k' h0 h0' b h1 h2 => hi k k' h0 h0' b (sel_ok [1000, 1001, 23] _ rfl k h0 h1) (sel_ok [1000, 1001, 23] _ rfl k' h0' h2))) (fun pv2 y75 hpv2 => ?_)
          have hpn := pix_next hG.len (by omega) hcs
          refine l_nil ?_
          refine kb_norm ?_
          refine kt_norm ?_
          refine v_region ?_
          refine l_val rfl (o_move rfl) ?_
          refine l_val rfl (o_addi rfl rfl ?_) ?_
          · omega
          refine l_val rfl (o_assign rfl) ?_
          refine l_nil ?_
          refine kt_norm ?_
          refine ⟨(q + 1, m2, tv2, y65, liveT (16 * Y + (q : Int)) wt2, List.replicate n 0, pv2), ⟨by omega, hof (by omega), hy65, htv2, htr2, by rw [← hpn]; exact hpv2⟩, (by show 16 * h - (q + 1) < 16 * h - q; omega), le_app (And.intro (congrArg (fun z => some (Value.int .i64 z)) (by omega)) (And.intro rfl (And.intro rfl (True.intro)))) [3, 4, 7] rfl (And.intro rfl (And.intro rfl (And.intro (congrArg some (own_congr (by rw [hpn]) (by rw [hpn]))) (And.intro rfl (True.intro))))) [3, 4] rfl⟩
        · skip
          refine l_nil ?_
          refine kt_norm ?_
          refine v_sel [8, 9, 10, 3, 4, 7, 48, 49, 50, 51, 52, 53, 73] [3, 4, 23, 65, 1000, 1001] rfl rfl ?_
          refine v_condF rfl ?_
          refine v_skip ?_
          refine kb_norm ?_
          refine kt_norm ?_
          refine v_region ?_
          refine l_val rfl (o_move rfl) ?_
          refine l_val rfl (o_addi rfl rfl ?_) ?_
          · omega
          refine l_val rfl (o_assign rfl) ?_
          refine l_nil ?_
          refine kt_norm ?_
          refine ⟨(q + 1, m2, tv2, y65, liveT (16 * Y + (q : Int)) wt2, cur, pv), ⟨by omega, hon (by omega), hy65, htv2, htr2, by rw [show (q + 1) / 16 = q / 16 by omega]; exact hpv⟩, (by show 16 * h - (q + 1) < 16 * h - q; omega), le_app (And.intro (congrArg (fun z => some (Value.int .i64 z)) (by omega)) (And.intro rfl (And.intro rfl (True.intro)))) [3, 4, 7] rfl (And.intro rfl (And.intro rfl (And.intro (congrArg some (own_congr (by rw [show (q + 1) / 16 = q / 16 by omega]) (by rw [show (q + 1) / 16 = q / 16 by omega]))) (And.intro rfl (True.intro))))) [3, 4] rfl⟩
    · skip
      refine l_val rfl (o_move rfl) ?_
      refine l_no rfl ?_
      refine l_no rfl ?_
      refine l_no rfl ?_
      refine l_no rfl ?_
      refine l_no rfl ?_
      refine l_no rfl ?_
      refine l_val rfl (o_pickF rfl rfl) ?_
      refine l_nil ?_
      refine kt_norm ?_
      refine v_condF rfl ?_
      refine v_exit ?_
      refine kt_exit ?_
      refine kt_exit ?_
      refine kb_eq ?_
      refine kt_norm ?_
      refine v_seq ?_
      refine v_region ?_
      have hml2 := hI.ml
      have hwl2 := hI.wl
      have hE1 : ((T.drop m2).getD 0 dE) = T.getD m2 dE := by rw [List.getD_eq_getElem?_getD, List.getElem?_drop, Nat.add_zero, List.getD_eq_getElem?_getD]
      have hLT : liveT (16 * Y + (q : Int)) wt2 = liveT (16 * Y + (q : Int)) T := hI.fin hTok.srt (fun hm2 hle => by rw [← hE1] at hle; omega)
      have hll3 : (liveT (16 * Y + (q : Int)) wt2).length ≤ wt2.length := List.length_filter_le _ _
      have hsl3 : (rowS (crs (16 * Y + (q : Int)) (liveT (16 * Y + (q : Int)) (liveT (16 * Y + (q : Int)) wt2)))).length ≤ (liveT (16 * Y + (q : Int)) wt2).length := by have h1 := rowS_len (crs (16 * Y + (q : Int)) (liveT (16 * Y + (q : Int)) (liveT (16 * Y + (q : Int)) wt2))); rw [crs_len] at h1; have h2 : (liveT (16 * Y + (q : Int)) (liveT (16 * Y + (q : Int)) wt2)).length ≤ (liveT (16 * Y + (q : Int)) wt2).length := List.length_filter_le _ _; omega
      refine l_val rfl (o_move rfl) ?_
      refine l_val rfl (o_move rfl) ?_
      refine l_gown (ks := [65]) (caps := #[]) (vs := [_, _]) rfl rfl (ent_of Try.func48 rfl rfl) rfl (fun w' hg hh => a_Live w' wv2 wt2 (16 * Y + (q : Int)) (by omega) hwv2 (rowAt_own (hh 65 (by simp) _ rfl))) fun y65 hy65 => ?_
      refine l_val rfl (o_assign rfl) ?_
      refine l_nil ?_
      refine kt_norm ?_
      refine v_sel [8, 9, 10, 3, 4, 7, 48, 49, 50, 51, 52, 53] [3, 4, 23, 65, 1000, 1001] rfl rfl ?_
      refine v_seq ?_
      refine v_region ?_
      refine l_val rfl (o_move rfl) ?_
      refine l_val rfl (o_move rfl) ?_
      refine l_val rfl (o_move rfl) ?_
      refine l_gown (ks := [65]) (caps := #[]) (vs := [_, _]) rfl rfl (ent_of Try.func17 rfl rfl) rfl (fun w' hg hh => a_Spans w' y65 (liveT (16 * Y + (q : Int)) wt2) (16 * Y + (q : Int)) (by omega) hy65 (rowAt_own (hh 65 (by simp) _ rfl)) (fun e he => hTok.cross e (live_mem.1 (hLT ▸ live_live (16 * Y + (q : Int)) wt2 ▸ he)).1 _ (live_mem.1 he).2.1 (live_mem.1 he).2.2)) fun y69 hy69 => ?_
      refine l_gmulti (fun cur => GQ n sums cur (fun p => sumF (pxC (X * 256) p) (rowS (crs (16 * Y + (q : Int)) (liveT (16 * Y + (q : Int)) (liveT (16 * Y + (q : Int)) wt2)))))) (fun cur => [(1000, Hp.own (.slice (some ⟨σ4.b 25, 0, none⟩) n n) 3 1 n (iI cur)), (1001, Hp.box (σ4.b 27) 88 [.int .i64 (n : Int), .int .i64 (h : Int), pv, .int .i64 X, .int .i64 Y, .int .i64 (n : Int), .int .i64 (h : Int), (.slice (some ⟨σ4.b 25, 0, none⟩) n n)])]) [1000, 1001] [3, 4, 23, 65, 69] (caps := #[]) (vs := [_, _]) rfl rfl (ent_of Try.func49 rfl rfl) rfl rfl rfl rfl (fun w' hg hok hi hgb => a_gather w' y69 (.slice (some ⟨σ4.b 25, 0, none⟩) n n) pv (σ4.b 27) n X Y (h : Int) (rowS (crs (16 * Y + (q : Int)) (liveT (16 * Y + (q : Int)) (liveT (16 * Y + (q : Int)) wt2)))) sums (by omega) (by omega) (by omega) hO.sl (hO.bound hTl) hy69 (fun k h0 hh => hok k h0 (sel_ok [1000, 1001] _ rfl k h0 hh)) (fun k k' h0 h0' b h1 h2 => hi k k' h0 h0' b (sel_ok [1000, 1001] _ rfl k h0 h1) (sel_ok [1000, 1001] _ rfl k' h0' h2)) (fun w2 hc => row_safe (oks := [1000, 1001]) (key := 69) rfl hok hi rfl rfl hc)) (fun cur y70 hG => ?_)
      obtain ⟨hcs, hon, hof⟩ := hO.next hI hLT hG
      refine l_nil ?_
      refine kt_norm ?_
      refine v_seq ?_
      refine v_region ?_
      refine l_val rfl (o_move rfl) ?_
      refine l_val rfl (o_and15 rfl rfl) ?_
      refine l_split rfl (o_eql rfl rfl) (fun h142 => ?_) (fun h142 => ?_)
      · skip
        refine l_nil ?_
        refine kt_norm ?_
        refine v_sel [8, 9, 10, 3, 4, 7, 48, 49, 50, 51, 52, 53, 73] [3, 4, 23, 65, 1000, 1001] rfl rfl ?_
        refine v_condT rfl ?_
        refine v_region ?_
        refine l_val rfl (o_move rfl) ?_
        refine l_gmulti (fun pv2 => RowV pv2 ((pixT T X Y n (q / 16)) ++ cur.map valT).length) (fun pv2 => [(1000, Hp.own (.slice (some ⟨σ4.b 25, 0, none⟩) n n) 3 1 n (iI (List.replicate n 0))), (1001, Hp.box (σ4.b 27) 88 [.int .i64 (n : Int), .int .i64 (h : Int), pv2, .int .i64 X, .int .i64 Y, .int .i64 (n : Int), .int .i64 (h : Int), (.slice (some ⟨σ4.b 25, 0, none⟩) n n)]), (23, Hp.own pv2 5 1 (((pixT T X Y n (q / 16)) ++ cur.map valT)).length (iU ((pixT T X Y n (q / 16)) ++ cur.map valT)))]) [1000, 1001, 23] [3, 4, 65] (caps := #[]) (vs := [_]) rfl rfl (ent_of Try.func50 rfl rfl) rfl rfl rfl rfl (fun w' hg hok hi hgb => a_flush w' (.slice (some ⟨σ4.b 25, 0, none⟩) n n) pv (σ4.b 27) n X Y (h : Int) cur (pixT T X Y n (q / 16)) (by omega) hG.len (by omega) (fun p hp => by rw [hcs p hp]; have := rowSum_bound hTl X p (16 * Y + q - (q % 16 : Nat)) (q % 16 + 1); omega) (fun k h0 hh => hok k h0 (sel_ok [1000, 1001, 23] _ rfl k h0 hh)) (fun k k' h0 h0' b h1 h2 => hi k k' h0 h0' b (sel_ok [1000, 1001, 23] _ rfl k h0 h1) (sel_ok [1000, 1001, 23] _ rfl k' h0' h2))) (fun pv2 y75 hpv2 => ?_)
        have hpn := pix_next hG.len (by omega) hcs
        refine l_nil ?_
        refine kb_norm ?_
        refine kt_norm ?_
        refine v_region ?_
        refine l_val rfl (o_move rfl) ?_
        refine l_val rfl (o_addi rfl rfl ?_) ?_
        · omega
        refine l_val rfl (o_assign rfl) ?_
        refine l_nil ?_
        refine kt_norm ?_
        refine ⟨(q + 1, m2, tv2, y65, liveT (16 * Y + (q : Int)) wt2, List.replicate n 0, pv2), ⟨by omega, hof (by omega), hy65, htv2, htr2, by rw [← hpn]; exact hpv2⟩, (by show 16 * h - (q + 1) < 16 * h - q; omega), le_app (And.intro (congrArg (fun z => some (Value.int .i64 z)) (by omega)) (And.intro rfl (And.intro rfl (True.intro)))) [3, 4, 7] rfl (And.intro rfl (And.intro rfl (And.intro (congrArg some (own_congr (by rw [hpn]) (by rw [hpn]))) (And.intro rfl (True.intro))))) [3, 4] rfl⟩
      · skip
        refine l_nil ?_
        refine kt_norm ?_
        refine v_sel [8, 9, 10, 3, 4, 7, 48, 49, 50, 51, 52, 53, 73] [3, 4, 23, 65, 1000, 1001] rfl rfl ?_
        refine v_condF rfl ?_
        refine v_skip ?_
        refine kb_norm ?_
        refine kt_norm ?_
        refine v_region ?_
        refine l_val rfl (o_move rfl) ?_
        refine l_val rfl (o_addi rfl rfl ?_) ?_
        · omega
        refine l_val rfl (o_assign rfl) ?_
        refine l_nil ?_
        refine kt_norm ?_
        refine ⟨(q + 1, m2, tv2, y65, liveT (16 * Y + (q : Int)) wt2, cur, pv), ⟨by omega, hon (by omega), hy65, htv2, htr2, by rw [show (q + 1) / 16 = q / 16 by omega]; exact hpv⟩, (by show 16 * h - (q + 1) < 16 * h - q; omega), le_app (And.intro (congrArg (fun z => some (Value.int .i64 z)) (by omega)) (And.intro rfl (And.intro rfl (True.intro)))) [3, 4, 7] rfl (And.intro rfl (And.intro rfl (And.intro (congrArg some (own_congr (by rw [show (q + 1) / 16 = q / 16 by omega]) (by rw [show (q + 1) / 16 = q / 16 by omega]))) (And.intro rfl (True.intro))))) [3, 4] rfl⟩
  · skip
    refine l_nil ?_
    refine kt_norm ?_
    refine v_sel [10, 8, 9, 3, 4, 7, 41] [3, 4, 23, 65, 1000, 1001] rfl rfl ?_
    refine v_condF rfl ?_
    refine v_exit ?_
    refine kt_exit ?_
    refine kt_exit ?_
    refine kb_eq ?_
    refine kt_norm ?_
    refine v_seq ?_
    refine v_region ?_
    obtain rfl : q = 16 * h := by omega
    have e16 : 16 * h / 16 = h := by omega
    rw [e16] at hpv
    obtain ⟨ap, cp, rfl⟩ := hpv.sl
    refine l_val rfl (o_move rfl) ?_
    refine l_val rfl (o_nilCheck rfl) ?_
    refine l_val rfl (o_fld rfl) ?_
    refine l_val rfl (o_loadP (key := 1001) (rs := [_, _, _]) rfl rfl rfl rfl) ?_
    refine l_store rfl (o_storeW (key := 4) (xs := [_, _, _]) rfl rfl rfl rfl rfl rfl rfl) ?_
    refine l_val rfl (o_assign rfl) ?_
    refine l_nil ?_
    refine kt_norm ?_
    refine v_sel [4, 5] [4, 23, 65, 1000, 1001] rfl rfl ?_
    refine v_ret ?_
    refine ⟨[_, _], .cons (.cellW (key := 4) rfl rfl rfl) (.cons (.tmp rfl) (ResAll.nil)), ?_⟩
    refine ⟨.slice ap _ cp, rfl, fun w' ho => ⟨?_, fun b hb => ((ho.mo 23 _ rfl).2 b hb).elim id False.elim⟩⟩
    have h1 := (ho.mo 23 _ rfl).1
    rw [e16] at h1
    exact h1
end Go.Proofs.Ytaijclimdfchfaa
