import Derived.Test.YtaijclimdfchfaaF8
/- A row of pixels is flushed; the cover of pieces in a view. Conditions: none. -/
namespace Go.Proofs.Ytaijclimdfchfaa
open Go.Proofs Go.RowKit Go.Shelf

theorem flush_el {sums : List Int} {i : Nat} (h : i < sums.length) : El (iI (List.replicate i 0 ++ sums.drop i)) 1 i [.int .i64 (sums.getD i 0)] := by
  have hl : i < (List.replicate i 0 ++ sums.drop i).length := by simp; omega
  have := el_int hl
  have e : (List.replicate i (0 : Int) ++ sums.drop i).getD i 0 = sums.getD i 0 := by
    rw [List.getD_eq_getElem?_getD, List.getElem?_append_right (by simp), List.length_replicate, List.getElem?_drop, Nat.sub_self, Nat.add_zero, List.getD_eq_getElem?_getD]
  rwa [e] at this
theorem flush_set {sums : List Int} {i : Nat} (h : i < sums.length) : (List.replicate i (0 : Int) ++ sums.drop i).set i 0 = List.replicate (i + 1) 0 ++ sums.drop (i + 1) := by
  rw [List.set_append_right _ _ (by simp), List.length_replicate, Nat.sub_self, List.drop_eq_getElem_cons h, List.set_cons_zero, List.replicate_succ', List.append_assoc]; rfl
theorem iU_snoc {l : List Int} {x : Int} : iU l ++ [.int .u8 x] = iU (l ++ [x]) := by simp [iU]
theorem iU_len {l : List Int} : (iU l).length = l.length := by simp [iU]
theorem take_map_snoc {sums : List Int} {i : Nat} (h : i < sums.length) : (sums.take i).map valT ++ [valT (sums.getD i 0)] = (sums.take (i + 1)).map valT := by
  rw [List.take_add_one, List.map_append, List.getElem?_eq_getElem h, List.getD_eq_getElem?_getD, List.getElem?_eq_getElem h]; rfl
set_option maxHeartbeats 1000000 in
theorem a_flush (w : World) (sv pv : Value) (bC n : Nat) (X Y H : Int) (sums pix : List Int) (hn : 1 ≤ n ∧ n ≤ 256) (hsl : sums.length = n) (hpl : pix.length ≤ 1000000) (hsb : ∀ p, p < n → -1099511627776 ≤ sums.getD p 0 ∧ sums.getD p 0 ≤ 1099511627776)
    (hok : ∀ k h, lk [(1000, Hp.own sv 3 1 n (iI sums)), (1001, Hp.box bC 88 [.int .i64 (n : Int), .int .i64 H, pv, .int .i64 X, .int .i64 Y, .int .i64 (n : Int), .int .i64 H, sv]), (23, Hp.own pv 5 1 (pix.length) (iU pix))] k = some h → h.ok w) (hi0 : ∀ k k' h h' b, lk [(1000, Hp.own sv 3 1 n (iI sums)), (1001, Hp.box bC 88 [.int .i64 (n : Int), .int .i64 H, pv, .int .i64 X, .int .i64 Y, .int .i64 (n : Int), .int .i64 H, sv]), (23, Hp.own pv 5 1 (pix.length) (iU pix))] k = some h → lk [(1000, Hp.own sv 3 1 n (iI sums)), (1001, Hp.box bC 88 [.int .i64 (n : Int), .int .i64 H, pv, .int .i64 X, .int .i64 Y, .int .i64 (n : Int), .int .i64 H, sv]), (23, Hp.own pv 5 1 (pix.length) (iU pix))] k' = some h' → h.blk = some b → h'.blk = some b → k = k') :
    Calls Try.prog 50 #[.pointer (some ⟨bC, 0, none⟩)] w fun e w' => (∃ y, e = .returned y) ∧ ∃ pv2 : Value, RowV pv2 (pix ++ sums.map valT).length ∧ News [(1000, Hp.own sv 3 1 n (iI sums)), (1001, Hp.box bC 88 [.int .i64 (n : Int), .int .i64 H, pv, .int .i64 X, .int .i64 Y, .int .i64 (n : Int), .int .i64 H, sv]), (23, Hp.own pv 5 1 (pix.length) (iU pix))] [(1000, Hp.own sv 3 1 n (iI (List.replicate n 0))), (1001, Hp.box bC 88 [.int .i64 (n : Int), .int .i64 H, pv2, .int .i64 X, .int .i64 Y, .int .i64 (n : Int), .int .i64 H, sv]), (23, Hp.own pv2 5 1 ((pix ++ sums.map valT).length) (iU (pix ++ sums.map valT)))] w w' := by
  have hVs : RowV sv n := rowV_own (hok 1000 _ rfl)
  have hVp : RowV pv pix.length := rowV_own (hok 23 _ rfl)
  have hlz : ∀ i, i ≤ n → (List.replicate i 0 ++ sums.drop i).length = n := fun i hi => by simp; omega
  have hlp : ∀ i, i ≤ n → (pix ++ (sums.take i).map valT).length = pix.length + i := fun i hi => by simp; omega
  have hlq : (pix ++ sums.map valT).length = pix.length + n := by simp; omega
  refine calls_multi (args := [.pointer (some ⟨bC, 0, none⟩)]) [(1000, Hp.own sv 3 1 n (iI sums)), (1001, Hp.box bC 88 [.int .i64 (n : Int), .int .i64 H, pv, .int .i64 X, .int .i64 Y, .int .i64 (n : Int), .int .i64 H, sv]), (23, Hp.own pv 5 1 (pix.length) (iU pix))] (fun pv2 => RowV pv2 (pix ++ sums.map valT).length) (fun pv2 => [(1000, Hp.own sv 3 1 n (iI (List.replicate n 0))), (1001, Hp.box bC 88 [.int .i64 (n : Int), .int .i64 H, pv2, .int .i64 X, .int .i64 Y, .int .i64 (n : Int), .int .i64 H, sv]), (23, Hp.own pv2 5 1 ((pix ++ sums.map valT).length) (iU (pix ++ sums.map valT)))]) Try.func50 rfl Try.ntmps50 Try.results50 hok hi0 ?_
  refine v_seq ?_
  refine v_region ?_
  refine l_val rfl (o_move rfl) ?_
  refine l_val rfl (o_nilCheck rfl) ?_
  refine l_val rfl (o_fld rfl) ?_
  refine l_val rfl (o_load1 (key := 1001) rfl rfl rfl) ?_
  refine l_val rfl (o_len rfl hVs) ?_
  refine l_val rfl (o_move rfl) ?_
  refine l_nil ?_
  refine kt_norm ?_
  refine v_block ?_
  refine v_loopS (α := Nat × Value) (fun ⟨i, pv2⟩ => [(9, .int .i64 (i : Int))]) (fun ⟨i, pv2⟩ => [(1000, Hp.own sv 3 1 n (iI (List.replicate i 0 ++ sums.drop i))), (1001, Hp.box bC 88 [.int .i64 (n : Int), .int .i64 H, pv2, .int .i64 X, .int .i64 Y, .int .i64 (n : Int), .int .i64 H, sv]), (23, Hp.own pv2 5 1 (pix.length + i) (iU (pix ++ (sums.take i).map valT)))])  (fun ⟨i, pv2⟩ => i ≤ n ∧ RowV pv2 (pix.length + i)) (fun ⟨i, pv2⟩ => n - i) (0, pv) [0, 7, 8] [] ⟨Nat.zero_le _, hVp⟩  (And.intro rfl (True.intro)) rfl (And.intro (congrArg some (own_congr rfl (by simp))) (And.intro rfl (And.intro (congrArg some (own_congr rfl (by simp))) (True.intro)))) rfl ?_
  rintro ⟨i, pv2⟩ ⟨hi, hvp⟩
  refine v_seq ?_
  refine v_region ?_
  refine l_split rfl (o_lss rfl rfl) (fun q1 => ?_) (fun q1 => ?_)
  · have hil : i < n := by omega
    have hsi := hsb i hil
    refine l_nil ?_
    refine kt_norm ?_
    refine v_seq ?_
    refine v_condT rfl ?_
    refine v_skip ?_
    refine kt_norm ?_
    refine v_seq ?_
    refine v_block ?_
    refine v_seq ?_
    refine v_region ?_
    refine l_val rfl (o_move rfl) ?_
    refine l_val rfl (o_idx (i) rfl hVs rfl (by first | rfl | omega) (by omega)) ?_
    refine l_val rfl (o_loadR1 rfl (row_own (key := 1000) rfl) (flush_el (i := i) (by omega))) ?_
    refine l_val rfl (o_assign rfl) ?_
    refine l_val rfl (o_assign rfl) ?_
    refine l_nil ?_
    refine kt_norm ?_
    refine v_seq ?_
    refine v_drawW [(23, pix.length + i + 1)] [[], [], [], [], [], [1001], [], [], [], [23, 22], [], [], [], [1001]] mixed ?_ (by kernel_rfl) (by kernel_rfl)
    refine d_val (fun _ => rfl) rfl rfl (fun σ3 => o_move rfl) ?_
    refine d_val (fun _ => rfl) rfl rfl (fun σ3 => o_move rfl) ?_
    refine d_val (fun _ => rfl) rfl rfl (fun σ3 => o_nilCheck rfl) ?_
    refine d_val (fun _ => rfl) rfl rfl (fun σ3 => o_fld rfl) ?_
    refine d_val (fun _ => rfl) rfl rfl (fun σ3 => o_fld rfl) ?_
    refine d_val (fun _ => rfl) rfl rfl (fun σ3 => o_load1 (key := 1001) rfl rfl rfl) ?_
    refine d_val (fun _ => rfl) rfl rfl (fun σ3 => o_move rfl) ?_
    refine d_ans (vs := [_]) (fun _ => rfl) (fun _ => rfl) (a_Value _) ?_
    refine d_bsO (n := 1) (vs := fun _ => [_]) (cs := fun _ => [_]) (fun _ => rfl) (fun _ => rfl) (fun _ => rfl) rfl rfl (fun _ => rfl) (fun _ => rfl) ?_
    refine d_app 23 (n := pix.length + i) (mm := 1) (κ := [22]) (fun _ => rfl) (fun _ => rfl) (fun _ => rfl) (fun _ => rfl) rfl (fun σ3 => .inl ⟨_, _, _, rfl⟩) (fun σ3 => row_own (key := 22) rfl) (by omega) (fun _ h => h) ?_
    refine d_val (fun _ => rfl) rfl rfl (fun σ3 => o_nilCheck rfl) ?_
    refine d_val (fun _ => rfl) rfl rfl (fun σ3 => o_fld rfl) ?_
    refine d_val (fun _ => rfl) rfl rfl (fun σ3 => o_fld rfl) ?_
    refine d_store (fun _ => rfl) rfl rfl (fun σ3 => o_store1 (key := 1001) (rs := [_, _, _, _, _, _, _, _]) rfl rfl (rowV_cells (show RowV (σ3.v 23) (pix.length + i + 1) from σ3.ok 23)) rfl rfl (rowV_one (show RowV (σ3.v 23) (pix.length + i + 1) from σ3.ok 23)) rfl) ?_
    refine d_nil (fun σ3 => ?_)
    refine l_nil ?_
    refine kt_norm ?_
    refine v_sel [9, 0, 7, 8, 2] [23, 1000, 1001] rfl rfl ?_
    refine v_region ?_
    refine l_val rfl (o_move rfl) ?_
    refine l_val rfl (o_nilCheck rfl) ?_
    refine l_val rfl (o_fld rfl) ?_
    refine l_val rfl (o_load1 (key := 1001) rfl rfl rfl) ?_
    refine l_val rfl (o_move rfl) ?_
    refine l_val rfl (o_idx (i) rfl hVs rfl (by first | rfl | omega) (by omega)) ?_
    refine l_store rfl (o_storeR1 (key := 1000) (j := i) rfl rfl rfl rfl rfl (by omega) (by rw [iI_len, hlz i hi]; omega)) ?_
    refine l_nil ?_
    refine kb_norm ?_
    refine kt_norm ?_
    refine v_sel [9, 0, 7, 8] [23, 1000, 1001] rfl rfl ?_
    refine v_region ?_
    refine l_val rfl (o_addi rfl rfl ?_) ?_
    · omega
    refine l_val rfl (o_move rfl) ?_
    refine l_nil ?_
    refine kt_norm ?_
    refine ⟨(i + 1, σ3.v 23), ⟨hil, (show RowV (σ3.v 23) (pix.length + i + 1) from σ3.ok 23)⟩, (by show n - (i + 1) < n - i; omega), le_app (And.intro rfl (True.intro)) [0, 7, 8] rfl (And.intro (congrArg some (own_congr rfl (by rw [iI_set, flush_set (by omega)]))) (And.intro rfl (And.intro (congrArg some (own_congr rfl (by rw [iU_snoc, List.append_assoc, take_map_snoc (by omega)]))) (True.intro)))) [] rfl⟩
  · skip
    refine l_nil ?_
    refine kt_norm ?_
    refine v_seq ?_
    refine v_condF rfl ?_
    refine v_exit ?_
    refine kt_exit ?_
    refine kt_exit ?_
    refine kb_eq ?_
    refine ⟨[], ResAll.nil, ?_⟩
    obtain rfl : i = n := by omega
    exact ⟨pv2, by rw [hlq]; exact hvp, leL_ok _ (And.intro (congrArg some (own_congr rfl (by rw [List.drop_of_length_le (by omega), List.append_nil]))) (And.intro rfl (And.intro (congrArg some (own_congr hlq.symm (by rw [List.take_of_length_le (by omega)]))) True.intro)))⟩
/-! #### the table of a view -/
theorem insS_perm (e : EdgeT) (o : List EdgeT) : (o ++ [e]).Perm (insS e o) := by
  unfold insS
  have h := (List.takeWhile_append_dropWhile (p := fun x : EdgeT => decide (x.fr ≤ e.fr)) (l := o))
  refine List.Perm.trans ?_ List.perm_middle.symm
  rw [h]
  exact List.perm_append_singleton e o
theorem foldl_perm : ∀ (l o : List EdgeT), (o ++ l).Perm (l.foldl (fun o e => insS e o) o)
  | [], o => by simp
  | e :: l, o => by
    have ih := foldl_perm l (insS e o)
    rw [List.foldl_cons]
    refine List.Perm.trans ?_ ih
    have h := List.Perm.append_right l (insS_perm e o)
    rwa [List.append_assoc] at h
theorem stSort_perm (l : List EdgeT) : l.Perm (stSort l) := by have := foldl_perm l []; simpa [stSort] using this
/-- a table that can be swept -/
structure TOk (T : List EdgeT) : Prop where
  len : T.length ≤ 320
  srt : Srt T
  cross : ∀ e ∈ T, ∀ r, e.fr ≤ r → r < e.to → CrossOk r e
theorem tOk_tab {X Y W H : Int} {ps : List (List PtT)} (hb : Bnd ps) : TOk (tabT X Y W H ps) := by
  refine ⟨tabT_len hb, ?_, ?_⟩
  · unfold tabT; split
    · exact (stSort_ok _ _ rfl).1
    · exact List.Pairwise.nil
  · unfold tabT; split
    · intro e he r h1 h2
      obtain ⟨e0, h3, rfl, h4⟩ := viewEs_mem ((stSort_perm _).mem_iff.2 he)
      have ho := edgesAll_ok hb e0 h3
      rw [cutE_fr] at h1
      rw [cutE_to] at h2
      exact crossOk_cut (crossOk_of ho.1 ho.2 (by split at h1 <;> omega) (by split at h2 <;> omega))
    · intro e he; cases he
theorem live_mem {r : Int} {l : List EdgeT} {e : EdgeT} : e ∈ liveT r l ↔ e ∈ l ∧ e.fr ≤ r ∧ r < e.to := by
  unfold liveT
  rw [List.mem_filter]
  simp only [Bool.not_eq_eq_eq_not, Bool.not_true, Bool.or_eq_false_iff, decide_eq_false_iff_not]
  constructor
  · rintro ⟨h1, h2, h3⟩; exact ⟨h1, by omega, by omega⟩
  · rintro ⟨h1, h2, h3⟩; exact ⟨h1, by omega, by omega⟩
theorem live_live (r : Int) (l : List EdgeT) : liveT r (liveT r l) = liveT r l := by
  unfold liveT; rw [List.filter_filter]; simp
theorem live_prev {r : Int} {l : List EdgeT} (h : ∀ e ∈ l, e.fr ≤ r - 1) : liveT r (liveT (r - 1) l) = liveT r l := by
  unfold liveT
  rw [List.filter_filter]
  refine List.filter_congr fun e he => ?_
  have := h e he
  rw [Bool.eq_iff_iff]
  simp only [Bool.and_eq_true, Bool.not_eq_eq_eq_not, Bool.not_true, Bool.or_eq_false_iff, decide_eq_false_iff_not]
  omega
theorem live_none {r : Int} {l : List EdgeT} (h : ∀ e ∈ l, r < e.fr) : liveT r l = [] := by
  unfold liveT
  rw [List.filter_eq_nil_iff]
  intro e he
  have := h e he
  simp [this]
theorem srt_drop {T : List EdgeT} (h : Srt T) {m : Nat} (hm : m < T.length) : ∀ e ∈ T.drop m, (T.getD m dE).fr ≤ e.fr := by
  intro e he
  have hd : T.drop m = T[m] :: T.drop (m + 1) := List.drop_eq_getElem_cons hm
  have hs : (T.drop m).Pairwise fun x y => x.fr ≤ y.fr := List.Pairwise.sublist (List.drop_sublist m T) h
  rw [hd] at he hs
  have e0 : T.getD m dE = T[m] := by rw [List.getD_eq_getElem?_getD, List.getElem?_eq_getElem hm]; rfl
  rw [e0]
  rcases List.mem_cons.1 he with rfl | h2
  · exact Int.le_refl _
  · exact (List.pairwise_cons.1 hs).1 e h2
theorem live_all {T : List EdgeT} {r : Int} {m : Nat} (h : Srt T) (hm : m ≤ T.length) (hn : m < T.length → ¬ (T.getD m dE).fr ≤ r) : liveT r (T.take m) = liveT r T := by
  conv => rhs; rw [← List.take_append_drop m T]
  rw [live_append]
  have : liveT r (T.drop m) = [] := by
    rcases Nat.lt_or_ge m T.length with h1 | h1
    · refine live_none fun e he => ?_
      have h2 := srt_drop h h1 e he
      have h3 := hn h1
      omega
    · rw [List.drop_of_length_le h1]; rfl
  rw [this, List.append_nil]
/-! #### what is measured -/
def measT (T : List EdgeT) (X : Int) (p : Nat) (r : Int) : Int := sumF (pxC (X * 256) p) (rowS (crs r (liveT r T)))
def rowSum (T : List EdgeT) (X : Int) (p : Nat) (r0 : Int) : Nat → Int
  | 0 => 0
  | k + 1 => rowSum T X p r0 k + measT T X p (r0 + k)
def pixRow (T : List EdgeT) (X : Int) (n : Nat) (r0 : Int) : List Int := (List.range n).map fun p => valT (rowSum T X p r0 16)
def pixT (T : List EdgeT) (X Y : Int) (n : Nat) : Nat → List Int
  | 0 => []
  | k + 1 => pixT T X Y n k ++ pixRow T X n (16 * (Y + k))
theorem pixT_len (T : List EdgeT) (X Y : Int) (n : Nat) : ∀ k, (pixT T X Y n k).length = k * n
  | 0 => by simp [pixT]
  | k + 1 => by rw [pixT, List.length_append, pixT_len T X Y n k, pixRow, List.length_map, List.length_range, Nat.succ_mul]
theorem measT_bound {T : List EdgeT} (h : T.length ≤ 320) (X : Int) (p : Nat) (r : Int) : 0 ≤ measT T X p r ∧ measT T X p r ≤ 81920 := by
  unfold measT
  have h1 := sumC_bound (X * 256 + 256 * p) (rowS (crs r (liveT r T)))
  have h2 := rowS_len (crs r (liveT r T))
  rw [crs_len] at h2
  have h3 : (liveT r T).length ≤ T.length := List.length_filter_le _ _
  have e : sumF (pxC (X * 256) p) (rowS (crs r (liveT r T))) = sumF (lenC (X * 256 + 256 * p) (X * 256 + 256 * p + 256)) (rowS (crs r (liveT r T))) := rfl
  omega
theorem rowSum_bound {T : List EdgeT} (h : T.length ≤ 320) (X : Int) (p : Nat) (r0 : Int) : ∀ k, 0 ≤ rowSum T X p r0 k ∧ rowSum T X p r0 k ≤ 81920 * k
  | 0 => ⟨Int.le_refl _, by simp [rowSum]⟩
  | k + 1 => by
    have ih := rowSum_bound h X p r0 k
    have h1 := measT_bound h X p (r0 + k)
    simp only [rowSum]
    omega
/-- the sweep, ahead of its q-th row -/
structure OQ (T : List EdgeT) (X R : Int) (n q m : Nat) (wt : List EdgeT) (sums : List Int) : Prop where
  ml : m ≤ T.length
  wt : wt = liveT (R + q - 1) (T.take m)
  fr : ∀ e ∈ T.take m, e.fr ≤ R + q - 1
  sl : sums.length = n
  sm : ∀ p, p < n → sums.getD p 0 = rowSum T X p (R + q - (q % 16 : Nat)) (q % 16)
theorem OQ.bound {T : List EdgeT} {X R : Int} {n q m : Nat} {wt : List EdgeT} {sums : List Int} (h : OQ T X R n q m wt sums) (ht : T.length ≤ 320) : ∀ p, p < n → -1099511627776 ≤ sums.getD p 0 ∧ sums.getD p 0 ≤ 1099511627776 := fun p hp => by
  rw [h.sm p hp]
  have := rowSum_bound ht X p (R + q - (q % 16 : Nat)) (q % 16)
  omega
/-- edges are taken up to row r -/
structure IQ (T : List EdgeT) (r : Int) (m : Nat) (wt : List EdgeT) : Prop where
  ml : m ≤ T.length
  fr : ∀ e ∈ T.take m, e.fr ≤ r
  lv : liveT r wt = liveT r (T.take m)
  wl : wt.length ≤ m
theorem OQ.inner {T : List EdgeT} {X R : Int} {n q m : Nat} {wt : List EdgeT} {sums : List Int} (h : OQ T X R n q m wt sums) : IQ T (R + q) m wt := by
  refine ⟨h.ml, fun e he => by have := h.fr e he; omega, ?_, ?_⟩
  · rw [h.wt]; exact live_prev h.fr
  · rw [h.wt]
    have h1 : (liveT (R + q - 1) (T.take m)).length ≤ (T.take m).length := List.length_filter_le _ _
    have h2 := List.length_take (i := m) (l := T)
    omega
theorem IQ.step {T : List EdgeT} {r : Int} {m : Nat} {wt : List EdgeT} (h : IQ T r m wt) (hm : m < T.length) (hf : (T.getD m dE).fr ≤ r) : IQ T r (m + 1) (wt ++ [T.getD m dE]) := by
  have e : T.take (m + 1) = T.take m ++ [T.getD m dE] := by
    rw [List.take_add_one, List.getElem?_eq_getElem hm, List.getD_eq_getElem?_getD, List.getElem?_eq_getElem hm]; rfl
  refine ⟨hm, fun x hx => ?_, ?_, by rw [List.length_append]; have := h.wl; simp; omega⟩
  · rw [e] at hx
    rcases List.mem_append.1 hx with hx | hx
    · exact h.fr x hx
    · rw [List.mem_singleton.1 hx]; exact hf
  · rw [e, live_append, live_append, h.lv]
theorem IQ.fin {T : List EdgeT} {r : Int} {m : Nat} {wt : List EdgeT} (h : IQ T r m wt) (hs : Srt T) (hn : m < T.length → ¬ (T.getD m dE).fr ≤ r) : liveT r wt = liveT r T := by rw [h.lv]; exact live_all hs h.ml hn
theorem OQ.next {T : List EdgeT} {X R : Int} {n q m m2 : Nat} {wt wt2 : List EdgeT} {sums cur : List Int} (h : OQ T X R n q m wt sums) (hi : IQ T (R + q) m2 wt2) (hl : liveT (R + q) wt2 = liveT (R + q) T) (hg : GQ n sums cur (fun p => sumF (pxC (X * 256) p) (rowS (crs (R + q) (liveT (R + q) (liveT (R + q) wt2)))))) :
    (∀ p, p < n → cur.getD p 0 = rowSum T X p (R + q - (q % 16 : Nat)) (q % 16 + 1)) ∧ (¬ q % 16 = 15 → OQ T X R n (q + 1) m2 (liveT (R + q) wt2) cur) ∧ (q % 16 = 15 → OQ T X R n (q + 1) m2 (liveT (R + q) wt2) (List.replicate n 0)) := by
  have hc : ∀ p, p < n → cur.getD p 0 = rowSum T X p (R + q - (q % 16 : Nat)) (q % 16 + 1) := fun p hp => by
    rw [hg.at_ p hp, h.sm p hp, live_live, hl]
    simp only [rowSum, measT]
    rw [show R + (q : Int) - ((q % 16 : Nat) : Int) + ((q % 16 : Nat) : Int) = R + q by omega]
  have e : R + ((q + 1 : Nat) : Int) - 1 = R + q := by omega
  refine ⟨hc, fun hq => ⟨hi.ml, by rw [e, hi.lv], by rw [e]; exact hi.fr, hg.len, fun p hp => ?_⟩, fun hq => ⟨hi.ml, by rw [e, hi.lv], by rw [e]; exact hi.fr, by simp, fun p hp => ?_⟩⟩
  · rw [hc p hp, show (q + 1) % 16 = q % 16 + 1 by omega, show R + ((q + 1 : Nat) : Int) - ((q % 16 + 1 : Nat) : Int) = R + q - ((q % 16 : Nat) : Int) by omega]
  · rw [show (q + 1) % 16 = 0 by omega, rowSum]
    rw [List.getD_eq_getElem?_getD, List.getElem?_replicate]
    split <;> rfl
theorem pix_next {T : List EdgeT} {X Y : Int} {n q : Nat} {cur : List Int} (hl : cur.length = n) (hq : q % 16 = 15) (h : ∀ p, p < n → cur.getD p 0 = rowSum T X p (16 * Y + q - (q % 16 : Nat)) (q % 16 + 1)) : pixT T X Y n (q / 16) ++ cur.map valT = pixT T X Y n ((q + 1) / 16) := by
  rw [show (q + 1) / 16 = q / 16 + 1 by omega, pixT]
  congr 1
  apply List.ext_getElem
  · simp [pixRow, hl]
  · intro i h1 h2
    have hi : i < n := by simpa [hl] using h1
    simp only [pixRow, List.getElem_map, List.getElem_range]
    have := h i hi
    rw [List.getD_eq_getElem?_getD, List.getElem?_eq_getElem (by omega)] at this
    rw [hq] at this
    rw [show 16 * Y + (q : Int) - ((15 : Nat) : Int) = 16 * (Y + ((q / 16 : Nat) : Int)) by omega] at this
    exact congrArg valT this
theorem row_safe {m olds : List (Nat × Hp)} {oks : List Nat} {key : Nat} {v : Value} {E esz n : Nat} {xs : List Value} {w w2 : World} (ho : sel oks m = some olds) (hok : ∀ k h, lk m k = some h → h.ok w) (hi : ∀ k k' h h' b, lk m k = some h → lk m k' = some h' → h.blk = some b → h'.blk = some b → k = k') (hk : lk m key = some (Hp.own v E esz n xs)) (hne : oks.contains key = false) (hc : Chg (Blks olds) w w2) : RowAt w2 v esz n xs :=
  rowAt_own (Hp.keep (h := Hp.own v E esz n xs) (hok key _ hk) fun b hb => hc.block b (Hp.lt (hok key _ hk) hb) fun ⟨k, h, h1, h2⟩ => by
    have e := hi key k _ h b hk (sel_ok oks olds ho k h h1) hb h2
    subst e
    have := sel_key oks olds ho key h h1
    simp at hne; exact hne this)
end Go.Proofs.Ytaijclimdfchfaa
