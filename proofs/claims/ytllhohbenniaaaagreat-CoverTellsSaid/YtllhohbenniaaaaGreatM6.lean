import Derived.Test.YtllhohbenniaaaaGreatM1
import Derived.Test.YtllhohbenniaaaaGreatM2
import Derived.Test.YtllhohbenniaaaaGreatM3
import Derived.Test.YtllhohbenniaaaaGreatM4
import Derived.Test.YtllhohbenniaaaaGreatM5
/- A row of pixels is flushed; the cover of pieces in a view. Conditions: none. -/
namespace Go.Proofs.YtllhohbenniaaaaGreat
open Go.Proofs Go.RowKit Go.Shelf

theorem flush_el {sums : List Int} {i : Nat} (h : i < sums.length) : El (iI (List.replicate i 0 ++ sums.drop i)) 1 i [.int .i64 (sums.getD i 0)] := by
  have hl : i < (List.replicate i 0 ++ sums.drop i).length := by simp; omega
  have := el_int hl
  have e : (List.replicate i (0 : Int) ++ sums.drop i).getD i 0 = sums.getD i 0 := by
    rw [List.getD_eq_getElem?_getD, List.getElem?_append_right (by simp), List.length_replicate, List.getElem?_drop, Nat.sub_self, Nat.add_zero, List.getD_eq_getElem?_getD]
  rwa [e] at this
theorem flush_set {sums : List Int} {i : Nat} (h : i < sums.length) : (List.replicate i (0 : Int) ++ sums.drop i).set i 0 = List.replicate (i + 1) 0 ++ sums.drop (i + 1) := by
  rw [List.set_append_right _ _ (by simp), List.length_replicate, Nat.sub_self, List.drop_eq_getElem_cons h, List.set_cons_zero, List.replicate_succ', List.append_assoc]; rfl
theorem iU_snoc {l : List Int} {x : Int} : iU l ++ [.int .u8 x] = iU (l ++ [x]) := by simp [iU]
theorem iU_len {l : List Int} : (iU l).length = l.length := by simp [iU]
theorem take_map_snoc {sums : List Int} {i : Nat} (h : i < sums.length) : (sums.take i).map valT ++ [valT (sums.getD i 0)] = (sums.take (i + 1)).map valT := by
  rw [List.take_add_one, List.map_append, List.getElem?_eq_getElem h, List.getD_eq_getElem?_getD, List.getElem?_eq_getElem h]; rfl
set_option maxHeartbeats 1000000 in
theorem a_flush (w : World) (sv pv : Value) (bC n : Nat) (X Y H : Int) (sums pix : List Int) (hn : 1 ≤ n ∧ n ≤ 256) (hsl : sums.length = n) (hpl : pix.length ≤ 1000000) (hsb : ∀ p, p < n → -1099511627776 ≤ sums.getD p 0 ∧ sums.getD p 0 ≤ 1099511627776)
    (hok : ∀ k h, lk [(1000, Hp.own sv 3 1 n (iI sums)), (1001, Hp.box bC 63 [.int .i64 (n : Int), .int .i64 H, pv, .int .i64 X, .int .i64 Y, .int .i64 (n : Int), .int .i64 H, sv]), (23, Hp.own pv 5 1 (pix.length) (iU pix))] k = some h → h.ok w) (hi0 : ∀ k k' h h' b, lk [(1000, Hp.own sv 3 1 n (iI sums)), (1001, Hp.box bC 63 [.int .i64 (n : Int), .int .i64 H, pv, .int .i64 X, .int .i64 Y, .int .i64 (n : Int), .int .i64 H, sv]), (23, Hp.own pv 5 1 (pix.length) (iU pix))] k = some h → lk [(1000, Hp.own sv 3 1 n (iI sums)), (1001, Hp.box bC 63 [.int .i64 (n : Int), .int .i64 H, pv, .int .i64 X, .int .i64 Y, .int .i64 (n : Int), .int .i64 H, sv]), (23, Hp.own pv 5 1 (pix.length) (iU pix))] k' = some h' → h.has b → h'.has b → k = k') :
    Calls Tryz.prog 27 #[.pointer (some ⟨bC, 0, none⟩)] w fun e w' => (∃ y, e = .returned y) ∧ ∃ pv2 : Value, RowV pv2 (pix ++ sums.map valT).length ∧ News [(1000, Hp.own sv 3 1 n (iI sums)), (1001, Hp.box bC 63 [.int .i64 (n : Int), .int .i64 H, pv, .int .i64 X, .int .i64 Y, .int .i64 (n : Int), .int .i64 H, sv]), (23, Hp.own pv 5 1 (pix.length) (iU pix))] [(1000, Hp.own sv 3 1 n (iI (List.replicate n 0))), (1001, Hp.box bC 63 [.int .i64 (n : Int), .int .i64 H, pv2, .int .i64 X, .int .i64 Y, .int .i64 (n : Int), .int .i64 H, sv]), (23, Hp.own pv2 5 1 ((pix ++ sums.map valT).length) (iU (pix ++ sums.map valT)))] w w' := by
  have hVs : RowV sv n := rowV_own (hok 1000 _ rfl)
  have hVp : RowV pv pix.length := rowV_own (hok 23 _ rfl)
  have hlz : ∀ i, i ≤ n → (List.replicate i 0 ++ sums.drop i).length = n := fun i hi => by simp; omega
  have hlp : ∀ i, i ≤ n → (pix ++ (sums.take i).map valT).length = pix.length + i := fun i hi => by simp; omega
  have hlq : (pix ++ sums.map valT).length = pix.length + n := by simp; omega
  refine calls_multi (args := [.pointer (some ⟨bC, 0, none⟩)]) [(1000, Hp.own sv 3 1 n (iI sums)), (1001, Hp.box bC 63 [.int .i64 (n : Int), .int .i64 H, pv, .int .i64 X, .int .i64 Y, .int .i64 (n : Int), .int .i64 H, sv]), (23, Hp.own pv 5 1 (pix.length) (iU pix))] (fun pv2 => RowV pv2 (pix ++ sums.map valT).length) (fun pv2 => [(1000, Hp.own sv 3 1 n (iI (List.replicate n 0))), (1001, Hp.box bC 63 [.int .i64 (n : Int), .int .i64 H, pv2, .int .i64 X, .int .i64 Y, .int .i64 (n : Int), .int .i64 H, sv]), (23, Hp.own pv2 5 1 ((pix ++ sums.map valT).length) (iU (pix ++ sums.map valT)))]) Tryz.func27 rfl Tryz.ntmps27 Tryz.results27 hok hi0 ?_
  refine v_seq ?_
  refine v_region ?_
  refine l_val rfl (o_move rfl) ?_
  refine l_val rfl (o_nilCheck rfl) ?_
  refine l_val rfl (o_fld rfl) ?_
  refine l_val rfl (o_load1 (key := 1001) rfl rfl rfl) ?_
  refine l_val rfl (o_len rfl hVs) ?_
  refine l_val rfl (o_move rfl) ?_
  refine l_nil ?_
  refine kt_norm ?_
  refine v_block ?_
  refine v_loopS (α := Nat × Value) (fun ⟨i, pv2⟩ => [(9, .int .i64 (i : Int))]) (fun ⟨i, pv2⟩ => [(1000, Hp.own sv 3 1 n (iI (List.replicate i 0 ++ sums.drop i))), (1001, Hp.box bC 63 [.int .i64 (n : Int), .int .i64 H, pv2, .int .i64 X, .int .i64 Y, .int .i64 (n : Int), .int .i64 H, sv]), (23, Hp.own pv2 5 1 (pix.length + i) (iU (pix ++ (sums.take i).map valT)))])  (fun ⟨i, pv2⟩ => i ≤ n ∧ RowV pv2 (pix.length + i)) (fun ⟨i, pv2⟩ => n - i) (0, pv) [0, 7, 8] [] ⟨Nat.zero_le _, hVp⟩  (And.intro rfl (True.intro)) rfl (And.intro (congrArg some (own_congr rfl (by simp))) (And.intro rfl (And.intro (congrArg some (own_congr rfl (by simp))) (True.intro)))) rfl ?_
  rintro ⟨i, pv2⟩ ⟨hi, hvp⟩
  refine v_seq ?_
  refine v_region ?_
  refine l_split rfl (o_lss rfl rfl) (fun q1 => ?_) (fun q1 => ?_)
  · have hil : i < n := by omega
    have hsi := hsb i hil
    refine l_nil ?_
    refine kt_norm ?_
    refine v_seq ?_
    refine v_condT rfl ?_
    refine v_skip ?_
    refine kt_norm ?_
    refine v_seq ?_
    refine v_block ?_
    refine v_seq ?_
    refine v_region ?_
    refine l_val rfl (o_move rfl) ?_
    refine l_val rfl (o_idx (i) rfl hVs rfl (by first | rfl | omega) (by omega)) ?_
    refine l_val rfl (o_loadR1 rfl (row_own (key := 1000) rfl) (flush_el (i := i) (by omega))) ?_
    refine l_val rfl (o_assign rfl) ?_
    refine l_val rfl (o_assign rfl) ?_
    refine l_nil ?_
    refine kt_norm ?_
    refine v_seq ?_
    refine v_drawW [(23, pix.length + i + 1)] [[], [], [], [], [], [1001], [], [], [], [23, 22], [], [], [], [1001]] mixed ?_ (by kernel_rfl) (by kernel_rfl)
    refine d_val (fun _ => rfl) rfl rfl (fun σ3 => o_move rfl) ?_
    refine d_val (fun _ => rfl) rfl rfl (fun σ3 => o_move rfl) ?_
    refine d_val (fun _ => rfl) rfl rfl (fun σ3 => o_nilCheck rfl) ?_
    refine d_val (fun _ => rfl) rfl rfl (fun σ3 => o_fld rfl) ?_
    refine d_val (fun _ => rfl) rfl rfl (fun σ3 => o_fld rfl) ?_
    refine d_val (fun _ => rfl) rfl rfl (fun σ3 => o_load1 (key := 1001) rfl rfl rfl) ?_
    refine d_val (fun _ => rfl) rfl rfl (fun σ3 => o_move rfl) ?_
    refine d_ans (vs := [_]) (fun _ => rfl) (fun _ => rfl) (a_Value _) ?_
    refine d_bsO (n := 1) (vs := fun _ => [_]) (cs := fun _ => [_]) (fun _ => rfl) (fun _ => rfl) (fun _ => rfl) rfl rfl (fun _ => rfl) (fun _ => rfl) ?_
    refine d_app 23 (n := pix.length + i) (mm := 1) (κ := [22]) (fun _ => rfl) (fun _ => rfl) (fun _ => rfl) (fun _ => rfl) rfl (fun σ3 => .inl ⟨_, _, _, rfl⟩) (fun σ3 => row_own (key := 22) rfl) (by omega) (fun _ h => h) ?_
    refine d_val (fun _ => rfl) rfl rfl (fun σ3 => o_nilCheck rfl) ?_
    refine d_val (fun _ => rfl) rfl rfl (fun σ3 => o_fld rfl) ?_
    refine d_val (fun _ => rfl) rfl rfl (fun σ3 => o_fld rfl) ?_
    refine d_store (fun _ => rfl) rfl rfl (fun σ3 => o_store1 (key := 1001) (rs := [_, _, _, _, _, _, _, _]) rfl rfl (rowV_cells (show RowV (σ3.v 23) (pix.length + i + 1) from σ3.ok 23)) rfl rfl (rowV_one (show RowV (σ3.v 23) (pix.length + i + 1) from σ3.ok 23)) rfl) ?_
    refine d_nil (fun σ3 => ?_)
    refine l_nil ?_
    refine kt_norm ?_
    refine v_sel [9, 0, 7, 8, 2] [23, 1000, 1001] rfl rfl ?_
    refine v_region ?_
    refine l_val rfl (o_move rfl) ?_
    refine l_val rfl (o_nilCheck rfl) ?_
    refine l_val rfl (o_fld rfl) ?_
    refine l_val rfl (o_load1 (key := 1001) rfl rfl rfl) ?_
    refine l_val rfl (o_move rfl) ?_
    refine l_val rfl (o_idx (i) rfl hVs rfl (by first | rfl | omega) (by omega)) ?_
    refine l_store rfl (o_storeR1 (key := 1000) (j := i) rfl rfl rfl rfl rfl (by omega) (by rw [iI_len, hlz i hi]; omega)) ?_
    refine l_nil ?_
    refine kb_norm ?_
    refine kt_norm ?_
    refine v_sel [9, 0, 7, 8] [23, 1000, 1001] rfl rfl ?_
    refine v_region ?_
    refine l_val rfl (o_addi rfl rfl ?_) ?_
    · omega
    refine l_val rfl (o_move rfl) ?_
    refine l_nil ?_
    refine kt_norm ?_
    refine ⟨(i + 1, σ3.v 23), ⟨hil, (show RowV (σ3.v 23) (pix.length + i + 1) from σ3.ok 23)⟩, (by show n - (i + 1) < n - i; omega), le_app (And.intro rfl (True.intro)) [0, 7, 8] rfl (And.intro (congrArg some (own_congr rfl (by rw [iI_set, flush_set (by omega)]))) (And.intro rfl (And.intro (congrArg some (own_congr rfl (by rw [iU_snoc, List.append_assoc, take_map_snoc (by omega)]))) (True.intro)))) [] rfl⟩
  · skip
    refine l_nil ?_
    refine kt_norm ?_
    refine v_seq ?_
    refine v_condF rfl ?_
    refine v_exit ?_
    refine kt_exit ?_
    refine kt_exit ?_
    refine kb_eq ?_
    refine ⟨[], ResAll.nil, ?_⟩
    obtain rfl : i = n := by omega
    exact ⟨pv2, by rw [hlq]; exact hvp, leL_ok _ (And.intro (congrArg some (own_congr rfl (by rw [List.drop_of_length_le (by omega), List.append_nil]))) (And.intro rfl (And.intro (congrArg some (own_congr hlq.symm (by rw [List.take_of_length_le (by omega)]))) True.intro)))⟩
/-! #### the table of a view -/
theorem insS_perm (e : EdgeT) (o : List EdgeT) : (o ++ [e]).Perm (insS e o) := by
  unfold insS
  have h := (List.takeWhile_append_dropWhile (p := fun x : EdgeT => decide (x.fr ≤ e.fr)) (l := o))
  refine List.Perm.trans ?_ List.perm_middle.symm
  rw [h]
  exact List.perm_append_singleton e o
theorem foldl_perm : ∀ (l o : List EdgeT), (o ++ l).Perm (l.foldl (fun o e => insS e o) o)
  | [], o => by simp
  | e :: l, o => by
    have ih := foldl_perm l (insS e o)
    rw [List.foldl_cons]
    refine List.Perm.trans ?_ ih
    have h := List.Perm.append_right l (insS_perm e o)
    rwa [List.append_assoc] at h
theorem stSort_perm (l : List EdgeT) : l.Perm (stSort l) := by have := foldl_perm l []; simpa [stSort] using this
/-- a table that can be swept -/
structure TOk (T : List EdgeT) : Prop where
  len : T.length ≤ 320
  srt : Srt T
  cross : ∀ e ∈ T, ∀ r, e.fr ≤ r → r < e.to → CrossOk r e
theorem tOk_tab {X Y W H : Int} {ps : List (List PtT)} (hb : Bnd ps) : TOk (tabT X Y W H ps) := by
  refine ⟨tabT_len hb, ?_, ?_⟩
  · unfold tabT; split
    · exact (stSort_ok _ _ rfl).1
    · exact List.Pairwise.nil
  · unfold tabT; split
    · intro e he r h1 h2
      obtain ⟨e0, h3, rfl, h4⟩ := viewEs_mem ((stSort_perm _).mem_iff.2 he)
      have ho := edgesAll_ok hb e0 h3
      rw [cutE_fr] at h1
      rw [cutE_to] at h2
      exact crossOk_cut (crossOk_of ho.1 ho.2 (by split at h1 <;> omega) (by split at h2 <;> omega))
    · intro e he; cases he
theorem live_mem {r : Int} {l : List EdgeT} {e : EdgeT} : e ∈ liveT r l ↔ e ∈ l ∧ e.fr ≤ r ∧ r < e.to := by
  unfold liveT
  rw [List.mem_filter]
  simp only [Bool.not_eq_eq_eq_not, Bool.not_true, Bool.or_eq_false_iff, decide_eq_false_iff_not]
  constructor
  · rintro ⟨h1, h2, h3⟩; exact ⟨h1, by omega, by omega⟩
  · rintro ⟨h1, h2, h3⟩; exact ⟨h1, by omega, by omega⟩
theorem live_live (r : Int) (l : List EdgeT) : liveT r (liveT r l) = liveT r l := by
  unfold liveT; rw [List.filter_filter]; simp
theorem live_prev {r : Int} {l : List EdgeT} (h : ∀ e ∈ l, e.fr ≤ r - 1) : liveT r (liveT (r - 1) l) = liveT r l := by
  unfold liveT
  rw [List.filter_filter]
  refine List.filter_congr fun e he => ?_
  have := h e he
  rw [Bool.eq_iff_iff]
  simp only [Bool.and_eq_true, Bool.not_eq_eq_eq_not, Bool.not_true, Bool.or_eq_false_iff, decide_eq_false_iff_not]
  omega
theorem live_none {r : Int} {l : List EdgeT} (h : ∀ e ∈ l, r < e.fr) : liveT r l = [] := by
  unfold liveT
  rw [List.filter_eq_nil_iff]
  intro e he
  have := h e he
  simp [this]
theorem srt_drop {T : List EdgeT} (h : Srt T) {m : Nat} (hm : m < T.length) : ∀ e ∈ T.drop m, (T.getD m dE).fr ≤ e.fr := by
  intro e he
  have hd : T.drop m = T[m] :: T.drop (m + 1) := List.drop_eq_getElem_cons hm
  have hs : (T.drop m).Pairwise fun x y => x.fr ≤ y.fr := List.Pairwise.sublist (List.drop_sublist m T) h
  rw [hd] at he hs
  have e0 : T.getD m dE = T[m] := by rw [List.getD_eq_getElem?_getD, List.getElem?_eq_getElem hm]; rfl
  rw [e0]
  rcases List.mem_cons.1 he with rfl | h2
  · exact Int.le_refl _
  · exact (List.pairwise_cons.1 hs).1 e h2
theorem live_all {T : List EdgeT} {r : Int} {m : Nat} (h : Srt T) (hm : m ≤ T.length) (hn : m < T.length → ¬ (T.getD m dE).fr ≤ r) : liveT r (T.take m) = liveT r T := by
  conv => rhs; rw [← List.take_append_drop m T]
  rw [live_append]
  have : liveT r (T.drop m) = [] := by
    rcases Nat.lt_or_ge m T.length with h1 | h1
    · refine live_none fun e he => ?_
      have h2 := srt_drop h h1 e he
      have h3 := hn h1
      omega
    · rw [List.drop_of_length_le h1]; rfl
  rw [this, List.append_nil]
/-! #### what is measured -/
def measT (T : List EdgeT) (X : Int) (p : Nat) (r : Int) : Int := sumF (pxC (X * 256) p) (rowS (crs r (liveT r T)))
def rowSum (T : List EdgeT) (X : Int) (p : Nat) (r0 : Int) : Nat → Int
  | 0 => 0
  | k + 1 => rowSum T X p r0 k + measT T X p (r0 + k)
def pixRow (T : List EdgeT) (X : Int) (n : Nat) (r0 : Int) : List Int := (List.range n).map fun p => valT (rowSum T X p r0 16)
def pixT (T : List EdgeT) (X Y : Int) (n : Nat) : Nat → List Int
  | 0 => []
  | k + 1 => pixT T X Y n k ++ pixRow T X n (16 * (Y + k))
theorem pixT_len (T : List EdgeT) (X Y : Int) (n : Nat) : ∀ k, (pixT T X Y n k).length = k * n
  | 0 => by simp [pixT]
  | k + 1 => by rw [pixT, List.length_append, pixT_len T X Y n k, pixRow, List.length_map, List.length_range, Nat.succ_mul]
theorem measT_bound {T : List EdgeT} (h : T.length ≤ 320) (X : Int) (p : Nat) (r : Int) : 0 ≤ measT T X p r ∧ measT T X p r ≤ 81920 := by
  unfold measT
  have h1 := sumC_bound (X * 256 + 256 * p) (rowS (crs r (liveT r T)))
  have h2 := rowS_len (crs r (liveT r T))
  rw [crs_len] at h2
  have h3 : (liveT r T).length ≤ T.length := List.length_filter_le _ _
  have e : sumF (pxC (X * 256) p) (rowS (crs r (liveT r T))) = sumF (lenC (X * 256 + 256 * p) (X * 256 + 256 * p + 256)) (rowS (crs r (liveT r T))) := rfl
  omega
theorem rowSum_bound {T : List EdgeT} (h : T.length ≤ 320) (X : Int) (p : Nat) (r0 : Int) : ∀ k, 0 ≤ rowSum T X p r0 k ∧ rowSum T X p r0 k ≤ 81920 * k
  | 0 => ⟨Int.le_refl _, by simp [rowSum]⟩
  | k + 1 => by
    have ih := rowSum_bound h X p r0 k
    have h1 := measT_bound h X p (r0 + k)
    simp only [rowSum]
    omega
/-- the sweep, ahead of its q-th row -/
structure OQ (T : List EdgeT) (X R : Int) (n q m : Nat) (wt : List EdgeT) (sums : List Int) : Prop where
  ml : m ≤ T.length
  wt : wt = liveT (R + q - 1) (T.take m)
  fr : ∀ e ∈ T.take m, e.fr ≤ R + q - 1
  sl : sums.length = n
  sm : ∀ p, p < n → sums.getD p 0 = rowSum T X p (R + q - (q % 16 : Nat)) (q % 16)
theorem OQ.bound {T : List EdgeT} {X R : Int} {n q m : Nat} {wt : List EdgeT} {sums : List Int} (h : OQ T X R n q m wt sums) (ht : T.length ≤ 320) : ∀ p, p < n → -1099511627776 ≤ sums.getD p 0 ∧ sums.getD p 0 ≤ 1099511627776 := fun p hp => by
  rw [h.sm p hp]
  have := rowSum_bound ht X p (R + q - (q % 16 : Nat)) (q % 16)
  omega
/-- edges are taken up to row r -/
structure IQ (T : List EdgeT) (r : Int) (m : Nat) (wt : List EdgeT) : Prop where
  ml : m ≤ T.length
  fr : ∀ e ∈ T.take m, e.fr ≤ r
  lv : liveT r wt = liveT r (T.take m)
  wl : wt.length ≤ m
theorem OQ.inner {T : List EdgeT} {X R : Int} {n q m : Nat} {wt : List EdgeT} {sums : List Int} (h : OQ T X R n q m wt sums) : IQ T (R + q) m wt := by
  refine ⟨h.ml, fun e he => by have := h.fr e he; omega, ?_, ?_⟩
  · rw [h.wt]; exact live_prev h.fr
  · rw [h.wt]
    have h1 : (liveT (R + q - 1) (T.take m)).length ≤ (T.take m).length := List.length_filter_le _ _
    have h2 := List.length_take (i := m) (l := T)
    omega
theorem IQ.step {T : List EdgeT} {r : Int} {m : Nat} {wt : List EdgeT} (h : IQ T r m wt) (hm : m < T.length) (hf : (T.getD m dE).fr ≤ r) : IQ T r (m + 1) (wt ++ [T.getD m dE]) := by
  have e : T.take (m + 1) = T.take m ++ [T.getD m dE] := by
    rw [List.take_add_one, List.getElem?_eq_getElem hm, List.getD_eq_getElem?_getD, List.getElem?_eq_getElem hm]; rfl
  refine ⟨hm, fun x hx => ?_, ?_, by rw [List.length_append]; have := h.wl; simp; omega⟩
  · rw [e] at hx
    rcases List.mem_append.1 hx with hx | hx
    · exact h.fr x hx
    · rw [List.mem_singleton.1 hx]; exact hf
  · rw [e, live_append, live_append, h.lv]
theorem IQ.fin {T : List EdgeT} {r : Int} {m : Nat} {wt : List EdgeT} (h : IQ T r m wt) (hs : Srt T) (hn : m < T.length → ¬ (T.getD m dE).fr ≤ r) : liveT r wt = liveT r T := by rw [h.lv]; exact live_all hs h.ml hn
theorem OQ.next {T : List EdgeT} {X R : Int} {n q m m2 : Nat} {wt wt2 : List EdgeT} {sums cur : List Int} (h : OQ T X R n q m wt sums) (hi : IQ T (R + q) m2 wt2) (hl : liveT (R + q) wt2 = liveT (R + q) T) (hg : GQ n sums cur (fun p => sumF (pxC (X * 256) p) (rowS (crs (R + q) (liveT (R + q) (liveT (R + q) wt2)))))) :
    (∀ p, p < n → cur.getD p 0 = rowSum T X p (R + q - (q % 16 : Nat)) (q % 16 + 1)) ∧ (¬ q % 16 = 15 → OQ T X R n (q + 1) m2 (liveT (R + q) wt2) cur) ∧ (q % 16 = 15 → OQ T X R n (q + 1) m2 (liveT (R + q) wt2) (List.replicate n 0)) := by
  have hc : ∀ p, p < n → cur.getD p 0 = rowSum T X p (R + q - (q % 16 : Nat)) (q % 16 + 1) := fun p hp => by
    rw [hg.at_ p hp, h.sm p hp, live_live, hl]
    simp only [rowSum, measT]
    rw [show R + (q : Int) - ((q % 16 : Nat) : Int) + ((q % 16 : Nat) : Int) = R + q by omega]
  have e : R + ((q + 1 : Nat) : Int) - 1 = R + q := by omega
  refine ⟨hc, fun hq => ⟨hi.ml, by rw [e, hi.lv], by rw [e]; exact hi.fr, hg.len, fun p hp => ?_⟩, fun hq => ⟨hi.ml, by rw [e, hi.lv], by rw [e]; exact hi.fr, by simp, fun p hp => ?_⟩⟩
  · rw [hc p hp, show (q + 1) % 16 = q % 16 + 1 by omega, show R + ((q + 1 : Nat) : Int) - ((q % 16 + 1 : Nat) : Int) = R + q - ((q % 16 : Nat) : Int) by omega]
  · rw [show (q + 1) % 16 = 0 by omega, rowSum]
    rw [List.getD_eq_getElem?_getD, List.getElem?_replicate]
    split <;> rfl
theorem pix_next {T : List EdgeT} {X Y : Int} {n q : Nat} {cur : List Int} (hl : cur.length = n) (hq : q % 16 = 15) (h : ∀ p, p < n → cur.getD p 0 = rowSum T X p (16 * Y + q - (q % 16 : Nat)) (q % 16 + 1)) : pixT T X Y n (q / 16) ++ cur.map valT = pixT T X Y n ((q + 1) / 16) := by
  rw [show (q + 1) / 16 = q / 16 + 1 by omega, pixT]
  congr 1
  apply List.ext_getElem
  · simp [pixRow, hl]
  · intro i h1 h2
    have hi : i < n := by simpa [hl] using h1
    simp only [pixRow, List.getElem_map, List.getElem_range]
    have := h i hi
    rw [List.getD_eq_getElem?_getD, List.getElem?_eq_getElem (by omega)] at this
    rw [hq] at this
    rw [show 16 * Y + (q : Int) - ((15 : Nat) : Int) = 16 * (Y + ((q / 16 : Nat) : Int)) by omega] at this
    exact congrArg valT this
theorem row_safe {m olds : List (Nat × Hp)} {oks : List Nat} {key : Nat} {v : Value} {E esz n : Nat} {xs : List Value} {w w2 : World} (ho : sel oks m = some olds) (hok : ∀ k h, lk m k = some h → h.ok w) (hi : ∀ k k' h h' b, lk m k = some h → lk m k' = some h' → h.has b → h'.has b → k = k') (hk : lk m key = some (Hp.own v E esz n xs)) (hne : oks.contains key = false) (hc : Chg (Blks olds) w w2) : RowAt w2 v esz n xs :=
  rowAt_own (Hp.keep (h := Hp.own v E esz n xs) (hok key _ hk) fun b hb => hc.block b (Hp.lt (hok key _ hk) hb) fun ⟨k, h, h1, h2⟩ => by
    have e := hi key k _ h b hk (sel_ok oks olds ho k h h1) hb h2
    subst e
    have := sel_key oks olds ho key h h1
    simp at hne; exact hne this)
end Go.Proofs.YtllhohbenniaaaaGreat

/- The cover of pieces in a view. Conditions: none. -/
namespace Go.Proofs.YtllhohbenniaaaaGreat
open Go.Proofs Go.RowKit Go.Shelf

/-- a slice's capacity is no less than its length -/
def Capd (v : Value) : Prop := ∀ a n c, v = .slice a n c → n ≤ c
theorem capd_own {w : World} {v : Value} {E esz n : Nat} {xs : List Value} (h : (Hp.own v E esz n xs).ok w) : Capd v := fun a n' c e => by
  rcases h.1.2 with ⟨rfl, rfl⟩ | ⟨g, cap, cur, rfl, h0, hg, hnc, hcm, hcs, htake⟩
  · cases e; exact Nat.le_refl _
  · cases e; exact hnc
theorem capd_from {v : Value} {esz lo : Nat} (h : Capd v) : Capd (subFrom v esz lo) := fun a n c e => by
  unfold subFrom at e
  split at e
  · rename_i a' n' c'
    have := h a' n' c' rfl
    cases e; omega
  · exact h a n c e
theorem rowAt_drop {w : World} {v : Value} {esz n lo : Nat} {xs : List Value} (h : RowAt w v esz n xs) (hv : RowV v n) (hc : Capd v) (hle : lo ≤ n) : RowAt w (subFrom v esz lo) esz (n - lo) (xs.drop (lo * esz)) := by
  refine ⟨by rw [List.length_drop, h.len, Nat.sub_mul], fun j u hu => ?_, fun u hu => h.one u (List.mem_of_mem_drop hu)⟩
  rw [List.getElem?_drop] at hu
  have h1 := h.at_ _ u hu
  have hj : lo * esz + j < xs.length := (List.getElem?_eq_some_iff.1 hu).1
  rw [h.len] at hj
  have hlt : lo < n := by
    rcases Nat.lt_or_ge lo n with h | h
    · exact h
    · have := Nat.mul_le_mul_right esz h; omega
  rcases hv with ⟨b, o, c, rfl⟩ | ⟨rfl, rfl⟩ | ⟨a, c, rfl, rfl⟩
  · have h2 := hc _ _ _ rfl
    simp only [subFrom, if_neg (show ¬ c = lo by omega), Option.map_some, addAt, blkOf, offOf] at h1 ⊢
    rw [Nat.add_assoc]; exact h1
  · omega
  · omega
set_option maxHeartbeats 2000000 in
theorem a_cover (w : World) (v : Value) (pvs : List Value) (ps : List (List PtT)) (X Y : Int) (n h : Nat) (hb : Bnd ps) (hvp : PcsV v pvs ps) (hat : PcsAt w v pvs ps) (hvw : ViewOk X Y (n : Int) (h : Int)) :
    Calls Tryz.prog 7 #[v, .agg #[.int .i64 X, .int .i64 Y, .int .i64 (n : Int), .int .i64 (h : Int)]] w fun e w' => ∃ x : Value, e = .returned (.tuple #[.agg #[.int .i64 (n : Int), .int .i64 (h : Int), x], .int .i64 0]) ∧ Below w.heap.size w w' ∧ (Hp.own x 5 1 (pixT (tabT X Y (n : Int) (h : Int) ps) X Y n h).length (iU (pixT (tabT X Y (n : Int) (h : Int) ps) X Y n h))).ok w' ∧ ∀ b, x.ownBlock = some b → w.heap.size ≤ b := by
  have vd := (viewOk_def X Y (n : Int) (h : Int)).1 hvw
  refine calls_said (args := [v, .agg #[.int .i64 X, .int .i64 Y, .int .i64 (n : Int), .int .i64 (h : Int)]]) (fun x => .tuple #[.agg #[.int .i64 (n : Int), .int .i64 (h : Int), x], .int .i64 0]) (fun x w' => (Hp.own x 5 1 (pixT (tabT X Y (n : Int) (h : Int) ps) X Y n h).length (iU (pixT (tabT X Y (n : Int) (h : Int) ps) X Y n h))).ok w') (fun x b => x.ownBlock = some b) Tryz.func7 rfl Tryz.ntmps7 Tryz.results7 rfl ?_
  refine v_seq ?_
  refine v_region ?_
  refine l_new rfl (o_box (cs := [_, _, _, _]) rfl rfl) fun b3 => ?_
  refine l_new rfl o_alloc fun b4 => ?_
  refine l_val rfl (o_assign rfl) ?_
  refine l_nil ?_
  refine kt_norm ?_
  refine v_seq ?_
  refine v_seq ?_
  refine v_region ?_
  refine l_val rfl (o_loadW (key := 3) rfl rfl rfl) ?_
  refine l_ans (vs := [_]) rfl rfl ((show Ans Tryz.prog _ _ (.int .i64 0) by have := a_Check X Y (n : Int) (h : Int); rwa [if_pos hvw] at this)) ?_
  refine l_val rfl (o_assign rfl) ?_
  refine l_nil ?_
  refine kt_norm ?_
  refine v_seq ?_
  refine v_region ?_
  refine l_val rfl (o_move rfl) ?_
  refine l_split rfl (o_neq rfl rfl) (fun q1 => absurd q1 (by omega)) (fun q1 => ?_)
  refine l_nil ?_
  refine kt_norm ?_
  refine v_condF rfl ?_
  refine v_skip ?_
  refine kt_norm ?_
  refine v_sel [0, 3, 4] [3, 4] rfl rfl ?_
  refine v_seq ?_
  refine v_drawW [] [[], [3], [], [3], [], [3], [], [3], [], [], [], []] mixed ?_ (by kernel_rfl) (by kernel_rfl)
  refine d_val (fun _ => rfl) rfl rfl (fun σ4 => o_fld rfl) ?_
  refine d_val (fun _ => rfl) rfl rfl (fun σ4 => o_load1 (key := 3) rfl rfl rfl) ?_
  refine d_val (fun _ => rfl) rfl rfl (fun σ4 => o_fld rfl) ?_
  refine d_val (fun _ => rfl) rfl rfl (fun σ4 => o_load1 (key := 3) rfl rfl rfl) ?_
  refine d_val (fun _ => rfl) rfl rfl (fun σ4 => o_build (vs := [_, _]) (cs := [_, _, _]) rfl rfl) ?_
  refine d_val (fun _ => rfl) rfl rfl (fun σ4 => o_loadW (key := 3) rfl rfl rfl) ?_
  refine d_val (fun _ => rfl) rfl rfl (fun σ4 => o_fld rfl) ?_
  refine d_val (fun _ => rfl) rfl rfl (fun σ4 => o_load1 (key := 3) rfl rfl rfl) ?_
  refine d_mkO (n := n) (fun _ => rfl) (fun _ => rfl) (fun _ => rfl) rfl rfl (by omega) rfl ?_
  refine d_val (fun _ => rfl) rfl rfl (fun σ4 => o_build (vs := [_, _, _]) (cs := [_, _, _, _, _, _, _, _]) rfl rfl) ?_
  refine d_new (fun _ => rfl) rfl rfl (fun _ => o_box (cs := [_, _, _, _, _, _, _, _]) rfl rfl) ?_
  refine d_val (fun _ => rfl) rfl rfl (fun σ4 => o_assign rfl) ?_
  refine d_nil (fun σ4 => ?_)
  refine l_nil ?_
  refine kt_norm ?_
  refine v_sel [0, 3, 4, 7] [3, 4, 25, 27] rfl rfl ?_
  refine v_seq ?_
  refine v_region ?_
  refine l_val rfl (o_move rfl) ?_
  refine l_val rfl (o_loadW (key := 3) rfl rfl rfl) ?_
  refine l_gown (ks := []) (caps := #[]) (vs := [_, _]) rfl rfl (ent_of Tryz.func24 rfl rfl) rfl (fun w' hg hh => a_TableT w' v pvs ps X Y (n : Int) (h : Int) hb hvp (hat.keep hg)) fun tb htb => ?_
  refine l_freeze 30 [3, 4, 25, 27] rfl rfl rfl ?_
  have hTok : TOk (tabT X Y (n : Int) (h : Int) ps) := tOk_tab hb
  obtain ⟨T, hT⟩ : ∃ T, (tabT X Y (n : Int) (h : Int) ps) = T := ⟨_, rfl⟩
  rw [hT] at hTok htb ⊢
  have hTl := hTok.len
  refine l_val rfl (o_assign rfl) ?_
  refine l_nil ?_
  refine kt_norm ?_
  refine v_seq ?_
  refine v_region ?_
  refine l_val rfl (o_assign rfl) ?_
  refine l_nil ?_
  refine kt_norm ?_
  refine v_seq ?_
  refine v_seq ?_
  refine v_region ?_
  refine l_val rfl (o_fld rfl) ?_
  refine l_val rfl (o_load1 (key := 3) rfl rfl rfl) ?_
  refine l_val rfl (o_muli rfl rfl ?_) ?_
  · omega
  refine l_val rfl (o_assign rfl) ?_
  refine l_nil ?_
  refine kt_norm ?_
  refine v_sel [3, 4, 7, 8, 9, 10] [3, 4, 25, 27] rfl rfl ?_
  refine v_block ?_
  refine v_renH 25 1000 [3, 4, 27] rfl rfl rfl ?_
  refine v_renH 27 1001 [3, 4, 1000] rfl rfl rfl ?_
  refine v_ghost 23 5 1 ?_
  refine v_ghost 65 66 7 ?_
  refine v_loopS (α := Nat × Nat × Value × Value × List EdgeT × List Int × Value) (fun ⟨q, m, tv, wv, wt, sums, pv⟩ => [(10, .int .i64 (16 * Y + (q : Int))), (8, tv), (9, wv)]) (fun ⟨q, m, tv, wv, wt, sums, pv⟩ => [(1000, Hp.own (.slice (some ⟨σ4.b 25, 0, none⟩) n n) 3 1 n (iI sums)), (1001, Hp.box (σ4.b 27) 63 [.int .i64 (n : Int), .int .i64 (h : Int), pv, .int .i64 X, .int .i64 Y, .int .i64 (n : Int), .int .i64 (h : Int), (.slice (some ⟨σ4.b 25, 0, none⟩) n n)]), (23, Hp.own pv 5 1 (pixT T X Y n (q / 16)).length (iU (pixT T X Y n (q / 16)))), (65, Hp.own wv 66 7 wt.length (wt.flatMap eE))])  (fun ⟨q, m, tv, wv, wt, sums, pv⟩ => q ≤ 16 * h ∧ OQ T X (16 * Y) n q m wt sums ∧ RowV wv wt.length ∧ RowV tv (T.length - m) ∧ (∀ w', Chg (fun _ => False) w w' ∧ (Hp.own tb 66 7 T.length (T.flatMap eE)).ok w' → RowAt w' tv 7 (T.length - m) ((T.drop m).flatMap eE) ∧ Capd tv) ∧ RowV pv (pixT T X Y n (q / 16)).length) (fun ⟨q, m, tv, wv, wt, sums, pv⟩ => 16 * h - q) (0, 0, tb, .slice none 0 0, [], List.replicate n 0, .slice none 0 0) [3, 4, 7] [3, 4] ⟨Nat.zero_le _, ⟨Nat.zero_le _, rfl, fun e he => (by cases he), by simp, fun p hp => by rw [List.getD_eq_getElem?_getD, List.getElem?_replicate]; split <;> rfl⟩, .nil0, htb, fun w' hg => ⟨rowAt_own hg.2, capd_own hg.2⟩, .nil0⟩  (And.intro (congrArg (fun z => some (Value.int .i64 z)) (by omega)) (And.intro rfl (And.intro rfl (True.intro)))) rfl (And.intro (congrArg some (own_congr rfl (by simp [iI]))) (And.intro rfl (And.intro rfl (And.intro rfl (True.intro))))) rfl ?_
  rintro ⟨q, m, tv, wv, wt, sums, pv⟩ ⟨hq, hO, hwv, htv, htr, hpv⟩
  refine v_seq ?_
  refine v_seq ?_
  refine v_region ?_
  refine l_val rfl (o_move rfl) ?_
  refine l_val rfl (o_fld rfl) ?_
  refine l_val rfl (o_load1 (key := 3) rfl rfl rfl) ?_
  refine l_val rfl (o_fld rfl) ?_
  refine l_val rfl (o_load1 (key := 3) rfl rfl rfl) ?_
  refine l_val rfl (o_addi rfl rfl ?_) ?_
  · omega
  refine l_val rfl (o_muli rfl rfl ?_) ?_
  · omega
  refine l_split rfl (o_lss rfl rfl) (fun h87 => ?_) (fun h87 => ?_)
  · have hqh : q < 16 * h := by omega
    have hpl := pixT_len T X Y n (q / 16)
    have hpm : (q / 16) * n ≤ 256 * 256 := Nat.mul_le_mul (by omega) (by omega)
    refine l_nil ?_
    refine kt_norm ?_
    refine v_sel [10, 8, 9, 3, 4, 7, 41] [3, 4, 23, 65, 1000, 1001] rfl rfl ?_
    refine v_condT rfl ?_
    refine v_skip ?_
    refine kt_norm ?_
    refine v_seq ?_
    refine v_block ?_
    refine v_seq ?_
    refine v_block ?_
    refine v_loopS (α := Nat × Value × Value × List EdgeT) (fun ⟨m2, tv2, wv2, wt2⟩ => [(8, tv2), (9, wv2)]) (fun ⟨m2, tv2, wv2, wt2⟩ => [(65, Hp.own wv2 66 7 wt2.length (wt2.flatMap eE))])  (fun ⟨m2, tv2, wv2, wt2⟩ => IQ T (16 * Y + (q : Int)) m2 wt2 ∧ RowV wv2 wt2.length ∧ RowV tv2 (T.length - m2) ∧ (∀ w', Chg (fun _ => False) w w' ∧ (Hp.own tb 66 7 T.length (T.flatMap eE)).ok w' → RowAt w' tv2 7 (T.length - m2) ((T.drop m2).flatMap eE) ∧ Capd tv2)) (fun ⟨m2, tv2, wv2, wt2⟩ => T.length - m2) (m, tv, wv, wt) [10, 3, 4, 7] [3, 4, 23, 1000, 1001] ⟨hO.inner, hwv, htv, htr⟩  (And.intro rfl (And.intro rfl (True.intro))) rfl (And.intro rfl (True.intro)) rfl ?_
    rintro ⟨m2, tv2, wv2, wt2⟩ ⟨hI, hwv2, htv2, htr2⟩
    refine v_seq ?_
    refine v_seq ?_
    refine v_region ?_
    have hml2 := hI.ml
    have hwl2 := hI.wl
    refine l_val rfl (o_move rfl) ?_
    refine l_val rfl (o_len rfl htv2) ?_
    refine l_split rfl (o_gtr rfl rfl) (fun h102 => ?_) (fun h102 => ?_)
    · skip
      refine l_val rfl (o_move rfl) ?_
      refine l_val rfl (o_move rfl) ?_
      refine l_val rfl (o_idx (0) rfl htv2 rfl (by first | rfl | omega) (by omega)) ?_
      refine l_val rfl (o_fld rfl) ?_
      refine l_val rfl (o_loadRF (f := 5) rfl (row_imm (fun w' hg => (htr2 w' hg).1)) (el_flat eE_len dE (T.drop m2) (0) (by rw [List.length_drop]; omega)) rfl) ?_
      refine l_val rfl (o_move rfl) ?_
      refine l_split rfl (o_leq rfl rfl) (fun h109 => ?_) (fun h109 => ?_)
      · have hm2 : m2 < T.length := by omega
        have hE0 : ((T.drop m2).getD 0 dE) = T.getD m2 dE := by rw [List.getD_eq_getElem?_getD, List.getElem?_drop, Nat.add_zero, List.getD_eq_getElem?_getD]
        rw [hE0] at h109
        refine l_val rfl (o_pickT rfl rfl) ?_
        refine l_nil ?_
        refine kt_norm ?_
        refine v_condT rfl ?_
        refine v_skip ?_
        refine kt_norm ?_
        refine v_block ?_
        refine v_drawW [(60, wt2.length + 1)] [[], [], [], [], [], [65, 59], [], [], [], []] mixed ?_ (by kernel_rfl) (by kernel_rfl)
        refine d_val (fun _ => rfl) rfl rfl (fun σ11 => o_move rfl) ?_
        refine d_val (fun _ => rfl) rfl rfl (fun σ11 => o_move rfl) ?_
        refine d_val (fun _ => rfl) rfl rfl (fun σ11 => o_idx (0) rfl htv2 rfl (by first | rfl | omega) (by omega)) ?_
        refine d_val (fun _ => rfl) rfl rfl (fun σ11 => o_loadRE (c' := [_, _, _, _, _, _, _]) rfl (row_imm (fun w' hg => (htr2 w' hg).1)) (el_flat eE_len dE (T.drop m2) (0) (by rw [List.length_drop]; omega)) rfl) ?_
        refine d_bsO (n := 1) (vs := fun _ => [_]) (cs := fun _ => [_, _, _, _, _, _, _]) (fun _ => rfl) (fun _ => rfl) (fun _ => rfl) rfl rfl (fun _ => rfl) (fun _ => rfl) ?_
        refine d_app 65 (n := wt2.length) (mm := 1) (κ := [59]) (fun _ => rfl) (fun _ => rfl) (fun _ => rfl) (fun _ => rfl) rfl (fun σ11 => .inl ⟨_, _, _, rfl⟩) (fun σ11 => row_own (key := 59) rfl) (by omega) (fun _ h => h) ?_
        refine d_val (fun _ => rfl) rfl rfl (fun σ11 => o_move rfl) ?_
        refine d_val (fun _ => rfl) rfl rfl (fun _ => o_sliceFrom (lo := 1) rfl htv2 rfl rfl (by omega)) ?_
        refine d_val (fun _ => rfl) rfl rfl (fun σ11 => o_assign rfl) ?_
        refine d_val (fun _ => rfl) rfl rfl (fun σ11 => o_assign rfl) ?_
        refine d_nil (fun σ11 => ?_)
        refine l_nil ?_
        refine kb_norm ?_
        refine kt_norm ?_
        refine ⟨(m2 + 1, _, σ11.v 60, wt2 ++ [T.getD m2 dE]), ⟨hI.step hm2 h109, by rw [List.length_append]; exact (show RowV (σ11.v 60) (wt2.length + 1) from σ11.ok 60), (rowV_from htv2 (by omega)).to (by omega), fun w' hg => ⟨by have h1 := rowAt_drop (lo := 1) (htr2 w' hg).1 htv2 (htr2 w' hg).2 (by omega); rw [flat_drop eE_len, List.drop_drop] at h1; exact (show T.length - m2 - 1 = T.length - (m2 + 1) by omega) ▸ h1, capd_from (htr2 w' hg).2⟩⟩, (by show T.length - (m2 + 1) < T.length - m2; omega), le_app (And.intro rfl (And.intro rfl (True.intro))) [10, 3, 4, 7] rfl (And.intro (congrArg some (own_congr (by rw [List.length_append]; rfl) (by rw [← hE0, List.flatMap_append]; simp [eE]))) (True.intro)) [3, 4, 23, 1000, 1001] rfl⟩
      · skip
        refine l_val rfl (o_pickT rfl rfl) ?_
        refine l_nil ?_
        refine kt_norm ?_
        refine v_condF rfl ?_
        refine v_exit ?_
        refine kt_exit ?_
        refine kt_exit ?_
        refine kb_eq ?_
        refine kt_norm ?_
        refine v_seq ?_
        refine v_region ?_
        have hml2 := hI.ml
        have hwl2 := hI.wl
        have hE1 : ((T.drop m2).getD 0 dE) = T.getD m2 dE := by rw [List.getD_eq_getElem?_getD, List.getElem?_drop, Nat.add_zero, List.getD_eq_getElem?_getD]
        have hLT : liveT (16 * Y + (q : Int)) wt2 = liveT (16 * Y + (q : Int)) T := hI.fin hTok.srt (fun hm2 hle => by rw [← hE1] at hle; omega)
        have hll3 : (liveT (16 * Y + (q : Int)) wt2).length ≤ wt2.length := List.length_filter_le _ _
        have hsl3 : (rowS (crs (16 * Y + (q : Int)) (liveT (16 * Y + (q : Int)) (liveT (16 * Y + (q : Int)) wt2)))).length ≤ (liveT (16 * Y + (q : Int)) wt2).length := by have h1 := rowS_len (crs (16 * Y + (q : Int)) (liveT (16 * Y + (q : Int)) (liveT (16 * Y + (q : Int)) wt2))); rw [crs_len] at h1; have h2 : (liveT (16 * Y + (q : Int)) (liveT (16 * Y + (q : Int)) wt2)).length ≤ (liveT (16 * Y + (q : Int)) wt2).length := List.length_filter_le _ _; omega
        refine l_val rfl (o_move rfl) ?_
        refine l_val rfl (o_move rfl) ?_
        refine l_gown (ks := [65]) (caps := #[]) (vs := [_, _]) rfl rfl (ent_of Tryz.func25 rfl rfl) rfl (fun w' hg hh => a_Live w' wv2 wt2 (16 * Y + (q : Int)) (by omega) hwv2 (rowAt_own (hh 65 (by simp) _ rfl))) fun y65 hy65 => ?_
        refine l_val rfl (o_assign rfl) ?_
        refine l_nil ?_
        refine kt_norm ?_
        refine v_sel [8, 9, 10, 3, 4, 7, 48, 49, 50, 51, 52, 53] [3, 4, 23, 65, 1000, 1001] rfl rfl ?_
        refine v_seq ?_
        refine v_region ?_
        refine l_val rfl (o_move rfl) ?_
        refine l_val rfl (o_move rfl) ?_
        refine l_val rfl (o_move rfl) ?_
        refine l_gown (ks := [65]) (caps := #[]) (vs := [_, _]) rfl rfl (ent_of Tryz.func18 rfl rfl) rfl (fun w' hg hh => a_Spans w' y65 (liveT (16 * Y + (q : Int)) wt2) (16 * Y + (q : Int)) (by omega) hy65 (rowAt_own (hh 65 (by simp) _ rfl)) (fun e he => hTok.cross e (live_mem.1 (hLT ▸ live_live (16 * Y + (q : Int)) wt2 ▸ he)).1 _ (live_mem.1 he).2.1 (live_mem.1 he).2.2)) fun y69 hy69 => ?_
        refine l_gmulti (fun cur => GQ n sums cur (fun p => sumF (pxC (X * 256) p) (rowS (crs (16 * Y + (q : Int)) (liveT (16 * Y + (q : Int)) (liveT (16 * Y + (q : Int)) wt2)))))) (fun cur => [(1000, Hp.own (.slice (some ⟨σ4.b 25, 0, none⟩) n n) 3 1 n (iI cur)), (1001, Hp.box (σ4.b 27) 63 [.int .i64 (n : Int), .int .i64 (h : Int), pv, .int .i64 X, .int .i64 Y, .int .i64 (n : Int), .int .i64 (h : Int), (.slice (some ⟨σ4.b 25, 0, none⟩) n n)])]) [1000, 1001] [3, 4, 23, 65, 69] (caps := #[]) (vs := [_, _]) rfl rfl (ent_of Tryz.func26 rfl rfl) rfl rfl rfl rfl (fun w' hg hok hi hgb => a_gather w' y69 (.slice (some ⟨σ4.b 25, 0, none⟩) n n) pv (σ4.b 27) n X Y (h : Int) (rowS (crs (16 * Y + (q : Int)) (liveT (16 * Y + (q : Int)) (liveT (16 * Y + (q : Int)) wt2)))) sums (by omega) (by omega) (by omega) hO.sl (hO.bound hTl) hy69 (fun k h0 hh => hok k h0 (sel_ok [1000, 1001] _ rfl k h0 hh)) (fun k k' h0 h0' b h1 h2 => hi k k' h0 h0' b (sel_ok [1000, 1001] _ rfl k h0 h1) (sel_ok [1000, 1001] _ rfl k' h0' h2)) (fun w2 hc => row_safe (oks := [1000, 1001]) (key := 69) rfl hok hi rfl rfl hc)) (fun cur y70 hG => ?_)
        obtain ⟨hcs, hon, hof⟩ := hO.next hI hLT hG
        refine l_nil ?_
        refine kt_norm ?_
        refine v_seq ?_
        refine v_region ?_
        refine l_val rfl (o_move rfl) ?_
        refine l_val rfl (o_and15 rfl rfl) ?_
        refine l_split rfl (o_eql rfl rfl) (fun h142 => ?_) (fun h142 => ?_)
        · skip
          refine l_nil ?_
          refine kt_norm ?_
          refine v_sel [8, 9, 10, 3, 4, 7, 48, 49, 50, 51, 52, 53, 73] [3, 4, 23, 65, 1000, 1001] rfl rfl ?_
          refine v_condT rfl ?_
          refine v_region ?_
          refine l_val rfl (o_move rfl) ?_
          refine l_gmulti (fun pv2 => RowV pv2 ((pixT T X Y n (q / 16)) ++ cur.map valT).length) (fun pv2 => [(1000, Hp.own (.slice (some ⟨σ4.b 25, 0, none⟩) n n) 3 1 n (iI (List.replicate n 0))), (1001, Hp.box (σ4.b 27) 63 [.int .i64 (n : Int), .int .i64 (h : Int), pv2, .int .i64 X, .int .i64 Y, .int .i64 (n : Int), .int .i64 (h : Int), (.slice (some ⟨σ4.b 25, 0, none⟩) n n)]), (23, Hp.own pv2 5 1 (((pixT T X Y n (q / 16)) ++ cur.map valT)).length (iU ((pixT T X Y n (q / 16)) ++ cur.map valT)))]) [1000, 1001, 23] [3, 4, 65] (caps := #[]) (vs := [_]) rfl rfl (ent_of Tryz.func27 rfl rfl) rfl rfl rfl rfl (fun w' hg hok hi hgb => a_flush w' (.slice (some ⟨σ4.b 25, 0, none⟩) n n) pv (σ4.b 27) n X Y (h : Int) cur (pixT T X Y n (q / 16)) (by omega) hG.len (by omega) (fun p hp => by rw [hcs p hp]; have := rowSum_bound hTl X p (16 * Y + q - (q % 16 : Nat)) (q % 16 + 1); omega) (fun k h0 hh => hok k h0 (sel_ok [1000, 1001, 23] _ rfl k h0 hh)) (fun k k' h0 h0' b h1 h2 => hi k k' h0 h0' b (sel_ok [1000, 1001, 23] _ rfl k h0 h1) (sel_ok [1000, 1001, 23] _ rfl k' h0' h2))) (fun pv2 y75 hpv2 => ?_)
          have hpn := pix_next hG.len (by omega) hcs
          refine l_nil ?_
          refine kb_norm ?_
          refine kt_norm ?_
          refine v_region ?_
          refine l_val rfl (o_move rfl) ?_
          refine l_val rfl (o_addi rfl rfl ?_) ?_
          · omega
          refine l_val rfl (o_assign rfl) ?_
          refine l_nil ?_
          refine kt_norm ?_
          refine ⟨(q + 1, m2, tv2, y65, liveT (16 * Y + (q : Int)) wt2, List.replicate n 0, pv2), ⟨by omega, hof (by omega), hy65, htv2, htr2, by rw [← hpn]; exact hpv2⟩, (by show 16 * h - (q + 1) < 16 * h - q; omega), le_app (And.intro (congrArg (fun z => some (Value.int .i64 z)) (by omega)) (And.intro rfl (And.intro rfl (True.intro)))) [3, 4, 7] rfl (And.intro rfl (And.intro rfl (And.intro (congrArg some (own_congr (by rw [hpn]) (by rw [hpn]))) (And.intro rfl (True.intro))))) [3, 4] rfl⟩
        · skip
          refine l_nil ?_
          refine kt_norm ?_
          refine v_sel [8, 9, 10, 3, 4, 7, 48, 49, 50, 51, 52, 53, 73] [3, 4, 23, 65, 1000, 1001] rfl rfl ?_
          refine v_condF rfl ?_
          refine v_skip ?_
          refine kb_norm ?_
          refine kt_norm ?_
          refine v_region ?_
          refine l_val rfl (o_move rfl) ?_
          refine l_val rfl (o_addi rfl rfl ?_) ?_
          · omega
          refine l_val rfl (o_assign rfl) ?_
          refine l_nil ?_
          refine kt_norm ?_
          refine ⟨(q + 1, m2, tv2, y65, liveT (16 * Y + (q : Int)) wt2, cur, pv), ⟨by omega, hon (by omega), hy65, htv2, htr2, by rw [show (q + 1) / 16 = q / 16 by omega]; exact hpv⟩, (by show 16 * h - (q + 1) < 16 * h - q; omega), le_app (And.intro (congrArg (fun z => some (Value.int .i64 z)) (by omega)) (And.intro rfl (And.intro rfl (True.intro)))) [3, 4, 7] rfl (And.intro rfl (And.intro rfl (And.intro (congrArg some (own_congr (by rw [show (q + 1) / 16 = q / 16 by omega]) (by rw [show (q + 1) / 16 = q / 16 by omega]))) (And.intro rfl (True.intro))))) [3, 4] rfl⟩
    · skip
      refine l_val rfl (o_move rfl) ?_
      refine l_no rfl ?_
      refine l_no rfl ?_
      refine l_no rfl ?_
      refine l_no rfl ?_
      refine l_no rfl ?_
      refine l_no rfl ?_
      refine l_val rfl (o_pickF rfl rfl) ?_
      refine l_nil ?_
      refine kt_norm ?_
      refine v_condF rfl ?_
      refine v_exit ?_
      refine kt_exit ?_
      refine kt_exit ?_
      refine kb_eq ?_
      refine kt_norm ?_
      refine v_seq ?_
      refine v_region ?_
      have hml2 := hI.ml
      have hwl2 := hI.wl
      have hE1 : ((T.drop m2).getD 0 dE) = T.getD m2 dE := by rw [List.getD_eq_getElem?_getD, List.getElem?_drop, Nat.add_zero, List.getD_eq_getElem?_getD]
      have hLT : liveT (16 * Y + (q : Int)) wt2 = liveT (16 * Y + (q : Int)) T := hI.fin hTok.srt (fun hm2 hle => by rw [← hE1] at hle; omega)
      have hll3 : (liveT (16 * Y + (q : Int)) wt2).length ≤ wt2.length := List.length_filter_le _ _
      have hsl3 : (rowS (crs (16 * Y + (q : Int)) (liveT (16 * Y + (q : Int)) (liveT (16 * Y + (q : Int)) wt2)))).length ≤ (liveT (16 * Y + (q : Int)) wt2).length := by have h1 := rowS_len (crs (16 * Y + (q : Int)) (liveT (16 * Y + (q : Int)) (liveT (16 * Y + (q : Int)) wt2))); rw [crs_len] at h1; have h2 : (liveT (16 * Y + (q : Int)) (liveT (16 * Y + (q : Int)) wt2)).length ≤ (liveT (16 * Y + (q : Int)) wt2).length := List.length_filter_le _ _; omega
      refine l_val rfl (o_move rfl) ?_
      refine l_val rfl (o_move rfl) ?_
      refine l_gown (ks := [65]) (caps := #[]) (vs := [_, _]) rfl rfl (ent_of Tryz.func25 rfl rfl) rfl (fun w' hg hh => a_Live w' wv2 wt2 (16 * Y + (q : Int)) (by omega) hwv2 (rowAt_own (hh 65 (by simp) _ rfl))) fun y65 hy65 => ?_
      refine l_val rfl (o_assign rfl) ?_
      refine l_nil ?_
      refine kt_norm ?_
      refine v_sel [8, 9, 10, 3, 4, 7, 48, 49, 50, 51, 52, 53] [3, 4, 23, 65, 1000, 1001] rfl rfl ?_
      refine v_seq ?_
      refine v_region ?_
      refine l_val rfl (o_move rfl) ?_
      refine l_val rfl (o_move rfl) ?_
      refine l_val rfl (o_move rfl) ?_
      refine l_gown (ks := [65]) (caps := #[]) (vs := [_, _]) rfl rfl (ent_of Tryz.func18 rfl rfl) rfl (fun w' hg hh => a_Spans w' y65 (liveT (16 * Y + (q : Int)) wt2) (16 * Y + (q : Int)) (by omega) hy65 (rowAt_own (hh 65 (by simp) _ rfl)) (fun e he => hTok.cross e (live_mem.1 (hLT ▸ live_live (16 * Y + (q : Int)) wt2 ▸ he)).1 _ (live_mem.1 he).2.1 (live_mem.1 he).2.2)) fun y69 hy69 => ?_
      refine l_gmulti (fun cur => GQ n sums cur (fun p => sumF (pxC (X * 256) p) (rowS (crs (16 * Y + (q : Int)) (liveT (16 * Y + (q : Int)) (liveT (16 * Y + (q : Int)) wt2)))))) (fun cur => [(1000, Hp.own (.slice (some ⟨σ4.b 25, 0, none⟩) n n) 3 1 n (iI cur)), (1001, Hp.box (σ4.b 27) 63 [.int .i64 (n : Int), .int .i64 (h : Int), pv, .int .i64 X, .int .i64 Y, .int .i64 (n : Int), .int .i64 (h : Int), (.slice (some ⟨σ4.b 25, 0, none⟩) n n)])]) [1000, 1001] [3, 4, 23, 65, 69] (caps := #[]) (vs := [_, _]) rfl rfl (ent_of Tryz.func26 rfl rfl) rfl rfl rfl rfl (fun w' hg hok hi hgb => a_gather w' y69 (.slice (some ⟨σ4.b 25, 0, none⟩) n n) pv (σ4.b 27) n X Y (h : Int) (rowS (crs (16 * Y + (q : Int)) (liveT (16 * Y + (q : Int)) (liveT (16 * Y + (q : Int)) wt2)))) sums (by omega) (by omega) (by omega) hO.sl (hO.bound hTl) hy69 (fun k h0 hh => hok k h0 (sel_ok [1000, 1001] _ rfl k h0 hh)) (fun k k' h0 h0' b h1 h2 => hi k k' h0 h0' b (sel_ok [1000, 1001] _ rfl k h0 h1) (sel_ok [1000, 1001] _ rfl k' h0' h2)) (fun w2 hc => row_safe (oks := [1000, 1001]) (key := 69) rfl hok hi rfl rfl hc)) (fun cur y70 hG => ?_)
      obtain ⟨hcs, hon, hof⟩ := hO.next hI hLT hG
      refine l_nil ?_
      refine kt_norm ?_
      refine v_seq ?_
      refine v_region ?_
      refine l_val rfl (o_move rfl) ?_
      refine l_val rfl (o_and15 rfl rfl) ?_
      refine l_split rfl (o_eql rfl rfl) (fun h142 => ?_) (fun h142 => ?_)
      · skip
        refine l_nil ?_
        refine kt_norm ?_
        refine v_sel [8, 9, 10, 3, 4, 7, 48, 49, 50, 51, 52, 53, 73] [3, 4, 23, 65, 1000, 1001] rfl rfl ?_
        refine v_condT rfl ?_
        refine v_region ?_
        refine l_val rfl (o_move rfl) ?_
        refine l_gmulti (fun pv2 => RowV pv2 ((pixT T X Y n (q / 16)) ++ cur.map valT).length) (fun pv2 => [(1000, Hp.own (.slice (some ⟨σ4.b 25, 0, none⟩) n n) 3 1 n (iI (List.replicate n 0))), (1001, Hp.box (σ4.b 27) 63 [.int .i64 (n : Int), .int .i64 (h : Int), pv2, .int .i64 X, .int .i64 Y, .int .i64 (n : Int), .int .i64 (h : Int), (.slice (some ⟨σ4.b 25, 0, none⟩) n n)]), (23, Hp.own pv2 5 1 (((pixT T X Y n (q / 16)) ++ cur.map valT)).length (iU ((pixT T X Y n (q / 16)) ++ cur.map valT)))]) [1000, 1001, 23] [3, 4, 65] (caps := #[]) (vs := [_]) rfl rfl (ent_of Tryz.func27 rfl rfl) rfl rfl rfl rfl (fun w' hg hok hi hgb => a_flush w' (.slice (some ⟨σ4.b 25, 0, none⟩) n n) pv (σ4.b 27) n X Y (h : Int) cur (pixT T X Y n (q / 16)) (by omega) hG.len (by omega) (fun p hp => by rw [hcs p hp]; have := rowSum_bound hTl X p (16 * Y + q - (q % 16 : Nat)) (q % 16 + 1); omega) (fun k h0 hh => hok k h0 (sel_ok [1000, 1001, 23] _ rfl k h0 hh)) (fun k k' h0 h0' b h1 h2 => hi k k' h0 h0' b (sel_ok [1000, 1001, 23] _ rfl k h0 h1) (sel_ok [1000, 1001, 23] _ rfl k' h0' h2))) (fun pv2 y75 hpv2 => ?_)
        have hpn := pix_next hG.len (by omega) hcs
        refine l_nil ?_
        refine kb_norm ?_
        refine kt_norm ?_
        refine v_region ?_
        refine l_val rfl (o_move rfl) ?_
        refine l_val rfl (o_addi rfl rfl ?_) ?_
        · omega
        refine l_val rfl (o_assign rfl) ?_
        refine l_nil ?_
        refine kt_norm ?_
        refine ⟨(q + 1, m2, tv2, y65, liveT (16 * Y + (q : Int)) wt2, List.replicate n 0, pv2), ⟨by omega, hof (by omega), hy65, htv2, htr2, by rw [← hpn]; exact hpv2⟩, (by show 16 * h - (q + 1) < 16 * h - q; omega), le_app (And.intro (congrArg (fun z => some (Value.int .i64 z)) (by omega)) (And.intro rfl (And.intro rfl (True.intro)))) [3, 4, 7] rfl (And.intro rfl (And.intro rfl (And.intro (congrArg some (own_congr (by rw [hpn]) (by rw [hpn]))) (And.intro rfl (True.intro))))) [3, 4] rfl⟩
      · skip
        refine l_nil ?_
        refine kt_norm ?_
        refine v_sel [8, 9, 10, 3, 4, 7, 48, 49, 50, 51, 52, 53, 73] [3, 4, 23, 65, 1000, 1001] rfl rfl ?_
        refine v_condF rfl ?_
        refine v_skip ?_
        refine kb_norm ?_
        refine kt_norm ?_
        refine v_region ?_
        refine l_val rfl (o_move rfl) ?_
        refine l_val rfl (o_addi rfl rfl ?_) ?_
        · omega
        refine l_val rfl (o_assign rfl) ?_
        refine l_nil ?_
        refine kt_norm ?_
        refine ⟨(q + 1, m2, tv2, y65, liveT (16 * Y + (q : Int)) wt2, cur, pv), ⟨by omega, hon (by omega), hy65, htv2, htr2, by rw [show (q + 1) / 16 = q / 16 by omega]; exact hpv⟩, (by show 16 * h - (q + 1) < 16 * h - q; omega), le_app (And.intro (congrArg (fun z => some (Value.int .i64 z)) (by omega)) (And.intro rfl (And.intro rfl (True.intro)))) [3, 4, 7] rfl (And.intro rfl (And.intro rfl (And.intro (congrArg some (own_congr (by rw [show (q + 1) / 16 = q / 16 by omega]) (by rw [show (q + 1) / 16 = q / 16 by omega]))) (And.intro rfl (True.intro))))) [3, 4] rfl⟩
  · skip
    refine l_nil ?_
    refine kt_norm ?_
    refine v_sel [10, 8, 9, 3, 4, 7, 41] [3, 4, 23, 65, 1000, 1001] rfl rfl ?_
    refine v_condF rfl ?_
    refine v_exit ?_
    refine kt_exit ?_
    refine kt_exit ?_
    refine kb_eq ?_
    refine kt_norm ?_
    refine v_seq ?_
    refine v_region ?_
    obtain rfl : q = 16 * h := by omega
    have e16 : 16 * h / 16 = h := by omega
    rw [e16] at hpv
    obtain ⟨ap, cp, rfl⟩ := hpv.sl
    refine l_val rfl (o_move rfl) ?_
    refine l_val rfl (o_nilCheck rfl) ?_
    refine l_val rfl (o_fld rfl) ?_
    refine l_val rfl (o_loadP (key := 1001) (rs := [_, _, _]) rfl rfl rfl rfl) ?_
    refine l_store rfl (o_storeW (key := 4) (xs := [_, _, _]) rfl rfl rfl rfl rfl rfl rfl) ?_
    refine l_val rfl (o_assign rfl) ?_
    refine l_nil ?_
    refine kt_norm ?_
    refine v_sel [4, 5] [4, 23, 65, 1000, 1001] rfl rfl ?_
    refine v_ret ?_
    refine ⟨[_, _], .cons (.cellW (key := 4) rfl rfl rfl) (.cons (.tmp rfl) (ResAll.nil)), ?_⟩
    refine ⟨.slice ap _ cp, rfl, fun w' ho => ⟨?_, fun b hb => ((ho.mo 23 _ rfl).2 b hb).elim id False.elim⟩⟩
    have h1 := (ho.mo 23 _ rfl).1
    rw [e16] at h1
    exact h1
end Go.Proofs.YtllhohbenniaaaaGreat

/- One pixel of a cover; what is measured, and its value. Conditions: none. -/
namespace Go.Proofs.YtllhohbenniaaaaGreat
open Go.Proofs Go.RowKit Go.Shelf

theorem l_gownF {C : Cx} {K : Exit → St → Prop} {ops : Array Oper} {rest : List Oper} {l : List (Nat × Value)} {m : List (Nat × Hp)} {g : World → Prop} {gb : Nat → Prop} {dd : List Nat} {i : Nat} {ty : TypeId} {pos : String} {aft : Array Edge} {gd : Option (Nat × Bool)} {ks : List Nat} {E : TypeId} {n esz : Nat} {xs : List Value}
    {f : Nat} {cal : Operand} {as_ : Array Operand} {ts : Array TypeId} {vs : List Value} (F : Value → Value) (hw : wantS C (mk l m g gb dd) ops ⟨some i, .call { callee := .value cal, args := as_, argTypes := ts }, ty, pos, aft, gd⟩ = some true) {caps : Array Value} (hcal : ev C (mk l m g gb dd) cal = some (.func (.func f) #[] caps)) (hent : ∀ args w, (callFunc f args).run C.P w = .ok (.enter f args) w) (hargs : evs C (mk l m g gb dd) as_.toList = some vs)
    (hc : ∀ w, g w → Held (mk l m g gb dd) ks w → Calls C.P f (vs.toArray ++ caps) w fun e w' => ∃ y, e = .returned (F y) ∧ Below w.heap.size w w' ∧ OwnAt w.heap.size w' y E esz n xs)
    (next : ∀ y, RowV y n → VL C ops rest K (mk ((i, F y) :: l) ((i, .own y E esz n xs) :: m) g gb dd)) : VL C ops (⟨some i, .call { callee := .value cal, args := as_, argTypes := ts }, ty, pos, aft, gd⟩ :: rest) K (mk l m g gb dd) :=
  vl_step hw fun a w hr => call_step (R := fun u w' => ∃ y, u = F y ∧ Below w.heap.size w w' ∧ OwnAt w.heap.size w' y E esz n xs) hr hcal hent hargs ((hc w hr.gh (held_of hr ks)).mono fun e w' ⟨y, h1, h2⟩ => ⟨F y, h1, y, rfl, h2⟩) fun u w' ⟨y, h0, h1, h2⟩ =>
    ⟨mk ((i, F y) :: l) ((i, .own y E esz n xs) :: m) g gb dd, by subst h0; rw [← mk_put]; exact rep_put (rep_newOwn hr h1 h2.1 (fun b hb => h2.2 b hb) i) (some i) _, next y h2.rowV⟩
theorem el_u8 {l : List Int} {i : Nat} (h : i < l.length) : El (iU l) 1 i [.int .u8 (l.getD i 0)] := ⟨rfl, fun f hf => by
  obtain rfl : f = 0 := by omega
  rw [Nat.mul_one, Nat.add_zero, iU, List.getElem?_map, List.getElem?_eq_getElem h, List.getD_eq_getElem?_getD, List.getElem?_eq_getElem h]; rfl⟩
/-- a pixel of an image; nought where there is none -/
def atT (n h : Nat) (pix : List Int) (x y : Int) : Int := if (0 ≤ x ∧ x < n) ∧ (0 ≤ y ∧ y < h) then pix.getD (y * n + x).toNat 0 else 0
theorem at_ix {n h : Nat} {x y : Int} (h1 : 0 ≤ x ∧ x < n) (h2 : 0 ≤ y ∧ y < h) : 0 ≤ y * n ∧ 0 ≤ y * n + x ∧ y * n + x < ((n * h : Nat) : Int) ∧ y * n ≤ ((n * h : Nat) : Int) := by
  have e1 : 0 ≤ y * (n : Int) := Int.mul_nonneg h2.1 (by omega)
  have e2 : y * (n : Int) ≤ ((h : Int) - 1) * n := Int.mul_le_mul_of_nonneg_right (by omega) (by omega)
  have e3 : ((h : Int) - 1) * n = ((n * h : Nat) : Int) - n := by rw [Int.sub_mul, Int.one_mul, Int.natCast_mul, Int.mul_comm]
  omega
/-- bounds of the statements on covers -/
def BndQ (pc : List PtT) : Prop := pc.length ≤ 10 ∧ ∀ m, m < pc.length → NearT (pc.getD m dP)
instance (pc : List PtT) : Decidable (BndQ pc) := by unfold BndQ; infer_instance
def Bn21 (ps : List (List PtT)) : Prop := ps.length ≤ 12 ∧ ∀ i, i < ps.length → BndQ (ps.getD i [])
instance (ps : List (List PtT)) : Decidable (Bn21 ps) := by unfold Bn21; infer_instance
theorem Bn21.bnd {ps : List (List PtT)} (h : Bn21 ps) : Bnd ps := ⟨by have := h.1; omega, fun i hi => ⟨by have := (h.2 i hi).1; omega, (h.2 i hi).2⟩⟩
theorem a_within (x n : Int) : Ans Tryz.prog 43 [.int .i64 x, .int .i64 n] (.bool (decide (0 ≤ x ∧ x < n))) := by
  refine ans_of Tryz.func43 rfl Tryz.ntmps43 Tryz.results43 rfl rfl fun w => ?_
  refine v_seq ?_
  refine v_region ?_
  refine l_val rfl (o_assign rfl) ?_
  refine l_nil ?_
  refine kt_norm ?_
  refine v_seq ?_
  refine v_region ?_
  refine l_val rfl (o_move rfl) ?_
  refine l_split rfl (o_leq rfl rfl) (fun q1 => ?_) (fun q1 => ?_)
  · first
    | (exfalso; omega; done)
    | (
        refine l_val rfl (o_move rfl) ?_
        refine l_val rfl (o_move rfl) ?_
        refine l_val rfl (o_move rfl) ?_
        refine l_split rfl (o_lss rfl rfl) (fun q2 => ?_) (fun q2 => ?_)
        · first
          | (exfalso; omega; done)
          | (
              refine l_val rfl (o_pickT rfl rfl) ?_
              refine l_val rfl (o_assign rfl) ?_
              refine l_nil ?_
              refine kt_norm ?_
              refine v_sel [4] [] rfl rfl ?_
              refine v_ret ?_
              refine ⟨[_], .cons (.tmp rfl) (ResAll.nil), ?_⟩
              exact congrArg Value.bool (by first | exact (decide_eq_true (by omega)).symm | exact (decide_eq_false (by omega)).symm))
        · first
          | (exfalso; omega; done)
          | (
              refine l_val rfl (o_pickT rfl rfl) ?_
              refine l_val rfl (o_assign rfl) ?_
              refine l_nil ?_
              refine kt_norm ?_
              refine v_sel [4] [] rfl rfl ?_
              refine v_ret ?_
              refine ⟨[_], .cons (.tmp rfl) (ResAll.nil), ?_⟩
              exact congrArg Value.bool (by first | exact (decide_eq_true (by omega)).symm | exact (decide_eq_false (by omega)).symm)))
  · first
    | (exfalso; omega; done)
    | (
        refine l_val rfl (o_move rfl) ?_
        refine l_no rfl ?_
        refine l_no rfl ?_
        refine l_no rfl ?_
        refine l_val rfl (o_pickF rfl rfl) ?_
        refine l_val rfl (o_assign rfl) ?_
        refine l_nil ?_
        refine kt_norm ?_
        refine v_sel [4] [] rfl rfl ?_
        refine v_ret ?_
        refine ⟨[_], .cons (.tmp rfl) (ResAll.nil), ?_⟩
        exact congrArg Value.bool (by first | exact (decide_eq_true (by omega)).symm | exact (decide_eq_false (by omega)).symm))
theorem a_AtC (w : World) (pv : Value) (n h : Nat) (pix : List Int) (x y : Int) (hnh : n * h ≤ 65536) (hl : pix.length = n * h) (hV : RowV pv pix.length) (hrow : RowAt w pv 1 pix.length (iU pix)) :
    Calls Tryz.prog 21 #[.agg #[.int .i64 (n : Int), .int .i64 (h : Int), pv], .int .i64 x, .int .i64 y] w fun e w' => e = .returned (.int .u8 (atT n h pix x y)) ∧ Below w.heap.size w w' := by
  have hr : ∀ w', Chg (fun _ => False) w w' → RowAt w' pv 1 pix.length (iU pix) := fun w' h => hrow.chg h (fun h => h)
  have hnn : (n : Int) ≤ 65536 ∨ h = 0 := by rcases Nat.eq_zero_or_pos h with e | e; exact .inr e; left; have := Nat.mul_le_mul_left n e; omega
  obtain ⟨ap, cp, rfl⟩ := hV.sl
  refine calls_of (args := [.agg #[.int .i64 (n : Int), .int .i64 (h : Int), .slice ap pix.length cp], .int .i64 x, .int .i64 y]) Tryz.func21 rfl Tryz.ntmps21 Tryz.results21 rfl ?_
  refine v_seq ?_
  refine v_region ?_
  refine l_new rfl (o_box (cs := [_, _, _]) rfl rfl) fun b3 => ?_
  refine l_val rfl (o_assign rfl) ?_
  refine l_nil ?_
  refine kt_norm ?_
  refine v_seq ?_
  refine v_seq ?_
  refine v_region ?_
  skip
  refine l_val rfl (o_move rfl) ?_
  refine l_val rfl (o_fld rfl) ?_
  refine l_val rfl (o_load1 (key := 3) rfl rfl rfl) ?_
  refine l_ans (vs := [_, _]) rfl rfl (a_within _ _) ?_
  refine lz_bool (fun hwx => ?_) (fun hwx => ?_)
  · skip
    refine l_val rfl (o_not rfl rfl) ?_
    refine l_val rfl (o_move rfl) ?_
    refine l_val rfl (o_move rfl) ?_
    refine l_val rfl (o_fld rfl) ?_
    refine l_val rfl (o_load1 (key := 3) rfl rfl rfl) ?_
    refine l_ans (vs := [_, _]) rfl rfl (a_within _ _) ?_
    refine lz_bool (fun hwy => ?_) (fun hwy => ?_)
    · skip
      refine l_val rfl (o_not rfl rfl) ?_
      refine l_val rfl (o_pickF rfl rfl) ?_
      refine l_nil ?_
      refine kt_norm ?_
      refine v_sel [1, 2, 3, 18] [3] rfl rfl ?_
      refine v_condF rfl ?_
      refine v_skip ?_
      refine kt_norm ?_
      refine v_seq ?_
      refine v_region ?_
      have hix := at_ix hwx hwy
      refine l_val rfl (o_fld rfl) ?_
      refine l_val rfl (o_load1 (key := 3) rfl rfl rfl) ?_
      refine l_val rfl (o_move rfl) ?_
      refine l_val rfl (o_fld rfl) ?_
      refine l_val rfl (o_load1 (key := 3) rfl rfl rfl) ?_
      refine l_val rfl (o_muli rfl rfl ?_) ?_
      · omega
      refine l_val rfl (o_move rfl) ?_
      refine l_val rfl (o_addi rfl rfl ?_) ?_
      · omega
      refine l_val rfl (o_idx ((y * n + x).toNat) rfl hV rfl (by omega) (by omega)) ?_
      refine l_val rfl (o_loadR1 rfl (row_imm hr) (el_u8 (l := pix) (i := (y * n + x).toNat) (by omega))) ?_
      refine l_val rfl (o_assign rfl) ?_
      refine l_nil ?_
      refine kt_norm ?_
      refine v_sel [6] [] rfl rfl ?_
      refine v_ret ?_
      refine ⟨[_], .cons (.tmp rfl) (ResAll.nil), ?_⟩
      first
        | exact congrArg (Value.int .u8) (if_pos ⟨hwx, hwy⟩).symm
        | exact congrArg (Value.int .u8) (if_neg (fun hc => hwx hc.1)).symm
        | exact congrArg (Value.int .u8) (if_neg (fun hc => hwy hc.2)).symm
    · skip
      refine l_val rfl (o_not rfl rfl) ?_
      refine l_val rfl (o_pickF rfl rfl) ?_
      refine l_nil ?_
      refine kt_norm ?_
      refine v_sel [1, 2, 3, 18] [3] rfl rfl ?_
      refine v_condT rfl ?_
      refine v_seq ?_
      refine v_region ?_
      refine l_val rfl (o_assign rfl) ?_
      refine l_nil ?_
      refine kt_norm ?_
      refine v_ret ?_
      refine kt_ret ?_
      refine ⟨[_], .cons (.tmp rfl) (ResAll.nil), ?_⟩
      first
        | exact congrArg (Value.int .u8) (if_pos ⟨hwx, hwy⟩).symm
        | exact congrArg (Value.int .u8) (if_neg (fun hc => hwx hc.1)).symm
        | exact congrArg (Value.int .u8) (if_neg (fun hc => hwy hc.2)).symm
  · skip
    refine l_val rfl (o_not rfl rfl) ?_
    refine l_val rfl (o_move rfl) ?_
    refine l_no rfl ?_
    refine l_no rfl ?_
    refine l_no rfl ?_
    refine l_no rfl ?_
    refine l_no rfl ?_
    refine l_val rfl (o_pickT rfl rfl) ?_
    refine l_nil ?_
    refine kt_norm ?_
    refine v_sel [1, 2, 3, 18] [3] rfl rfl ?_
    refine v_condT rfl ?_
    refine v_seq ?_
    refine v_region ?_
    refine l_val rfl (o_assign rfl) ?_
    refine l_nil ?_
    refine kt_norm ?_
    refine v_ret ?_
    refine kt_ret ?_
    refine ⟨[_], .cons (.tmp rfl) (ResAll.nil), ?_⟩
    first
      | exact congrArg (Value.int .u8) (if_pos ⟨hwx, hwy⟩).symm
      | exact congrArg (Value.int .u8) (if_neg (fun hc => hwx hc.1)).symm
      | exact congrArg (Value.int .u8) (if_neg (fun hc => hwy hc.2)).symm

theorem a_bounded21 (w : World) (v : Value) (pvs : List Value) (ps : List (List PtT)) (hv : PcsW v pvs ps) (hat : PcsAt w v pvs ps) : Calls Tryz.prog 5 #[v] w fun e w' => e = .returned (.bool (decide (Bn21 ps))) ∧ Below w.heap.size w w' := by
  have hVp := hv.V
  have hlen := hv.len
  have hrowP : ∀ w', Chg (fun _ => False) w w' → RowAt w' v 1 ps.length pvs := fun w' h => (hat.keep h).row
  refine calls_of (args := [v]) Tryz.func5 rfl Tryz.ntmps5 Tryz.results5 rfl ?_
  refine v_seq ?_
  refine v_region ?_
  refine l_val rfl (o_assign rfl) ?_
  refine l_nil ?_
  refine kt_norm ?_
  refine v_seq ?_
  refine v_seq ?_
  refine v_region ?_
  refine l_val rfl (o_assign rfl) ?_
  refine l_nil ?_
  refine kt_norm ?_
  refine v_block ?_
  refine v_loopS (α := Nat) (fun i => [(3, .int .i64 (i : Int))]) (fun i => [])  (fun i => i ≤ ps.length ∧ ∀ k, k < i → BndQ (ps.getD k [])) (fun i => ps.length - i) 0 [0] [] ⟨by omega, fun k h => by omega⟩  (And.intro rfl (True.intro)) rfl (True.intro) rfl ?_
  rintro i ⟨hi, hB⟩
  refine v_seq ?_
  refine v_seq ?_
  refine v_region ?_
  refine l_val rfl (o_move rfl) ?_
  refine l_val rfl (o_move rfl) ?_
  refine l_val rfl (o_len rfl hVp) ?_
  refine l_split rfl (o_lss rfl rfl) (fun q1 => ?_) (fun q1 => ?_)
  · have hil : i < ps.length := by omega
    obtain ⟨pc, hpc⟩ : ∃ pc, ps.getD i [] = pc := ⟨_, rfl⟩
    have hVq := hv.pV i hil
    have hrowQ : ∀ w', Chg (fun _ => False) w w' → RowAt w' (pvs.getD i undef) 2 (ps.getD i []).length ((ps.getD i []).flatMap eP) := fun w' h => (hat.keep h).pc i hil
    rw [hpc] at hVq hrowQ
    refine l_nil ?_
    refine kt_norm ?_
    refine v_condT rfl ?_
    refine v_skip ?_
    refine kt_norm ?_
    refine v_seq ?_
    refine v_block ?_
    refine v_seq ?_
    refine v_seq ?_
    refine v_region ?_
    refine l_val rfl (o_move rfl) ?_
    refine l_val rfl (o_move rfl) ?_
    refine l_val rfl (o_idx (i) rfl hVp rfl (by first | rfl | omega) (by omega)) ?_
    refine l_val rfl (o_loadR1 rfl (row_imm hrowP) (el_one (by rw [hv.lenv]; exact hil))) ?_
    refine l_val rfl (o_len rfl hVq) ?_
    refine l_split rfl (o_gtr rfl rfl) (fun h16 => ?_) (fun h16 => ?_)
    · skip
      refine l_nil ?_
      refine kt_norm ?_
      refine v_sel [3, 0, 16] [] rfl rfl ?_
      refine v_condT rfl ?_
      refine v_seq ?_
      refine v_region ?_
      refine l_val rfl (o_assign rfl) ?_
      refine l_nil ?_
      refine kt_norm ?_
      refine v_ret ?_
      refine kt_ret ?_
      refine kb_ret ?_
      refine kt_ret ?_
      refine kt_ret ?_
      refine kb_ret ?_
      refine kt_ret ?_
      refine ⟨[_], .cons (.tmp rfl) (ResAll.nil), ?_⟩
      first
        | exact congrArg Value.bool (decide_eq_false fun h => by have := (h.2 i hil).1; rw [hpc] at this; omega).symm
        | exact congrArg Value.bool (decide_eq_false fun h => by have := (h.2 i hil).2 j (by rw [hpc]; exact hjl); rw [hpc] at this; exact absurd this hnr).symm
        | exact congrArg Value.bool (decide_congr ⟨fun h => ⟨by omega, fun k hk => hB k (by omega)⟩, fun h => by have := h.1; omega⟩)
    · skip
      refine l_nil ?_
      refine kt_norm ?_
      refine v_sel [3, 0, 16] [] rfl rfl ?_
      refine v_condF rfl ?_
      refine v_skip ?_
      refine kt_norm ?_
      refine v_seq ?_
      refine v_region ?_
      refine l_val rfl (o_assign rfl) ?_
      refine l_nil ?_
      refine kt_norm ?_
      refine v_block ?_
      refine v_loopS (α := Nat) (fun j => [(4, .int .i64 (j : Int))]) (fun j => [])  (fun j => j ≤ pc.length ∧ ∀ k, k < j → NearT (pc.getD k dP)) (fun j => pc.length - j) 0 [3, 0] [] ⟨by omega, fun k h => by omega⟩  (And.intro rfl (True.intro)) rfl (True.intro) rfl ?_
      rintro j ⟨hj, hN⟩
      refine v_seq ?_
      refine v_seq ?_
      refine v_region ?_
      refine l_val rfl (o_move rfl) ?_
      refine l_val rfl (o_move rfl) ?_
      refine l_val rfl (o_move rfl) ?_
      refine l_val rfl (o_idx (i) rfl hVp rfl (by first | rfl | omega) (by omega)) ?_
      refine l_val rfl (o_loadR1 rfl (row_imm hrowP) (el_one (by rw [hv.lenv]; exact hil))) ?_
      refine l_val rfl (o_len rfl hVq) ?_
      refine l_split rfl (o_lss rfl rfl) (fun q2 => ?_) (fun q2 => ?_)
      · have hjl : j < pc.length := by omega
        refine l_nil ?_
        refine kt_norm ?_
        refine v_sel [4, 3, 0, 23] [] rfl rfl ?_
        refine v_condT rfl ?_
        refine v_skip ?_
        refine kt_norm ?_
        refine v_seq ?_
        refine v_block ?_
        refine v_seq ?_
        refine v_region ?_
        refine l_val rfl (o_move rfl) ?_
        refine l_val rfl (o_move rfl) ?_
        refine l_val rfl (o_idx (i) rfl hVp rfl (by first | rfl | omega) (by omega)) ?_
        refine l_val rfl (o_loadR1 rfl (row_imm hrowP) (el_one (by rw [hv.lenv]; exact hil))) ?_
        refine l_val rfl (o_move rfl) ?_
        refine l_val rfl (o_idx (j) rfl hVq rfl (by first | rfl | omega) (by omega)) ?_
        refine l_val rfl (o_loadRE (c' := [_, _]) rfl (row_imm hrowQ) (el_flat eP_len dP pc (j) (by omega)) rfl) ?_
        refine l_ans (vs := [_]) rfl rfl (a_Near (pc.getD j dP)) ?_
        refine lz_bool (fun hnr => ?_) (fun hnr => ?_)
        · skip
          refine l_val rfl (o_not rfl rfl) ?_
          refine l_nil ?_
          refine kt_norm ?_
          refine v_sel [4, 3, 0, 34] [] rfl rfl ?_
          refine v_condF rfl ?_
          refine v_skip ?_
          refine kb_norm ?_
          refine kt_norm ?_
          refine v_region ?_
          refine l_val rfl (o_move rfl) ?_
          refine l_val rfl (o_addi rfl rfl ?_) ?_
          · omega
          refine l_val rfl (o_assign rfl) ?_
          refine l_nil ?_
          refine kt_norm ?_
          refine ⟨j + 1, ⟨hjl, fun k hk => by rcases Nat.lt_or_eq_of_le (Nat.le_of_lt_succ hk) with h | h; exact hN k h; subst h; assumption⟩, by omega, le_app (And.intro rfl (True.intro)) [3, 0] rfl (True.intro) [] rfl⟩
        · skip
          refine l_val rfl (o_not rfl rfl) ?_
          refine l_nil ?_
          refine kt_norm ?_
          refine v_sel [4, 3, 0, 34] [] rfl rfl ?_
          refine v_condT rfl ?_
          refine v_seq ?_
          refine v_region ?_
          refine l_val rfl (o_assign rfl) ?_
          refine l_nil ?_
          refine kt_norm ?_
          refine v_ret ?_
          refine kb_ret ?_
          refine kt_ret ?_
          refine kt_ret ?_
          refine kb_ret ?_
          refine kb_ret ?_
          refine kt_ret ?_
          refine kt_ret ?_
          refine kb_ret ?_
          refine kt_ret ?_
          refine ⟨[_], .cons (.tmp rfl) (ResAll.nil), ?_⟩
          first
            | exact congrArg Value.bool (decide_eq_false fun h => by have := (h.2 i hil).1; rw [hpc] at this; omega).symm
            | exact congrArg Value.bool (decide_eq_false fun h => by have := (h.2 i hil).2 j (by rw [hpc]; exact hjl); rw [hpc] at this; exact absurd this hnr).symm
            | exact congrArg Value.bool (decide_congr ⟨fun h => ⟨by omega, fun k hk => hB k (by omega)⟩, fun h => by have := h.1; omega⟩)
      · skip
        refine l_nil ?_
        refine kt_norm ?_
        refine v_sel [4, 3, 0, 23] [] rfl rfl ?_
        refine v_condF rfl ?_
        refine v_exit ?_
        refine kt_exit ?_
        refine kt_exit ?_
        refine kb_eq ?_
        refine kb_norm ?_
        refine kt_norm ?_
        refine v_region ?_
        refine l_val rfl (o_move rfl) ?_
        refine l_val rfl (o_addi rfl rfl ?_) ?_
        · omega
        refine l_val rfl (o_assign rfl) ?_
        refine l_nil ?_
        refine kt_norm ?_
        refine ⟨i + 1, ⟨hil, fun k hk => by rcases Nat.lt_or_eq_of_le (Nat.le_of_lt_succ hk) with h | h; exact hB k h; subst h; rw [hpc]; exact ⟨by omega, fun m hm => hN m (by omega)⟩⟩, by omega, le_app (And.intro rfl (True.intro)) [0] rfl (True.intro) [] rfl⟩
  · skip
    refine l_nil ?_
    refine kt_norm ?_
    refine v_condF rfl ?_
    refine v_exit ?_
    refine kt_exit ?_
    refine kt_exit ?_
    refine kb_eq ?_
    refine kt_norm ?_
    refine v_seq ?_
    refine v_region ?_
    refine l_val rfl (o_move rfl) ?_
    refine l_val rfl (o_len rfl hVp) ?_
    refine l_val rfl (o_leq rfl rfl) ?_
    refine l_val rfl (o_assign rfl) ?_
    refine l_nil ?_
    refine kt_norm ?_
    refine v_sel [2] [] rfl rfl ?_
    refine v_ret ?_
    refine ⟨[_], .cons (.tmp rfl) (ResAll.nil), ?_⟩
    first
      | exact congrArg Value.bool (decide_eq_false fun h => by have := (h.2 i hil).1; rw [hpc] at this; omega).symm
      | exact congrArg Value.bool (decide_eq_false fun h => by have := (h.2 i hil).2 j (by rw [hpc]; exact hjl); rw [hpc] at this; exact absurd this hnr).symm
      | exact congrArg Value.bool (decide_congr ⟨fun h => ⟨by omega, fun k hk => hB k (by omega)⟩, fun h => by have := h.1; omega⟩)

def pcC : List PtT := [⟨128, 0⟩, ⟨512, 0⟩, ⟨512, 256⟩, ⟨128, 256⟩]
theorem pcsV_oneC {v p : Value} {pc : List PtT} (h : RowV v 1) (hp : RowV p pc.length) (hs : pc.length ≤ 1000000) (hn : ∀ p ∈ pc, NearT p) : PcsV v [p] [pc] :=
  ⟨h, rfl, (show 1 ≤ 1099511627776 by omega), fun i hi => by match i, hi with | 0, _ => exact hp | n + 1, h => exact absurd h (by show ¬ n + 1 < 1; omega), fun i hi => by match i, hi with | 0, _ => show pc.length ≤ _; omega | n + 1, h => exact absurd h (by show ¬ n + 1 < 1; omega), fun i hi => by match i, hi with | 0, _ => exact hn | n + 1, h => exact absurd h (by show ¬ n + 1 < 1; omega)⟩
theorem nearC : ∀ p ∈ pcC, NearT p := by decide
theorem bndC : Bnd [pcC] := by decide
theorem pixC : pixT (tabT 0 0 3 2 [pcC]) 0 0 3 2 = [128, 255, 0, 0, 0, 0] := by
  have h : tabT 0 0 3 2 [pcC] = [⟨512, 0, 0, 256, 1, 0, 16⟩, ⟨128, 0, 0, 256, -1, 0, 16⟩] := by unfold tabT; rw [if_pos (by decide)]; rfl
  rw [h]; rfl
theorem a_CovC (w : World) (v p : Value) (hV : RowV v 1) (hp : RowV p 4) (h : RowAt w v 1 1 [p]) (h1 : RowAt w p 2 4 (pcC.flatMap eP)) :
    Calls Tryz.prog 7 #[v, .agg #[.int .i64 0, .int .i64 0, .int .i64 3, .int .i64 2]] w fun e w' => ∃ y, e = .returned (.tuple #[.agg #[.int .i64 3, .int .i64 2, y], .int .i64 0]) ∧ Below w.heap.size w w' ∧ OwnAt w.heap.size w' y 5 1 6 (iU [128, 255, 0, 0, 0, 0]) := by
  have := a_cover w v [p] [pcC] 0 0 3 2 bndC (pcsV_oneC hV hp (by decide) nearC) (pcsAt_one h h1) (by decide)
  rw [show ((3 : Nat) : Int) = 3 from rfl, show ((2 : Nat) : Int) = 2 from rfl, pixC] at this
  exact this
theorem a_shown21  : Ans Tryz.prog 6 [] (.bool true) := by
  refine ans_of Tryz.func6 rfl Tryz.ntmps6 Tryz.results6 rfl rfl fun w => ?_
  refine v_seq ?_
  refine v_region ?_
  refine l_val rfl (o_assign rfl) ?_
  refine l_nil ?_
  refine kt_norm ?_
  refine v_seq ?_
  refine v_region ?_
  refine l_val rfl (o_build (vs := [_]) (cs := [_, _]) rfl rfl) ?_
  refine l_val rfl (o_build (vs := [_]) (cs := [_, _]) rfl rfl) ?_
  refine l_val rfl (o_build (vs := [_, _]) (cs := [_, _]) rfl rfl) ?_
  refine l_val rfl (o_build (vs := [_, _]) (cs := [_, _]) rfl rfl) ?_
  refine l_buildSlice (vs := [_, _, _, _]) (cs := [_, _, _, _, _, _, _, _]) rfl rfl rfl rfl rfl rfl fun v8 hv8 => ?_
  obtain ⟨a8, c8, rfl⟩ := hv8.sl
  refine l_buildSlice (vs := [_]) (cs := [_]) rfl rfl rfl rfl rfl rfl fun v9 hv9 => ?_
  refine l_val rfl (o_build (vs := [_, _]) (cs := [_, _, _, _]) rfl rfl) ?_
  refine l_gownF (fun y => .tuple #[.agg #[.int .i64 3, .int .i64 2, y], .int .i64 0]) (ks := [9, 8]) (caps := #[]) (vs := [_, _]) rfl rfl (ent_of Tryz.func7 rfl rfl) rfl (fun w' hg hh => a_CovC w' v9 _ hv9 hv8 (rowAt_own (hh 9 (by simp) _ rfl)) (rowAt_own (hh 8 (by simp) _ rfl))) fun yi hyi => ?_
  obtain ⟨ayi, cyi, rfl⟩ := hyi.sl
  refine l_val rfl (o_move rfl) ?_
  refine l_val rfl (o_extract rfl rfl) ?_
  refine l_val rfl (o_extract rfl rfl) ?_
  refine l_new rfl o_alloc fun b1 => ?_
  refine l_store rfl (o_storeW (key := 1) (xs := [_, _, _]) rfl rfl rfl rfl rfl rfl rfl) ?_
  refine l_val rfl (o_assign rfl) ?_
  refine l_nil ?_
  refine kt_norm ?_
  refine v_sel [1, 2] [1, 8, 9, 11] rfl rfl ?_
  refine v_seq ?_
  refine v_region ?_
  skip
  refine l_val rfl (o_move rfl) ?_
  refine l_val rfl (o_eql rfl rfl) ?_
  refine l_val rfl (o_move rfl) ?_
  refine l_val rfl (o_fld rfl) ?_
  refine l_val rfl (o_load1 (key := 1) rfl rfl rfl) ?_
  refine l_val rfl (o_len rfl hyi) ?_
  refine l_val rfl (o_eql rfl rfl) ?_
  refine l_val rfl (o_pickT rfl rfl) ?_
  refine l_val rfl (o_move rfl) ?_
  refine l_val rfl (o_fld rfl) ?_
  refine l_val rfl (o_load1 (key := 1) rfl rfl rfl) ?_
  refine l_val rfl (o_idx (0) rfl hyi rfl (by first | rfl | omega) (by decide)) ?_
  refine l_val rfl (o_loadR1 rfl (row_own (key := 11) rfl) (el_lit (esz := 1) (i := 0) (c := [_]) rfl rfl)) ?_
  refine l_val rfl (o_eql rfl rfl) ?_
  refine l_val rfl (o_pickT rfl rfl) ?_
  refine l_val rfl (o_move rfl) ?_
  refine l_val rfl (o_fld rfl) ?_
  refine l_val rfl (o_load1 (key := 1) rfl rfl rfl) ?_
  refine l_val rfl (o_idx (1) rfl hyi rfl (by first | rfl | omega) (by decide)) ?_
  refine l_val rfl (o_loadR1 rfl (row_own (key := 11) rfl) (el_lit (esz := 1) (i := 1) (c := [_]) rfl rfl)) ?_
  refine l_val rfl (o_eql rfl rfl) ?_
  refine l_val rfl (o_pickT rfl rfl) ?_
  refine l_val rfl (o_move rfl) ?_
  refine l_val rfl (o_fld rfl) ?_
  refine l_val rfl (o_load1 (key := 1) rfl rfl rfl) ?_
  refine l_val rfl (o_idx (2) rfl hyi rfl (by first | rfl | omega) (by decide)) ?_
  refine l_val rfl (o_loadR1 rfl (row_own (key := 11) rfl) (el_lit (esz := 1) (i := 2) (c := [_]) rfl rfl)) ?_
  refine l_val rfl (o_eql rfl rfl) ?_
  refine l_val rfl (o_pickT rfl rfl) ?_
  refine l_val rfl (o_move rfl) ?_
  refine l_val rfl (o_fld rfl) ?_
  refine l_val rfl (o_load1 (key := 1) rfl rfl rfl) ?_
  refine l_val rfl (o_idx (3) rfl hyi rfl (by first | rfl | omega) (by decide)) ?_
  refine l_val rfl (o_loadR1 rfl (row_own (key := 11) rfl) (el_lit (esz := 1) (i := 3) (c := [_]) rfl rfl)) ?_
  refine l_val rfl (o_eql rfl rfl) ?_
  refine l_val rfl (o_pickT rfl rfl) ?_
  refine l_val rfl (o_move rfl) ?_
  refine l_val rfl (o_loadW (key := 1) rfl rfl rfl) ?_
  refine l_call (ks := [11]) rfl (o_callC (vs := [_, _, _]) (r := .int .u8 255) (ent_of Tryz.func21 rfl rfl) rfl (fun w' hg hh => (show atT 3 2 [128, 255, 0, 0, 0, 0] 1 0 = 255 by decide) ▸ a_AtC w' (.slice ayi 6 cyi) 3 2 [128, 255, 0, 0, 0, 0] 1 0 (by omega) rfl hyi (rowAt_own (hh 11 (by simp) _ rfl)))) ?_
  refine l_val rfl (o_eql rfl rfl) ?_
  refine l_val rfl (o_pickT rfl rfl) ?_
  refine l_val rfl (o_move rfl) ?_
  refine l_val rfl (o_loadW (key := 1) rfl rfl rfl) ?_
  refine l_call (ks := [11]) rfl (o_callC (vs := [_, _, _]) (r := .int .u8 0) (ent_of Tryz.func21 rfl rfl) rfl (fun w' hg hh => (show atT 3 2 [128, 255, 0, 0, 0, 0] 3 0 = 0 by decide) ▸ a_AtC w' (.slice ayi 6 cyi) 3 2 [128, 255, 0, 0, 0, 0] 3 0 (by omega) rfl hyi (rowAt_own (hh 11 (by simp) _ rfl)))) ?_
  refine l_val rfl (o_eql rfl rfl) ?_
  refine l_val rfl (o_pickT rfl rfl) ?_
  refine l_val rfl (o_move rfl) ?_
  refine l_ans (vs := [_]) rfl rfl (a_Value _) ?_
  refine l_val rfl (o_eql rfl rfl) ?_
  refine l_val rfl (o_pickT rfl rfl) ?_
  refine l_val rfl (o_assign rfl) ?_
  refine l_nil ?_
  refine kt_norm ?_
  refine v_sel [0] [1, 8, 9, 11] rfl rfl ?_
  refine v_ret ?_
  refine ⟨[_], .cons (.tmp rfl) (ResAll.nil), ?_⟩
  rfl

theorem r_Measure (w : World) (v : Value) (l : List SpanT) (x : Int) (hx : -1099511627776 ≤ x ∧ x ≤ 1099511627776) (hn : l.length ≤ 1000000) (ho : SpOk l) (hV : RowV v l.length) (hrow : RowAt w v 2 l.length (l.flatMap eS)) :
    Calls Tryz.prog 31 #[v, .int .i64 x] w fun e w' => e = .returned (.int .i64 (sumS (clipT (256 * x) (256 * x + 256) l))) ∧ Below w.heap.size w w' := by
  have hr : ∀ w', Chg (fun _ => False) w w' → RowAt w' v 2 l.length (l.flatMap eS) := fun w' h => hrow.chg h (fun h => h)
  have hlc := clipT_len (256 * x) (256 * x + 256) l
  have he : 256 * (x + 1) = 256 * x + 256 := by omega
  refine calls_of (args := [v, .int .i64 x]) Tryz.func31 rfl Tryz.ntmps31 Tryz.results31 rfl ?_
  refine v_seq ?_
  refine v_region ?_
  refine l_val rfl (o_assign rfl) ?_
  refine l_nil ?_
  refine kt_norm ?_
  refine v_seq ?_
  refine v_region ?_
  refine l_val rfl (o_move rfl) ?_
  refine l_val rfl (o_move rfl) ?_
  refine l_val rfl (o_muli rfl rfl ?_) ?_
  · omega
  refine l_val rfl (o_move rfl) ?_
  refine l_val rfl (o_muli rfl rfl ?_) ?_
  · omega
  refine l_val rfl (o_addi rfl rfl ?_) ?_
  · omega
  refine l_gown (ks := []) (caps := #[]) (vs := [_, _, _]) rfl rfl (ent_of Tryz.func57 rfl rfl) rfl (fun w' hg hh => r_Clip w' v l (256 * x) (256 * x + 256) hn hV (hr w' hg)) fun yc hyc => ?_
  refine l_call (ks := [11]) rfl (o_callC (vs := [_]) (r := .int .i64 (sumS (clipT (256 * x) (256 * x + 256) l))) (ent_of Tryz.func56 rfl rfl) rfl (fun w' hg hh => r_Sum w' yc (clipT (256 * x) (256 * x + 256) l) (by omega) (spOk_clip ho _ _) hyc ((rowAt_own (hh 11 (by simp) _ rfl))))) ?_
  refine l_val rfl (o_assign rfl) ?_
  refine l_nil ?_
  refine kt_norm ?_
  refine v_sel [4] [] rfl rfl ?_
  refine v_ret ?_
  refine ⟨[_], .cons (.tmp rfl) (ResAll.nil), ?_⟩
  rfl
theorem valM2 (x : Int) : (if 4096 < (if x < 0 then 0 else x) then 4096 else if x < 0 then 0 else x) = valM x := by
  unfold valM; (repeat' split) <;> omega
theorem r_Value (x : Int) : Ans Tryz.prog 32 [.int .i64 x] (.int .u8 (valT x)) := by
  have hm := valM_bound x
  have hme := valM2 x
  refine ans_of Tryz.func32 rfl Tryz.ntmps32 Tryz.results32 rfl rfl fun w => ?_
  refine v_seq ?_
  refine v_region ?_
  refine l_val rfl (o_assign rfl) ?_
  refine l_nil ?_
  refine kt_norm ?_
  refine v_seq ?_
  refine v_region ?_
  refine l_val rfl (o_move rfl) ?_
  refine l_val rfl (o_max rfl rfl) ?_
  refine l_val rfl (o_min rfl rfl) ?_
  refine l_val rfl (o_muli rfl rfl ?_) ?_
  · (try rw [hme]); omega
  refine l_val rfl (o_addi rfl rfl ?_) ?_
  · (try rw [hme]); omega
  refine l_val rfl (o_quon rfl rfl ?_ ?_) ?_
  · (try rw [hme]); omega
  · exact wrap_i64 (by (try rw [hme]); omega)
  refine l_val rfl (o_conv8 rfl ?_) ?_
  · (try rw [hme]); omega
  refine l_val rfl (o_assign rfl) ?_
  refine l_nil ?_
  refine kt_norm ?_
  refine v_sel [2] [] rfl rfl ?_
  refine v_ret ?_
  refine ⟨[_], .cons (.tmp rfl) (ResAll.nil), ?_⟩
  exact congrArg (Value.int .u8) (by unfold valT; rw [← hme])
end Go.Proofs.YtllhohbenniaaaaGreat

/- What is measured, and its value, are as the document has them. Conditions: none. -/
namespace Go.Proofs.YtllhohbenniaaaaGreat
open Go.Proofs Go.RowKit Go.Shelf


end Go.Proofs.YtllhohbenniaaaaGreat

/- A pixel is what the spans of its rows measure, whatever the view. Conditions: none. -/
namespace Go.Proofs.YtllhohbenniaaaaGreat
open Go.Proofs Go.RowKit Go.Shelf

theorem wf_u8 {a : Int} (h : (Lit.int .u8 a).wf = true) : 0 ≤ a ∧ a < 256 := by
  simp only [Lit.wf, Bool.and_eq_true, decide_eq_true_eq] at h
  have e1 : IntKind.u8.min = 0 := by decide
  have e2 : IntKind.u8.max = 255 := by decide
  omega
/-- what the spans of the 16 rows of a pixel measure of it -/
def covK (ps : List (List PtT)) (c y : Int) : Nat → Int
  | 0 => 0
  | k + 1 => covK ps c y k + sumF (lenC (256 * c) (256 * c + 256)) (rowS (crs (16 * y + k) (liveT (16 * y + k) (edgesAll ps))))
def covA (ps : List (List PtT)) (c y : Int) : Int := covK ps c y 16
theorem live_cut_yes {f t r : Int} {e : EdgeT} (hf : f ≤ r) (ht : r < t) (h : e.fr ≤ r ∧ r < e.to) : (cutE f t e).fr ≤ r ∧ r < (cutE f t e).to := by
  rw [cutE_fr, cutE_to]; constructor <;> split <;> omega
theorem live_view {f t r : Int} (hf : f ≤ r) (ht : r < t) : ∀ l : List EdgeT, crs r (liveT r (viewEs f t l)) = crs r (liveT r l)
  | [] => rfl
  | e :: l => by
    have ih := live_view hf ht l
    have e1 : viewEs f t (e :: l) = (if (cutE f t e).fr < (cutE f t e).to then [cutE f t e] else []) ++ viewEs f t l := by
      have h1 : e :: l = [e] ++ l := rfl
      unfold viewEs
      rw [h1, List.map_append, List.filter_append]
      congr 1
      by_cases hc : (cutE f t e).fr < (cutE f t e).to <;> simp [hc]
    have e2 : liveT r (e :: l) = liveT r [e] ++ liveT r l := live_append r [e] l
    have c1 : ∀ a b : List EdgeT, crs r (a ++ b) = crs r a ++ crs r b := fun a b => by simp [crs]
    rw [e1, live_append, e2, c1, c1, ih]
    congr 1
    by_cases hl : e.fr ≤ r ∧ r < e.to
    · have h2 := live_cut_yes hf ht hl
      rw [if_pos (by omega), live_one_yes h2, live_one_yes hl]; rfl
    · rw [live_one_no hl]
      split
      · rename_i hc
        rw [live_one_no (e := cutE f t e)]
        rw [cutE_fr, cutE_to] at *
        intro ⟨h3, h4⟩
        apply hl
        constructor
        · split at h3 <;> omega
        · split at h4 <;> omega
      · rfl
theorem row_tab {X Y W H r : Int} {ps : List (List PtT)} (hv : ViewOk X Y W H) (h1 : 16 * Y ≤ r) (h2 : r < 16 * (Y + H)) : rowS (crs r (liveT r (tabT X Y W H ps))) = rowS (crs r (liveT r (edgesAll ps))) := by
  unfold tabT
  rw [if_pos hv, ← live_view h1 h2 (edgesAll ps)]
  exact (rowS_perm (List.Perm.map _ (List.Perm.filter _ (stSort_perm _)))).symm
theorem cov_row {X Y : Int} {n h : Nat} {ps : List (List PtT)} (hv : ViewOk X Y (n : Int) (h : Int)) {j : Nat} (hj : j < h) (p : Nat) : ∀ k, k ≤ 16 → rowSum (tabT X Y (n : Int) (h : Int) ps) X p (16 * (Y + j)) k = covK ps (X + p) (Y + j) k
  | 0, _ => rfl
  | k + 1, hk => by
    rw [rowSum, covK, cov_row hv hj p k (by omega)]
    congr 1
    unfold measT
    rw [row_tab hv (by omega) (by omega)]
    unfold pxC
    rw [show X * 256 + 256 * (p : Int) = 256 * (X + p) by omega]
theorem pixT_get {T : List EdgeT} {X Y : Int} {n : Nat} : ∀ (h j i : Nat), i < n → j < h → (pixT T X Y n h).getD (j * n + i) 0 = valT (rowSum T X i (16 * (Y + j)) 16)
  | 0, j, i, _, hj => absurd hj (by omega)
  | h + 1, j, i, hi, hj => by
    have hl := pixT_len T X Y n h
    rw [pixT, List.getD_eq_getElem?_getD, List.getElem?_append]
    by_cases e : j = h
    · subst e
      rw [if_neg (by omega), hl, show j * n + i - j * n = i by omega]
      simp [pixRow, hi]
    · have h1 : (j + 1) * n ≤ h * n := Nat.mul_le_mul_right n (by omega)
      rw [Nat.succ_mul] at h1
      rw [if_pos (by omega), ← List.getD_eq_getElem?_getD]
      exact pixT_get h j i hi (by omega)
theorem atT_img {X Y x y : Int} {n h : Nat} {ps : List (List PtT)} (hv : ViewOk X Y (n : Int) (h : Int)) (hx : X ≤ x ∧ x < X + n) (hy : Y ≤ y ∧ y < Y + h) : atT n h (pixT (tabT X Y (n : Int) (h : Int) ps) X Y n h) (x - X) (y - Y) = valT (covA ps x y) := by
  obtain ⟨i, hi⟩ : ∃ i : Nat, (i : Int) = x - X := ⟨(x - X).toNat, by omega⟩
  obtain ⟨j, hj⟩ : ∃ j : Nat, (j : Int) = y - Y := ⟨(y - Y).toNat, by omega⟩
  unfold atT
  rw [if_pos (by omega), ← hi, ← hj, show (((j : Int) * n + i).toNat) = j * n + i by rw [← Int.natCast_mul]; omega, pixT_get h j i (by omega) (by omega), cov_row hv (by omega) i 16 (Nat.le_refl _)]
  unfold covA
  rw [show X + (i : Int) = x by omega, show Y + (j : Int) = y by omega]
theorem pix_len2 {T : List EdgeT} {X Y : Int} {n h : Nat} : (pixT T X Y n h).length = n * h := by rw [pixT_len, Nat.mul_comm]
theorem nh_le {n h : Nat} (h1 : n ≤ 256) (h2 : h ≤ 256) : n * h ≤ 65536 := Nat.le_trans (Nat.mul_le_mul h1 h2) (by decide)

end Go.Proofs.YtllhohbenniaaaaGreat

/- Pieces and a view that are shifted alike have one cover. Conditions: none. -/
namespace Go.Proofs.YtllhohbenniaaaaGreat
open Go.Proofs Go.RowKit Go.Shelf

theorem lenC_sh (d lo hi : Int) (s : SpanT) : lenC (lo + d) (hi + d) (shS d s) = lenC lo hi s := by
  have e1 := lenC_def (lo + d) (hi + d) (shS d s)
  have e2 := lenC_def lo hi s
  have f1 : (shS d s).fr = s.fr + d := rfl
  have f2 : (shS d s).to = s.to + d := rfl
  rw [f1, f2] at e1
  by_cases hc : max lo s.fr < min hi s.to
  · have h3 := e1.1 (by omega); have h4 := e2.1 hc; omega
  · have h3 := e1.2 (by omega); have h4 := e2.2 hc; omega
theorem covK_shift (dx dy c y : Int) (ps : List (List PtT)) : ∀ k, covK (shPs (256 * dx) (256 * dy) ps) (c + dx) (y + dy) k = covK ps c y k
  | 0 => rfl
  | k + 1 => by
    rw [covK, covK, covK_shift dx dy c y ps k]
    congr 1
    rw [show 16 * (y + dy) + (k : Int) = 16 * y + k + 16 * dy by omega, row_shift, sumF_map]
    refine sumF_congr _ fun s _ => ?_
    rw [show 256 * (c + dx) = 256 * c + 256 * dx by omega, show 256 * c + 256 * dx + 256 = 256 * c + 256 + 256 * dx by omega]
    exact lenC_sh _ _ _ _
/-- a cover, pixel by pixel -/
def covPix (ps : List (List PtT)) (X Y : Int) (n : Nat) : Nat → List Int
  | 0 => []
  | k + 1 => covPix ps X Y n k ++ (List.range n).map fun p : Nat => valT (covA ps (X + p) (Y + k))
theorem pixT_cov {X Y : Int} {n h : Nat} {ps : List (List PtT)} (hv : ViewOk X Y (n : Int) (h : Int)) : ∀ k, k ≤ h → pixT (tabT X Y (n : Int) (h : Int) ps) X Y n k = covPix ps X Y n k
  | 0, _ => rfl
  | k + 1, hk => by
    have h1 : pixRow (tabT X Y (n : Int) (h : Int) ps) X n (16 * (Y + (k : Int))) = (List.range n).map fun p : Nat => valT (covA ps (X + p) (Y + k)) := by
      unfold pixRow
      refine List.map_congr_left fun p _ => ?_
      unfold covA
      rw [← cov_row hv (show k < h by omega) p 16 (Nat.le_refl _)]
    rw [pixT, covPix, pixT_cov hv k (by omega), h1]
theorem covPix_shift (dx dy X Y : Int) (n : Nat) (ps : List (List PtT)) : ∀ k, covPix (shPs (256 * dx) (256 * dy) ps) (X + dx) (Y + dy) n k = covPix ps X Y n k
  | 0 => rfl
  | k + 1 => by
    rw [covPix, covPix, covPix_shift dx dy X Y n ps k]
    congr 1
    refine List.map_congr_left fun p _ => ?_
    rw [show X + dx + (p : Int) = X + p + dx by omega, show Y + dy + (k : Int) = Y + k + dy by omega]
    unfold covA
    rw [covK_shift]
theorem pix_shift {dx dy X Y : Int} {n h : Nat} {ps : List (List PtT)} (hv : ViewOk X Y (n : Int) (h : Int)) (hv2 : ViewOk (X + dx) (Y + dy) (n : Int) (h : Int)) : pixT (tabT X Y (n : Int) (h : Int) ps) X Y n h = pixT (tabT (X + dx) (Y + dy) (n : Int) (h : Int) (shPs (256 * dx) (256 * dy) ps)) (X + dx) (Y + dy) n h := by
  rw [pixT_cov hv h (Nat.le_refl _), pixT_cov hv2 h (Nat.le_refl _), covPix_shift]
theorem fill_one {v : Value} {n : Nat} (h : RowV v n) : fillL [(0, 1)] [.slice none 0 0] [(0, v)] = some [v] := by
  obtain ⟨a, c, rfl⟩ := h.sl; rfl
theorem all_one {v : Value} {n : Nat} (h : RowV v n) : [v].all (·.oneCell') = true := by
  obtain ⟨a, c, rfl⟩ := h.sl; rfl





end Go.Proofs.YtllhohbenniaaaaGreat

/- Covers of boxes. Conditions: none. -/
namespace Go.Proofs.YtllhohbenniaaaaGreat
open Go.Proofs Go.RowKit Go.Shelf

/-! #### boxes -/
def boxP (p q : PtT) : List PtT := [p, ⟨q.x, p.y⟩, q, ⟨p.x, q.y⟩]
def oneE (a b : PtT) : List EdgeT := if (edgeOf a b).fr < (edgeOf a b).to then [edgeOf a b] else []
theorem edges_box (p q : PtT) : edgesAll [boxP p q] = oneE p ⟨q.x, p.y⟩ ++ (oneE ⟨q.x, p.y⟩ q ++ (oneE q ⟨p.x, q.y⟩ ++ oneE ⟨p.x, q.y⟩ p)) := by
  have e : ∀ a b c d : PtT, edgesAll [[a, b, c, d]] = oneE a b ++ (oneE b c ++ (oneE c d ++ oneE d a)) := fun a b c d => by
    simp [edgesAll, edgesOf, edgesTo, edgesAt, oneE, List.range_succ]
  exact e _ _ _ _
theorem oneE_flat {a b : PtT} (h : a.y = b.y) : oneE a b = [] := by
  unfold oneE
  rw [edgeOf_ge (by omega)]
  exact if_neg (by dsimp only; rw [h]; omega)
theorem oneE_up (x ya yb r : Int) : crs r (liveT r (oneE ⟨x, ya⟩ ⟨x, yb⟩)) = if min ya yb ≤ 16 * r + 8 ∧ 16 * r + 8 < max ya yb then [(x, if yb < ya then -1 else 1)] else [] := by
  have r1 := rowOf_def ya
  have r2 := rowOf_def yb
  unfold oneE
  by_cases h : yb < ya
  · rw [edgeOf_lt h, if_pos h]
    dsimp only
    by_cases hl : rowOf yb ≤ r ∧ r < rowOf ya
    · rw [if_pos (by omega), if_pos (by omega), live_one_yes hl]
      simp [crs, atE]
    · rw [if_neg (show ¬ (min ya yb ≤ 16 * r + 8 ∧ 16 * r + 8 < max ya yb) by omega)]
      split
      · rw [live_one_no hl]; rfl
      · rfl
  · rw [edgeOf_ge h, if_neg h]
    dsimp only
    by_cases hl : rowOf ya ≤ r ∧ r < rowOf yb
    · rw [if_pos (by omega), if_pos (by omega), live_one_yes hl]
      simp [crs, atE]
    · rw [if_neg (show ¬ (min ya yb ≤ 16 * r + 8 ∧ 16 * r + 8 < max ya yb) by omega)]
      split
      · rw [live_one_no hl]; rfl
      · rfl
theorem crs_app (r : Int) (a b : List EdgeT) : crs r (a ++ b) = crs r a ++ crs r b := by simp [crs]
theorem crs_box (p q : PtT) (r : Int) : crs r (liveT r (edgesAll [boxP p q])) = if min p.y q.y ≤ 16 * r + 8 ∧ 16 * r + 8 < max p.y q.y then [(q.x, if q.y < p.y then -1 else 1), (p.x, -(if q.y < p.y then -1 else 1))] else [] := by
  rw [edges_box, oneE_flat (a := p) (b := ⟨q.x, p.y⟩) rfl, oneE_flat (a := q) (b := ⟨p.x, q.y⟩) rfl, List.nil_append, List.nil_append, live_append, crs_app]
  have h1 := oneE_up q.x p.y q.y r
  have h2 := oneE_up p.x q.y p.y r
  rw [show (⟨q.x, q.y⟩ : PtT) = q from rfl] at h1
  rw [show (⟨p.x, p.y⟩ : PtT) = p from rfl] at h2
  rw [h1, h2]
  have hc2 : (min q.y p.y ≤ 16 * r + 8 ∧ 16 * r + 8 < max q.y p.y) ↔ (min p.y q.y ≤ 16 * r + 8 ∧ 16 * r + 8 < max p.y q.y) := by omega
  by_cases hc : min p.y q.y ≤ 16 * r + 8 ∧ 16 * r + 8 < max p.y q.y
  · rw [if_pos hc, if_pos hc, if_pos (hc2.2 hc)]
    by_cases hq : q.y < p.y
    · rw [if_pos hq, if_neg (show ¬ p.y < q.y by omega)]; rfl
    · rw [if_neg hq, if_pos (show p.y < q.y by omega)]; rfl
  · rw [if_neg hc, if_neg hc, if_neg (fun h => hc (hc2.1 h))]; rfl
theorem rowS_two {a b u : Int} (hu : u = 1 ∨ u = -1) : rowS [(a, u), (b, -u)] = if a < b then [⟨a, b⟩] else if b < a then [⟨b, a⟩] else [] := by
  rcases Int.lt_trichotomy a b with h | h | h
  · rw [if_pos h]
    have hk : keysOf [(a, u), (b, -u)] = [a, b] := by
      show insU b (insU a []) = _
      simp [insU, h]
    have s1 : sumAt [(a, u), (b, -u)] a = u := by simp [sumAt, sumF]; omega
    have s2 : sumAt [(a, u), (b, -u)] b = -u := by simp [sumAt, sumF]; omega
    have e : rowS [(a, u), (b, -u)] = (stepR [(a, u), (b, -u)] (stepR [(a, u), (b, -u)] (0, 0, []) a) b).2.2 := by
      unfold rowS rowTo; rw [hk]; rfl
    rw [e, stepR0 (s := (0, 0, [])) rfl, s1, stepR1 (by simp; omega) (by rw [s2]; simp; omega)]
    rfl
  · subst h
    rw [if_neg (by omega), if_neg (by omega)]
    have hk : keysOf [(a, u), (a, -u)] = [a] := by
      show insU a (insU a []) = _
      simp [insU]
    have e : rowS [(a, u), (a, -u)] = (stepR [(a, u), (a, -u)] (0, 0, []) a).2.2 := by
      unfold rowS rowTo; rw [hk]; rfl
    rw [e, stepR0 (s := (0, 0, [])) rfl]
  · rw [if_neg (by omega), if_pos h]
    have hk : keysOf [(a, u), (b, -u)] = [b, a] := by
      show insU b (insU a []) = _
      simp [insU, show ¬ a < b by omega, show ¬ a = b by omega]
    have s1 : sumAt [(a, u), (b, -u)] a = u := by simp [sumAt, sumF]; omega
    have s2 : sumAt [(a, u), (b, -u)] b = -u := by simp [sumAt, sumF]; omega
    have e : rowS [(a, u), (b, -u)] = (stepR [(a, u), (b, -u)] (stepR [(a, u), (b, -u)] (0, 0, []) b) a).2.2 := by
      unfold rowS rowTo; rw [hk]; rfl
    rw [e, stepR0 (s := (0, 0, [])) rfl, s2, stepR1 (by simp; omega) (by rw [s1]; simp; omega)]
    rfl
theorem rowS_nil : rowS [] = [] := rfl
/-- how much of a pixel's width a box has -/
def bxW (p q : PtT) (lo : Int) : Int := max 0 (min (max p.x q.x) (lo + 256) - max (min p.x q.x) lo)
theorem meas_box (p q : PtT) (r lo : Int) : sumF (lenC lo (lo + 256)) (rowS (crs r (liveT r (edgesAll [boxP p q])))) = if min p.y q.y ≤ 16 * r + 8 ∧ 16 * r + 8 < max p.y q.y then bxW p q lo else 0 := by
  rw [crs_box]
  by_cases hc : min p.y q.y ≤ 16 * r + 8 ∧ 16 * r + 8 < max p.y q.y
  · rw [if_pos hc, if_pos hc, rowS_two (by split <;> omega)]
    unfold bxW
    by_cases h1 : q.x < p.x
    · rw [if_pos h1]
      have d := lenC_def lo (lo + 256) ⟨q.x, p.x⟩
      dsimp only at d
      simp only [sumF]
      by_cases h2 : max lo q.x < min (lo + 256) p.x
      · have := d.1 h2; omega
      · have := d.2 h2; omega
    · rw [if_neg h1]
      by_cases h3 : p.x < q.x
      · rw [if_pos h3]
        have d := lenC_def lo (lo + 256) ⟨p.x, q.x⟩
        dsimp only at d
        simp only [sumF]
        by_cases h2 : max lo p.x < min (lo + 256) q.x
        · have := d.1 h2; omega
        · have := d.2 h2; omega
      · rw [if_neg h3]
        simp only [sumF]
        omega
  · rw [if_neg hc, if_neg hc, rowS_nil]; rfl
/-- of the rows of a pixel, those that a box has -/
def bxN (p q : PtT) (y : Int) : Nat → Int
  | 0 => 0
  | k + 1 => bxN p q y k + if min p.y q.y ≤ 256 * y + 16 * k + 8 ∧ 256 * y + 16 * k + 8 < max p.y q.y then 1 else 0
theorem bxN_bound (p q : PtT) (y : Int) : ∀ k, 0 ≤ bxN p q y k ∧ bxN p q y k ≤ k
  | 0 => ⟨Int.le_refl _, Int.le_refl _⟩
  | k + 1 => by have := bxN_bound p q y k; rw [bxN]; split <;> omega
theorem bxN_yes {p q : PtT} {y : Int} {k : Nat} (h : min p.y q.y ≤ 256 * y + 16 * k + 8 ∧ 256 * y + 16 * k + 8 < max p.y q.y) : bxN p q y (k + 1) = bxN p q y k + 1 := by rw [bxN, if_pos h]
theorem bxN_no {p q : PtT} {y : Int} {k : Nat} (h : ¬ (min p.y q.y ≤ 256 * y + 16 * k + 8 ∧ 256 * y + 16 * k + 8 < max p.y q.y)) : bxN p q y (k + 1) = bxN p q y k := by rw [bxN, if_neg h, Int.add_zero]
theorem bxW_bound (p q : PtT) (lo : Int) : 0 ≤ bxW p q lo ∧ bxW p q lo ≤ 256 := by unfold bxW; omega
theorem covK_box (p q : PtT) (c y : Int) : ∀ k, covK [boxP p q] c y k = bxN p q y k * bxW p q (256 * c)
  | 0 => by simp [covK, bxN]
  | k + 1 => by
    rw [covK, bxN, covK_box p q c y k, meas_box, Int.add_mul]
    congr 1
    rw [show 16 * (16 * y + (k : Int)) + 8 = 256 * y + 16 * k + 8 by omega]
    split <;> simp
theorem cov_box (p q : PtT) (c y : Int) : covA [boxP p q] c y = bxN p q y 16 * bxW p q (256 * c) := covK_box p q c y 16
theorem bxN_all {p q : PtT} {y : Int} : ∀ {k : Nat}, k ≤ 16 → (min p.y q.y ≤ 256 * y ∧ 256 * y + 256 ≤ max p.y q.y) → bxN p q y k = k
  | 0, _, _ => rfl
  | k + 1, hk, h => by rw [bxN_yes (by omega), bxN_all (by omega) h]; omega
theorem bxN_none {p q : PtT} {y : Int} : ∀ {k : Nat}, k ≤ 16 → 256 * y + 256 ≤ min p.y q.y → bxN p q y k = 0
  | 0, _, _ => rfl
  | k + 1, hk, h => by rw [bxN_no (by omega), bxN_none (by omega) h]

theorem o_assignE {C : Cx} {s : St} {d : Option Nat} {x : Operand} {ty : TypeId} {pos : String} {aft : Array Edge} {gd : Option (Nat × Bool)} {k : IntKind} {q q' : Int} (h : ev C s x = some (.int k q)) (e : q = q') : OpV C s ⟨d, .assign x, ty, pos, aft, gd⟩ [] (.int k q') := by subst e; exact o_assign h
theorem atT_img' {X Y : Int} {n h i j : Nat} {ps : List (List PtT)} (hv : ViewOk X Y (n : Int) (h : Int)) (hi : i < n) (hj : j < h) : atT n h (pixT (tabT X Y (n : Int) (h : Int) ps) X Y n h) (i : Int) (j : Int) = valT (covA ps (X + i) (Y + j)) := by
  have := atT_img (ps := ps) hv (x := X + i) (y := Y + j) (by omega) (by omega)
  rwa [show X + (i : Int) - X = i by omega, show Y + (j : Int) - Y = j by omega] at this
theorem box_near {p q : PtT} (hp : NearT p) (hq : NearT q) : ∀ x ∈ boxP p q, NearT x := by
  intro x hx
  unfold NearT at *
  simp only [boxP, List.mem_cons, List.not_mem_nil, or_false] at hx
  rcases hx with rfl | rfl | rfl | rfl <;> first | omega | (dsimp only; omega)
theorem box_bnd {p q : PtT} (hp : NearT p) (hq : NearT q) : Bnd [boxP p q] :=
  ⟨by simp, fun i hi => by
    obtain rfl : i = 0 := by simpa using hi
    refine ⟨by simp [boxP], fun m hm => ?_⟩
    have : ([boxP p q].getD 0 []).getD m dP ∈ boxP p q := by
      show (boxP p q).getD m dP ∈ _
      rw [List.getD_eq_getElem?_getD, List.getElem?_eq_getElem (show m < (boxP p q).length from hm)]; exact List.getElem_mem _
    exact box_near hp hq _ this⟩
theorem valT_full : valT 4096 = 255 := by decide
theorem valT_none : valT 0 = 0 := by decide
theorem a_CovB (w : World) (v u : Value) (p q : PtT) (X Y : Int) (n h : Nat) (hp : NearT p) (hq : NearT q) (hvw : ViewOk X Y (n : Int) (h : Int)) (hV : RowV v 1) (hU : RowV u 4) (hr : RowAt w v 1 1 [u]) (h1 : RowAt w u 2 4 [.int .i64 p.x, .int .i64 p.y, .int .i64 q.x, .int .i64 p.y, .int .i64 q.x, .int .i64 q.y, .int .i64 p.x, .int .i64 q.y]) :
    Calls Tryz.prog 7 #[v, .agg #[.int .i64 X, .int .i64 Y, .int .i64 (n : Int), .int .i64 (h : Int)]] w fun e w' => ∃ y, e = .returned (.tuple #[.agg #[.int .i64 (n : Int), .int .i64 (h : Int), y], .int .i64 0]) ∧ Below w.heap.size w w' ∧ OwnAt w.heap.size w' y 5 1 (pixT (tabT X Y (n : Int) (h : Int) [boxP p q]) X Y n h).length (iU (pixT (tabT X Y (n : Int) (h : Int) [boxP p q]) X Y n h)) :=
  a_cover w v [u] [boxP p q] X Y n h (box_bnd hp hq) (pcsV_oneC hV (pc := boxP p q) hU (by simp [boxP]) (box_near hp hq)) (pcsAt_one hr h1) hvw

end Go.Proofs.YtllhohbenniaaaaGreat

/- A pixel that a piece covers whole has all; one that it does not touch has none. Conditions: none. -/
namespace Go.Proofs.YtllhohbenniaaaaGreat
open Go.Proofs Go.RowKit Go.Shelf

theorem box_in {p q : PtT} {c y : Int} (h1 : p.x ≤ 256 * c) (h2 : 256 * c + 256 ≤ q.x) (h3 : p.y ≤ 256 * y) (h4 : 256 * y + 256 ≤ q.y) : covA [boxP p q] c y = 4096 := by
  rw [cov_box, bxN_all (Nat.le_refl _) (by omega)]
  have : bxW p q (256 * c) = 256 := by unfold bxW; omega
  rw [this]; rfl
theorem box_outx {p q : PtT} {c y : Int} (h1 : 256 * c + 256 ≤ p.x) (h2 : p.x ≤ q.x) : covA [boxP p q] c y = 0 := by
  have : bxW p q (256 * c) = 0 := by unfold bxW; omega
  rw [cov_box, this, Int.mul_zero]
theorem box_outy {p q : PtT} {c y : Int} (h1 : 256 * y + 256 ≤ p.y) (h2 : p.y ≤ q.y) : covA [boxP p q] c y = 0 := by
  rw [cov_box, bxN_none (Nat.le_refl _) (by omega), Int.zero_mul]

end Go.Proofs.YtllhohbenniaaaaGreat

/- The sides of a piece; its area; what lies left of all its sides. Conditions: none. -/
namespace Go.Proofs.YtllhohbenniaaaaGreat
open Go.Proofs Go.RowKit Go.Shelf

instance : TZero Tryz.prog 134 [.int .i64 0, .int .i64 0] := .of (by kernel_rfl)
instance : TElem Tryz.prog 134 (.agg #[.int .i64 0, .int .i64 0]) 2 16 := .of (by kernel_rfl) rfl (by decide)
instance : TAgg Tryz.prog 134 2 := .of (by kernel_rfl) (by kernel_rfl)
instance : TBuild Tryz.prog 134 [(0, 1), (1, 1)] [.int .i64 0, .int .i64 0] := .of (by kernel_rfl) (by kernel_rfl)
instance : TEqs Tryz.prog 134 2 := ⟨by kernel_rfl, by kernel_rfl, by kernel_rfl, by kernel_rfl⟩
instance : TFld Tryz.prog 134 0 0 := .of (by kernel_rfl)
instance : TFld Tryz.prog 134 1 1 := .of (by kernel_rfl)
instance : TZero Tryz.prog 136 [.int .i64 0, .int .i64 0, .int .i64 0, .int .i64 0] := .of (by kernel_rfl)
instance : TElem Tryz.prog 136 (.agg #[.int .i64 0, .int .i64 0, .int .i64 0, .int .i64 0]) 4 32 := .of (by kernel_rfl) rfl (by decide)
instance : TAgg Tryz.prog 136 4 := .of (by kernel_rfl) (by kernel_rfl)
instance : TBuild Tryz.prog 136 [(0, 2), (2, 2)] [.int .i64 0, .int .i64 0, .int .i64 0, .int .i64 0] := .of (by kernel_rfl) (by kernel_rfl)
instance : TFld Tryz.prog 136 0 0 := .of (by kernel_rfl)
instance : TFld Tryz.prog 136 1 2 := .of (by kernel_rfl)
def crossT (p q : PtT) : Int := p.x * q.y - p.y * q.x
def wr (x : Int) : Int := (x + 9223372036854775808) % 18446744073709551616 - 9223372036854775808
def sidesT (pc : List PtT) : List (PtT × PtT) := (List.range pc.length).map fun i => (pc.getD i dP, pc.getD ((i + 1) % pc.length) dP)
theorem sides_len (pc : List PtT) : (sidesT pc).length = pc.length := by simp [sidesT]
theorem sides_at {pc : List PtT} {i : Nat} (h : i < pc.length) : (sidesT pc)[i]? = some (pc.getD i dP, pc.getD ((i + 1) % pc.length) dP) := by
  unfold sidesT
  rw [List.getElem?_map, List.getElem?_range h]; rfl
theorem sides_get {pc : List PtT} {i : Nat} {p : PtT × PtT} (h : (sidesT pc)[i]? = some p) : i < pc.length ∧ p = (pc.getD i dP, pc.getD ((i + 1) % pc.length) dP) := by
  have h1 : i < (sidesT pc).length := (List.getElem?_eq_some_iff.1 h).1
  rw [sides_len] at h1
  rw [sides_at h1] at h
  exact ⟨h1, (Option.some.inj h).symm⟩
def areaTo (pc : List PtT) : Nat → Int
  | 0 => 0
  | k + 1 => wr (areaTo pc k + crossT (pc.getD k dP) (pc.getD ((k + 1) % pc.length) dP))
def areaT (pc : List PtT) : Int := areaTo pc pc.length
def sideT (a b c : PtT) : Int := sg (crossT ⟨b.x - a.x, b.y - a.y⟩ ⟨c.x - a.x, c.y - a.y⟩)
/-- p lies left of the first k sides -/
def leftTo (pc : List PtT) (p : PtT) (k : Nat) : Prop := ∀ i, i < k → ¬ sideT (pc.getD i dP) (pc.getD ((i + 1) % pc.length) dP) p < 0
theorem near_at {pc : List PtT} (h : ∀ p ∈ pc, NearT p) {i : Nat} (hi : i < pc.length) : NearT (pc.getD i dP) ∧ NearT (pc.getD ((i + 1) % pc.length) dP) := ⟨near_getD h hi, near_getD h (Nat.mod_lt _ (by omega))⟩
theorem a_PairCross (x y u v : Int) (hx : -1073741824 ≤ x ∧ x ≤ 1073741824) (hy : -1073741824 ≤ y ∧ y ≤ 1073741824) (hu : -1073741824 ≤ u ∧ u ≤ 1073741824) (hv : -1073741824 ≤ v ∧ v ≤ 1073741824) : Ans Tryz.prog 78 [.agg #[.int .i64 x, .int .i64 y, .int .i64 u, .int .i64 v]] (.int .i64 (x * v - y * u)) := by
  have m1 := mul_bound (A := 1073741824) (B := 1073741824) (x := x) (y := v) (by omega) (by omega) (by omega) (by omega)
  have m2 := mul_bound (A := 1073741824) (B := 1073741824) (x := y) (y := u) (by omega) (by omega) (by omega) (by omega)
  refine ans_of Tryz.func78 rfl Tryz.ntmps78 Tryz.results78 rfl rfl fun w => ?_
  refine v_seq ?_
  refine v_region ?_
  refine l_new rfl (o_box (cs := [_, _, _, _]) rfl rfl) fun b1 => ?_
  refine l_val rfl (o_assign rfl) ?_
  refine l_nil ?_
  refine kt_norm ?_
  refine v_seq ?_
  refine v_region ?_
  refine l_val rfl (o_fld rfl) ?_
  refine l_val rfl (o_fld rfl) ?_
  refine l_val rfl (o_load1 (key := 1) rfl rfl rfl) ?_
  refine l_val rfl (o_fld rfl) ?_
  refine l_val rfl (o_fld rfl) ?_
  refine l_val rfl (o_load1 (key := 1) rfl rfl rfl) ?_
  refine l_val rfl (o_muli rfl rfl ?_) ?_
  · omega
  refine l_val rfl (o_fld rfl) ?_
  refine l_val rfl (o_fld rfl) ?_
  refine l_val rfl (o_load1 (key := 1) rfl rfl rfl) ?_
  refine l_val rfl (o_fld rfl) ?_
  refine l_val rfl (o_fld rfl) ?_
  refine l_val rfl (o_load1 (key := 1) rfl rfl rfl) ?_
  refine l_val rfl (o_muli rfl rfl ?_) ?_
  · omega
  refine l_val rfl (o_subi rfl rfl ?_) ?_
  · omega
  refine l_val rfl (o_assign rfl) ?_
  refine l_nil ?_
  refine kt_norm ?_
  refine v_sel [2] [] rfl rfl ?_
  refine v_ret ?_
  refine ⟨[_], .cons (.tmp rfl) (ResAll.nil), ?_⟩
  rfl
theorem a_Cross (x y u v : Int) (hx : -1073741824 ≤ x ∧ x ≤ 1073741824) (hy : -1073741824 ≤ y ∧ y ≤ 1073741824) (hu : -1073741824 ≤ u ∧ u ≤ 1073741824) (hv : -1073741824 ≤ v ∧ v ≤ 1073741824) : Ans Tryz.prog 61 [.agg #[.int .i64 x, .int .i64 y], .agg #[.int .i64 u, .int .i64 v]] (.int .i64 (x * v - y * u)) := by
  refine ans_of Tryz.func61 rfl Tryz.ntmps61 Tryz.results61 rfl rfl fun w => ?_
  refine v_seq ?_
  refine v_region ?_
  refine l_new rfl (o_box (cs := [_, _]) rfl rfl) fun b2 => ?_
  refine l_new rfl (o_box (cs := [_, _]) rfl rfl) fun b3 => ?_
  refine l_val rfl (o_assign rfl) ?_
  refine l_nil ?_
  refine kt_norm ?_
  refine v_seq ?_
  refine v_region ?_
  refine l_val rfl (o_loadW (key := 2) rfl rfl rfl) ?_
  refine l_val rfl (o_loadW (key := 3) rfl rfl rfl) ?_
  refine l_val rfl (o_build (vs := [_, _]) (cs := [_, _, _, _]) rfl rfl) ?_
  refine l_ans (vs := [_]) rfl rfl (a_PairCross _ _ _ _ ?_ ?_ ?_ ?_) ?_
  · omega
  · omega
  · omega
  · omega
  refine l_val rfl (o_assign rfl) ?_
  refine l_nil ?_
  refine kt_norm ?_
  refine v_sel [4] [] rfl rfl ?_
  refine v_ret ?_
  refine ⟨[_], .cons (.tmp rfl) (ResAll.nil), ?_⟩
  rfl
theorem a_SCross (x y u v : Int) (hx : -2147483648 ≤ x ∧ x ≤ 2147483648) (hy : -2147483648 ≤ y ∧ y ≤ 2147483648) (hu : -2147483648 ≤ u ∧ u ≤ 2147483648) (hv : -2147483648 ≤ v ∧ v ≤ 2147483648) : Ans Tryz.prog 94 [.agg #[.int .i64 x, .int .i64 y], .agg #[.int .i64 u, .int .i64 v]] (wideV (x * v - y * u)) := by
  have m1 := mul_bound (A := 2147483648) (B := 2147483648) (x := x) (y := v) (by omega) (by omega) (by omega) (by omega)
  have m2 := mul_bound (A := 2147483648) (B := 2147483648) (x := y) (y := u) (by omega) (by omega) (by omega) (by omega)
  refine ans_of Tryz.func94 rfl Tryz.ntmps94 Tryz.results94 rfl rfl fun w => ?_
  refine v_seq ?_
  refine v_region ?_
  refine l_new rfl (o_box (cs := [_, _]) rfl rfl) fun b2 => ?_
  refine l_new rfl (o_box (cs := [_, _]) rfl rfl) fun b3 => ?_
  refine l_new rfl o_alloc fun b4 => ?_
  refine l_nil ?_
  refine kt_norm ?_
  refine v_seq ?_
  refine v_drawZ [[], [2], [], [3], [], [], [2], [], [3], [], [], [4]] mixed ?_ (by kernel_rfl) (by kernel_rfl)
  refine d_val (fun _ => rfl) rfl rfl (fun _ => o_fld rfl) ?_
  refine d_val (fun _ => rfl) rfl rfl (fun _ => o_load1 (key := 2) rfl rfl rfl) ?_
  refine d_val (fun _ => rfl) rfl rfl (fun _ => o_fld rfl) ?_
  refine d_val (fun _ => rfl) rfl rfl (fun _ => o_load1 (key := 3) rfl rfl rfl) ?_
  refine d_ans (vs := [_, _]) (fun _ => rfl) (fun _ => rfl) (a_Mul _ _ ?_ ?_) ?_
  · omega
  · omega
  refine d_val (fun _ => rfl) rfl rfl (fun _ => o_fld rfl) ?_
  refine d_val (fun _ => rfl) rfl rfl (fun _ => o_load1 (key := 2) rfl rfl rfl) ?_
  refine d_val (fun _ => rfl) rfl rfl (fun _ => o_fld rfl) ?_
  refine d_val (fun _ => rfl) rfl rfl (fun _ => o_load1 (key := 3) rfl rfl rfl) ?_
  refine d_ans (vs := [_, _]) (fun _ => rfl) (fun _ => rfl) (a_Mul _ _ ?_ ?_) ?_
  · omega
  · omega
  refine d_ans (vs := [_, _]) (fun _ => rfl) (fun _ => rfl) (a_Sub _ _ ?_ ?_) ?_
  · omega
  · omega
  refine d_store (fun _ => rfl) rfl rfl (fun _ => o_storeW (key := 4) (xs := [_, _]) rfl rfl rfl rfl rfl rfl rfl) ?_
  refine d_nil (fun σ => ?_)
  refine l_nil ?_
  refine kt_norm ?_
  refine v_sel [4] [4] rfl rfl ?_
  refine v_ret ?_
  refine ⟨[_], .cons (.cellW (key := 4) rfl rfl rfl) (ResAll.nil), ?_⟩
  rfl
theorem a_Side (a b c : PtT) (ha : NearT a) (hb : NearT b) (hc : NearT c) : Ans Tryz.prog 80 [.agg #[.int .i64 a.x, .int .i64 a.y], .agg #[.int .i64 b.x, .int .i64 b.y], .agg #[.int .i64 c.x, .int .i64 c.y]] (.int .i64 (sideT a b c)) := by
  unfold NearT at ha hb hc
  refine ans_of Tryz.func80 rfl Tryz.ntmps80 Tryz.results80 rfl rfl fun w => ?_
  refine v_seq ?_
  refine v_region ?_
  refine l_new rfl (o_box (cs := [_, _]) rfl rfl) fun b3 => ?_
  refine l_new rfl (o_box (cs := [_, _]) rfl rfl) fun b4 => ?_
  refine l_new rfl (o_box (cs := [_, _]) rfl rfl) fun b5 => ?_
  refine l_val rfl (o_assign rfl) ?_
  refine l_nil ?_
  refine kt_norm ?_
  refine v_seq ?_
  refine v_drawZ [[4], [3], [], [5], [3], [], [], [], []] mixed ?_ (by kernel_rfl) (by kernel_rfl)
  refine d_val (fun _ => rfl) rfl rfl (fun _ => o_loadW (key := 4) rfl rfl rfl) ?_
  refine d_val (fun _ => rfl) rfl rfl (fun _ => o_loadW (key := 3) rfl rfl rfl) ?_
  refine d_ans (vs := [_, _]) (fun _ => rfl) (fun _ => rfl) (a_PSub _ _ _ _ ?_ ?_ ?_ ?_) ?_
  · omega
  · omega
  · omega
  · omega
  refine d_val (fun _ => rfl) rfl rfl (fun _ => o_loadW (key := 5) rfl rfl rfl) ?_
  refine d_val (fun _ => rfl) rfl rfl (fun _ => o_loadW (key := 3) rfl rfl rfl) ?_
  refine d_ans (vs := [_, _]) (fun _ => rfl) (fun _ => rfl) (a_PSub _ _ _ _ ?_ ?_ ?_ ?_) ?_
  · omega
  · omega
  · omega
  · omega
  refine d_ans (vs := [_, _]) (fun _ => rfl) (fun _ => rfl) (a_SCross _ _ _ _ ?_ ?_ ?_ ?_) ?_
  · omega
  · omega
  · omega
  · omega
  refine d_ans (vs := [_]) (fun _ => rfl) (fun _ => rfl) (a_Sign _) ?_
  refine d_val (fun _ => rfl) rfl rfl (fun _ => o_assign rfl) ?_
  refine d_nil (fun σ => ?_)
  refine l_nil ?_
  refine kt_norm ?_
  refine v_sel [6] [] rfl rfl ?_
  refine v_ret ?_
  refine ⟨[_], .cons (.tmp rfl) (ResAll.nil), ?_⟩
  rfl
theorem a_sides (w : World) (a : Option Addr) (n c : Nat) : Calls Tryz.prog 60 #[.slice a n c] w fun e w' => ∃ b, e = .returned (.func (.func 77) #[] #[.pointer (some ⟨b, 0, none⟩)]) ∧ Below w.heap.size w w' ∧ Blk w' b #[.slice a n c] 45 ∧ w.heap.size ≤ b := by
  refine calls_box (args := [.slice a n c]) (X := fun b => .func (.func 77) #[] #[.pointer (some ⟨b, 0, none⟩)]) (cs := [.slice a n c]) Tryz.func60 rfl Tryz.ntmps60 Tryz.results60 rfl ?_
  refine v_seq ?_
  refine v_region ?_
  refine l_new rfl (o_box (cs := [_]) rfl rfl) fun b1 => ?_
  refine l_val rfl (o_assign rfl) ?_
  refine l_nil ?_
  refine kt_norm ?_
  refine v_seq ?_
  refine v_region ?_
  refine l_val rfl (o_makeFunc (vs := [_]) rfl) ?_
  refine l_val rfl (o_assign rfl) ?_
  refine l_nil ?_
  refine kt_norm ?_
  refine v_ret ?_
  refine ⟨[_], .cons (.tmp rfl) (ResAll.nil), ?_⟩
  exact ⟨1, b1, rfl, rfl⟩
theorem a_sides1 (b : Nat) (pv : Value) (pc : List PtT) (hs : pc.length ≤ 1000000) (hV : RowV pv pc.length) : Iter Tryz.prog 77 #[.pointer (some ⟨b, 0, none⟩)] (fun p : PtT × PtT => [.agg (eP p.1).toArray, .agg (eP p.2).toArray]) (sidesT pc) (fun w => Blk w b #[pv] 45 ∧ RowAt w pv 2 pc.length (pc.flatMap eP)) := by
  intro lp J Jx O0 W hJ hJx hJG hround hJ0
  have gst : ∀ {w w' : World}, Blk w b #[pv] 45 ∧ RowAt w pv 2 pc.length (pc.flatMap eP) → Chg (fun _ => False) w w' → Blk w' b #[pv] 45 ∧ RowAt w' pv 2 pc.length (pc.flatMap eP) := fun h hc => ⟨(hc.block b (Blk.lt h.1) (fun h => h)).trans h.1, h.2.chg hc (fun h => h)⟩
  have hG0 := (hJG _ _ _ hJ0).1
  refine enterI (A := fun W' => (∃ O', J (sidesT pc).length O' W') ∨ Jx W') (args := [.func (.yield lp) #[] #[], .pointer (some ⟨b, 0, none⟩)]) Tryz.func77 rfl Tryz.ntmps77 Tryz.results77 rfl (fun w w' h hc => h.imp (fun ⟨O, h⟩ => ⟨O, hJ _ _ _ _ h hc⟩) (fun h => hJx _ _ h hc)) ?_
  refine v_seq ?_
  refine v_region ?_
  refine l_val rfl (o_loadG1 rfl (fun w hg => (gst hG0 hg).1.cell 0 _ rfl)) ?_
  refine l_val rfl (o_len rfl hV) ?_
  refine l_val rfl (o_move rfl) ?_
  refine l_nil ?_
  refine kt_norm ?_
  refine v_block ?_
  refine v_loopL (α := Nat × World) (fun ⟨i, W2⟩ => [(8, .int .i64 (i : Int))]) (fun ⟨i, W2⟩ => []) (fun ⟨i, W2⟩ => fun w => Chg (fun _ => False) W2 w) (fun ⟨i, W2⟩ => fun b => b < W2.heap.size) (fun ⟨i, W2⟩ => i ≤ pc.length ∧ ∃ O2, J i O2 W2) (fun ⟨i, W2⟩ => pc.length - i) (0, W) [0, 1, 6, 7] [] ⟨Nat.zero_le _, O0, hJ0⟩ rfl rfl (And.intro rfl (True.intro)) rfl (True.intro) rfl ?_
  rintro ⟨i, W2⟩ ⟨hi, O2, hJ2⟩
  have hGk := fun w (hg : Chg (fun _ => False) W2 w) => gst (hJG _ _ _ hJ2).1 hg
  refine v_seq ?_
  refine v_region ?_
  refine l_split rfl (o_lss rfl rfl) (fun q1 => ?_) (fun q1 => ?_)
  · have hil : i < pc.length := by omega
    refine l_nil ?_
    refine kt_norm ?_
    refine v_seq ?_
    refine v_condT rfl ?_
    refine v_skip ?_
    refine kt_norm ?_
    refine v_seq ?_
    refine v_block ?_
    refine v_seq ?_
    refine v_region ?_
    refine l_val rfl (o_move rfl) ?_
    refine l_val rfl (o_idx (i) rfl hV rfl (by first | rfl | omega) (by omega)) ?_
    refine l_val rfl (o_loadRE (c' := [_, _]) rfl (row_imm (fun w hg => (hGk w hg).2)) (el_flat eP_len dP pc (i) (by omega)) rfl) ?_
    refine l_new rfl o_alloc fun b4 => ?_
    refine l_val rfl (o_assign rfl) ?_
    refine l_store rfl (o_storeW (key := 4) (xs := [_, _]) rfl rfl rfl rfl rfl rfl rfl) ?_
    refine l_nil ?_
    refine kt_norm ?_
    refine v_seq ?_
    refine v_drawZ [[], [], [], [], [], [], [], [], [], [5]] mixed ?_ (by kernel_rfl) (by kernel_rfl)
    refine d_val (fun _ => rfl) rfl rfl (fun _ => o_loadG1 rfl (fun w hg => (hGk w hg).1.cell 0 _ rfl)) ?_
    refine d_val (fun _ => rfl) rfl rfl (fun _ => o_move rfl) ?_
    refine d_val (fun _ => rfl) rfl rfl (fun _ => o_addi rfl rfl ?_) ?_
    · omega
    refine d_val (fun _ => rfl) rfl rfl (fun _ => o_loadG1 rfl (fun w hg => (hGk w hg).1.cell 0 _ rfl)) ?_
    refine d_val (fun _ => rfl) rfl rfl (fun _ => o_len rfl hV) ?_
    refine d_val (fun _ => rfl) rfl rfl (fun _ => o_remn rfl rfl ?_) ?_
    · omega
    refine d_val (fun _ => rfl) rfl rfl (fun _ => o_idx ((i + 1) % pc.length) rfl hV rfl (by first | rfl | omega) (Nat.mod_lt _ (by omega))) ?_
    refine d_val (fun _ => rfl) rfl rfl (fun _ => o_loadRE (c' := [_, _]) rfl (row_imm (fun w hg => (hGk w hg).2)) (el_flat eP_len dP pc ((i + 1) % pc.length) (Nat.mod_lt _ (by omega))) rfl) ?_
    refine d_new (fun _ => rfl) rfl rfl (fun _ => o_alloc) ?_
    refine d_store (fun _ => rfl) rfl rfl (fun _ => o_storeW (key := 5) (xs := [_, _]) rfl rfl rfl rfl rfl rfl rfl) ?_
    refine d_nil (fun σ => ?_)
    refine l_nil ?_
    refine kt_norm ?_
    refine v_sel [8, 0, 1, 6, 7, 4, 5] [4, 5] rfl rfl ?_
    refine v_seq ?_
    refine v_region ?_
    refine l_val rfl (o_move rfl) ?_
    refine l_val rfl (o_loadW (key := 4) rfl rfl rfl) ?_
    refine l_val rfl (o_loadW (key := 5) rfl rfl rfl) ?_
    refine l_yield (k := 0) (vs := [_, _]) (A := fun W3 => ∃ O3, J (i + 1) O3 W3) (B := Jx) rfl rfl (fun _ => trivial) (fun h => h) rfl rfl rfl (fun w hg => ⟨O2, yieldAt_mono (hround _ _ O2 w (sides_at hil) (hJ _ _ _ _ hJ2 hg)) (fun e w2 h => h.imp (fun h => ⟨h.1, h.2.1, h.2.2.imp fun O h => h.1⟩) id)⟩) (fun W3 hA => ?_) (fun W3 hBx => ?_)
    · obtain ⟨O3, hJ3⟩ := hA
      refine l_val rfl (o_not rfl rfl) ?_
      refine l_nil ?_
      refine kt_norm ?_
      refine v_sel [8, 0, 1, 6, 7, 25] [] rfl rfl ?_
      refine v_condF rfl ?_
      refine v_skip ?_
      refine kb_norm ?_
      refine kt_norm ?_
      refine v_region ?_
      refine l_val rfl (o_addi rfl rfl ?_) ?_
      · omega
      refine l_val rfl (o_move rfl) ?_
      refine l_nil ?_
      refine kt_norm ?_
      refine ⟨(i + 1, W3), ⟨hil, O3, hJ3⟩, (by show pc.length - (i + 1) < pc.length - i; omega), le_app (And.intro rfl (True.intro)) [0, 1, 6, 7] rfl (True.intro) [] rfl⟩
    · skip
      refine l_val rfl (o_not rfl rfl) ?_
      refine l_nil ?_
      refine kt_norm ?_
      refine v_sel [8, 0, 1, 6, 7, 25] [] rfl rfl ?_
      refine v_condT rfl ?_
      refine v_ret ?_
      refine kb_ret ?_
      refine kt_ret ?_
      refine kt_ret ?_
      refine kb_ret ?_
      refine ⟨[], ResAll.nil, ?_⟩
      first
        | exact ⟨rfl, fun w hg => .inr (hJx _ _ hBx hg)⟩
        | exact ⟨rfl, fun w hg => .inl ⟨O2, hJ _ _ _ _ (by rw [sides_len, show pc.length = i by omega]; exact hJ2) hg⟩⟩
  · skip
    refine l_nil ?_
    refine kt_norm ?_
    refine v_seq ?_
    refine v_condF rfl ?_
    refine v_exit ?_
    refine kt_exit ?_
    refine kt_exit ?_
    refine kb_eq ?_
    refine ⟨[], ResAll.nil, ?_⟩
    first
      | exact ⟨rfl, fun w hg => .inr (hJx _ _ hBx hg)⟩
      | exact ⟨rfl, fun w hg => .inl ⟨O2, hJ _ _ _ _ (by rw [sides_len, show pc.length = i by omega]; exact hJ2) hg⟩⟩
end Go.Proofs.YtllhohbenniaaaaGreat

/- The area of a piece; what lies left of all its sides. Conditions: none. -/
namespace Go.Proofs.YtllhohbenniaaaaGreat
open Go.Proofs Go.RowKit Go.Shelf

def leftB (pc : List PtT) (p : PtT) : Bool := (sidesT pc).all fun s => !(decide (sideT s.1 s.2 p < 0))
theorem left_no {pc : List PtT} {p : PtT} {i : Nat} (hi : i < pc.length) (h : sideT (pc.getD i dP) (pc.getD ((i + 1) % pc.length) dP) p < 0) : leftB pc p = false := by
  unfold leftB
  rw [List.all_eq_false]
  exact ⟨_, List.mem_of_getElem? (sides_at hi), by simp only [h, decide_true, Bool.not_true]; simp⟩
theorem left_yes {pc : List PtT} {p : PtT} (h : ∀ i, i < pc.length → ¬ sideT (pc.getD i dP) (pc.getD ((i + 1) % pc.length) dP) p < 0) : leftB pc p = true := by
  unfold leftB
  rw [List.all_eq_true]
  intro s hs
  obtain ⟨i, hi, rfl⟩ := List.getElem_of_mem hs
  obtain ⟨h1, h2⟩ := sides_get (pc := pc) (i := i) (List.getElem?_eq_getElem hi)
  rw [h2]
  have := h i h1
  simp only [this, decide_false, Bool.not_false]
theorem a_Area (w : World) (v : Value) (pc : List PtT) (hs : pc.length ≤ 1000000) (hV : RowV v pc.length) (hrow : RowAt w v 2 pc.length (pc.flatMap eP)) (hnear : ∀ p ∈ pc, NearT p) :
    Calls Tryz.prog 37 #[v] w fun e w' => e = .returned (.int .i64 (areaT pc)) ∧ Below w.heap.size w w' := by
  have hr : ∀ w', Chg (fun _ => False) w w' → RowAt w' v 2 pc.length (pc.flatMap eP) := fun w' h => hrow.chg h (fun h => h)
  obtain ⟨a0, c0, rfl⟩ := hV.sl
  refine calls_of (args := [.slice a0 pc.length c0]) Tryz.func37 rfl Tryz.ntmps37 Tryz.results37 rfl ?_
  refine v_seq ?_
  refine v_region ?_
  refine l_new rfl o_alloc fun b2 => ?_
  refine l_nil ?_
  refine kt_norm ?_
  refine v_seq ?_
  refine v_seq ?_
  refine v_region ?_
  refine l_val rfl (o_move rfl) ?_
  refine l_gbox (ks := []) (caps := #[]) (vs := [_]) (T := 45) (cs := [_]) rfl rfl (ent_of Tryz.func60 rfl rfl) rfl (fun w' _ _ => a_sides w' a0 pc.length c0) fun b6 => ?_
  refine l_nil ?_
  refine kt_norm ?_
  refine v_block ?_
  refine v_freeze 6 [2] rfl rfl rfl ?_
  refine v_range (τ := Int) rfl rfl rfl (ent_of Tryz.func77 rfl rfl) (a_sides1 b6 (.slice a0 pc.length c0) pc hs hV) (fun w' hg => ⟨hg.2, hr w' hg.1⟩) (fun _ => rfl) (fun t => [(2, .box b2 3 [.int .i64 t])]) (fun k t => t = areaTo pc k) 0 rfl [2] rfl ?_ ?_
  · rintro k x t lp W1 Wa hx rfl
    obtain ⟨hk, rfl⟩ := sides_get hx
    have hn := near_at hnear hk
    unfold NearT at hn
    dsimp only
    refine v_seq ?_
    refine v_region ?_
    refine l_new rfl o_alloc fun b3 => ?_
    refine l_store rfl (o_storeW (key := 3) (xs := [_, _]) rfl rfl rfl rfl rfl rfl rfl) ?_
    refine l_nil ?_
    refine kt_norm ?_
    refine v_region ?_
    refine l_new rfl o_alloc fun b4 => ?_
    refine l_store rfl (o_storeW (key := 4) (xs := [_, _]) rfl rfl rfl rfl rfl rfl rfl) ?_
    refine l_nil ?_
    refine ⟨rfl, rfl, rfl, rfl, fun W2 Wb => ?_⟩
    refine v_block ?_
    refine v_drawZ [[2], [3], [4], [], [], [2]] mixed ?_ (by kernel_rfl) (by kernel_rfl)
    refine d_val (fun _ => rfl) rfl rfl (fun _ => o_load1 (key := 2) rfl rfl rfl) ?_
    refine d_val (fun _ => rfl) rfl rfl (fun _ => o_loadW (key := 3) rfl rfl rfl) ?_
    refine d_val (fun _ => rfl) rfl rfl (fun _ => o_loadW (key := 4) rfl rfl rfl) ?_
    refine d_ans (vs := [_, _]) (fun _ => rfl) (fun _ => rfl) (a_Cross _ _ _ _ ?_ ?_ ?_ ?_) ?_
    · omega
    · omega
    · omega
    · omega
    refine d_val (fun _ => rfl) rfl rfl (fun _ => o_add rfl rfl (wrap_i64m _)) ?_
    refine d_store (fun _ => rfl) rfl rfl (fun _ => o_store1 (key := 2) (rs := [_]) rfl rfl rfl rfl rfl rfl rfl) ?_
    refine d_nil (fun σ => ?_)
    refine l_nil ?_
    refine kb_norm ?_
    exact ⟨rfl, areaTo pc (k + 1), rfl, ⟨fun _ _ h => (by cases h), leL_ok _ (And.intro rfl True.intro), rfl, rfl, rfl⟩⟩
  · rintro t D hQ
    rw [sides_len] at hQ
    subst hQ
    refine kb_norm ?_
    refine kt_norm ?_
    refine v_seq ?_
    refine v_region ?_
    refine l_val rfl (o_load1 (key := 2) rfl rfl rfl) ?_
    refine l_store rfl (o_store1 (key := 2) (rs := [_]) rfl rfl rfl rfl rfl rfl rfl) ?_
    refine l_nil ?_
    refine kt_norm ?_
    refine v_ret ?_
    refine ⟨[_], .cons (.cell1 (key := 2) rfl rfl) (ResAll.nil), ?_⟩
    rfl
theorem a_left (w : World) (v : Value) (pc : List PtT) (p : PtT) (hs : pc.length ≤ 1000000) (hV : RowV v pc.length) (hrow : RowAt w v 2 pc.length (pc.flatMap eP)) (hnear : ∀ p ∈ pc, NearT p) (hp : NearT p) :
    Calls Tryz.prog 64 #[v, .agg #[.int .i64 p.x, .int .i64 p.y]] w fun e w' => e = .returned (.bool (leftB pc p)) ∧ Below w.heap.size w w' := by
  have hr : ∀ w', Chg (fun _ => False) w w' → RowAt w' v 2 pc.length (pc.flatMap eP) := fun w' h => hrow.chg h (fun h => h)
  obtain ⟨a0, c0, rfl⟩ := hV.sl
  refine calls_of (args := [.slice a0 pc.length c0, .agg #[.int .i64 p.x, .int .i64 p.y]]) Tryz.func64 rfl Tryz.ntmps64 Tryz.results64 rfl ?_
  refine v_seq ?_
  refine v_region ?_
  refine l_new rfl (o_box (cs := [_, _]) rfl rfl) fun b3 => ?_
  refine l_new rfl o_alloc fun b4 => ?_
  refine l_nil ?_
  refine kt_norm ?_
  refine v_seq ?_
  refine v_seq ?_
  refine v_region ?_
  refine l_val rfl (o_move rfl) ?_
  refine l_gbox (ks := []) (caps := #[]) (vs := [_]) (T := 45) (cs := [_]) rfl rfl (ent_of Tryz.func60 rfl rfl) rfl (fun w' _ _ => a_sides w' a0 pc.length c0) fun b8 => ?_
  refine l_nil ?_
  refine kt_norm ?_
  refine v_block ?_
  refine v_freeze 8 [3, 4] rfl rfl rfl ?_
  refine v_rangeR (τ := Bool) rfl rfl rfl (ent_of Tryz.func77 rfl rfl) (a_sides1 b8 (.slice a0 pc.length c0) pc hs hV) (fun w' hg => ⟨hg.2, hr w' hg.1⟩) (fun _ => rfl) (fun t => [(3, .box b3 56 [.int .i64 p.x, .int .i64 p.y]), (4, .box b4 4 [.bool t])]) (fun k t => t = false ∧ ∀ i, i < k → ¬ sideT (pc.getD i dP) (pc.getD ((i + 1) % pc.length) dP) p < 0) (fun t => t = false ∧ leftB pc p = false) false ⟨rfl, fun i hi => absurd hi (Nat.not_lt_zero i)⟩ [3, 4] rfl ?_ ?_ ?_
  · rintro k x t lp W1 Wa hx ⟨rfl, hB⟩
    obtain ⟨hk, rfl⟩ := sides_get hx
    have hn := near_at hnear hk
    dsimp only
    refine v_seq ?_
    refine v_region ?_
    refine l_new rfl o_alloc fun b5 => ?_
    refine l_store rfl (o_storeW (key := 5) (xs := [_, _]) rfl rfl rfl rfl rfl rfl rfl) ?_
    refine l_nil ?_
    refine kt_norm ?_
    refine v_region ?_
    refine l_new rfl o_alloc fun b6 => ?_
    refine l_store rfl (o_storeW (key := 6) (xs := [_, _]) rfl rfl rfl rfl rfl rfl rfl) ?_
    refine l_nil ?_
    refine ⟨rfl, rfl, rfl, rfl, fun W2 Wb => ?_⟩
    refine v_block ?_
    refine v_seq ?_
    refine v_region ?_
    refine l_val rfl (o_loadW (key := 5) rfl rfl rfl) ?_
    refine l_val rfl (o_loadW (key := 6) rfl rfl rfl) ?_
    refine l_val rfl (o_loadW (key := 3) rfl rfl rfl) ?_
    refine l_ans (vs := [_, _, _]) rfl rfl (a_Side (pc.getD k dP) (pc.getD ((k + 1) % pc.length) dP) p hn.1 hn.2 hp) ?_
    refine l_split rfl (o_lss rfl rfl) (fun h44 => ?_) (fun h44 => ?_)
    · skip
      refine l_nil ?_
      refine kt_norm ?_
      refine v_sel [0, 1, 3, 4, 7, 8, 5, 6, 15] [3, 4, 5, 6] rfl rfl ?_
      refine v_condT rfl ?_
      refine v_seq ?_
      refine v_region ?_
      refine l_store rfl (o_store1 (key := 4) (rs := [_]) rfl rfl rfl rfl rfl rfl rfl) ?_
      refine l_nil ?_
      refine kt_norm ?_
      refine v_sel [4] [3, 4] rfl rfl ?_
      refine v_ret ?_
      refine kb_ret ?_
      exact .inr ⟨rfl, false, ⟨rfl, left_no hk h44⟩, ⟨fun _ _ h => (by cases h), leL_ok _ (And.intro rfl (And.intro rfl True.intro)), rfl, rfl, rfl⟩⟩
    · skip
      refine l_nil ?_
      refine kt_norm ?_
      refine v_sel [0, 1, 3, 4, 7, 8, 5, 6, 15] [3, 4, 5, 6] rfl rfl ?_
      refine v_condF rfl ?_
      refine v_skip ?_
      refine kb_norm ?_
      exact .inl ⟨rfl, false, ⟨rfl, fun i hi => by rcases Nat.lt_or_eq_of_le (Nat.le_of_lt_succ hi) with h | h; exact hB i h; subst h; exact h44⟩, ⟨fun _ _ h => (by cases h), leL_ok _ (And.intro rfl (And.intro rfl True.intro)), rfl, rfl, rfl⟩⟩
  · rintro t D ⟨rfl, hB⟩
    rw [sides_len] at hB
    refine kb_norm ?_
    refine kt_norm ?_
    refine v_seq ?_
    refine v_region ?_
    refine l_store rfl (o_store1 (key := 4) (rs := [_]) rfl rfl rfl rfl rfl rfl rfl) ?_
    refine l_nil ?_
    refine kt_norm ?_
    refine v_ret ?_
    refine ⟨[_], .cons (.cell1 (key := 4) rfl rfl) (ResAll.nil), ?_⟩
    first
      | exact congrArg Value.bool (left_yes hB).symm
      | exact congrArg Value.bool hL.symm
  · rintro t D ⟨rfl, hL⟩
    refine kb_ret ?_
    refine kt_ret ?_
    refine ⟨[_], .cons (.cell1 (key := 4) rfl rfl) (ResAll.nil), ?_⟩
    first
      | exact congrArg Value.bool (left_yes hB).symm
      | exact congrArg Value.bool hL.symm
end Go.Proofs.YtllhohbenniaaaaGreat

/- Whether a piece is convex. Conditions: none. -/
namespace Go.Proofs.YtllhohbenniaaaaGreat
open Go.Proofs Go.RowKit Go.Shelf

def idxG {α : Type} (p : α → Bool) (l : List α) : Int := if l.findIdx p = l.length then -1 else ((l.findIdx p : Nat) : Int)
theorem idxG_yes {α : Type} {d : α} {p : α → Bool} {l : List α} {i : Nat} (hi : i < l.length) (hb : ∀ j, j < i → p (l.getD j d) = false) (h : p (l.getD i d) = true) : idxG p l = i := by
  have e : l.findIdx p = i := (List.findIdx_eq hi).2 ⟨by simpa [List.getD_eq_getElem?_getD, hi] using h, fun j hj => by
    have := hb j hj
    simpa [List.getD_eq_getElem?_getD, show j < l.length by omega] using this⟩
  unfold idxG; rw [e, if_neg (by omega)]
theorem idxG_no {α : Type} {d : α} {p : α → Bool} {l : List α} (hb : ∀ j, j < l.length → p (l.getD j d) = false) : idxG p l = -1 := by
  have e : l.findIdx p = l.length := List.findIdx_eq_length.2 fun x hx => by
    obtain ⟨j, hj, rfl⟩ := List.getElem_of_mem hx
    simpa [List.getD_eq_getElem?_getD, hj] using hb j hj
  unfold idxG; rw [if_pos e]
theorem idxG_any {α : Type} (p : α → Bool) (l : List α) : decide (0 ≤ idxG p l) = l.any p := by
  unfold idxG
  by_cases h : l.findIdx p = l.length
  · rw [if_pos h]
    have := List.findIdx_eq_length.1 h
    rw [Bool.eq_iff_iff]
    simp only [decide_eq_true_eq, List.any_eq_true]
    exact ⟨fun h => by omega, fun ⟨x, hx, e⟩ => by have := this x hx; rw [e] at this; cases this⟩
  · rw [if_neg h]
    have hlt : l.findIdx p < l.length := by have := List.findIdx_le_length (p := p) (xs := l); omega
    have := (List.findIdx_eq hlt).1 rfl
    rw [Bool.eq_iff_iff]
    simp only [decide_eq_true_eq, List.any_eq_true]
    exact ⟨fun _ => ⟨_, List.getElem_mem hlt, this.1⟩, fun _ => by omega⟩
theorem pt_mem {pc : List PtT} {i : Nat} (h : i < pc.length) : pc.getD i dP ∈ pc := by
  rw [List.getD_eq_getElem?_getD, List.getElem?_eq_getElem h]; exact List.getElem_mem h
def convexB (pc : List PtT) : Bool := decide (3 ≤ pc.length) && (decide (0 < areaT pc) && !(pc.any fun p => !leftB pc p))
theorem a_IndexP {f : Nat} {caps : Array Value} {p : PtT → Bool} (w : World) (v : Value) (l : List PtT) (hn : l.length ≤ 1000000) (hV : RowV v l.length) (hrow : RowAt w v 2 l.length (l.flatMap eP)) (hent : ∀ args w, (callFunc f args).run Tryz.prog w = .ok (.enter f args) w) (hp : ∀ (w' : World) (x : PtT), x ∈ l → Chg (fun _ => False) w w' → Calls Tryz.prog f (#[.agg (eP x).toArray] ++ caps) w' fun e w2 => e = .returned (.bool (p x)) ∧ Below w'.heap.size w' w2) :
    Calls Tryz.prog 79 #[v, .func (.func f) #[] caps] w fun e w' => e = .returned (.int .i64 (idxG p l)) ∧ Below w.heap.size w w' := by
  have hr : ∀ w', Chg (fun _ => False) w w' → RowAt w' v 2 l.length (l.flatMap eP) := fun w' h => hrow.chg h (fun h => h)
  refine calls_of (args := [v, .func (.func f) #[] caps]) Tryz.func79 rfl Tryz.ntmps79 Tryz.results79 rfl ?_
  refine v_seq ?_
  refine v_region ?_
  refine l_val rfl (o_assign rfl) ?_
  refine l_nil ?_
  refine kt_norm ?_
  refine v_seq ?_
  refine v_seq ?_
  refine v_region ?_
  refine l_val rfl (o_move rfl) ?_
  refine l_val rfl (o_len rfl hV) ?_
  refine l_val rfl (o_move rfl) ?_
  refine l_nil ?_
  refine kt_norm ?_
  refine v_block ?_
  refine v_loopS (α := Nat) (fun i => [(8, .int .i64 (i : Int))]) (fun i => [])  (fun i => i ≤ l.length ∧ ∀ j, j < i → p (l.getD j dP) = false) (fun i => l.length - i) 0 [0, 1, 7] [] ⟨by omega, fun j h => by omega⟩  (And.intro rfl (True.intro)) rfl (True.intro) rfl ?_
  rintro i ⟨hi, hb⟩
  refine v_seq ?_
  refine v_region ?_
  refine l_split rfl (o_lss rfl rfl) (fun q1 => ?_) (fun q1 => ?_)
  · first
    | (exfalso; assumption; done)
    | (
        refine l_nil ?_
        refine kt_norm ?_
        refine v_seq ?_
        refine v_condT rfl ?_
        refine v_skip ?_
        refine kt_norm ?_
        refine v_seq ?_
        refine v_block ?_
        refine v_seq ?_
        refine v_region ?_
        refine l_val rfl (o_move rfl) ?_
        refine l_val rfl (o_assign rfl) ?_
        refine l_nil ?_
        refine kt_norm ?_
        refine v_seq ?_
        refine v_region ?_
        refine l_val rfl (o_move rfl) ?_
        refine l_val rfl (o_move rfl) ?_
        refine l_val rfl (o_move rfl) ?_
        refine l_val rfl (o_idx (i) rfl hV rfl (by first | rfl | omega) (by omega)) ?_
        refine l_val rfl (o_loadRE (c' := [_, _]) rfl (row_imm hr) (el_flat eP_len dP l (i) (by omega)) rfl) ?_
        refine l_call (ks := []) rfl (o_callF (caps := caps) (vs := [_]) (r := .bool (p (l.getD i dP))) rfl hent rfl (fun w' hg _ => hp w' (l.getD i dP) (pt_mem (by omega)) hg)) ?_
        refine lz_cases (fun q2 => ?_) (fun q2 => ?_)
        · first
          | (exfalso; assumption; done)
          | (
              refine l_nil ?_
              refine kt_norm ?_
              refine v_sel [8, 0, 1, 7, 5, 16] [] rfl rfl ?_
              refine v_condT rfl ?_
              refine v_seq ?_
              refine v_region ?_
              refine l_val rfl (o_move rfl) ?_
              refine l_val rfl (o_assign rfl) ?_
              refine l_nil ?_
              refine kt_norm ?_
              refine v_sel [4] [] rfl rfl ?_
              refine v_ret ?_
              refine kb_ret ?_
              refine kt_ret ?_
              refine kt_ret ?_
              refine kb_ret ?_
              refine kt_ret ?_
              refine ⟨[_], .cons (.tmp rfl) (ResAll.nil), ?_⟩
              first
                | exact congrArg (Value.int .i64) (idxG_yes (d := dP) (by omega) hb (by assumption)).symm
                | exact congrArg (Value.int .i64) (idxG_no (d := dP) (fun j hj => hb j (by omega))).symm)
        · first
          | (exfalso; assumption; done)
          | (
              refine l_nil ?_
              refine kt_norm ?_
              refine v_sel [8, 0, 1, 7, 5, 16] [] rfl rfl ?_
              refine v_condF rfl ?_
              refine v_skip ?_
              refine kb_norm ?_
              refine kt_norm ?_
              refine v_region ?_
              refine l_val rfl (o_addi rfl rfl ?_) ?_
              · omega
              refine l_val rfl (o_move rfl) ?_
              refine l_nil ?_
              refine kt_norm ?_
              refine ⟨i + 1, ⟨by omega, fun j hj => by rcases Nat.lt_or_eq_of_le (Nat.le_of_lt_succ hj) with h | h; exact hb j h; subst h; assumption⟩, by omega, le_app (And.intro rfl (True.intro)) [0, 1, 7] rfl (True.intro) [] rfl⟩))
  · first
    | (exfalso; assumption; done)
    | (
        refine l_nil ?_
        refine kt_norm ?_
        refine v_seq ?_
        refine v_condF rfl ?_
        refine v_exit ?_
        refine kt_exit ?_
        refine kt_exit ?_
        refine kb_eq ?_
        refine kt_norm ?_
        refine v_seq ?_
        refine v_region ?_
        refine l_val rfl (o_assign rfl) ?_
        refine l_nil ?_
        refine kt_norm ?_
        refine v_ret ?_
        refine ⟨[_], .cons (.tmp rfl) (ResAll.nil), ?_⟩
        first
          | exact congrArg (Value.int .i64) (idxG_yes (d := dP) (by omega) hb (by assumption)).symm
          | exact congrArg (Value.int .i64) (idxG_no (d := dP) (fun j hj => hb j (by omega))).symm)
theorem a_ContP {f : Nat} {caps : Array Value} {p : PtT → Bool} (w : World) (v : Value) (l : List PtT) (hn : l.length ≤ 1000000) (hV : RowV v l.length) (hrow : RowAt w v 2 l.length (l.flatMap eP)) (hent : ∀ args w, (callFunc f args).run Tryz.prog w = .ok (.enter f args) w) (hp : ∀ (w' : World) (x : PtT), x ∈ l → Chg (fun _ => False) w w' → Calls Tryz.prog f (#[.agg (eP x).toArray] ++ caps) w' fun e w2 => e = .returned (.bool (p x)) ∧ Below w'.heap.size w' w2) :
    Calls Tryz.prog 62 #[v, .func (.func f) #[] caps] w fun e w' => e = .returned (.bool (l.any p)) ∧ Below w.heap.size w w' := by
  have hr : ∀ w', Chg (fun _ => False) w w' → RowAt w' v 2 l.length (l.flatMap eP) := fun w' h => hrow.chg h (fun h => h)
  refine calls_of (args := [v, .func (.func f) #[] caps]) Tryz.func62 rfl Tryz.ntmps62 Tryz.results62 rfl ?_
  refine v_seq ?_
  refine v_region ?_
  refine l_val rfl (o_assign rfl) ?_
  refine l_nil ?_
  refine kt_norm ?_
  refine v_seq ?_
  refine v_region ?_
  refine l_val rfl (o_move rfl) ?_
  refine l_val rfl (o_move rfl) ?_
  refine l_call (ks := []) rfl (o_callC (vs := [_, _]) (r := .int .i64 (idxG p l)) (ent_of Tryz.func79 rfl rfl) rfl (fun w' hg hh => a_IndexP w' v l hn hV (hr w' hg) hent (fun w2 x hx hc => hp w2 x hx (hg.trans (hc.mono fun k _ h => h.elim))))) ?_
  refine l_val rfl (o_geq rfl rfl) ?_
  refine l_val rfl (o_assign rfl) ?_
  refine l_nil ?_
  refine kt_norm ?_
  refine v_sel [4] [] rfl rfl ?_
  refine v_ret ?_
  refine ⟨[_], .cons (.tmp rfl) (ResAll.nil), ?_⟩
  exact congrArg Value.bool (idxG_any p l)
theorem a_Convex1 (w : World) (b : Nat) (v : Value) (pc : List PtT) (x : PtT) (hs : pc.length ≤ 1000000) (hV : RowV v pc.length) (hrow : RowAt w v 2 pc.length (pc.flatMap eP)) (hnear : ∀ p ∈ pc, NearT p) (hx : NearT x) (hG : Blk w b #[v] 45) :
    Calls Tryz.prog 63 #[.agg #[.int .i64 x.x, .int .i64 x.y], .pointer (some ⟨b, 0, none⟩)] w fun e w' => e = .returned (.bool (!leftB pc x)) ∧ Below w.heap.size w w' := by
  have hr : ∀ w', Chg (fun _ => False) w w' → RowAt w' v 2 pc.length (pc.flatMap eP) := fun w' h => hrow.chg h (fun h => h)
  have hGk : ∀ w', Chg (fun _ => False) w w' → Blk w' b #[v] 45 := fun w' h => (h.block b (Blk.lt hG) (fun h => h)).trans hG
  refine calls_of (args := [.agg #[.int .i64 x.x, .int .i64 x.y], .pointer (some ⟨b, 0, none⟩)]) Tryz.func63 rfl Tryz.ntmps63 Tryz.results63 rfl ?_
  refine v_seq ?_
  refine v_region ?_
  refine l_new rfl (o_box (cs := [_, _]) rfl rfl) fun b2 => ?_
  refine l_val rfl (o_assign rfl) ?_
  refine l_nil ?_
  refine kt_norm ?_
  refine v_seq ?_
  refine v_region ?_
  refine l_val rfl (o_loadG1 rfl (fun w hg => (hGk w hg).cell 0 _ rfl)) ?_
  refine l_val rfl (o_loadW (key := 2) rfl rfl rfl) ?_
  refine l_call (ks := []) rfl (o_callC (vs := [_, _]) (r := .bool (leftB pc x)) (ent_of Tryz.func64 rfl rfl) rfl (fun w' hg hh => a_left w' v pc x hs hV (hr w' hg) hnear hx)) ?_
  refine l_val rfl (o_not rfl rfl) ?_
  refine l_val rfl (o_assign rfl) ?_
  refine l_nil ?_
  refine kt_norm ?_
  refine v_sel [3] [] rfl rfl ?_
  refine v_ret ?_
  refine ⟨[_], .cons (.tmp rfl) (ResAll.nil), ?_⟩
  rfl
theorem a_Convex (w : World) (v : Value) (pc : List PtT) (hs : pc.length ≤ 1000000) (hV : RowV v pc.length) (hrow : RowAt w v 2 pc.length (pc.flatMap eP)) (hnear : ∀ p ∈ pc, NearT p) :
    Calls Tryz.prog 39 #[v] w fun e w' => e = .returned (.bool (convexB pc)) ∧ Below w.heap.size w w' := by
  have hr : ∀ w', Chg (fun _ => False) w w' → RowAt w' v 2 pc.length (pc.flatMap eP) := fun w' h => hrow.chg h (fun h => h)
  obtain ⟨a0, c0, rfl⟩ := hV.sl
  refine calls_of (args := [.slice a0 pc.length c0]) Tryz.func39 rfl Tryz.ntmps39 Tryz.results39 rfl ?_
  refine v_seq ?_
  refine v_region ?_
  refine l_new rfl (o_box (cs := [_]) rfl rfl) fun b1 => ?_
  refine l_val rfl (o_assign rfl) ?_
  refine l_nil ?_
  refine kt_norm ?_
  refine v_seq ?_
  refine v_region ?_
  skip
  refine l_val rfl (o_load1 (key := 1) rfl rfl rfl) ?_
  refine l_val rfl (o_len rfl hV) ?_
  refine l_split rfl (o_geq rfl rfl) (fun h3 => ?_) (fun h3 => ?_)
  · skip
    refine l_val rfl (o_move rfl) ?_
    refine l_val rfl (o_load1 (key := 1) rfl rfl rfl) ?_
    refine l_call (ks := []) rfl (o_callC (vs := [_]) (r := .int .i64 (areaT pc)) (ent_of Tryz.func37 rfl rfl) rfl (fun w' hg hh => a_Area w' (.slice a0 pc.length c0) pc hs hV (hr w' hg) hnear)) ?_
    refine l_split rfl (o_gtr rfl rfl) (fun ha => ?_) (fun ha => ?_)
    · skip
      refine l_val rfl (o_pickT rfl rfl) ?_
      refine l_val rfl (o_move rfl) ?_
      refine l_val rfl (o_load1 (key := 1) rfl rfl rfl) ?_
      refine l_val rfl (o_makeFunc (vs := [_]) rfl) ?_
      refine l_call (ks := [1]) rfl (o_callC (vs := [_, _]) (r := .bool (pc.any fun p => !leftB pc p)) (ent_of Tryz.func62 rfl rfl) rfl (fun w' hg hh => a_ContP w' (.slice a0 pc.length c0) pc hs hV (hr w' hg) (ent_of Tryz.func63 rfl rfl) (fun w2 x hx hc => a_Convex1 w2 b1 (.slice a0 pc.length c0) pc x hs hV ((hr w' hg).chg hc (fun h => h)) hnear (hnear x hx) ((hc.block b1 (Blk.lt (hh 1 (by simp) _ rfl)) (fun h => h)).trans (hh 1 (by simp) _ rfl))))) ?_
      refine l_val rfl (o_not rfl rfl) ?_
      refine l_val rfl (o_pickT rfl rfl) ?_
      refine l_val rfl (o_assign rfl) ?_
      refine l_nil ?_
      refine kt_norm ?_
      refine v_sel [2] [1] rfl rfl ?_
      refine v_ret ?_
      refine ⟨[_], .cons (.tmp rfl) (ResAll.nil), ?_⟩
      refine congrArg Value.bool ?_
      unfold convexB
      first
        | (rw [decide_eq_false (show ¬ 3 ≤ pc.length by omega)]; rfl)
        | (rw [decide_eq_true (show 3 ≤ pc.length by omega), decide_eq_false (show ¬ 0 < areaT pc by omega)]; rfl)
        | (rw [decide_eq_true (show 3 ≤ pc.length by omega), decide_eq_true (show 0 < areaT pc by omega)]; rfl)
    · skip
      refine l_val rfl (o_pickT rfl rfl) ?_
      refine l_val rfl (o_move rfl) ?_
      refine l_no rfl ?_
      refine l_no rfl ?_
      refine l_no rfl ?_
      refine l_no rfl ?_
      refine l_val rfl (o_pickF rfl rfl) ?_
      refine l_val rfl (o_assign rfl) ?_
      refine l_nil ?_
      refine kt_norm ?_
      refine v_sel [2] [1] rfl rfl ?_
      refine v_ret ?_
      refine ⟨[_], .cons (.tmp rfl) (ResAll.nil), ?_⟩
      refine congrArg Value.bool ?_
      unfold convexB
      first
        | (rw [decide_eq_false (show ¬ 3 ≤ pc.length by omega)]; rfl)
        | (rw [decide_eq_true (show 3 ≤ pc.length by omega), decide_eq_false (show ¬ 0 < areaT pc by omega)]; rfl)
        | (rw [decide_eq_true (show 3 ≤ pc.length by omega), decide_eq_true (show 0 < areaT pc by omega)]; rfl)
  · skip
    refine l_val rfl (o_move rfl) ?_
    refine l_no rfl ?_
    refine l_no rfl ?_
    refine l_no rfl ?_
    refine l_val rfl (o_pickF rfl rfl) ?_
    refine l_val rfl (o_move rfl) ?_
    refine l_no rfl ?_
    refine l_no rfl ?_
    refine l_no rfl ?_
    refine l_no rfl ?_
    refine l_val rfl (o_pickF rfl rfl) ?_
    refine l_val rfl (o_assign rfl) ?_
    refine l_nil ?_
    refine kt_norm ?_
    refine v_sel [2] [1] rfl rfl ?_
    refine v_ret ?_
    refine ⟨[_], .cons (.tmp rfl) (ResAll.nil), ?_⟩
    refine congrArg Value.bool ?_
    unfold convexB
    first
      | (rw [decide_eq_false (show ¬ 3 ≤ pc.length by omega)]; rfl)
      | (rw [decide_eq_true (show 3 ≤ pc.length by omega), decide_eq_false (show ¬ 0 < areaT pc by omega)]; rfl)
      | (rw [decide_eq_true (show 3 ≤ pc.length by omega), decide_eq_true (show 0 < areaT pc by omega)]; rfl)
end Go.Proofs.YtllhohbenniaaaaGreat

/- Points that are copied, and told backwards. Conditions: none. -/
namespace Go.Proofs.YtllhohbenniaaaaGreat
open Go.Proofs Go.RowKit Go.Shelf

def swapP (l : List PtT) (i j : Nat) : List PtT := (l.set i (l.getD j dP)).set j (l.getD i dP)
theorem flat_swapP {l : List PtT} {i j : Nat} (hi : i < l.length) (hj : j < l.length) : ((l.flatMap eP).take (i * 2) ++ eP (l.getD j dP) ++ (l.flatMap eP).drop (i * 2 + 2)).take (j * 2) ++ eP (l.getD i dP) ++ ((l.flatMap eP).take (i * 2) ++ eP (l.getD j dP) ++ (l.flatMap eP).drop (i * 2 + 2)).drop (j * 2 + 2) = (swapP l i j).flatMap eP := by
  rw [flat_set eP_len l i _ hi, flat_set eP_len _ j _ (by simpa using hj)]; rfl
theorem setP {l : List PtT} {i k : Nat} {x : PtT} (hi : i < l.length) : (l.set i x).getD k dP = if k = i then x else l.getD k dP := by
  rw [List.getD_eq_getElem?_getD, List.getElem?_set]
  by_cases e : i = k
  · subst e; rw [if_pos rfl, if_pos hi, if_pos rfl]; rfl
  · rw [if_neg e, if_neg (fun h => e h.symm), List.getD_eq_getElem?_getD]
/-- i points from each end have changed places -/
structure RevQ (pc : List PtT) (i : Nat) (cur : List PtT) : Prop where
  len : cur.length = pc.length
  at_ : ∀ k, k < pc.length → cur.getD k dP = if k < i ∨ pc.length - i ≤ k then pc.getD (pc.length - 1 - k) dP else pc.getD k dP
theorem RevQ.start (pc : List PtT) : RevQ pc 0 pc := ⟨rfl, fun k hk => by rw [if_neg (by omega)]⟩
theorem RevQ.step {pc cur : List PtT} {i : Nat} (h : RevQ pc i cur) (hi : 2 * i + 1 < pc.length) : RevQ pc (i + 1) (swapP cur i (pc.length - 1 - i)) := by
  have hl := h.len
  refine ⟨by simp [swapP, hl], fun k hk => ?_⟩
  unfold swapP
  rw [setP (by simp; omega), setP (by omega)]
  have h1 := h.at_ i (by omega)
  have h2 := h.at_ (pc.length - 1 - i) (by omega)
  rw [if_neg (by omega)] at h1 h2
  by_cases e1 : k = pc.length - 1 - i
  · rw [if_pos e1, if_pos (by omega), h1, e1, show pc.length - 1 - (pc.length - 1 - i) = i by omega]
  · rw [if_neg e1]
    by_cases e2 : k = i
    · rw [if_pos e2, if_pos (by omega), h2, e2]
    · rw [if_neg e2, h.at_ k hk]
      by_cases c : k < i ∨ pc.length - i ≤ k
      · rw [if_pos c, if_pos (by omega)]
      · rw [if_neg c, if_neg (by omega)]
theorem RevQ.done {pc cur : List PtT} {i : Nat} (h : RevQ pc i cur) (h1 : 2 * i ≤ pc.length) (h2 : pc.length ≤ 2 * i + 1) : cur = pc.reverse := by
  have hl := h.len
  apply List.ext_getElem
  · simp [hl]
  · intro k hk1 hk2
    have hk : k < pc.length := by omega
    have h3 := h.at_ k hk
    have e : cur.getD k dP = pc.getD (pc.length - 1 - k) dP := by
      by_cases c : k < i ∨ pc.length - i ≤ k
      · rw [h3, if_pos c]
      · rw [h3, if_neg c, show pc.length - 1 - k = k by omega]
    rw [List.getElem_reverse]
    rw [List.getD_eq_getElem?_getD, List.getElem?_eq_getElem hk1, List.getD_eq_getElem?_getD, List.getElem?_eq_getElem (show pc.length - 1 - k < pc.length by omega)] at e
    exact e
theorem a_CloneP (w : World) (v : Value) (es : List PtT) (hn : es.length ≤ 1099511627776) (hV : RowV v es.length) (hrow : RowAt w v 2 es.length (es.flatMap eP)) :
    Calls Tryz.prog 36 #[v] w fun e w' => ∃ y, e = .returned y ∧ Below w.heap.size w w' ∧ OwnAt w.heap.size w' y 56 2 es.length (es.flatMap eP) := by
  have hr : ∀ w', Chg (fun _ => False) w w' → RowAt w' v 2 es.length (es.flatMap eP) := fun w' h => hrow.chg h (fun h => h)
  have hV0 := hV
  have hV1 : (∃ a c, v = .slice (some a) es.length c) ∨ (v = .slice none 0 0 ∧ es.length = 0) := by
    rcases hV0 with ⟨b, o, c, h⟩ | h | ⟨a, c, h, e⟩
    · exact .inl ⟨_, c, h⟩
    · exact .inr h
    · exact .inl ⟨a, c, by rw [e]; exact h⟩
  rcases hV1 with ⟨aa, cc, rfl⟩ | ⟨rfl, h0⟩
  · refine calls_own (args := [.slice (some aa) es.length cc]) Tryz.func36 rfl Tryz.ntmps36 Tryz.results36 rfl ?_
    refine v_seq ?_
    refine v_region ?_
    refine l_val rfl (o_assign rfl) ?_
    refine l_nil ?_
    refine kt_norm ?_
    refine v_seq ?_
    refine v_seq ?_
    refine v_region ?_
    refine l_val rfl (o_move rfl) ?_
    refine l_val rfl (o_eqnil rfl) ?_
    refine l_nil ?_
    refine kt_norm ?_
    refine v_condF rfl ?_
    refine v_skip ?_
    refine kt_norm ?_
    refine v_seq ?_
    refine v_region ?_
    refine l_buildSlice (vs := []) (cs := []) rfl rfl rfl rfl rfl rfl fun v1 hv1 => ?_
    refine l_val rfl (o_move rfl) ?_
    refine l_append 5 [] rfl rfl rfl rfl rfl rfl rfl hV (row_imm hr) (by omega) fun v2 hv2 => ?_
    refine l_val rfl (o_assign rfl) ?_
    refine l_nil ?_
    refine kt_norm ?_
    refine v_sel [2] [7] rfl rfl ?_
    refine v_ret ?_
    refine ⟨[_], .cons (.tmp rfl) (ResAll.nil), ?_⟩
    exact ⟨7, congrArg some (own_congr (Nat.zero_add _) (List.nil_append _))⟩
  · have : es = [] := List.length_eq_zero_iff.1 h0
    subst this
    refine calls_own (args := [.slice none 0 0]) Tryz.func36 rfl Tryz.ntmps36 Tryz.results36 rfl ?_
    refine v_ghost 77 56 2 ?_
    refine v_seq ?_
    refine v_region ?_
    refine l_val rfl (o_assign rfl) ?_
    refine l_nil ?_
    refine kt_norm ?_
    refine v_seq ?_
    refine v_seq ?_
    refine v_region ?_
    refine l_val rfl (o_move rfl) ?_
    refine l_val rfl (o_eqnil rfl) ?_
    refine l_nil ?_
    refine kt_norm ?_
    refine v_condT rfl ?_
    refine v_seq ?_
    refine v_region ?_
    refine l_val rfl (o_assign rfl) ?_
    refine l_nil ?_
    refine kt_norm ?_
    refine v_ret ?_
    refine kt_ret ?_
    refine ⟨[_], .cons (.tmp rfl) (ResAll.nil), ?_⟩
    exact ⟨77, rfl⟩
theorem a_ReverseP (w : World) (v : Value) (pc : List PtT) (hs : pc.length ≤ 1000000) (hok : (Hp.own v 56 2 pc.length (pc.flatMap eP)).ok w) :
    Calls Tryz.prog 38 #[v] w fun e w' => (∃ y, e = .returned y) ∧ ∃ l' : List PtT, l' = pc.reverse ∧ Chg (fun b => v.ownBlock = some b) w w' ∧ (Hp.own v 56 2 pc.length (l'.flatMap eP)).ok w' := by
  have hV := rowV_own hok
  refine calls_mutX (args := [v]) v (fun l' => l' = pc.reverse) (fun l' => l'.flatMap eP) Tryz.func38 rfl Tryz.ntmps38 Tryz.results38 rfl hok ?_
  refine v_seq ?_
  refine v_region ?_
  refine l_val rfl (o_move rfl) ?_
  refine l_val rfl (o_len rfl hV) ?_
  refine l_val rfl (o_subi rfl rfl ?_) ?_
  · omega
  refine l_val rfl (o_assign rfl) ?_
  refine l_val rfl (o_assign rfl) ?_
  refine l_nil ?_
  refine kt_norm ?_
  refine v_block ?_
  refine v_loopS (α := Nat × List PtT) (fun ⟨i, cur⟩ => [(2, .int .i64 (i : Int)), (3, .int .i64 ((pc.length : Int) - 1 - i))]) (fun ⟨i, cur⟩ => [(1000, Hp.own v 56 2 pc.length (cur.flatMap eP))])  (fun ⟨i, cur⟩ => 2 * i ≤ pc.length ∧ RevQ pc i cur) (fun ⟨i, cur⟩ => pc.length - i) (0, pc) [0] [] ⟨Nat.zero_le _, RevQ.start pc⟩  (And.intro rfl (And.intro (congrArg (fun q => some (Value.int .i64 q)) (by omega)) (True.intro))) rfl (And.intro rfl (True.intro)) rfl ?_
  rintro ⟨i, cur⟩ ⟨hi, hQ⟩
  have hcl := hQ.len
  refine v_seq ?_
  refine v_seq ?_
  refine v_region ?_
  refine l_val rfl (o_move rfl) ?_
  refine l_val rfl (o_move rfl) ?_
  refine l_split rfl (o_lss rfl rfl) (fun q1 => ?_) (fun q1 => ?_)
  · skip
    refine l_nil ?_
    refine kt_norm ?_
    refine v_condT rfl ?_
    refine v_skip ?_
    refine kt_norm ?_
    refine v_seq ?_
    refine v_block ?_
    refine v_drawZ [[], [], [], [], [], [], [], [1000], [], [], [], [1000], [], [1000], [], [1000]] mixed ?_ (by kernel_rfl) (by kernel_rfl)
    refine d_val (fun _ => rfl) rfl rfl (fun _ => o_move rfl) ?_
    refine d_val (fun _ => rfl) rfl rfl (fun _ => o_move rfl) ?_
    refine d_val (fun _ => rfl) rfl rfl (fun _ => o_move rfl) ?_
    refine d_val (fun _ => rfl) rfl rfl (fun _ => o_move rfl) ?_
    refine d_val (fun _ => rfl) rfl rfl (fun _ => o_move rfl) ?_
    refine d_val (fun _ => rfl) rfl rfl (fun _ => o_move rfl) ?_
    refine d_val (fun _ => rfl) rfl rfl (fun _ => o_idx ((pc.length - 1 - i)) rfl hV rfl (by omega) (by omega)) ?_
    refine d_val (fun _ => rfl) rfl rfl (fun _ => o_loadRE (c' := [_, _]) rfl (row_own (key := 1000) rfl) (el_flat eP_len dP cur ((pc.length - 1 - i)) (by have := hQ.len; omega)) rfl) ?_
    refine d_val (fun _ => rfl) rfl rfl (fun _ => o_move rfl) ?_
    refine d_val (fun _ => rfl) rfl rfl (fun _ => o_move rfl) ?_
    refine d_val (fun _ => rfl) rfl rfl (fun _ => o_idx (i) rfl hV rfl (by first | rfl | omega) (by omega)) ?_
    refine d_val (fun _ => rfl) rfl rfl (fun _ => o_loadRE (c' := [_, _]) rfl (row_own (key := 1000) rfl) (el_flat eP_len dP cur (i) (by have := hQ.len; omega)) rfl) ?_
    refine d_val (fun _ => rfl) rfl rfl (fun _ => o_idx (i) rfl hV rfl (by first | rfl | omega) (by omega)) ?_
    refine d_store (fun _ => rfl) rfl rfl (fun _ => o_storeRE (key := 1000) (c := [_, _]) (by decide) rfl rfl rfl rfl rfl rfl (by omega)) ?_
    refine d_val (fun _ => rfl) rfl rfl (fun _ => o_idx ((pc.length - 1 - i)) rfl hV rfl (by omega) (by omega)) ?_
    refine d_store (fun _ => rfl) rfl rfl (fun _ => o_storeRE (key := 1000) (c := [_, _]) (by decide) rfl rfl rfl rfl rfl rfl (by omega)) ?_
    refine d_nil (fun σ => ?_)
    refine l_nil ?_
    refine kb_norm ?_
    refine kt_norm ?_
    refine v_sel [2, 3, 0] [1000] rfl rfl ?_
    refine v_region ?_
    refine l_val rfl (o_move rfl) ?_
    refine l_val rfl (o_addi rfl rfl ?_) ?_
    · omega
    refine l_val rfl (o_move rfl) ?_
    refine l_val rfl (o_subi rfl rfl ?_) ?_
    · omega
    refine l_val rfl (o_assign rfl) ?_
    refine l_val rfl (o_assign rfl) ?_
    refine l_nil ?_
    refine kt_norm ?_
    refine ⟨(i + 1, swapP cur i (pc.length - 1 - i)), ⟨by omega, hQ.step (by omega)⟩, (by show pc.length - (i + 1) < pc.length - i; omega), le_app (And.intro rfl (And.intro (congrArg (fun q => some (Value.int .i64 q)) (by omega)) (True.intro))) [0] rfl (And.intro (congrArg some (own_congr rfl (flat_swapP (by omega) (by omega)))) (True.intro)) [] rfl⟩
  · skip
    refine l_nil ?_
    refine kt_norm ?_
    refine v_condF rfl ?_
    refine v_exit ?_
    refine kt_exit ?_
    refine kt_exit ?_
    refine kb_eq ?_
    refine ⟨[], ResAll.nil, ?_⟩
    exact ⟨cur, hQ.done hi (by omega), rfl⟩
end Go.Proofs.YtllhohbenniaaaaGreat

/- A slice whose capacity is cut to its length. Conditions: none. -/
namespace Go.Proofs.YtllhohbenniaaaaGreat
open Go.Proofs Go.RowKit Go.Shelf

theorem addr_add0 (a : Addr) : a.add 0 = a := by cases a; simp [Addr.add]
theorem o_slice3 {C : Cx} {s : St} {d : Option Nat} {x z z' : Operand} {T E ty : TypeId} {pos : String} {aft : Array Edge} {gd : Option (Nat × Bool)} {a : Option Addr} {n c esz : Nat} {k k' : IntKind} [ht : TSl C.P T E esz] (h : ev C s x = some (.slice a n c)) (hcap : n ≤ c) (h2 : ev C s z = some (.int k (n : Int))) (h3 : ev C s z' = some (.int k' (n : Int))) :
    OpV C s ⟨d, .slice T x none (some z) (some z'), ty, pos, aft, gd⟩ [] (.slice a n n) := opv _ _ (by simp) fun ρ w hr => by
  have hx := rd1 hr (x := x) (by simp [Op.operands]) h
  have hz := rd1 hr (x := z) (by simp [Op.operands]) h2
  have hz' := rd1 hr (x := z') (by simp [Op.operands]) h3
  have e1 : (if n = 0 then a else a.map (·.add 0)) = a := by
    split
    · rfl
    · cases a with
      | none => rfl
      | some b => simp [addr_add0]
  simp [execOp, hx, hz, hz', Instr.sliceAt, Instr.slice, Instr.sliceBounds, Instr.sliceBound, asIntOf, Sem.run_bind, run_underlying ht.h, hcap, ht.sz, Result.andThen, e1]
theorem a_ClipP (w : World) (a : Option Addr) (n c : Nat) (hn : n ≤ 1000000) (hcap : n ≤ c) (hV : RowV (.slice a n c) n) :
    Calls Tryz.prog 40 #[.slice a n c] w fun e w' => e = .returned (.slice a n n) ∧ Below w.heap.size w w' := by
  refine calls_of (args := [.slice a n c]) Tryz.func40 rfl Tryz.ntmps40 Tryz.results40 rfl ?_
  refine v_seq ?_
  refine v_region ?_
  refine l_val rfl (o_assign rfl) ?_
  refine l_nil ?_
  refine kt_norm ?_
  refine v_seq ?_
  refine v_region ?_
  refine l_val rfl (o_move rfl) ?_
  refine l_val rfl (o_move rfl) ?_
  refine l_val rfl (o_len rfl hV) ?_
  refine l_val rfl (o_move rfl) ?_
  refine l_val rfl (o_len rfl hV) ?_
  refine l_val rfl (o_slice3 rfl hcap rfl rfl) ?_
  refine l_val rfl (o_assign rfl) ?_
  refine l_nil ?_
  refine kt_norm ?_
  refine v_sel [2] [] rfl rfl ?_
  refine v_ret ?_
  refine ⟨[_], .cons (.tmp rfl) (ResAll.nil), ?_⟩
  rfl
end Go.Proofs.YtllhohbenniaaaaGreat

/- A piece is put to others, if it is convex. Conditions: none. -/
namespace Go.Proofs.YtllhohbenniaaaaGreat
open Go.Proofs Go.RowKit Go.Shelf

def oriT (pc : List PtT) : List PtT := if areaT pc < 0 then pc.reverse else pc
theorem rowAt_cap {w : World} {a : Option Addr} {n c c' esz : Nat} {xs : List Value} (h : RowAt w (.slice a n c) esz n xs) : RowAt w (.slice a n c') esz n xs := by
  refine ⟨h.len, fun j u hu => ?_, h.one⟩
  have := h.at_ j u hu
  cases a <;> exact this
theorem rowV_cap {a : Option Addr} {n c : Nat} (h : RowV (.slice a n c) n) : RowV (.slice a n n) n := by
  rcases h with ⟨b, o, c', h⟩ | ⟨h, h0⟩ | ⟨a', c', h, h0⟩
  · cases h; exact .inl ⟨b, o, n, rfl⟩
  · cases h; exact .inr (.inl ⟨rfl, rfl⟩)
  · cases h; exact .inr (.inr ⟨a', 0, rfl, rfl⟩)
theorem full_cap {a : Option Addr} {n : Nat} : ∀ a' n' c', Value.slice a n n = .slice a' n' c' → c' = n' := fun _ _ _ h => by cases h; rfl
theorem a_PutNo (w : World) (a : Option Addr) (n c : Nat) (pvs : List Value) (u : Value) (pc : List PtT) (hn : n ≤ 1000000) (hcap : n ≤ c) (hV : RowV (.slice a n c) n) (hrow : RowAt w (.slice a n c) 1 n pvs) (hs : pc.length ≤ 1000000) (hU : RowV u pc.length) (hrowU : RowAt w u 2 pc.length (pc.flatMap eP)) (hnear : ∀ p ∈ pc, NearT p) (hcx : convexB (oriT pc) = false) :
    Calls Tryz.prog 15 #[.slice a n c, u] w fun e w' => e = .returned (.slice a n c) ∧ Below w.heap.size w w' := by
  have hr : ∀ w', Chg (fun _ => False) w w' → RowAt w' (.slice a n c) 1 n pvs := fun w' h => hrow.chg h (fun h => h)
  have hrU : ∀ w', Chg (fun _ => False) w w' → RowAt w' u 2 pc.length (pc.flatMap eP) := fun w' h => hrowU.chg h (fun h => h)
  refine calls_of (args := [.slice a n c, u]) Tryz.func15 rfl Tryz.ntmps15 Tryz.results15 rfl ?_
  refine v_seq ?_
  refine v_region ?_
  refine l_val rfl (o_assign rfl) ?_
  refine l_nil ?_
  refine kt_norm ?_
  refine v_seq ?_
  refine v_region ?_
  refine l_val rfl (o_move rfl) ?_
  refine l_gown (ks := []) (caps := #[]) (vs := [_]) rfl rfl (ent_of Tryz.func36 rfl rfl) rfl (fun w' hg hh => a_CloneP w' u pc (by omega) hU (hrU w' hg)) fun cv hcv => ?_
  obtain ⟨ac, cc, rfl⟩ := hcv.sl
  refine l_val rfl (o_assign rfl) ?_
  refine l_nil ?_
  refine kt_norm ?_
  refine v_seq ?_
  refine v_seq ?_
  refine v_region ?_
  refine l_val rfl (o_move rfl) ?_
  refine l_call (ks := [7]) rfl (o_callC (vs := [_]) (r := .int .i64 (areaT pc)) (ent_of Tryz.func37 rfl rfl) rfl (fun w' hg hh => a_Area w' (.slice ac pc.length cc) pc hs hcv (rowAt_own (hh 7 (by simp) _ rfl)) hnear)) ?_
  refine l_split rfl (o_lss rfl rfl) (fun ha => ?_) (fun ha => ?_)
  · skip
    refine l_nil ?_
    refine kt_norm ?_
    refine v_sel [0, 5, 10] [7] rfl rfl ?_
    refine v_condT rfl ?_
    refine v_region ?_
    refine l_val rfl (o_move rfl) ?_
    refine l_gmutX (ks := []) 7 (fun l2 => l2 = pc.reverse) (fun l2 => l2.flatMap eP) (n := pc.length) (caps := #[]) (vs := [_]) rfl rfl (ent_of Tryz.func38 rfl rfl) rfl rfl (fun w' hg hh hok => a_ReverseP w' (.slice ac pc.length cc) pc hs hok) (fun l2 y12 hl2 => ?_)
    subst hl2
    refine l_nil ?_
    refine kt_norm ?_
    refine v_seq ?_
    refine v_seq ?_
    refine v_region ?_
    refine l_val rfl (o_move rfl) ?_
    have hL : oriT pc = pc.reverse := if_pos ha
    rw [hL] at hcx
    refine l_call (ks := [7]) rfl (o_callC (vs := [_]) (r := .bool false) (ent_of Tryz.func39 rfl rfl) rfl (fun w' hg hh => hcx ▸ a_Convex w' (.slice ac pc.length cc) pc.reverse (by rw [List.length_reverse]; exact hs) (by rw [List.length_reverse]; exact hcv) (by rw [List.length_reverse]; exact rowAt_own (hh 7 (by simp) _ rfl)) (fun p hp => hnear p (List.mem_reverse.1 hp)))) ?_
    refine l_val rfl (o_not rfl rfl) ?_
    refine l_nil ?_
    refine kt_norm ?_
    refine v_condT rfl ?_
    refine v_seq ?_
    refine v_region ?_
    refine l_val rfl (o_move rfl) ?_
    refine l_val rfl (o_assign rfl) ?_
    refine l_nil ?_
    refine kt_norm ?_
    refine v_sel [4] [7] rfl rfl ?_
    refine v_ret ?_
    refine kt_ret ?_
    refine ⟨[_], .cons (.tmp rfl) (ResAll.nil), ?_⟩
    rfl
  · skip
    refine l_nil ?_
    refine kt_norm ?_
    refine v_sel [0, 5, 10] [7] rfl rfl ?_
    refine v_condF rfl ?_
    refine v_skip ?_
    refine kt_norm ?_
    refine v_seq ?_
    refine v_seq ?_
    refine v_region ?_
    refine l_val rfl (o_move rfl) ?_
    have hL : oriT pc = pc := if_neg ha
    rw [hL] at hcx
    refine l_call (ks := [7]) rfl (o_callC (vs := [_]) (r := .bool false) (ent_of Tryz.func39 rfl rfl) rfl (fun w' hg hh => hcx ▸ a_Convex w' (.slice ac pc.length cc) pc hs hcv (rowAt_own (hh 7 (by simp) _ rfl)) hnear)) ?_
    refine l_val rfl (o_not rfl rfl) ?_
    refine l_nil ?_
    refine kt_norm ?_
    refine v_condT rfl ?_
    refine v_seq ?_
    refine v_region ?_
    refine l_val rfl (o_move rfl) ?_
    refine l_val rfl (o_assign rfl) ?_
    refine l_nil ?_
    refine kt_norm ?_
    refine v_sel [4] [7] rfl rfl ?_
    refine v_ret ?_
    refine kt_ret ?_
    refine ⟨[_], .cons (.tmp rfl) (ResAll.nil), ?_⟩
    rfl
theorem a_PutYes (w : World) (a : Option Addr) (n c : Nat) (pvs : List Value) (u : Value) (pc : List PtT) (hn : n ≤ 1000000) (hcap : n ≤ c) (hV : RowV (.slice a n c) n) (hrow : RowAt w (.slice a n c) 1 n pvs) (hs : pc.length ≤ 1000000) (hU : RowV u pc.length) (hrowU : RowAt w u 2 pc.length (pc.flatMap eP)) (hnear : ∀ p ∈ pc, NearT p) (hcx : convexB (oriT pc) = true) :
    Calls Tryz.prog 15 #[.slice a n c, u] w fun e w' => ∃ x : Value × Value, e = .returned x.1 ∧ Below w.heap.size w w' ∧ ((Hp.own x.1 45 1 (n + 1) (pvs ++ [x.2])).ok w' ∧ (Hp.own x.2 56 2 pc.length ((oriT pc).flatMap eP)).ok w') ∧ ∀ b, (x.1.ownBlock = some b ∨ x.2.ownBlock = some b) → w.heap.size ≤ b := by
  have hr : ∀ w', Chg (fun _ => False) w w' → RowAt w' (.slice a n c) 1 n pvs := fun w' h => hrow.chg h (fun h => h)
  have hrU : ∀ w', Chg (fun _ => False) w w' → RowAt w' u 2 pc.length (pc.flatMap eP) := fun w' h => hrowU.chg h (fun h => h)
  refine calls_said (args := [.slice a n c, u]) (fun x : Value × Value => x.1) (fun x w' => (Hp.own x.1 45 1 (n + 1) (pvs ++ [x.2])).ok w' ∧ (Hp.own x.2 56 2 pc.length ((oriT pc).flatMap eP)).ok w') (fun x b => x.1.ownBlock = some b ∨ x.2.ownBlock = some b) Tryz.func15 rfl Tryz.ntmps15 Tryz.results15 rfl ?_
  refine v_seq ?_
  refine v_region ?_
  refine l_val rfl (o_assign rfl) ?_
  refine l_nil ?_
  refine kt_norm ?_
  refine v_seq ?_
  refine v_region ?_
  refine l_val rfl (o_move rfl) ?_
  refine l_gown (ks := []) (caps := #[]) (vs := [_]) rfl rfl (ent_of Tryz.func36 rfl rfl) rfl (fun w' hg hh => a_CloneP w' u pc (by omega) hU (hrU w' hg)) fun cv hcv => ?_
  obtain ⟨ac, cc, rfl⟩ := hcv.sl
  refine l_val rfl (o_assign rfl) ?_
  refine l_nil ?_
  refine kt_norm ?_
  refine v_seq ?_
  refine v_seq ?_
  refine v_region ?_
  refine l_val rfl (o_move rfl) ?_
  refine l_call (ks := [7]) rfl (o_callC (vs := [_]) (r := .int .i64 (areaT pc)) (ent_of Tryz.func37 rfl rfl) rfl (fun w' hg hh => a_Area w' (.slice ac pc.length cc) pc hs hcv (rowAt_own (hh 7 (by simp) _ rfl)) hnear)) ?_
  refine l_split rfl (o_lss rfl rfl) (fun ha => ?_) (fun ha => ?_)
  · skip
    refine l_nil ?_
    refine kt_norm ?_
    refine v_sel [0, 5, 10] [7] rfl rfl ?_
    refine v_condT rfl ?_
    refine v_region ?_
    refine l_val rfl (o_move rfl) ?_
    refine l_gmutX (ks := []) 7 (fun l2 => l2 = pc.reverse) (fun l2 => l2.flatMap eP) (n := pc.length) (caps := #[]) (vs := [_]) rfl rfl (ent_of Tryz.func38 rfl rfl) rfl rfl (fun w' hg hh hok => a_ReverseP w' (.slice ac pc.length cc) pc hs hok) (fun l2 y12 hl2 => ?_)
    subst hl2
    refine l_nil ?_
    refine kt_norm ?_
    refine v_seq ?_
    refine v_seq ?_
    refine v_region ?_
    refine l_val rfl (o_move rfl) ?_
    have hL : oriT pc = pc.reverse := if_pos ha
    rw [hL] at hcx
    refine l_call (ks := [7]) rfl (o_callC (vs := [_]) (r := .bool true) (ent_of Tryz.func39 rfl rfl) rfl (fun w' hg hh => hcx ▸ a_Convex w' (.slice ac pc.length cc) pc.reverse (by rw [List.length_reverse]; exact hs) (by rw [List.length_reverse]; exact hcv) (by rw [List.length_reverse]; exact rowAt_own (hh 7 (by simp) _ rfl)) (fun p hp => hnear p (List.mem_reverse.1 hp)))) ?_
    refine l_val rfl (o_not rfl rfl) ?_
    refine l_nil ?_
    refine kt_norm ?_
    refine v_condF rfl ?_
    refine v_skip ?_
    refine kt_norm ?_
    refine v_sel [0, 5] [7] rfl rfl ?_
    refine v_seq ?_
    refine v_region ?_
    refine l_val rfl (o_move rfl) ?_
    refine l_call (ks := []) rfl (o_callC (vs := [_]) (r := .slice a n n) (ent_of Tryz.func40 rfl rfl) rfl (fun w' hg hh => a_ClipP w' a n c hn hcap hV)) ?_
    refine l_val rfl (o_move rfl) ?_
    refine l_buildSlice (vs := [_]) (cs := [_]) rfl rfl rfl rfl rfl rfl fun v20 hv20 => ?_
    refine l_appendF (n := n) (xs := pvs) (ks2 := []) rfl rfl rfl (row_imm (fun w hg => rowAt_cap (hr w hg))) (rowV_cap hV) full_cap hv20 (by omega) (row_own (key := 20) rfl) (by omega) rfl fun v21 hv21 => ?_
    refine l_val rfl (o_assign rfl) ?_
    refine l_nil ?_
    refine kt_norm ?_
    refine v_sel [4] [7, 20, 21] rfl rfl ?_
    refine v_ret ?_
    refine ⟨[_], .cons (.tmp rfl) (ResAll.nil), ?_⟩
    exact ⟨(v21, .slice ac pc.length cc), rfl, fun w2 ho => ⟨⟨(ho.mo 21 _ rfl).1, by rw [hL]; exact (ho.mo 7 _ rfl).1⟩, fun b hb => by rcases hb with hb | hb; exact ((ho.mo 21 _ rfl).2 b hb).elim id False.elim; exact ((ho.mo 7 _ rfl).2 b hb).elim id False.elim⟩⟩
  · skip
    refine l_nil ?_
    refine kt_norm ?_
    refine v_sel [0, 5, 10] [7] rfl rfl ?_
    refine v_condF rfl ?_
    refine v_skip ?_
    refine kt_norm ?_
    refine v_seq ?_
    refine v_seq ?_
    refine v_region ?_
    refine l_val rfl (o_move rfl) ?_
    have hL : oriT pc = pc := if_neg ha
    rw [hL] at hcx
    refine l_call (ks := [7]) rfl (o_callC (vs := [_]) (r := .bool true) (ent_of Tryz.func39 rfl rfl) rfl (fun w' hg hh => hcx ▸ a_Convex w' (.slice ac pc.length cc) pc hs hcv (rowAt_own (hh 7 (by simp) _ rfl)) hnear)) ?_
    refine l_val rfl (o_not rfl rfl) ?_
    refine l_nil ?_
    refine kt_norm ?_
    refine v_condF rfl ?_
    refine v_skip ?_
    refine kt_norm ?_
    refine v_seq ?_
    refine v_region ?_
    refine l_val rfl (o_move rfl) ?_
    refine l_call (ks := []) rfl (o_callC (vs := [_]) (r := .slice a n n) (ent_of Tryz.func40 rfl rfl) rfl (fun w' hg hh => a_ClipP w' a n c hn hcap hV)) ?_
    refine l_val rfl (o_move rfl) ?_
    refine l_buildSlice (vs := [_]) (cs := [_]) rfl rfl rfl rfl rfl rfl fun v20 hv20 => ?_
    refine l_appendF (n := n) (xs := pvs) (ks2 := []) rfl rfl rfl (row_imm (fun w hg => rowAt_cap (hr w hg))) (rowV_cap hV) full_cap hv20 (by omega) (row_own (key := 20) rfl) (by omega) rfl fun v21 hv21 => ?_
    refine l_val rfl (o_assign rfl) ?_
    refine l_nil ?_
    refine kt_norm ?_
    refine v_sel [4] [7, 20, 21] rfl rfl ?_
    refine v_ret ?_
    refine ⟨[_], .cons (.tmp rfl) (ResAll.nil), ?_⟩
    exact ⟨(v21, .slice ac pc.length cc), rfl, fun w2 ho => ⟨⟨(ho.mo 21 _ rfl).1, by rw [hL]; exact (ho.mo 7 _ rfl).1⟩, fun b hb => by rcases hb with hb | hb; exact ((ho.mo 21 _ rfl).2 b hb).elim id False.elim; exact ((ho.mo 7 _ rfl).2 b hb).elim id False.elim⟩⟩
end Go.Proofs.YtllhohbenniaaaaGreat

/- Rows of pieces that are told in another order, and twice. Conditions: none. -/
namespace Go.Proofs.YtllhohbenniaaaaGreat
open Go.Proofs Go.RowKit Go.Shelf

theorem keysOf_double (cs : List (Int × Int)) : keysOf (cs ++ cs) = keysOf cs :=
  keysOf_congr fun x => ⟨fun ⟨c, h1, h2⟩ => ⟨c, (List.mem_append.1 h1).elim id id, h2⟩, fun ⟨c, h1, h2⟩ => ⟨c, List.mem_append.2 (.inl h1), h2⟩⟩
theorem sumAt_double (cs : List (Int × Int)) (x : Int) : sumAt (cs ++ cs) x = 2 * sumAt cs x := by
  unfold sumAt; rw [sumF_append]; omega
theorem rowTo_double (cs : List (Int × Int)) : ∀ k, k ≤ (keysOf cs).length → rowTo (cs ++ cs) k = (2 * (rowTo cs k).1, (rowTo cs k).2.1, (rowTo cs k).2.2)
  | 0, _ => by simp [rowTo]
  | k + 1, h => by
    have ih := rowTo_double cs k (by omega)
    rw [rowTo_succ (by rw [keysOf_double]; omega), rowTo_succ (by omega), ih, keysOf_double]
    simp only [stepR, sumAt_double]
    by_cases h0 : (rowTo cs k).1 = 0
    · rw [if_pos h0, if_pos h0, if_pos (by omega), if_pos (by omega)]
      congr 1; omega
    · rw [if_neg h0, if_neg h0, if_neg (by omega), if_neg (by omega)]
      by_cases h1 : (rowTo cs k).1 + sumAt cs ((keysOf cs).getD k 0) = 0
      · rw [if_pos h1, if_pos (by omega)]; congr 1; omega
      · rw [if_neg h1, if_neg (by omega)]; congr 1; omega
theorem rowS_double {cs ds : List (Int × Int)} (hp : ds.Perm (cs ++ cs)) : rowS ds = rowS cs := by
  rw [rowS_perm hp]
  unfold rowS
  rw [keysOf_double, rowTo_double cs _ (Nat.le_refl _)]
theorem all_append (a b : List (List PtT)) : edgesAll (a ++ b) = edgesAll a ++ edgesAll b := by simp [edgesAll]
/-- the pieces from one on, then those ahead of it, then all again: the rows are the same -/
theorem row_order (r : Int) (qs : List (List PtT)) (k : Nat) : rowS (crs r (liveT r (edgesAll (qs.drop k ++ qs.take k ++ qs)))) = rowS (crs r (liveT r (edgesAll qs))) := by
  refine rowS_double ?_
  have c1 : ∀ a b : List EdgeT, crs r (a ++ b) = crs r a ++ crs r b := fun a b => by simp [crs]
  rw [all_append, live_append, c1]
  refine List.Perm.append_right _ ?_
  rw [all_append, live_append, c1]
  have h : crs r (liveT r (edgesAll qs)) = crs r (liveT r (edgesAll (qs.take k))) ++ crs r (liveT r (edgesAll (qs.drop k))) := by
    rw [← c1, ← live_append, ← all_append, List.take_append_drop]
  rw [h]
  exact List.perm_append_comm
/-- what pieces come to be, put one by one -/
def putT (qs : List (List PtT)) (pc : List PtT) : List (List PtT) := if convexB (oriT pc) = true then qs ++ [oriT pc] else qs
def putAll (ps : List (List PtT)) (k : Nat) : List (List PtT) := (ps.take k).foldl putT []
theorem putAll_succ {ps : List (List PtT)} {k : Nat} (h : k < ps.length) : putAll ps (k + 1) = putT (putAll ps k) (ps.getD k []) := by
  unfold putAll
  rw [List.take_add_one, List.getElem?_eq_getElem h, List.getD_eq_getElem?_getD, List.getElem?_eq_getElem h, List.foldl_append]; rfl
theorem putT_len (qs : List (List PtT)) (pc : List PtT) : (putT qs pc).length ≤ qs.length + 1 := by
  unfold putT; split
  · rw [List.length_append]; exact Nat.le_refl _
  · omega
theorem putAll_len (ps : List (List PtT)) : ∀ k, k ≤ ps.length → (putAll ps k).length ≤ k
  | 0, _ => by simp [putAll]
  | k + 1, h => by
    have h1 := putAll_len ps k (by omega)
    have h2 := putT_len (putAll ps k) (ps.getD k [])
    rw [putAll_succ (by omega)]; omega
end Go.Proofs.YtllhohbenniaaaaGreat
