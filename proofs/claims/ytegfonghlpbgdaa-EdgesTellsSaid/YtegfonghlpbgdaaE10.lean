import Derived.Test.YtegfonghlpbgdaaE9
/- Where an edge crosses its rows; pieces that are shifted by whole pixels have shifted edges. Conditions: none. -/
namespace Go.Proofs.Ytegfonghlpbgdaa
open Go.Proofs Go.RowKit Go.Shelf

/-! ### where an edge crosses its rows -/
structure EdgeOk (e : EdgeT) : Prop where
  fr : e.fr = rowOf e.y
  to : e.to = rowOf (e.y + e.dy)
  lt : e.fr < e.to
  x : -1073741824 ≤ e.x ∧ e.x ≤ 1073741824
  x2 : -1073741824 ≤ e.x + e.dx ∧ e.x + e.dx ≤ 1073741824
  y : -1073741824 ≤ e.y ∧ e.y ≤ 1073741824
  y2 : -1073741824 ≤ e.y + e.dy ∧ e.y + e.dy ≤ 1073741824
theorem edgeOk_edge {a b : PtT} (ha : NearT a) (hb : NearT b) (h : (edgeOf a b).fr < (edgeOf a b).to) : EdgeOk (edgeOf a b) := by
  unfold NearT at ha hb
  by_cases hy : b.y < a.y
  · rw [edgeOf_lt hy] at h ⊢
    exact ⟨rfl, congrArg rowOf (show a.y = b.y + (a.y - b.y) by omega), h, by dsimp only; omega, by dsimp only; omega, by dsimp only; omega, by dsimp only; omega⟩
  · rw [edgeOf_ge hy] at h ⊢
    exact ⟨rfl, congrArg rowOf (show b.y = a.y + (b.y - a.y) by omega), h, by dsimp only; omega, by dsimp only; omega, by dsimp only; omega, by dsimp only; omega⟩
theorem edgeOk_to {pc : List PtT} (hn : ∀ p ∈ pc, NearT p) (j : Nat) (hj : j ≤ pc.length) : ∀ e ∈ edgesTo pc j, EdgeOk e := fun e he => by
  obtain ⟨k, hk, h⟩ := List.mem_flatMap.1 he
  have hkj := List.mem_range.1 hk
  unfold edgesAt at h
  split at h
  · rename_i hlt
    rw [List.mem_singleton.1 h]
    exact edgeOk_edge (near_getD hn (by omega)) (near_getD hn (Nat.mod_lt _ (by omega))) hlt
  · cases h
theorem edgeOk_getD {pc : List PtT} (hn : ∀ p ∈ pc, NearT p) {i : Nat} (hi : i < (edgesOf pc).length) : EdgeOk ((edgesOf pc).getD i dE) := by
  rw [List.getD_eq_getElem?_getD, List.getElem?_eq_getElem hi]
  exact edgeOk_to hn _ (Nat.le_refl _) _ (List.getElem_mem hi)
theorem EdgeOk.dy {e : EdgeT} (h : EdgeOk e) : 0 < e.dy := by
  have h1 := rowOf_def e.y; have h2 := rowOf_def (e.y + e.dy); have := h.fr; have := h.to; have := h.lt; omega
theorem EdgeOk.mid {e : EdgeT} (h : EdgeOk e) {r : Int} (h1 : e.fr ≤ r) (h2 : r < e.to) : 0 ≤ 16 * r + 8 - e.y ∧ 16 * r + 8 - e.y < e.dy := by
  have h3 := rowOf_def e.y; have h4 := rowOf_def (e.y + e.dy); have := h.fr; have := h.to; omega
theorem EdgeOk.rows {e : EdgeT} (h : EdgeOk e) : -67108865 ≤ e.fr ∧ e.to ≤ 67108865 := by
  have h3 := rowOf_def e.y; have h4 := rowOf_def (e.y + e.dy); have := h.fr; have := h.to; have := h.y; have := h.y2; omega
theorem cross_bound {t dx dy : Int} (h0 : 0 ≤ t) (h1 : t < dy) : (0 ≤ dx → 0 ≤ t * dx ∧ t * dx ≤ dy * dx) ∧ (dx ≤ 0 → dy * dx ≤ t * dx ∧ t * dx ≤ 0) := by
  refine ⟨fun h => ⟨Int.mul_nonneg h0 h, Int.mul_le_mul_of_nonneg_right (by omega) h⟩, fun h => ?_⟩
  have a1 := Int.mul_nonneg h0 (show 0 ≤ -dx by omega)
  have a2 := Int.mul_le_mul_of_nonneg_right (show t ≤ dy by omega) (show 0 ≤ -dx by omega)
  rw [Int.mul_neg] at a1
  rw [Int.mul_neg, Int.mul_neg] at a2
  omega
theorem EdgeOk.cross {e : EdgeT} (h : EdgeOk e) {r : Int} (h1 : e.fr ≤ r) (h2 : r < e.to) : (0 ≤ e.dx → e.x ≤ atE e r ∧ atE e r ≤ e.x + e.dx) ∧ (e.dx ≤ 0 → e.x + e.dx ≤ atE e r ∧ atE e r ≤ e.x) := by
  have hm := h.mid h1 h2
  have hd := h.dy
  have hc := cross_bound (dx := e.dx) hm.1 hm.2
  unfold atE
  refine ⟨fun hx => ?_, fun hx => ?_⟩
  · have h3 := hc.1 hx
    have h4 := Int.ediv_nonneg h3.1 (show 0 ≤ e.dy by omega)
    have h5 := Int.ediv_le_of_le_mul hd (show (16 * r + 8 - e.y) * e.dx ≤ e.dx * e.dy by rw [Int.mul_comm e.dx]; exact h3.2)
    omega
  · have h3 := hc.2 hx
    have h4 := Int.ediv_nonpos_of_nonpos_of_neg h3.2 hd
    have h5 := (Int.le_ediv_iff_mul_le hd).2 (show e.dx * e.dy ≤ (16 * r + 8 - e.y) * e.dx by rw [Int.mul_comm e.dx]; exact h3.1)
    omega
theorem EdgeOk.prod {e : EdgeT} (h : EdgeOk e) {r : Int} (h1 : e.fr ≤ r) (h2 : r < e.to) : -4611686018427387904 ≤ (16 * r + 8 - e.y) * e.dx ∧ (16 * r + 8 - e.y) * e.dx ≤ 4611686018427387904 := by
  have hm := h.mid h1 h2
  have := h.x; have := h.x2; have := h.y; have := h.y2
  have := mul_bound (A := 2147483648) (B := 2147483648) (x := 16 * r + 8 - e.y) (y := e.dx) (by omega) (by omega) (by omega) (by omega)
  omega
theorem EdgeOk.at_ {e : EdgeT} (h : EdgeOk e) {r : Int} (h1 : e.fr ≤ r) (h2 : r < e.to) : -1073741824 ≤ atE e r ∧ atE e r ≤ 1073741824 := by
  have hc := h.cross h1 h2
  have := h.x; have := h.x2
  by_cases hx : 0 ≤ e.dx
  · have := hc.1 hx; omega
  · have := hc.2 (by omega); omega
/-- the answer of At, of an edge and one of its rows -/
theorem a_AtOk {e : EdgeT} (h : EdgeOk e) {r : Int} (h1 : e.fr ≤ r) (h2 : r < e.to) : Ans Try.prog 13 [.agg #[.int .i64 e.x, .int .i64 e.y, .int .i64 e.dx, .int .i64 e.dy, .int .i64 e.wi, .int .i64 e.fr, .int .i64 e.to], .int .i64 r] (.int .i64 (atE e r)) := by
  have := h.x; have := h.x2; have := h.y; have := h.y2; have := h.rows; have := h.dy
  exact a_At e r (by omega) (by omega) (by omega) (by omega) (by omega) (h.prod h1 h2)
/-- one of its rows -/
theorem row_in {e : EdgeT} {a : Int} (h : EdgeOk e) (ha : 0 ≤ a) : 0 ≤ a % (e.to - e.fr) ∧ a % (e.to - e.fr) < e.to - e.fr := ⟨Int.emod_nonneg _ (by have := h.lt; omega), Int.emod_lt_of_pos _ (by have := h.lt; omega)⟩

/-! ### what is shifted -/
def w64 (a : Int) : Int := (a + 9223372036854775808) % 18446744073709551616 - 9223372036854775808
def shW (bx by_ : Int) (p : PtT) : PtT := ⟨w64 (p.x + bx), w64 (p.y + by_)⟩
def shP (bx by_ : Int) (p : PtT) : PtT := ⟨p.x + bx, p.y + by_⟩
def shE (bx d : Int) (e : EdgeT) : EdgeT := ⟨e.x + bx, e.y + 256 * d, e.dx, e.dy, e.wi, e.fr + 16 * d, e.to + 16 * d⟩
theorem rowOf_shift (y d : Int) : rowOf (y + 256 * d) = rowOf y + 16 * d := by have h1 := rowOf_def y; have h2 := rowOf_def (y + 256 * d); omega
theorem edgeOf_shift (bx d : Int) (a b : PtT) : edgeOf (shP bx (256 * d) a) (shP bx (256 * d) b) = shE bx d (edgeOf a b) := by
  by_cases h : b.y < a.y
  · rw [edgeOf_lt h, edgeOf_lt (show (shP bx (256 * d) b).y < (shP bx (256 * d) a).y by simp only [shP]; omega)]
    simp only [shP, shE, rowOf_shift]
    exact edge_ext ⟨rfl, rfl, by dsimp only; omega, by dsimp only; omega, rfl, rfl, rfl⟩
  · rw [edgeOf_ge h, edgeOf_ge (show ¬ (shP bx (256 * d) b).y < (shP bx (256 * d) a).y by simp only [shP]; omega)]
    simp only [shP, shE, rowOf_shift]
    exact edge_ext ⟨rfl, rfl, by dsimp only; omega, by dsimp only; omega, rfl, rfl, rfl⟩
theorem onE_shift (bx d : Int) (a b : PtT) : onE (shP bx (256 * d) a) (shP bx (256 * d) b) = (onE a b).map (shE bx d) := by
  unfold onE
  rw [edgeOf_shift]
  by_cases h : (edgeOf a b).fr < (edgeOf a b).to
  · rw [if_pos h, if_pos (show (shE bx d (edgeOf a b)).fr < (shE bx d (edgeOf a b)).to by simp only [shE]; omega)]; rfl
  · rw [if_neg h, if_neg (show ¬ (shE bx d (edgeOf a b)).fr < (shE bx d (edgeOf a b)).to by simp only [shE]; omega)]; rfl
theorem getD_map {pc : List PtT} {f : PtT → PtT} {j : Nat} (h : j < pc.length) : (pc.map f).getD j dP = f (pc.getD j dP) := by
  rw [List.getD_eq_getElem?_getD, List.getD_eq_getElem?_getD, List.getElem?_map, List.getElem?_eq_getElem h]; rfl
theorem edgesTo_shift (bx d : Int) (pc : List PtT) : ∀ j, j ≤ pc.length → edgesTo (pc.map (shP bx (256 * d))) j = (edgesTo pc j).map (shE bx d)
  | 0, _ => rfl
  | j + 1, h => by
    rw [edgesTo_succ, edgesTo_succ, List.map_append, edgesTo_shift bx d pc j (by omega), edgesAt_on, edgesAt_on, List.length_map, getD_map (by omega), getD_map (Nat.mod_lt _ (by omega)), onE_shift]
theorem edgesOf_shift (bx d : Int) (pc : List PtT) : edgesOf (pc.map (shP bx (256 * d))) = (edgesOf pc).map (shE bx d) := by
  unfold edgesOf; rw [List.length_map]; exact edgesTo_shift bx d pc _ (Nat.le_refl _)
theorem shW_near {bx by_ : Int} {p : PtT} (h : NearT p) (hx : -8388608 ≤ bx ∧ bx ≤ 8388608) (hy : -8388608 ≤ by_ ∧ by_ ≤ 8388608) : shW bx by_ p = shP bx by_ p := by
  unfold NearT at h
  simp only [shW, shP, w64]
  congr 1 <;> omega
theorem map_near {bx by_ : Int} {pc : List PtT} (h : ∀ p ∈ pc, NearT p) (hx : -8388608 ≤ bx ∧ bx ≤ 8388608) (hy : -8388608 ≤ by_ ∧ by_ ≤ 8388608) : pc.map (shW bx by_) = pc.map (shP bx by_) :=
  List.map_congr_left fun p hp => shW_near (h p hp) hx hy
theorem sh_snoc {bx by_ : Int} {pc : List PtT} {i : Nat} (hi : i < pc.length) : ((pc.take i).map (shW bx by_)).flatMap eP ++ [.int .i64 (((pc.getD i dP).x + bx + 9223372036854775808) % 18446744073709551616 - 9223372036854775808), .int .i64 (((pc.getD i dP).y + by_ + 9223372036854775808) % 18446744073709551616 - 9223372036854775808)] = ((pc.take (i + 1)).map (shW bx by_)).flatMap eP := by
  rw [List.take_add_one, List.map_append, List.flatMap_append, List.getElem?_eq_getElem hi, List.getD_eq_getElem?_getD, List.getElem?_eq_getElem hi]
  rfl
theorem shE_getD {bx d : Int} {pc : List PtT} {i : Nat} (hi : i < (edgesOf pc).length) : (edgesOf (pc.map (shP bx (256 * d)))).getD i dE = shE bx d ((edgesOf pc).getD i dE) := by
  rw [edgesOf_shift, List.getD_eq_getElem?_getD, List.getD_eq_getElem?_getD, List.getElem?_map, List.getElem?_eq_getElem hi]; rfl
theorem at_shift (bx d : Int) (e : EdgeT) (r : Int) : atE (shE bx d e) (r + 16 * d) = atE e r + bx := by
  simp only [atE, shE]
  rw [show 16 * (r + 16 * d) + 8 - (e.y + 256 * d) = 16 * r + 8 - e.y by omega]
  omega

set_option maxHeartbeats 1000000 in
theorem a_EdgesShift (w : World) (v : Value) (pc : List PtT) (dx dy at_ : Int) (hx : -32768 ≤ dx ∧ dx < 32768) (hy : -32768 ≤ dy ∧ dy < 32768) (ha : 0 ≤ at_ ∧ at_ < 65536) (hV : RowV v pc.length) (hrow : RowAt w v 2 pc.length (pc.flatMap eP)) (hmax : pc.length ≤ 9223372036854775807) :
    Calls Try.prog 5 #[v, .int .i16 dx, .int .i16 dy, .int .u16 at_] w fun e w' => e = .returned (.bool true) ∧ Below w.heap.size w w' := by
  have hr : ∀ w', Chg (fun _ => False) w w' → RowAt w' v 2 pc.length (pc.flatMap eP) := fun w' h => hrow.chg h (fun h => h)
  obtain ⟨a0, c0, rfl⟩ := hV.sl
  refine calls_of (args := [.slice a0 pc.length c0, .int .i16 dx, .int .i16 dy, .int .u16 at_]) Try.func5 rfl Try.ntmps5 Try.results5 rfl ?_
  refine v_seq ?_
  refine v_region ?_
  refine l_val rfl (o_assign rfl) ?_
  refine l_nil ?_
  refine kt_norm ?_
  refine v_seq ?_
  refine v_region ?_
  refine l_val rfl (o_move rfl) ?_
  refine l_val rfl (o_convi rfl ?_) ?_
  · omega
  refine l_val rfl (o_muli rfl rfl ?_) ?_
  · omega
  refine l_val rfl (o_move rfl) ?_
  refine l_val rfl (o_convi rfl ?_) ?_
  · omega
  refine l_val rfl (o_muli rfl rfl ?_) ?_
  · omega
  refine l_val rfl (o_build (vs := [_, _]) (cs := [_, _]) rfl rfl) ?_
  refine l_new rfl o_alloc fun b9 => ?_
  refine l_store rfl (o_storeW (key := 9) (xs := [_, _]) rfl rfl rfl rfl rfl rfl rfl) ?_
  refine l_nil ?_
  refine kt_norm ?_
  refine v_sel [0, 2, 3, 9] [9] rfl rfl ?_
  refine v_seq ?_
  refine v_region ?_
  refine l_buildSlice (vs := []) (cs := []) rfl rfl rfl rfl rfl rfl fun v25 hv25 => ?_
  refine l_val rfl (o_assign rfl) ?_
  refine l_nil ?_
  refine kt_norm ?_
  refine v_seq ?_
  refine v_seq ?_
  refine v_region ?_
  refine l_val rfl (o_assign rfl) ?_
  refine l_nil ?_
  refine kt_norm ?_
  refine v_block ?_
  refine v_ren 25 55 [9] rfl rfl rfl ?_
  refine v_loopS (α := Nat × Value) (fun ⟨i, v10⟩ => [(11, .int .i64 (i : Int)), (10, v10)]) (fun ⟨i, v10⟩ => [(55, Hp.own v10 23 2 i (((pc.take i).map (shW (256 * dx) (256 * dy))).flatMap eP))])  (fun ⟨i, v10⟩ => i ≤ pc.length ∧ i ≤ 20 ∧ RowV v10 i) (fun ⟨i, v10⟩ => pc.length - i) (0, v25) [0, 2, 3, 9] [9] ⟨Nat.zero_le _, Nat.zero_le _, hv25⟩  (And.intro rfl (And.intro rfl (True.intro))) rfl (And.intro rfl (True.intro)) rfl ?_
  rintro ⟨i, v10⟩ ⟨hi, hi20, hv10⟩
  refine v_seq ?_
  refine v_seq ?_
  refine v_region ?_
  refine l_val rfl (o_move rfl) ?_
  refine l_val rfl (o_move rfl) ?_
  refine l_val rfl (o_len rfl hV) ?_
  refine l_split rfl (o_lss rfl rfl) (fun q1 => ?_) (fun q1 => ?_)
  · have hil : i < pc.length := by omega
    refine l_val rfl (o_move rfl) ?_
    refine l_val rfl (o_move rfl) ?_
    refine l_split rfl (o_lss rfl rfl) (fun q2 => ?_) (fun q2 => ?_)
    · skip
      refine l_val rfl (o_pickT rfl rfl) ?_
      refine l_nil ?_
      refine kt_norm ?_
      refine v_condT rfl ?_
      refine v_skip ?_
      refine kt_norm ?_
      refine v_sel [11, 10, 0, 2, 3, 9, 31, 32] [9, 55] rfl rfl ?_
      refine v_seq ?_
      refine v_block ?_
      refine v_drawZ [[], [], [], [], [], [], [], [9], [], [], [], [], [], [], [], [9], [], [], []] mixed ?_ (by kernel_rfl) (by kernel_rfl)
      refine d_val (fun _ => rfl) rfl rfl (fun _ => o_move rfl) ?_
      refine d_val (fun _ => rfl) rfl rfl (fun _ => o_move rfl) ?_
      refine d_val (fun _ => rfl) rfl rfl (fun _ => o_move rfl) ?_
      refine d_val (fun _ => rfl) rfl rfl (fun _ => o_idx (i) rfl hV rfl (by first | rfl | omega) (by omega)) ?_
      refine d_val (fun _ => rfl) rfl rfl (fun _ => o_fld rfl) ?_
      refine d_val (fun _ => rfl) rfl rfl (fun _ => o_loadRF (f := 0) rfl (row_imm hr) (el_flat eP_len dP pc (i) (by omega)) rfl) ?_
      refine d_val (fun _ => rfl) rfl rfl (fun _ => o_fld rfl) ?_
      refine d_val (fun _ => rfl) rfl rfl (fun _ => o_load1 (key := 9) rfl rfl rfl) ?_
      refine d_val (fun _ => rfl) rfl rfl (fun _ => o_add rfl rfl (wrap_i64m _)) ?_
      refine d_val (fun _ => rfl) rfl rfl (fun _ => o_move rfl) ?_
      refine d_val (fun _ => rfl) rfl rfl (fun _ => o_move rfl) ?_
      refine d_val (fun _ => rfl) rfl rfl (fun _ => o_idx (i) rfl hV rfl (by first | rfl | omega) (by omega)) ?_
      refine d_val (fun _ => rfl) rfl rfl (fun _ => o_fld rfl) ?_
      refine d_val (fun _ => rfl) rfl rfl (fun _ => o_loadRF (f := 1) rfl (row_imm hr) (el_flat eP_len dP pc (i) (by omega)) rfl) ?_
      refine d_val (fun _ => rfl) rfl rfl (fun _ => o_fld rfl) ?_
      refine d_val (fun _ => rfl) rfl rfl (fun _ => o_load1 (key := 9) rfl rfl rfl) ?_
      refine d_val (fun _ => rfl) rfl rfl (fun _ => o_add rfl rfl (wrap_i64m _)) ?_
      refine d_val (fun _ => rfl) rfl rfl (fun _ => o_build (vs := [_, _]) (cs := [_, _]) rfl rfl) ?_
      refine d_newS (fun _ => rfl) rfl rfl (fun _ => o_bs (vs := [_]) (cs := [_, _]) rfl rfl rfl rfl) ?_
      refine d_nil (fun σ => ?_)
      refine l_toOwn 54 [9, 55] (n := 1) 2 rfl rfl rfl rfl rfl rfl ?_
      refine l_append 55 [9, 54] rfl rfl rfl rfl rfl rfl rfl (.inl ⟨_, _, _, rfl⟩) (row_own (key := 54) rfl) (by omega) fun v55 hv55 => ?_
      refine l_val rfl (o_assign rfl) ?_
      refine l_nil ?_
      refine kb_norm ?_
      refine kt_norm ?_
      refine v_sel [11, 10, 0, 2, 3, 9, 31, 32] [9, 55] rfl rfl ?_
      refine v_region ?_
      refine l_val rfl (o_move rfl) ?_
      refine l_val rfl (o_addi rfl rfl ?_) ?_
      · omega
      refine l_val rfl (o_assign rfl) ?_
      refine l_nil ?_
      refine kt_norm ?_
      refine ⟨(i + 1, v55), ⟨hil, by omega, hv55⟩, (by show pc.length - (i + 1) < pc.length - i; omega), le_app (And.intro rfl (And.intro rfl (True.intro))) [0, 2, 3, 9] rfl (And.intro (congrArg some (own_congr rfl (sh_snoc hil))) (True.intro)) [9] rfl⟩
    · skip
      refine l_val rfl (o_pickT rfl rfl) ?_
      refine l_nil ?_
      refine kt_norm ?_
      refine v_condF rfl ?_
      refine v_exit ?_
      refine kt_exit ?_
      refine kt_exit ?_
      refine kb_eq ?_
      refine kt_norm ?_
      refine v_sel [10, 0, 2, 3, 9] [9, 55] rfl rfl ?_
      refine v_seq ?_
      refine v_seq ?_
      refine v_region ?_
      have hQl : ((pc.take i).map (shW (256 * dx) (256 * dy))).length = i := by rw [List.length_map, List.length_take]; omega
      obtain ⟨a1, c1, rfl⟩ := hv10.sl
      refine l_val rfl (o_move rfl) ?_
      refine l_buildSlice (vs := [_]) (cs := [_]) rfl rfl rfl rfl rfl rfl fun v57 hv57 => ?_
      refine l_call (ks := [57]) rfl (o_callC (vs := [_]) (r := .bool (decide (Bnd [pc]))) (ent_of Try.func15 rfl rfl) rfl (fun w' hg hh => a_bounded w' v57 [.slice a0 pc.length c0] [pc] (pcsW_one hv57 hV) (pcsAt_one (rowAt_own (hh 57 (by simp) _ rfl)) (hr w' hg)))) ?_
      refine lz_bool (fun hbb => ?_) (fun hbb => ?_)
      · have hb : BndP pc := bnd_one.1 hbb
        have hb1 := hb.1
        refine l_val rfl (o_not rfl rfl) ?_
        refine l_val rfl (o_move rfl) ?_
        refine l_val rfl (o_move rfl) ?_
        refine l_buildSlice (vs := [_]) (cs := [_]) rfl rfl rfl rfl rfl rfl fun v62 hv62 => ?_
        refine l_call (ks := [55, 62]) rfl (o_callC (vs := [_]) (r := .bool (decide (Bnd [(pc.take i).map (shW (256 * dx) (256 * dy))]))) (ent_of Try.func15 rfl rfl) rfl (fun w' hg hh => a_bounded w' v62 [.slice a1 i c1] [(pc.take i).map (shW (256 * dx) (256 * dy))] (pcsW_one hv62 (by rw [hQl]; exact hv10)) (pcsAt_one (rowAt_own (hh 62 (by simp) _ rfl)) (by rw [hQl]; exact rowAt_own (hh 55 (by simp) _ rfl))))) ?_
        refine lz_bool (fun hbbq => ?_) (fun hbbq => ?_)
        · have hbq : BndP ((pc.take i).map (shW (256 * dx) (256 * dy))) := bnd_one.1 hbbq
          refine l_val rfl (o_not rfl rfl) ?_
          refine l_val rfl (o_pickF rfl rfl) ?_
          refine l_val rfl (o_move rfl) ?_
          refine l_ans (vs := []) rfl rfl (a_shown) ?_
          refine l_val rfl (o_not rfl rfl) ?_
          refine l_val rfl (o_pickF rfl rfl) ?_
          refine l_nil ?_
          refine kt_norm ?_
          refine v_sel [10, 0, 2, 3, 9, 69] [9, 55] rfl rfl ?_
          refine v_condF rfl ?_
          refine v_skip ?_
          refine kt_norm ?_
          refine v_seq ?_
          refine v_region ?_
          have hie : i = pc.length := by omega
          have hQe : (pc.take i).map (shW (256 * dx) (256 * dy)) = pc.map (shP (256 * dx) (256 * dy)) := by rw [List.take_of_length_le (by omega)]; exact map_near hb.near (by omega) (by omega)
          refine l_val rfl (o_move rfl) ?_
          refine l_gown (ks := []) (caps := #[]) (vs := [_]) rfl rfl (ent_of Try.func12 rfl rfl) rfl (fun w' hg _ => a_OfE w' (.slice a0 pc.length c0) pc (by have := hb.1; omega) hV (hr w' hg) hb.near) fun l hl => ?_
          refine l_val rfl (o_assign rfl) ?_
          refine l_nil ?_
          refine kt_norm ?_
          refine v_seq ?_
          refine v_region ?_
          refine l_val rfl (o_move rfl) ?_
          refine l_gown (ks := [55]) (caps := #[]) (vs := [_]) rfl rfl (ent_of Try.func12 rfl rfl) rfl (fun w' hg hh => a_OfE w' (.slice a1 i c1) (pc.map (shP (256 * dx) (256 * dy))) (by rw [List.length_map]; omega) (by rw [List.length_map, ← hie]; exact hv10) (by rw [List.length_map, ← hQe, ← hie]; exact rowAt_own (hh 55 (by simp) _ rfl)) (by rw [← hQe]; exact hbq.near)) fun m hm => ?_
          refine l_val rfl (o_assign rfl) ?_
          refine l_nil ?_
          refine kt_norm ?_
          refine v_sel [2, 3, 9, 12, 13] [9, 55, 72, 74] rfl rfl ?_
          refine v_seq ?_
          refine v_seq ?_
          refine v_region ?_
          refine l_val rfl (o_move rfl) ?_
          refine l_val rfl (o_len rfl hl) ?_
          refine l_val rfl (o_move rfl) ?_
          refine l_val rfl (o_len rfl hm) ?_
          have hlm : (edgesOf (pc.map (shP (256 * dx) (256 * dy)))).length = (edgesOf pc).length := by rw [edgesOf_shift, List.length_map]
          have hll : (edgesOf pc).length ≤ pc.length := edgesTo_len pc _
          refine l_split rfl (o_neq rfl rfl) (fun q3 => absurd q3 (by omega)) (fun q3 => ?_)
          refine l_nil ?_
          refine kt_norm ?_
          refine v_condF rfl ?_
          refine v_skip ?_
          refine kt_norm ?_
          refine v_seq ?_
          refine v_seq ?_
          refine v_region ?_
          refine l_val rfl (o_assign rfl) ?_
          refine l_nil ?_
          refine kt_norm ?_
          refine v_block ?_
          refine v_loopS (α := Nat) (fun k => [(14, .int .i64 (k : Int))]) (fun k => [])  (fun k => k ≤ (edgesOf pc).length) (fun k => (edgesOf pc).length - k) 0 [2, 3, 9, 12, 13] [9, 55, 72, 74] (Nat.zero_le _)  (And.intro rfl (True.intro)) rfl (True.intro) rfl ?_
          rintro k hk
          refine v_seq ?_
          refine v_seq ?_
          refine v_region ?_
          refine l_val rfl (o_move rfl) ?_
          refine l_val rfl (o_move rfl) ?_
          refine l_val rfl (o_len rfl hl) ?_
          refine l_split rfl (o_lss rfl rfl) (fun q4 => ?_) (fun q4 => ?_)
          · have hil2 : k < (edgesOf pc).length := by omega
            refine l_nil ?_
            refine kt_norm ?_
            refine v_condT rfl ?_
            refine v_skip ?_
            refine kt_norm ?_
            refine v_seq ?_
            refine v_block ?_
            refine v_seq ?_
            refine v_region ?_
            refine l_val rfl (o_move rfl) ?_
            refine l_val rfl (o_move rfl) ?_
            have ho := edgeOk_getD hb.near hil2
            have hos := edgeOk_getD (pc := pc.map (shP (256 * dx) (256 * dy))) (by rw [← hQe]; exact hbq.near) (i := k) (by omega)
            have hse := shE_getD (bx := 256 * dx) (d := dy) hil2
            rw [hse] at hos
            have hlt := ho.lt
            have hri := row_in ho ha.1
            have hrr := ho.rows
            have hox := ho.x
            have hoy := ho.y
            refine l_val rfl (o_idx (k) rfl hl rfl (by first | rfl | omega) (by omega)) ?_
            refine l_val rfl (o_loadRE (c' := [_, _, _, _, _, _, _]) rfl (row_own (key := 72) rfl) (el_flat eE_len dE (edgesOf pc) (k) (by omega)) rfl) ?_
            refine l_new rfl o_alloc fun b15 => ?_
            refine l_store rfl (o_storeW (key := 15) (xs := [_, _, _, _, _, _, _]) rfl rfl rfl rfl rfl rfl rfl) ?_
            refine l_nil ?_
            refine kt_norm ?_
            refine v_sel [14, 2, 3, 9, 12, 13, 15] [9, 15, 55, 72, 74] rfl rfl ?_
            refine v_seq ?_
            refine v_region ?_
            refine l_val rfl (o_move rfl) ?_
            refine l_val rfl (o_move rfl) ?_
            refine l_val rfl (o_idx (k) rfl hm rfl (by first | rfl | omega) (by omega)) ?_
            refine l_val rfl (o_loadRE (c' := [_, _, _, _, _, _, _]) rfl (row_own (key := 74) rfl) (el_flat eE_len dE (edgesOf (pc.map (shP (256 * dx) (256 * dy)))) (k) (by omega)) rfl) ?_
            refine l_new rfl o_alloc fun b16 => ?_
            refine l_store rfl (o_storeW (key := 16) (xs := [_, _, _, _, _, _, _]) rfl rfl rfl rfl rfl rfl rfl) ?_
            refine l_nil ?_
            refine kt_norm ?_
            refine v_seq ?_
            refine v_seq ?_
            refine v_region ?_
            refine l_val rfl (o_fld rfl) ?_
            refine l_val rfl (o_load1 (key := 15) rfl rfl rfl) ?_
            refine l_val rfl (o_fld rfl) ?_
            refine l_val rfl (o_load1 (key := 15) rfl rfl rfl) ?_
            refine l_split rfl (o_leq rfl rfl) (fun q5 => absurd q5 (by omega)) (fun q5 => ?_)
            refine l_nil ?_
            refine kt_norm ?_
            refine v_sel [14, 2, 3, 9, 12, 13, 15, 16, 98] [9, 15, 16, 55, 72, 74] rfl rfl ?_
            refine v_condF rfl ?_
            refine v_skip ?_
            refine kt_norm ?_
            refine v_seq ?_
            refine v_drawZ [[], [15], [], [], [], [15], [], [15], [], [], [], []] mixed ?_ (by kernel_rfl) (by kernel_rfl)
            have s1 : ((edgesOf (pc.map (shP (256 * dx) (256 * dy)))).getD k dE).x = ((edgesOf pc).getD k dE).x + 256 * dx := by rw [hse]; rfl
            have s2 : ((edgesOf (pc.map (shP (256 * dx) (256 * dy)))).getD k dE).y = ((edgesOf pc).getD k dE).y + 256 * dy := by rw [hse]; rfl
            have s3 : ((edgesOf (pc.map (shP (256 * dx) (256 * dy)))).getD k dE).dx = ((edgesOf pc).getD k dE).dx := by rw [hse]; rfl
            have s4 : ((edgesOf (pc.map (shP (256 * dx) (256 * dy)))).getD k dE).dy = ((edgesOf pc).getD k dE).dy := by rw [hse]; rfl
            have s5 : ((edgesOf (pc.map (shP (256 * dx) (256 * dy)))).getD k dE).wi = ((edgesOf pc).getD k dE).wi := by rw [hse]; rfl
            have s6 : ((edgesOf (pc.map (shP (256 * dx) (256 * dy)))).getD k dE).fr = ((edgesOf pc).getD k dE).fr + 16 * dy := by rw [hse]; rfl
            have s7 : ((edgesOf (pc.map (shP (256 * dx) (256 * dy)))).getD k dE).to = ((edgesOf pc).getD k dE).to + 16 * dy := by rw [hse]; rfl
            have hat1 := ho.at_ (r := ((edgesOf pc).getD k dE).fr + at_ % (((edgesOf pc).getD k dE).to - ((edgesOf pc).getD k dE).fr)) (by omega) (by omega)
            have hat2 := at_shift (256 * dx) dy ((edgesOf pc).getD k dE) (((edgesOf pc).getD k dE).fr + at_ % (((edgesOf pc).getD k dE).to - ((edgesOf pc).getD k dE).fr))
            refine d_val (fun _ => rfl) rfl rfl (fun _ => o_fld rfl) ?_
            refine d_val (fun _ => rfl) rfl rfl (fun _ => o_load1 (key := 15) rfl rfl rfl) ?_
            refine d_val (fun _ => rfl) rfl rfl (fun _ => o_move rfl) ?_
            refine d_val (fun _ => rfl) rfl rfl (fun _ => o_convi rfl ?_) ?_
            · omega
            refine d_val (fun _ => rfl) rfl rfl (fun _ => o_fld rfl) ?_
            refine d_val (fun _ => rfl) rfl rfl (fun _ => o_load1 (key := 15) rfl rfl rfl) ?_
            refine d_val (fun _ => rfl) rfl rfl (fun _ => o_fld rfl) ?_
            refine d_val (fun _ => rfl) rfl rfl (fun _ => o_load1 (key := 15) rfl rfl rfl) ?_
            refine d_val (fun _ => rfl) rfl rfl (fun _ => o_subi rfl rfl ?_) ?_
            · omega
            refine d_val (fun _ => rfl) rfl rfl (fun _ => o_remn rfl rfl ?_) ?_
            · omega
            refine d_val (fun _ => rfl) rfl rfl (fun _ => o_addi rfl rfl ?_) ?_
            · omega
            refine d_val (fun _ => rfl) rfl rfl (fun _ => o_assign rfl) ?_
            refine d_nil (fun σ => ?_)
            refine l_nil ?_
            refine kt_norm ?_
            refine v_sel [14, 2, 3, 9, 12, 13, 15, 16, 17] [9, 15, 16, 55, 72, 74] rfl rfl ?_
            refine v_seq ?_
            refine v_drawZ [[], [16], [], [15], [], [9], [], [], [], [], [16], [], [15], [], [9], [], [], [], [], [], [16], [], [15], [], [], [], [], [16], [], [15], [], [], [], [], [16], [], [15], [], [], [], [], [16], [], [15], [], [], [], [], [], [], [], [], [16], [], [15], [], [], [], [], [], [], [], [16], [], [], [], [], [], [], [15], [], [], [], [9], [], [], []] mixed ?_ (by kernel_rfl) (by kernel_rfl)
            refine d_val (fun _ => rfl) rfl rfl (fun _ => o_fld rfl) ?_
            refine d_val (fun _ => rfl) rfl rfl (fun _ => o_load1 (key := 16) rfl rfl rfl) ?_
            refine d_val (fun _ => rfl) rfl rfl (fun _ => o_fld rfl) ?_
            refine d_val (fun _ => rfl) rfl rfl (fun _ => o_load1 (key := 15) rfl rfl rfl) ?_
            refine d_val (fun _ => rfl) rfl rfl (fun _ => o_fld rfl) ?_
            refine d_val (fun _ => rfl) rfl rfl (fun _ => o_load1 (key := 9) rfl rfl rfl) ?_
            refine d_val (fun _ => rfl) rfl rfl (fun _ => o_addi rfl rfl ?_) ?_
            · omega
            refine d_neq (fun _ => rfl) (fun _ => rfl) (fun _ => rfl) (fun q6 => absurd q6 (by omega)) (fun q6 => ?_)
            refine d_val (fun _ => rfl) rfl rfl (fun _ => o_move rfl) ?_
            refine d_val (fun _ => rfl) rfl rfl (fun _ => o_fld rfl) ?_
            refine d_val (fun _ => rfl) rfl rfl (fun _ => o_load1 (key := 16) rfl rfl rfl) ?_
            refine d_val (fun _ => rfl) rfl rfl (fun _ => o_fld rfl) ?_
            refine d_val (fun _ => rfl) rfl rfl (fun _ => o_load1 (key := 15) rfl rfl rfl) ?_
            refine d_val (fun _ => rfl) rfl rfl (fun _ => o_fld rfl) ?_
            refine d_val (fun _ => rfl) rfl rfl (fun _ => o_load1 (key := 9) rfl rfl rfl) ?_
            refine d_val (fun _ => rfl) rfl rfl (fun _ => o_addi rfl rfl ?_) ?_
            · omega
            refine d_neq (fun _ => rfl) (fun _ => rfl) (fun _ => rfl) (fun q7 => absurd q7 (by omega)) (fun q7 => ?_)
            refine d_val (fun _ => rfl) rfl rfl (fun _ => o_pickF rfl rfl) ?_
            refine d_val (fun _ => rfl) rfl rfl (fun _ => o_move rfl) ?_
            refine d_val (fun _ => rfl) rfl rfl (fun _ => o_fld rfl) ?_
            refine d_val (fun _ => rfl) rfl rfl (fun _ => o_load1 (key := 16) rfl rfl rfl) ?_
            refine d_val (fun _ => rfl) rfl rfl (fun _ => o_fld rfl) ?_
            refine d_val (fun _ => rfl) rfl rfl (fun _ => o_load1 (key := 15) rfl rfl rfl) ?_
            refine d_neq (fun _ => rfl) (fun _ => rfl) (fun _ => rfl) (fun q8 => absurd q8 (by omega)) (fun q8 => ?_)
            refine d_val (fun _ => rfl) rfl rfl (fun _ => o_pickF rfl rfl) ?_
            refine d_val (fun _ => rfl) rfl rfl (fun _ => o_move rfl) ?_
            refine d_val (fun _ => rfl) rfl rfl (fun _ => o_fld rfl) ?_
            refine d_val (fun _ => rfl) rfl rfl (fun _ => o_load1 (key := 16) rfl rfl rfl) ?_
            refine d_val (fun _ => rfl) rfl rfl (fun _ => o_fld rfl) ?_
            refine d_val (fun _ => rfl) rfl rfl (fun _ => o_load1 (key := 15) rfl rfl rfl) ?_
            refine d_neq (fun _ => rfl) (fun _ => rfl) (fun _ => rfl) (fun q9 => absurd q9 (by omega)) (fun q9 => ?_)
            refine d_val (fun _ => rfl) rfl rfl (fun _ => o_pickF rfl rfl) ?_
            refine d_val (fun _ => rfl) rfl rfl (fun _ => o_move rfl) ?_
            refine d_val (fun _ => rfl) rfl rfl (fun _ => o_fld rfl) ?_
            refine d_val (fun _ => rfl) rfl rfl (fun _ => o_load1 (key := 16) rfl rfl rfl) ?_
            refine d_val (fun _ => rfl) rfl rfl (fun _ => o_fld rfl) ?_
            refine d_val (fun _ => rfl) rfl rfl (fun _ => o_load1 (key := 15) rfl rfl rfl) ?_
            refine d_neq (fun _ => rfl) (fun _ => rfl) (fun _ => rfl) (fun q10 => absurd q10 (by omega)) (fun q10 => ?_)
            refine d_val (fun _ => rfl) rfl rfl (fun _ => o_pickF rfl rfl) ?_
            refine d_val (fun _ => rfl) rfl rfl (fun _ => o_move rfl) ?_
            refine d_val (fun _ => rfl) rfl rfl (fun _ => o_fld rfl) ?_
            refine d_val (fun _ => rfl) rfl rfl (fun _ => o_load1 (key := 16) rfl rfl rfl) ?_
            refine d_val (fun _ => rfl) rfl rfl (fun _ => o_fld rfl) ?_
            refine d_val (fun _ => rfl) rfl rfl (fun _ => o_load1 (key := 15) rfl rfl rfl) ?_
            refine d_val (fun _ => rfl) rfl rfl (fun _ => o_move rfl) ?_
            refine d_val (fun _ => rfl) rfl rfl (fun _ => o_convi rfl ?_) ?_
            · omega
            refine d_val (fun _ => rfl) rfl rfl (fun _ => o_muli rfl rfl ?_) ?_
            · omega
            refine d_val (fun _ => rfl) rfl rfl (fun _ => o_addi rfl rfl ?_) ?_
            · omega
            refine d_neq (fun _ => rfl) (fun _ => rfl) (fun _ => rfl) (fun q11 => absurd q11 (by omega)) (fun q11 => ?_)
            refine d_val (fun _ => rfl) rfl rfl (fun _ => o_pickF rfl rfl) ?_
            refine d_val (fun _ => rfl) rfl rfl (fun _ => o_move rfl) ?_
            refine d_val (fun _ => rfl) rfl rfl (fun _ => o_fld rfl) ?_
            refine d_val (fun _ => rfl) rfl rfl (fun _ => o_load1 (key := 16) rfl rfl rfl) ?_
            refine d_val (fun _ => rfl) rfl rfl (fun _ => o_fld rfl) ?_
            refine d_val (fun _ => rfl) rfl rfl (fun _ => o_load1 (key := 15) rfl rfl rfl) ?_
            refine d_val (fun _ => rfl) rfl rfl (fun _ => o_move rfl) ?_
            refine d_val (fun _ => rfl) rfl rfl (fun _ => o_convi rfl ?_) ?_
            · omega
            refine d_val (fun _ => rfl) rfl rfl (fun _ => o_muli rfl rfl ?_) ?_
            · omega
            refine d_val (fun _ => rfl) rfl rfl (fun _ => o_addi rfl rfl ?_) ?_
            · omega
            refine d_neq (fun _ => rfl) (fun _ => rfl) (fun _ => rfl) (fun q12 => absurd q12 (by omega)) (fun q12 => ?_)
            refine d_val (fun _ => rfl) rfl rfl (fun _ => o_pickF rfl rfl) ?_
            refine d_val (fun _ => rfl) rfl rfl (fun _ => o_move rfl) ?_
            refine d_val (fun _ => rfl) rfl rfl (fun _ => o_loadW (key := 16) rfl rfl rfl) ?_
            refine d_val (fun _ => rfl) rfl rfl (fun _ => o_move rfl) ?_
            refine d_val (fun _ => rfl) rfl rfl (fun _ => o_move rfl) ?_
            refine d_val (fun _ => rfl) rfl rfl (fun _ => o_convi rfl ?_) ?_
            · omega
            refine d_val (fun _ => rfl) rfl rfl (fun _ => o_muli rfl rfl ?_) ?_
            · omega
            refine d_val (fun _ => rfl) rfl rfl (fun _ => o_addi rfl rfl ?_) ?_
            · omega
            refine d_ans (vs := [_, _]) (fun _ => rfl) (fun _ => rfl) ((by rw [hse]; exact a_AtOk hos (show ((edgesOf pc).getD k dE).fr + 16 * dy ≤ _ by omega) (show _ < ((edgesOf pc).getD k dE).to + 16 * dy by omega))) ?_
            refine d_val (fun _ => rfl) rfl rfl (fun _ => o_loadW (key := 15) rfl rfl rfl) ?_
            refine d_val (fun _ => rfl) rfl rfl (fun _ => o_move rfl) ?_
            refine d_ans (vs := [_, _]) (fun _ => rfl) (fun _ => rfl) (a_AtOk ho (by omega) (by omega)) ?_
            refine d_val (fun _ => rfl) rfl rfl (fun _ => o_fld rfl) ?_
            refine d_val (fun _ => rfl) rfl rfl (fun _ => o_load1 (key := 9) rfl rfl rfl) ?_
            refine d_val (fun _ => rfl) rfl rfl (fun _ => o_addi rfl rfl ?_) ?_
            · omega
            refine d_neq (fun _ => rfl) (fun _ => rfl) (fun _ => rfl) (fun q13 => absurd q13 (by omega)) (fun q13 => ?_)
            refine d_val (fun _ => rfl) rfl rfl (fun _ => o_pickF rfl rfl) ?_
            refine d_nil (fun σ => ?_)
            refine l_nil ?_
            refine kt_norm ?_
            refine v_sel [14, 2, 3, 9, 12, 13, 119, 120, 121, 122, 123, 124, 125, 126, 129, 130, 131, 132, 133, 136, 137, 138, 139, 140, 143, 144, 145, 146, 147, 150, 151, 152, 153, 154, 155, 156, 157, 158, 161, 162, 163, 164, 165, 166, 167, 168, 169, 172, 173, 174, 175, 176, 177, 178, 179, 180, 181, 182, 183, 184, 185, 186] [9, 15, 16, 55, 72, 74] rfl rfl ?_
            refine v_condF rfl ?_
            refine v_skip ?_
            refine kb_norm ?_
            refine kt_norm ?_
            refine v_region ?_
            refine l_val rfl (o_move rfl) ?_
            refine l_val rfl (o_addi rfl rfl ?_) ?_
            · omega
            refine l_val rfl (o_assign rfl) ?_
            refine l_nil ?_
            refine kt_norm ?_
            refine ⟨k + 1, hil2, by omega, le_app (And.intro rfl (True.intro)) [2, 3, 9, 12, 13] rfl (True.intro) [9, 55, 72, 74] rfl⟩
          · skip
            refine l_nil ?_
            refine kt_norm ?_
            refine v_condF rfl ?_
            refine v_exit ?_
            refine kt_exit ?_
            refine kt_exit ?_
            refine kb_eq ?_
            refine kt_norm ?_
            refine v_sel [] [55] rfl rfl ?_
            refine v_seq ?_
            refine v_region ?_
            refine l_val rfl (o_assign rfl) ?_
            refine l_nil ?_
            refine kt_norm ?_
            refine v_ret ?_
            refine ⟨[_], .cons (.tmp rfl) (ResAll.nil), ?_⟩
            rfl
        · skip
          refine l_val rfl (o_not rfl rfl) ?_
          refine l_val rfl (o_pickF rfl rfl) ?_
          refine l_val rfl (o_move rfl) ?_
          refine l_no rfl ?_
          refine l_no rfl ?_
          refine l_val rfl (o_pickT rfl rfl) ?_
          refine l_nil ?_
          refine kt_norm ?_
          refine v_sel [10, 0, 2, 3, 9, 69] [9, 55] rfl rfl ?_
          refine v_condT rfl ?_
          refine v_seq ?_
          refine v_region ?_
          refine l_ans (vs := []) rfl rfl (a_shown) ?_
          refine l_val rfl (o_assign rfl) ?_
          refine l_nil ?_
          refine kt_norm ?_
          refine v_sel [8] [55] rfl rfl ?_
          refine v_ret ?_
          refine kt_ret ?_
          refine ⟨[_], .cons (.tmp rfl) (ResAll.nil), ?_⟩
          rfl
      · skip
        refine l_val rfl (o_not rfl rfl) ?_
        refine l_val rfl (o_move rfl) ?_
        refine l_no rfl ?_
        refine l_no rfl ?_
        refine l_no rfl ?_
        refine l_no rfl ?_
        refine l_val rfl (o_pickT rfl rfl) ?_
        refine l_val rfl (o_move rfl) ?_
        refine l_no rfl ?_
        refine l_no rfl ?_
        refine l_val rfl (o_pickT rfl rfl) ?_
        refine l_nil ?_
        refine kt_norm ?_
        refine v_sel [10, 0, 2, 3, 9, 69] [9, 55] rfl rfl ?_
        refine v_condT rfl ?_
        refine v_seq ?_
        refine v_region ?_
        refine l_ans (vs := []) rfl rfl (a_shown) ?_
        refine l_val rfl (o_assign rfl) ?_
        refine l_nil ?_
        refine kt_norm ?_
        refine v_sel [8] [55] rfl rfl ?_
        refine v_ret ?_
        refine kt_ret ?_
        refine ⟨[_], .cons (.tmp rfl) (ResAll.nil), ?_⟩
        rfl
  · skip
    refine l_val rfl (o_move rfl) ?_
    refine l_no rfl ?_
    refine l_no rfl ?_
    refine l_val rfl (o_pickF rfl rfl) ?_
    refine l_nil ?_
    refine kt_norm ?_
    refine v_condF rfl ?_
    refine v_exit ?_
    refine kt_exit ?_
    refine kt_exit ?_
    refine kb_eq ?_
    refine kt_norm ?_
    refine v_sel [10, 0, 2, 3, 9] [9, 55] rfl rfl ?_
    refine v_seq ?_
    refine v_seq ?_
    refine v_region ?_
    have hQl : ((pc.take i).map (shW (256 * dx) (256 * dy))).length = i := by rw [List.length_map, List.length_take]; omega
    obtain ⟨a1, c1, rfl⟩ := hv10.sl
    refine l_val rfl (o_move rfl) ?_
    refine l_buildSlice (vs := [_]) (cs := [_]) rfl rfl rfl rfl rfl rfl fun v57 hv57 => ?_
    refine l_call (ks := [57]) rfl (o_callC (vs := [_]) (r := .bool (decide (Bnd [pc]))) (ent_of Try.func15 rfl rfl) rfl (fun w' hg hh => a_bounded w' v57 [.slice a0 pc.length c0] [pc] (pcsW_one hv57 hV) (pcsAt_one (rowAt_own (hh 57 (by simp) _ rfl)) (hr w' hg)))) ?_
    refine lz_bool (fun hbb => ?_) (fun hbb => ?_)
    · have hb : BndP pc := bnd_one.1 hbb
      have hb1 := hb.1
      refine l_val rfl (o_not rfl rfl) ?_
      refine l_val rfl (o_move rfl) ?_
      refine l_val rfl (o_move rfl) ?_
      refine l_buildSlice (vs := [_]) (cs := [_]) rfl rfl rfl rfl rfl rfl fun v62 hv62 => ?_
      refine l_call (ks := [55, 62]) rfl (o_callC (vs := [_]) (r := .bool (decide (Bnd [(pc.take i).map (shW (256 * dx) (256 * dy))]))) (ent_of Try.func15 rfl rfl) rfl (fun w' hg hh => a_bounded w' v62 [.slice a1 i c1] [(pc.take i).map (shW (256 * dx) (256 * dy))] (pcsW_one hv62 (by rw [hQl]; exact hv10)) (pcsAt_one (rowAt_own (hh 62 (by simp) _ rfl)) (by rw [hQl]; exact rowAt_own (hh 55 (by simp) _ rfl))))) ?_
      refine lz_bool (fun hbbq => ?_) (fun hbbq => ?_)
      · have hbq : BndP ((pc.take i).map (shW (256 * dx) (256 * dy))) := bnd_one.1 hbbq
        refine l_val rfl (o_not rfl rfl) ?_
        refine l_val rfl (o_pickF rfl rfl) ?_
        refine l_val rfl (o_move rfl) ?_
        refine l_ans (vs := []) rfl rfl (a_shown) ?_
        refine l_val rfl (o_not rfl rfl) ?_
        refine l_val rfl (o_pickF rfl rfl) ?_
        refine l_nil ?_
        refine kt_norm ?_
        refine v_sel [10, 0, 2, 3, 9, 69] [9, 55] rfl rfl ?_
        refine v_condF rfl ?_
        refine v_skip ?_
        refine kt_norm ?_
        refine v_seq ?_
        refine v_region ?_
        have hie : i = pc.length := by omega
        have hQe : (pc.take i).map (shW (256 * dx) (256 * dy)) = pc.map (shP (256 * dx) (256 * dy)) := by rw [List.take_of_length_le (by omega)]; exact map_near hb.near (by omega) (by omega)
        refine l_val rfl (o_move rfl) ?_
        refine l_gown (ks := []) (caps := #[]) (vs := [_]) rfl rfl (ent_of Try.func12 rfl rfl) rfl (fun w' hg _ => a_OfE w' (.slice a0 pc.length c0) pc (by have := hb.1; omega) hV (hr w' hg) hb.near) fun l hl => ?_
        refine l_val rfl (o_assign rfl) ?_
        refine l_nil ?_
        refine kt_norm ?_
        refine v_seq ?_
        refine v_region ?_
        refine l_val rfl (o_move rfl) ?_
        refine l_gown (ks := [55]) (caps := #[]) (vs := [_]) rfl rfl (ent_of Try.func12 rfl rfl) rfl (fun w' hg hh => a_OfE w' (.slice a1 i c1) (pc.map (shP (256 * dx) (256 * dy))) (by rw [List.length_map]; omega) (by rw [List.length_map, ← hie]; exact hv10) (by rw [List.length_map, ← hQe, ← hie]; exact rowAt_own (hh 55 (by simp) _ rfl)) (by rw [← hQe]; exact hbq.near)) fun m hm => ?_
        refine l_val rfl (o_assign rfl) ?_
        refine l_nil ?_
        refine kt_norm ?_
        refine v_sel [2, 3, 9, 12, 13] [9, 55, 72, 74] rfl rfl ?_
        refine v_seq ?_
        refine v_seq ?_
        refine v_region ?_
        refine l_val rfl (o_move rfl) ?_
        refine l_val rfl (o_len rfl hl) ?_
        refine l_val rfl (o_move rfl) ?_
        refine l_val rfl (o_len rfl hm) ?_
        have hlm : (edgesOf (pc.map (shP (256 * dx) (256 * dy)))).length = (edgesOf pc).length := by rw [edgesOf_shift, List.length_map]
        have hll : (edgesOf pc).length ≤ pc.length := edgesTo_len pc _
        refine l_split rfl (o_neq rfl rfl) (fun q14 => absurd q14 (by omega)) (fun q14 => ?_)
        refine l_nil ?_
        refine kt_norm ?_
        refine v_condF rfl ?_
        refine v_skip ?_
        refine kt_norm ?_
        refine v_seq ?_
        refine v_seq ?_
        refine v_region ?_
        refine l_val rfl (o_assign rfl) ?_
        refine l_nil ?_
        refine kt_norm ?_
        refine v_block ?_
        refine v_loopS (α := Nat) (fun k => [(14, .int .i64 (k : Int))]) (fun k => [])  (fun k => k ≤ (edgesOf pc).length) (fun k => (edgesOf pc).length - k) 0 [2, 3, 9, 12, 13] [9, 55, 72, 74] (Nat.zero_le _)  (And.intro rfl (True.intro)) rfl (True.intro) rfl ?_
        rintro k hk
        refine v_seq ?_
        refine v_seq ?_
        refine v_region ?_
        refine l_val rfl (o_move rfl) ?_
        refine l_val rfl (o_move rfl) ?_
        refine l_val rfl (o_len rfl hl) ?_
        refine l_split rfl (o_lss rfl rfl) (fun q15 => ?_) (fun q15 => ?_)
        · have hil2 : k < (edgesOf pc).length := by omega
          refine l_nil ?_
          refine kt_norm ?_
          refine v_condT rfl ?_
          refine v_skip ?_
          refine kt_norm ?_
          refine v_seq ?_
          refine v_block ?_
          refine v_seq ?_
          refine v_region ?_
          refine l_val rfl (o_move rfl) ?_
          refine l_val rfl (o_move rfl) ?_
          have ho := edgeOk_getD hb.near hil2
          have hos := edgeOk_getD (pc := pc.map (shP (256 * dx) (256 * dy))) (by rw [← hQe]; exact hbq.near) (i := k) (by omega)
          have hse := shE_getD (bx := 256 * dx) (d := dy) hil2
          rw [hse] at hos
          have hlt := ho.lt
          have hri := row_in ho ha.1
          have hrr := ho.rows
          have hox := ho.x
          have hoy := ho.y
          refine l_val rfl (o_idx (k) rfl hl rfl (by first | rfl | omega) (by omega)) ?_
          refine l_val rfl (o_loadRE (c' := [_, _, _, _, _, _, _]) rfl (row_own (key := 72) rfl) (el_flat eE_len dE (edgesOf pc) (k) (by omega)) rfl) ?_
          refine l_new rfl o_alloc fun b15 => ?_
          refine l_store rfl (o_storeW (key := 15) (xs := [_, _, _, _, _, _, _]) rfl rfl rfl rfl rfl rfl rfl) ?_
          refine l_nil ?_
          refine kt_norm ?_
          refine v_sel [14, 2, 3, 9, 12, 13, 15] [9, 15, 55, 72, 74] rfl rfl ?_
          refine v_seq ?_
          refine v_region ?_
          refine l_val rfl (o_move rfl) ?_
          refine l_val rfl (o_move rfl) ?_
          refine l_val rfl (o_idx (k) rfl hm rfl (by first | rfl | omega) (by omega)) ?_
          refine l_val rfl (o_loadRE (c' := [_, _, _, _, _, _, _]) rfl (row_own (key := 74) rfl) (el_flat eE_len dE (edgesOf (pc.map (shP (256 * dx) (256 * dy)))) (k) (by omega)) rfl) ?_
          refine l_new rfl o_alloc fun b16 => ?_
          refine l_store rfl (o_storeW (key := 16) (xs := [_, _, _, _, _, _, _]) rfl rfl rfl rfl rfl rfl rfl) ?_
          refine l_nil ?_
          refine kt_norm ?_
          refine v_seq ?_
          refine v_seq ?_
          refine v_region ?_
          refine l_val rfl (o_fld rfl) ?_
          refine l_val rfl (o_load1 (key := 15) rfl rfl rfl) ?_
          refine l_val rfl (o_fld rfl) ?_
          refine l_val rfl (o_load1 (key := 15) rfl rfl rfl) ?_
          refine l_split rfl (o_leq rfl rfl) (fun q16 => absurd q16 (by omega)) (fun q16 => ?_)
          refine l_nil ?_
          refine kt_norm ?_
          refine v_sel [14, 2, 3, 9, 12, 13, 15, 16, 98] [9, 15, 16, 55, 72, 74] rfl rfl ?_
          refine v_condF rfl ?_
          refine v_skip ?_
          refine kt_norm ?_
          refine v_seq ?_
          refine v_drawZ [[], [15], [], [], [], [15], [], [15], [], [], [], []] mixed ?_ (by kernel_rfl) (by kernel_rfl)
          have s1 : ((edgesOf (pc.map (shP (256 * dx) (256 * dy)))).getD k dE).x = ((edgesOf pc).getD k dE).x + 256 * dx := by rw [hse]; rfl
          have s2 : ((edgesOf (pc.map (shP (256 * dx) (256 * dy)))).getD k dE).y = ((edgesOf pc).getD k dE).y + 256 * dy := by rw [hse]; rfl
          have s3 : ((edgesOf (pc.map (shP (256 * dx) (256 * dy)))).getD k dE).dx = ((edgesOf pc).getD k dE).dx := by rw [hse]; rfl
          have s4 : ((edgesOf (pc.map (shP (256 * dx) (256 * dy)))).getD k dE).dy = ((edgesOf pc).getD k dE).dy := by rw [hse]; rfl
          have s5 : ((edgesOf (pc.map (shP (256 * dx) (256 * dy)))).getD k dE).wi = ((edgesOf pc).getD k dE).wi := by rw [hse]; rfl
          have s6 : ((edgesOf (pc.map (shP (256 * dx) (256 * dy)))).getD k dE).fr = ((edgesOf pc).getD k dE).fr + 16 * dy := by rw [hse]; rfl
          have s7 : ((edgesOf (pc.map (shP (256 * dx) (256 * dy)))).getD k dE).to = ((edgesOf pc).getD k dE).to + 16 * dy := by rw [hse]; rfl
          have hat1 := ho.at_ (r := ((edgesOf pc).getD k dE).fr + at_ % (((edgesOf pc).getD k dE).to - ((edgesOf pc).getD k dE).fr)) (by omega) (by omega)
          have hat2 := at_shift (256 * dx) dy ((edgesOf pc).getD k dE) (((edgesOf pc).getD k dE).fr + at_ % (((edgesOf pc).getD k dE).to - ((edgesOf pc).getD k dE).fr))
          refine d_val (fun _ => rfl) rfl rfl (fun _ => o_fld rfl) ?_
          refine d_val (fun _ => rfl) rfl rfl (fun _ => o_load1 (key := 15) rfl rfl rfl) ?_
          refine d_val (fun _ => rfl) rfl rfl (fun _ => o_move rfl) ?_
          refine d_val (fun _ => rfl) rfl rfl (fun _ => o_convi rfl ?_) ?_
          · omega
          refine d_val (fun _ => rfl) rfl rfl (fun _ => o_fld rfl) ?_
          refine d_val (fun _ => rfl) rfl rfl (fun _ => o_load1 (key := 15) rfl rfl rfl) ?_
          refine d_val (fun _ => rfl) rfl rfl (fun _ => o_fld rfl) ?_
          refine d_val (fun _ => rfl) rfl rfl (fun _ => o_load1 (key := 15) rfl rfl rfl) ?_
          refine d_val (fun _ => rfl) rfl rfl (fun _ => o_subi rfl rfl ?_) ?_
          · omega
          refine d_val (fun _ => rfl) rfl rfl (fun _ => o_remn rfl rfl ?_) ?_
          · omega
          refine d_val (fun _ => rfl) rfl rfl (fun _ => o_addi rfl rfl ?_) ?_
          · omega
          refine d_val (fun _ => rfl) rfl rfl (fun _ => o_assign rfl) ?_
          refine d_nil (fun σ => ?_)
          refine l_nil ?_
          refine kt_norm ?_
          refine v_sel [14, 2, 3, 9, 12, 13, 15, 16, 17] [9, 15, 16, 55, 72, 74] rfl rfl ?_
          refine v_seq ?_
          refine v_drawZ [[], [16], [], [15], [], [9], [], [], [], [], [16], [], [15], [], [9], [], [], [], [], [], [16], [], [15], [], [], [], [], [16], [], [15], [], [], [], [], [16], [], [15], [], [], [], [], [16], [], [15], [], [], [], [], [], [], [], [], [16], [], [15], [], [], [], [], [], [], [], [16], [], [], [], [], [], [], [15], [], [], [], [9], [], [], []] mixed ?_ (by kernel_rfl) (by kernel_rfl)
          refine d_val (fun _ => rfl) rfl rfl (fun _ => o_fld rfl) ?_
          refine d_val (fun _ => rfl) rfl rfl (fun _ => o_load1 (key := 16) rfl rfl rfl) ?_
          refine d_val (fun _ => rfl) rfl rfl (fun _ => o_fld rfl) ?_
          refine d_val (fun _ => rfl) rfl rfl (fun _ => o_load1 (key := 15) rfl rfl rfl) ?_
          refine d_val (fun _ => rfl) rfl rfl (fun _ => o_fld rfl) ?_
          refine d_val (fun _ => rfl) rfl rfl (fun _ => o_load1 (key := 9) rfl rfl rfl) ?_
          refine d_val (fun _ => rfl) rfl rfl (fun _ => o_addi rfl rfl ?_) ?_
          · omega
          refine d_neq (fun _ => rfl) (fun _ => rfl) (fun _ => rfl) (fun q17 => absurd q17 (by omega)) (fun q17 => ?_)
          refine d_val (fun _ => rfl) rfl rfl (fun _ => o_move rfl) ?_
          refine d_val (fun _ => rfl) rfl rfl (fun _ => o_fld rfl) ?_
          refine d_val (fun _ => rfl) rfl rfl (fun _ => o_load1 (key := 16) rfl rfl rfl) ?_
          refine d_val (fun _ => rfl) rfl rfl (fun _ => o_fld rfl) ?_
          refine d_val (fun _ => rfl) rfl rfl (fun _ => o_load1 (key := 15) rfl rfl rfl) ?_
          refine d_val (fun _ => rfl) rfl rfl (fun _ => o_fld rfl) ?_
          refine d_val (fun _ => rfl) rfl rfl (fun _ => o_load1 (key := 9) rfl rfl rfl) ?_
          refine d_val (fun _ => rfl) rfl rfl (fun _ => o_addi rfl rfl ?_) ?_
          · omega
          refine d_neq (fun _ => rfl) (fun _ => rfl) (fun _ => rfl) (fun q18 => absurd q18 (by omega)) (fun q18 => ?_)
          refine d_val (fun _ => rfl) rfl rfl (fun _ => o_pickF rfl rfl) ?_
          refine d_val (fun _ => rfl) rfl rfl (fun _ => o_move rfl) ?_
          refine d_val (fun _ => rfl) rfl rfl (fun _ => o_fld rfl) ?_
          refine d_val (fun _ => rfl) rfl rfl (fun _ => o_load1 (key := 16) rfl rfl rfl) ?_
          refine d_val (fun _ => rfl) rfl rfl (fun _ => o_fld rfl) ?_
          refine d_val (fun _ => rfl) rfl rfl (fun _ => o_load1 (key := 15) rfl rfl rfl) ?_
          refine d_neq (fun _ => rfl) (fun _ => rfl) (fun _ => rfl) (fun q19 => absurd q19 (by omega)) (fun q19 => ?_)
          refine d_val (fun _ => rfl) rfl rfl (fun _ => o_pickF rfl rfl) ?_
          refine d_val (fun _ => rfl) rfl rfl (fun _ => o_move rfl) ?_
          refine d_val (fun _ => rfl) rfl rfl (fun _ => o_fld rfl) ?_
          refine d_val (fun _ => rfl) rfl rfl (fun _ => o_load1 (key := 16) rfl rfl rfl) ?_
          refine d_val (fun _ => rfl) rfl rfl (fun _ => o_fld rfl) ?_
          refine d_val (fun _ => rfl) rfl rfl (fun _ => o_load1 (key := 15) rfl rfl rfl) ?_
          refine d_neq (fun _ => rfl) (fun _ => rfl) (fun _ => rfl) (fun q20 => absurd q20 (by omega)) (fun q20 => ?_)
          refine d_val (fun _ => rfl) rfl rfl (fun _ => o_pickF rfl rfl) ?_
          refine d_val (fun _ => rfl) rfl rfl (fun _ => o_move rfl) ?_
          refine d_val (fun _ => rfl) rfl rfl (fun _ => o_fld rfl) ?_
          refine d_val (fun _ => rfl) rfl rfl (fun _ => o_load1 (key := 16) rfl rfl rfl) ?_
          refine d_val (fun _ => rfl) rfl rfl (fun _ => o_fld rfl) ?_
          refine d_val (fun _ => rfl) rfl rfl (fun _ => o_load1 (key := 15) rfl rfl rfl) ?_
          refine d_neq (fun _ => rfl) (fun _ => rfl) (fun _ => rfl) (fun q21 => absurd q21 (by omega)) (fun q21 => ?_)
          refine d_val (fun _ => rfl) rfl rfl (fun _ => o_pickF rfl rfl) ?_
          refine d_val (fun _ => rfl) rfl rfl (fun _ => o_move rfl) ?_
          refine d_val (fun _ => rfl) rfl rfl (fun _ => o_fld rfl) ?_
          refine d_val (fun _ => rfl) rfl rfl (fun _ => o_load1 (key := 16) rfl rfl rfl) ?_
          refine d_val (fun _ => rfl) rfl rfl (fun _ => o_fld rfl) ?_
          refine d_val (fun _ => rfl) rfl rfl (fun _ => o_load1 (key := 15) rfl rfl rfl) ?_
          refine d_val (fun _ => rfl) rfl rfl (fun _ => o_move rfl) ?_
          refine d_val (fun _ => rfl) rfl rfl (fun _ => o_convi rfl ?_) ?_
          · omega
          refine d_val (fun _ => rfl) rfl rfl (fun _ => o_muli rfl rfl ?_) ?_
          · omega
          refine d_val (fun _ => rfl) rfl rfl (fun _ => o_addi rfl rfl ?_) ?_
          · omega
          refine d_neq (fun _ => rfl) (fun _ => rfl) (fun _ => rfl) (fun q22 => absurd q22 (by omega)) (fun q22 => ?_)
          refine d_val (fun _ => rfl) rfl rfl (fun _ => o_pickF rfl rfl) ?_
          refine d_val (fun _ => rfl) rfl rfl (fun _ => o_move rfl) ?_
          refine d_val (fun _ => rfl) rfl rfl (fun _ => o_fld rfl) ?_
          refine d_val (fun _ => rfl) rfl rfl (fun _ => o_load1 (key := 16) rfl rfl rfl) ?_
          refine d_val (fun _ => rfl) rfl rfl (fun _ => o_fld rfl) ?_
          refine d_val (fun _ => rfl) rfl rfl (fun _ => o_load1 (key := 15) rfl rfl rfl) ?_
          refine d_val (fun _ => rfl) rfl rfl (fun _ => o_move rfl) ?_
          refine d_val (fun _ => rfl) rfl rfl (fun _ => o_convi rfl ?_) ?_
          · omega
          refine d_val (fun _ => rfl) rfl rfl (fun _ => o_muli rfl rfl ?_) ?_
          · omega
          refine d_val (fun _ => rfl) rfl rfl (fun _ => o_addi rfl rfl ?_) ?_
          · omega
          refine d_neq (fun _ => rfl) (fun _ => rfl) (fun _ => rfl) (fun q23 => absurd q23 (by omega)) (fun q23 => ?_)
          refine d_val (fun _ => rfl) rfl rfl (fun _ => o_pickF rfl rfl) ?_
          refine d_val (fun _ => rfl) rfl rfl (fun _ => o_move rfl) ?_
          refine d_val (fun _ => rfl) rfl rfl (fun _ => o_loadW (key := 16) rfl rfl rfl) ?_
          refine d_val (fun _ => rfl) rfl rfl (fun _ => o_move rfl) ?_
          refine d_val (fun _ => rfl) rfl rfl (fun _ => o_move rfl) ?_
          refine d_val (fun _ => rfl) rfl rfl (fun _ => o_convi rfl ?_) ?_
          · omega
          refine d_val (fun _ => rfl) rfl rfl (fun _ => o_muli rfl rfl ?_) ?_
          · omega
          refine d_val (fun _ => rfl) rfl rfl (fun _ => o_addi rfl rfl ?_) ?_
          · omega
          refine d_ans (vs := [_, _]) (fun _ => rfl) (fun _ => rfl) ((by rw [hse]; exact a_AtOk hos (show ((edgesOf pc).getD k dE).fr + 16 * dy ≤ _ by omega) (show _ < ((edgesOf pc).getD k dE).to + 16 * dy by omega))) ?_
          refine d_val (fun _ => rfl) rfl rfl (fun _ => o_loadW (key := 15) rfl rfl rfl) ?_
          refine d_val (fun _ => rfl) rfl rfl (fun _ => o_move rfl) ?_
          refine d_ans (vs := [_, _]) (fun _ => rfl) (fun _ => rfl) (a_AtOk ho (by omega) (by omega)) ?_
          refine d_val (fun _ => rfl) rfl rfl (fun _ => o_fld rfl) ?_
          refine d_val (fun _ => rfl) rfl rfl (fun _ => o_load1 (key := 9) rfl rfl rfl) ?_
          refine d_val (fun _ => rfl) rfl rfl (fun _ => o_addi rfl rfl ?_) ?_
          · omega
          refine d_neq (fun _ => rfl) (fun _ => rfl) (fun _ => rfl) (fun q24 => absurd q24 (by omega)) (fun q24 => ?_)
          refine d_val (fun _ => rfl) rfl rfl (fun _ => o_pickF rfl rfl) ?_
          refine d_nil (fun σ => ?_)
          refine l_nil ?_
          refine kt_norm ?_
          refine v_sel [14, 2, 3, 9, 12, 13, 119, 120, 121, 122, 123, 124, 125, 126, 129, 130, 131, 132, 133, 136, 137, 138, 139, 140, 143, 144, 145, 146, 147, 150, 151, 152, 153, 154, 155, 156, 157, 158, 161, 162, 163, 164, 165, 166, 167, 168, 169, 172, 173, 174, 175, 176, 177, 178, 179, 180, 181, 182, 183, 184, 185, 186] [9, 15, 16, 55, 72, 74] rfl rfl ?_
          refine v_condF rfl ?_
          refine v_skip ?_
          refine kb_norm ?_
          refine kt_norm ?_
          refine v_region ?_
          refine l_val rfl (o_move rfl) ?_
          refine l_val rfl (o_addi rfl rfl ?_) ?_
          · omega
          refine l_val rfl (o_assign rfl) ?_
          refine l_nil ?_
          refine kt_norm ?_
          refine ⟨k + 1, hil2, by omega, le_app (And.intro rfl (True.intro)) [2, 3, 9, 12, 13] rfl (True.intro) [9, 55, 72, 74] rfl⟩
        · skip
          refine l_nil ?_
          refine kt_norm ?_
          refine v_condF rfl ?_
          refine v_exit ?_
          refine kt_exit ?_
          refine kt_exit ?_
          refine kb_eq ?_
          refine kt_norm ?_
          refine v_sel [] [55] rfl rfl ?_
          refine v_seq ?_
          refine v_region ?_
          refine l_val rfl (o_assign rfl) ?_
          refine l_nil ?_
          refine kt_norm ?_
          refine v_ret ?_
          refine ⟨[_], .cons (.tmp rfl) (ResAll.nil), ?_⟩
          rfl
      · skip
        refine l_val rfl (o_not rfl rfl) ?_
        refine l_val rfl (o_pickF rfl rfl) ?_
        refine l_val rfl (o_move rfl) ?_
        refine l_no rfl ?_
        refine l_no rfl ?_
        refine l_val rfl (o_pickT rfl rfl) ?_
        refine l_nil ?_
        refine kt_norm ?_
        refine v_sel [10, 0, 2, 3, 9, 69] [9, 55] rfl rfl ?_
        refine v_condT rfl ?_
        refine v_seq ?_
        refine v_region ?_
        refine l_ans (vs := []) rfl rfl (a_shown) ?_
        refine l_val rfl (o_assign rfl) ?_
        refine l_nil ?_
        refine kt_norm ?_
        refine v_sel [8] [55] rfl rfl ?_
        refine v_ret ?_
        refine kt_ret ?_
        refine ⟨[_], .cons (.tmp rfl) (ResAll.nil), ?_⟩
        rfl
    · skip
      refine l_val rfl (o_not rfl rfl) ?_
      refine l_val rfl (o_move rfl) ?_
      refine l_no rfl ?_
      refine l_no rfl ?_
      refine l_no rfl ?_
      refine l_no rfl ?_
      refine l_val rfl (o_pickT rfl rfl) ?_
      refine l_val rfl (o_move rfl) ?_
      refine l_no rfl ?_
      refine l_no rfl ?_
      refine l_val rfl (o_pickT rfl rfl) ?_
      refine l_nil ?_
      refine kt_norm ?_
      refine v_sel [10, 0, 2, 3, 9, 69] [9, 55] rfl rfl ?_
      refine v_condT rfl ?_
      refine v_seq ?_
      refine v_region ?_
      refine l_ans (vs := []) rfl rfl (a_shown) ?_
      refine l_val rfl (o_assign rfl) ?_
      refine l_nil ?_
      refine kt_norm ?_
      refine v_sel [8] [55] rfl rfl ?_
      refine v_ret ?_
      refine kt_ret ?_
      refine ⟨[_], .cons (.tmp rfl) (ResAll.nil), ?_⟩
      rfl
end Go.Proofs.Ytegfonghlpbgdaa
