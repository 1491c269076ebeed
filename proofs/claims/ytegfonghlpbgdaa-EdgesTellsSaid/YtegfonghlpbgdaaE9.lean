import Derived.Test.YtegfonghlpbgdaaE8
/- Corners that are told backwards have the same edges, but that they wind the other way. Conditions: none. -/
namespace Go.Proofs.Ytegfonghlpbgdaa
open Go.Proofs Go.RowKit Go.Shelf

/-! ### corners that are told backwards -/
def negE (e : EdgeT) : EdgeT := ⟨e.x, e.y, e.dx, e.dy, -e.wi, e.fr, e.to⟩
theorem edge_ext {e f : EdgeT} (h : e.x = f.x ∧ e.y = f.y ∧ e.dx = f.dx ∧ e.dy = f.dy ∧ e.wi = f.wi ∧ e.fr = f.fr ∧ e.to = f.to) : e = f := by
  obtain ⟨a, b, c, d, w, r, t⟩ := e
  obtain ⟨a', b', c', d', w', r', t'⟩ := f
  obtain ⟨rfl, rfl, rfl, rfl, rfl, rfl, rfl⟩ := h
  rfl
instance : DecidableEq EdgeT := fun e f =>
  if h : e.x = f.x ∧ e.y = f.y ∧ e.dx = f.dx ∧ e.dy = f.dy ∧ e.wi = f.wi ∧ e.fr = f.fr ∧ e.to = f.to then isTrue (edge_ext h) else isFalse fun k => h (by subst k; exact ⟨rfl, rfl, rfl, rfl, rfl, rfl, rfl⟩)
def onE (a b : PtT) : List EdgeT := if (edgeOf a b).fr < (edgeOf a b).to then [edgeOf a b] else []
theorem turned_edge (a b : PtT) : (onE b a).map negE = onE a b := by
  unfold onE
  by_cases h : b.y < a.y
  · have h' : ¬ a.y < b.y := by omega
    rw [edgeOf_lt h, edgeOf_ge h']
    dsimp only
    split <;> rfl
  · by_cases h' : a.y < b.y
    · rw [edgeOf_ge h, edgeOf_lt h']
      dsimp only
      split <;> rfl
    · have e : a.y = b.y := by omega
      rw [edgeOf_ge h, edgeOf_ge h']
      dsimp only
      rw [e, if_neg (by omega), if_neg (by omega)]; rfl
theorem edgesAt_on (pc : List PtT) (j : Nat) : edgesAt pc j = onE (pc.getD j dP) (pc.getD ((j + 1) % pc.length) dP) := rfl
theorem getD_rev {pc : List PtT} {j : Nat} (h : j < pc.length) : pc.reverse.getD j dP = pc.getD (pc.length - 1 - j) dP := by
  rw [List.getD_eq_getElem?_getD, List.getD_eq_getElem?_getD, List.getElem?_reverse h]
theorem turned_at {pc : List PtT} {j : Nat} (h : j < pc.length) : (edgesAt pc.reverse j).map negE = edgesAt pc (if j + 1 = pc.length then j else pc.length - 2 - j) := by
  rw [edgesAt_on, edgesAt_on, List.length_reverse, turned_edge, getD_rev h]
  split
  · rename_i e
    rw [e, Nat.mod_self, getD_rev (by omega), Nat.sub_zero, show pc.length - 1 - j = 0 by omega, show pc.length - 1 = j by omega]
  · rw [Nat.mod_eq_of_lt (by omega), getD_rev (by omega), show pc.length - 1 - (j + 1) = pc.length - 2 - j by omega, show pc.length - 1 - j = pc.length - 2 - j + 1 by omega, Nat.mod_eq_of_lt (show pc.length - 2 - j + 1 < pc.length by omega)]
theorem flatMap_congr' {α β : Type} {l : List α} {f g : α → List β} (h : ∀ a ∈ l, f a = g a) : l.flatMap f = l.flatMap g := by
  induction l with
  | nil => rfl
  | cons a r ih => rw [List.flatMap_cons, List.flatMap_cons, h a List.mem_cons_self, ih fun b hb => h b (List.mem_cons_of_mem _ hb)]
theorem turned_perm (pc : List PtT) : ((edgesOf pc.reverse).map negE).Perm (edgesOf pc) := by
  unfold edgesOf edgesTo
  rw [List.length_reverse, List.map_flatMap]
  obtain ⟨k, hk⟩ : ∃ k, pc.length = k := ⟨_, rfl⟩
  rw [hk]
  cases k with
  | zero => exact List.Perm.refl _
  | succ k =>
    rw [List.range_succ, List.flatMap_append, List.flatMap_append]
    refine List.Perm.append ?_ ?_
    · have e : (List.range k).flatMap (fun a => (edgesAt pc.reverse a).map negE) = ((List.range k).map fun j => k - 1 - j).flatMap (edgesAt pc) := by
        rw [List.flatMap_map]
        refine flatMap_congr' fun j hj => ?_
        have hjk := List.mem_range.1 hj
        rw [turned_at (by omega), if_neg (by omega), show pc.length - 2 - j = k - 1 - j by omega]
      rw [e]
      refine List.Perm.flatMap_right _ ?_
      have e2 : ((List.range k).map fun j => k - 1 - j) = (List.range k).reverse := by
        apply List.ext_getElem
        · simp
        · intro i h1 h2
          simp
      rw [e2]
      exact List.reverse_perm _
    · rw [List.flatMap_cons, List.flatMap_nil, List.flatMap_cons, List.flatMap_nil, turned_at (by omega), if_pos hk.symm]
theorem turned_len (pc : List PtT) : (edgesOf pc.reverse).length = (edgesOf pc).length := by rw [← (turned_perm pc).length_eq, List.length_map]
def cntE (l : List EdgeT) (e : EdgeT) (k : Nat) : Nat := (l.take k).countP fun f => decide (f = e)
def cntN (l : List EdgeT) (e : EdgeT) (k : Nat) : Nat := (l.take k).countP fun f => decide (negE f = e)
theorem cntE_le (l : List EdgeT) (e : EdgeT) (k : Nat) : cntE l e k ≤ k := Nat.le_trans List.countP_le_length (by rw [List.length_take]; omega)
theorem cntN_le (l : List EdgeT) (e : EdgeT) (k : Nat) : cntN l e k ≤ k := Nat.le_trans List.countP_le_length (by rw [List.length_take]; omega)
theorem cntE_yes {l : List EdgeT} {e : EdgeT} {k : Nat} (hk : k < l.length) (h : l.getD k dE = e) : ((cntE l e k : Nat) : Int) + 1 = ((cntE l e (k + 1) : Nat) : Int) := by
  unfold cntE; rw [take_succ' hk, List.countP_append, h]; simp
theorem cntE_no {l : List EdgeT} {e : EdgeT} {k : Nat} (hk : k < l.length) (h : ¬ l.getD k dE = e) : ((cntE l e k : Nat) : Int) = ((cntE l e (k + 1) : Nat) : Int) := by
  unfold cntE; rw [take_succ' hk, List.countP_append, List.countP_singleton, decide_eq_false h]; simp
theorem cntN_yes {l : List EdgeT} {e : EdgeT} {k : Nat} (hk : k < l.length) (h : negE (l.getD k dE) = e) : ((cntN l e k : Nat) : Int) + 1 = ((cntN l e (k + 1) : Nat) : Int) := by
  unfold cntN; rw [take_succ' hk, List.countP_append, List.countP_singleton, decide_eq_true h]; simp
theorem cntN_no {l : List EdgeT} {e : EdgeT} {k : Nat} (hk : k < l.length) (h : ¬ negE (l.getD k dE) = e) : ((cntN l e k : Nat) : Int) = ((cntN l e (k + 1) : Nat) : Int) := by
  unfold cntN; rw [take_succ' hk, List.countP_append, List.countP_singleton, decide_eq_false h]; simp
theorem turned_cnt (pc : List PtT) (e : EdgeT) {k : Nat} (hk : (edgesOf pc).length ≤ k) : cntE (edgesOf pc) e k = cntN (edgesOf pc.reverse) e k := by
  unfold cntE cntN
  rw [List.take_of_length_le hk, List.take_of_length_le (by rw [turned_len]; exact hk), ← (turned_perm pc).countP_eq, List.countP_map]
  rfl
theorem rev_snoc {pc : List PtT} {i : Nat} (hi : i < pc.length) : (pc.reverse.take i).flatMap eP ++ [.int .i64 (pc.getD (pc.length - 1 - i) dP).x, .int .i64 (pc.getD (pc.length - 1 - i) dP).y] = (pc.reverse.take (i + 1)).flatMap eP := by
  rw [List.take_add_one, List.flatMap_append, List.getElem?_eq_getElem (by simpa using hi), ← getD_rev hi, List.getD_eq_getElem?_getD, List.getElem?_eq_getElem (by simpa using hi)]
  rfl
theorem row_rev {w : World} {v : Value} {pc : List PtT} (h : RowAt w v 2 pc.length ((pc.reverse.take pc.length).flatMap eP)) : RowAt w v 2 pc.reverse.length (pc.reverse.flatMap eP) := by
  rw [List.take_of_length_le (by simp)] at h
  rw [List.length_reverse]
  exact h
theorem near_rev {pc : List PtT} (h : BndP pc) : ∀ p ∈ pc.reverse, NearT p := fun p hp => h.near p (List.mem_reverse.1 hp)
theorem unit_getD {pc : List PtT} {k : Nat} (h : k < (edgesOf pc).length) : -1 ≤ ((edgesOf pc).getD k dE).wi ∧ ((edgesOf pc).getD k dE).wi ≤ 1 := by
  have : Unit ((edgesOf pc).getD k dE) := by
    rw [List.getD_eq_getElem?_getD, List.getElem?_eq_getElem h]; exact unit_edgesTo pc _ _ (List.getElem_mem h)
  unfold Unit at this
  omega

theorem a_EdgesTurned (w : World) (v : Value) (pc : List PtT) (hV : RowV v pc.length) (hrow : RowAt w v 2 pc.length (pc.flatMap eP)) : Calls Try.prog 7 #[v] w fun e w' => e = .returned (.bool true) ∧ Below w.heap.size w w' := by
  have hr : ∀ w', Chg (fun _ => False) w w' → RowAt w' v 2 pc.length (pc.flatMap eP) := fun w' h => hrow.chg h (fun h => h)
  obtain ⟨a0, c0, rfl⟩ := hV.sl
  refine calls_of (args := [.slice a0 pc.length c0]) Try.func7 rfl Try.ntmps7 Try.results7 rfl ?_
  refine v_seq ?_
  refine v_region ?_
  refine l_val rfl (o_assign rfl) ?_
  refine l_nil ?_
  refine kt_norm ?_
  refine v_seq ?_
  refine v_seq ?_
  refine v_region ?_
  refine l_val rfl (o_move rfl) ?_
  refine l_buildSlice (vs := [_]) (cs := [_]) rfl rfl rfl rfl rfl rfl fun v13 hv13 => ?_
  refine l_call (ks := [13]) rfl (o_callC (vs := [_]) (r := .bool (decide (Bnd [pc]))) (ent_of Try.func15 rfl rfl) rfl (fun w' hg hh => a_bounded w' v13 [.slice a0 pc.length c0] [pc] (pcsW_one hv13 hV) (pcsAt_one (rowAt_own (hh 13 (by simp) _ rfl)) (hr w' hg)))) ?_
  refine lz_bool (fun hbb => ?_) (fun hbb => ?_)
  · have hb : BndP pc := bnd_one.1 hbb
    have hb1 := hb.1
    refine l_val rfl (o_not rfl rfl) ?_
    refine l_val rfl (o_move rfl) ?_
    refine l_ans (vs := []) rfl rfl (a_shown) ?_
    refine l_val rfl (o_not rfl rfl) ?_
    refine l_val rfl (o_pickF rfl rfl) ?_
    refine l_nil ?_
    refine kt_norm ?_
    refine v_sel [0, 19] [] rfl rfl ?_
    refine v_condF rfl ?_
    refine v_skip ?_
    refine kt_norm ?_
    refine v_seq ?_
    refine v_region ?_
    refine l_buildSlice (vs := []) (cs := []) rfl rfl rfl rfl rfl rfl fun v21 hv21 => ?_
    refine l_val rfl (o_assign rfl) ?_
    refine l_nil ?_
    refine kt_norm ?_
    refine v_seq ?_
    refine v_seq ?_
    refine v_region ?_
    refine l_val rfl (o_move rfl) ?_
    refine l_val rfl (o_len rfl hV) ?_
    refine l_val rfl (o_subi rfl rfl ?_) ?_
    · omega
    refine l_val rfl (o_assign rfl) ?_
    refine l_nil ?_
    refine kt_norm ?_
    refine v_block ?_
    refine v_ren 21 35 [] rfl rfl rfl ?_
    refine v_loopS (α := Nat × Value) (fun ⟨i, v3⟩ => [(4, .int .i64 ((pc.length : Int) - 1 - (i : Int))), (3, v3)]) (fun ⟨i, v3⟩ => [(35, Hp.own v3 23 2 i ((pc.reverse.take i).flatMap eP))])  (fun ⟨i, v3⟩ => i ≤ pc.length ∧ RowV v3 i) (fun ⟨i, v3⟩ => pc.length - i) (0, v21) [0] [] ⟨Nat.zero_le _, hv21⟩  (And.intro (congrArg (fun q => some (Value.int .i64 q)) (by omega)) (And.intro rfl (True.intro))) rfl (And.intro rfl (True.intro)) rfl ?_
    rintro ⟨i, v3⟩ ⟨hi, hv3⟩
    refine v_seq ?_
    refine v_seq ?_
    refine v_region ?_
    refine l_val rfl (o_move rfl) ?_
    refine l_split rfl (o_geq rfl rfl) (fun q1 => ?_) (fun q1 => ?_)
    · have hil : i < pc.length := by omega
      refine l_nil ?_
      refine kt_norm ?_
      refine v_condT rfl ?_
      refine v_skip ?_
      refine kt_norm ?_
      refine v_seq ?_
      refine v_block ?_
      refine v_region ?_
      refine l_val rfl (o_move rfl) ?_
      refine l_val rfl (o_move rfl) ?_
      refine l_val rfl (o_move rfl) ?_
      refine l_val rfl (o_idx (pc.length - 1 - i) rfl hV rfl (by first | rfl | omega) (by omega)) ?_
      refine l_val rfl (o_loadRE (c' := [_, _]) rfl (row_imm hr) (el_flat eP_len dP pc (pc.length - 1 - i) (by omega)) rfl) ?_
      refine l_buildSlice (vs := [_]) (cs := [_, _]) rfl rfl rfl rfl rfl rfl fun v34 hv34 => ?_
      refine l_append 35 [34] rfl rfl rfl rfl rfl rfl rfl hv34 (row_own (key := 34) rfl) (by omega) fun v35 hv35 => ?_
      refine l_val rfl (o_assign rfl) ?_
      refine l_nil ?_
      refine kb_norm ?_
      refine kt_norm ?_
      refine v_sel [4, 3, 0] [35] rfl rfl ?_
      refine v_region ?_
      refine l_val rfl (o_move rfl) ?_
      refine l_val rfl (o_subi rfl rfl ?_) ?_
      · omega
      refine l_val rfl (o_assign rfl) ?_
      refine l_nil ?_
      refine kt_norm ?_
      refine ⟨(i + 1, v35), ⟨hil, hv35⟩, (by show pc.length - (i + 1) < pc.length - i; omega), le_app (And.intro (congrArg (fun q => some (Value.int .i64 q)) (by omega)) (And.intro rfl (True.intro))) [0] rfl (And.intro (congrArg some (own_congr rfl (rev_snoc hil))) (True.intro)) [] rfl⟩
    · skip
      refine l_nil ?_
      refine kt_norm ?_
      refine v_condF rfl ?_
      refine v_exit ?_
      refine kt_exit ?_
      refine kt_exit ?_
      refine kb_eq ?_
      refine kt_norm ?_
      refine v_seq ?_
      refine v_region ?_
      obtain rfl : i = pc.length := by omega
      refine l_val rfl (o_move rfl) ?_
      refine l_gown (ks := []) (caps := #[]) (vs := [_]) rfl rfl (ent_of Try.func12 rfl rfl) rfl (fun w' hg _ => a_OfE w' (.slice a0 pc.length c0) pc (by have := hb.1; omega) hV (hr w' hg) hb.near) fun l hl => ?_
      refine l_val rfl (o_assign rfl) ?_
      refine l_nil ?_
      refine kt_norm ?_
      refine v_seq ?_
      refine v_region ?_
      refine l_val rfl (o_move rfl) ?_
      refine l_gown (ks := [35]) (caps := #[]) (vs := [_]) rfl rfl (ent_of Try.func12 rfl rfl) rfl (fun w' hg hh => a_OfE w' v3 pc.reverse (by rw [List.length_reverse]; have := hb.1; omega) (by rw [List.length_reverse]; exact hv3) (row_rev (rowAt_own (hh 35 (by simp) _ rfl))) (near_rev hb)) fun m hm => ?_
      refine l_val rfl (o_assign rfl) ?_
      refine l_nil ?_
      refine kt_norm ?_
      refine v_sel [0, 5, 6] [35, 37, 39] rfl rfl ?_
      refine v_seq ?_
      refine v_seq ?_
      refine v_region ?_
      refine l_val rfl (o_move rfl) ?_
      refine l_val rfl (o_len rfl hl) ?_
      refine l_val rfl (o_move rfl) ?_
      refine l_val rfl (o_len rfl hm) ?_
      have hlm := turned_len pc
      have hll : (edgesOf pc).length ≤ pc.length := edgesTo_len pc _
      refine l_split rfl (o_neq rfl rfl) (fun q2 => absurd q2 (by omega)) (fun q2 => ?_)
      refine l_val rfl (o_move rfl) ?_
      refine l_val rfl (o_move rfl) ?_
      refine l_val rfl (o_len rfl hl) ?_
      refine l_val rfl (o_move rfl) ?_
      refine l_val rfl (o_len rfl hV) ?_
      refine l_split rfl (o_gtr rfl rfl) (fun q3 => absurd q3 (by omega)) (fun q3 => ?_)
      refine l_val rfl (o_pickF rfl rfl) ?_
      refine l_nil ?_
      refine kt_norm ?_
      refine v_sel [5, 6, 51] [35, 37, 39] rfl rfl ?_
      refine v_condF rfl ?_
      refine v_skip ?_
      refine kt_norm ?_
      refine v_seq ?_
      refine v_seq ?_
      refine v_region ?_
      refine l_val rfl (o_assign rfl) ?_
      refine l_nil ?_
      refine kt_norm ?_
      refine v_block ?_
      refine v_loopS (α := Nat) (fun i => [(7, .int .i64 (i : Int))]) (fun i => [])  (fun i => i ≤ (edgesOf pc).length) (fun i => (edgesOf pc).length - i) 0 [5, 6] [35, 37, 39] (Nat.zero_le _)  (And.intro rfl (True.intro)) rfl (True.intro) rfl ?_
      rintro i hi
      refine v_seq ?_
      refine v_seq ?_
      refine v_region ?_
      refine l_val rfl (o_move rfl) ?_
      refine l_val rfl (o_move rfl) ?_
      refine l_val rfl (o_len rfl hl) ?_
      refine l_split rfl (o_lss rfl rfl) (fun q4 => ?_) (fun q4 => ?_)
      · have hil : i < (edgesOf pc).length := by omega
        refine l_nil ?_
        refine kt_norm ?_
        refine v_condT rfl ?_
        refine v_skip ?_
        refine kt_norm ?_
        refine v_seq ?_
        refine v_block ?_
        refine v_seq ?_
        refine v_region ?_
        refine l_val rfl (o_assign rfl) ?_
        refine l_nil ?_
        refine kt_norm ?_
        refine v_seq ?_
        refine v_region ?_
        refine l_val rfl (o_assign rfl) ?_
        refine l_nil ?_
        refine kt_norm ?_
        refine v_seq ?_
        refine v_seq ?_
        refine v_region ?_
        refine l_val rfl (o_assign rfl) ?_
        refine l_nil ?_
        refine kt_norm ?_
        refine v_block ?_
        refine v_loopS (α := Nat) (fun k => [(10, .int .i64 (k : Int)), (8, .int .i64 ((cntE (edgesOf pc) ((edgesOf pc).getD i dE) k : Nat) : Int)), (9, .int .i64 ((cntN (edgesOf pc.reverse) ((edgesOf pc).getD i dE) k : Nat) : Int))]) (fun k => [])  (fun k => k ≤ (edgesOf pc).length) (fun k => (edgesOf pc).length - k) 0 [7, 5, 6] [35, 37, 39] (Nat.zero_le _)  (And.intro rfl (And.intro rfl (And.intro rfl (True.intro)))) rfl (True.intro) rfl ?_
        rintro k hk
        refine v_seq ?_
        refine v_seq ?_
        refine v_region ?_
        refine l_val rfl (o_move rfl) ?_
        refine l_val rfl (o_move rfl) ?_
        refine l_val rfl (o_len rfl hl) ?_
        refine l_split rfl (o_lss rfl rfl) (fun q5 => ?_) (fun q5 => ?_)
        · have hkl : k < (edgesOf pc).length := by omega
          have hkm : k < (edgesOf pc.reverse).length := by omega
          have hB1 := cntE_le (edgesOf pc) ((edgesOf pc).getD i dE) k
          have hB2 := cntN_le (edgesOf pc.reverse) ((edgesOf pc).getD i dE) k
          have hu := unit_getD hkm
          refine l_nil ?_
          refine kt_norm ?_
          refine v_condT rfl ?_
          refine v_skip ?_
          refine kt_norm ?_
          refine v_seq ?_
          refine v_block ?_
          refine v_seq ?_
          refine v_seq ?_
          refine v_drawZ [[], [], [], [37], [], [], [], [37], []] mixed ?_ (by kernel_rfl) (by kernel_rfl)
          refine d_val (fun _ => rfl) rfl rfl (fun _ => o_move rfl) ?_
          refine d_val (fun _ => rfl) rfl rfl (fun _ => o_move rfl) ?_
          refine d_val (fun _ => rfl) rfl rfl (fun _ => o_idx (k) rfl hl rfl (by first | rfl | omega) (by omega)) ?_
          refine d_val (fun _ => rfl) rfl rfl (fun _ => o_loadRE (c' := [_, _, _, _, _, _, _]) rfl (row_own (key := 37) rfl) (el_flat eE_len dE (edgesOf pc) (k) (by omega)) rfl) ?_
          refine d_val (fun _ => rfl) rfl rfl (fun _ => o_move rfl) ?_
          refine d_val (fun _ => rfl) rfl rfl (fun _ => o_move rfl) ?_
          refine d_val (fun _ => rfl) rfl rfl (fun _ => o_idx (i) rfl hl rfl (by first | rfl | omega) (by omega)) ?_
          refine d_val (fun _ => rfl) rfl rfl (fun _ => o_loadRE (c' := [_, _, _, _, _, _, _]) rfl (row_own (key := 37) rfl) (el_flat eE_len dE (edgesOf pc) (i) (by omega)) rfl) ?_
          refine d_eqs (xl := [_, _, _, _, _, _, _]) (yl := [_, _, _, _, _, _, _]) (az := [_, _, _, _, _, _, _]) (bz := [_, _, _, _, _, _, _]) (fun _ => rfl) (fun _ => rfl) (fun _ => rfl) rfl rfl rfl rfl (fun h20 => ?_) (fun h20 => ?_)
          · simp only [List.map_cons, List.map_nil, List.cons.injEq, and_true] at h20
            refine d_nil (fun σ => ?_)
            refine l_nil ?_
            refine kt_norm ?_
            refine v_sel [10, 8, 9, 7, 5, 6, 72] [35, 37, 39] rfl rfl ?_
            refine v_condT rfl ?_
            refine v_region ?_
            refine l_val rfl (o_move rfl) ?_
            refine l_val rfl (o_addi rfl rfl ?_) ?_
            · omega
            refine l_val rfl (o_assign rfl) ?_
            refine l_nil ?_
            refine kt_norm ?_
            refine v_seq ?_
            refine v_region ?_
            refine l_val rfl (o_move rfl) ?_
            refine l_val rfl (o_move rfl) ?_
            refine l_val rfl (o_idx (k) rfl hm rfl (by first | rfl | omega) (by omega)) ?_
            refine l_val rfl (o_loadRE (c' := [_, _, _, _, _, _, _]) rfl (row_own (key := 39) rfl) (el_flat eE_len dE (edgesOf pc.reverse) (k) (by omega)) rfl) ?_
            refine l_new rfl o_alloc fun b11 => ?_
            refine l_store rfl (o_storeW (key := 11) (xs := [_, _, _, _, _, _, _]) rfl rfl rfl rfl rfl rfl rfl) ?_
            refine l_nil ?_
            refine kt_norm ?_
            refine v_sel [10, 8, 9, 7, 5, 6, 11] [11, 35, 37, 39] rfl rfl ?_
            refine v_seq ?_
            refine v_region ?_
            refine l_val rfl (o_fld rfl) ?_
            refine l_val rfl (o_load1 (key := 11) rfl rfl rfl) ?_
            refine l_val rfl (o_negi rfl ?_) ?_
            · omega
            refine l_val rfl (o_fld rfl) ?_
            refine l_store rfl (o_store1 (key := 11) (rs := [_, _, _, _, _, _, _]) rfl rfl rfl rfl rfl rfl rfl) ?_
            refine l_nil ?_
            refine kt_norm ?_
            refine v_seq ?_
            refine v_drawZ [[11], [], [], [], [37], []] mixed ?_ (by kernel_rfl) (by kernel_rfl)
            refine d_val (fun _ => rfl) rfl rfl (fun _ => o_loadW (key := 11) rfl rfl rfl) ?_
            refine d_val (fun _ => rfl) rfl rfl (fun _ => o_move rfl) ?_
            refine d_val (fun _ => rfl) rfl rfl (fun _ => o_move rfl) ?_
            refine d_val (fun _ => rfl) rfl rfl (fun _ => o_idx (i) rfl hl rfl (by first | rfl | omega) (by omega)) ?_
            refine d_val (fun _ => rfl) rfl rfl (fun _ => o_loadRE (c' := [_, _, _, _, _, _, _]) rfl (row_own (key := 37) rfl) (el_flat eE_len dE (edgesOf pc) (i) (by omega)) rfl) ?_
            refine d_eqs (xl := [_, _, _, _, _, _, _]) (yl := [_, _, _, _, _, _, _]) (az := [_, _, _, _, _, _, _]) (bz := [_, _, _, _, _, _, _]) (fun _ => rfl) (fun _ => rfl) (fun _ => rfl) rfl rfl rfl rfl (fun h24 => ?_) (fun h24 => ?_)
            · simp only [List.map_cons, List.map_nil, List.cons.injEq, and_true] at h24
              refine d_nil (fun σ => ?_)
              refine l_nil ?_
              refine kt_norm ?_
              refine v_sel [10, 8, 9, 7, 5, 6, 88] [35, 37, 39] rfl rfl ?_
              refine v_condT rfl ?_
              refine v_region ?_
              refine l_val rfl (o_move rfl) ?_
              refine l_val rfl (o_addi rfl rfl ?_) ?_
              · omega
              refine l_val rfl (o_assign rfl) ?_
              refine l_nil ?_
              refine kb_norm ?_
              refine kt_norm ?_
              refine v_region ?_
              refine l_val rfl (o_move rfl) ?_
              refine l_val rfl (o_addi rfl rfl ?_) ?_
              · omega
              refine l_val rfl (o_assign rfl) ?_
              refine l_nil ?_
              refine kt_norm ?_
              refine ⟨k + 1, hkl, by omega, le_app (And.intro rfl (And.intro (congrArg (fun q => some (Value.int .i64 q)) (cntE_yes hkl (edge_ext h20))) (And.intro (congrArg (fun q => some (Value.int .i64 q)) (cntN_yes hkm (edge_ext (e := negE _) h24))) (True.intro)))) [7, 5, 6] rfl (True.intro) [35, 37, 39] rfl⟩
            · simp only [List.map_cons, List.map_nil, List.cons.injEq, and_true] at h24
              refine d_nil (fun σ => ?_)
              refine l_nil ?_
              refine kt_norm ?_
              refine v_sel [10, 8, 9, 7, 5, 6, 88] [35, 37, 39] rfl rfl ?_
              refine v_condF rfl ?_
              refine v_skip ?_
              refine kb_norm ?_
              refine kt_norm ?_
              refine v_region ?_
              refine l_val rfl (o_move rfl) ?_
              refine l_val rfl (o_addi rfl rfl ?_) ?_
              · omega
              refine l_val rfl (o_assign rfl) ?_
              refine l_nil ?_
              refine kt_norm ?_
              refine ⟨k + 1, hkl, by omega, le_app (And.intro rfl (And.intro (congrArg (fun q => some (Value.int .i64 q)) (cntE_yes hkl (edge_ext h20))) (And.intro (congrArg (fun q => some (Value.int .i64 q)) (cntN_no hkm (fun q => h24 (by rw [← q]; exact ⟨rfl, rfl, rfl, rfl, rfl, rfl, rfl⟩)))) (True.intro)))) [7, 5, 6] rfl (True.intro) [35, 37, 39] rfl⟩
          · simp only [List.map_cons, List.map_nil, List.cons.injEq, and_true] at h20
            refine d_nil (fun σ => ?_)
            refine l_nil ?_
            refine kt_norm ?_
            refine v_sel [10, 8, 9, 7, 5, 6, 72] [35, 37, 39] rfl rfl ?_
            refine v_condF rfl ?_
            refine v_skip ?_
            refine kt_norm ?_
            refine v_seq ?_
            refine v_region ?_
            refine l_val rfl (o_move rfl) ?_
            refine l_val rfl (o_move rfl) ?_
            refine l_val rfl (o_idx (k) rfl hm rfl (by first | rfl | omega) (by omega)) ?_
            refine l_val rfl (o_loadRE (c' := [_, _, _, _, _, _, _]) rfl (row_own (key := 39) rfl) (el_flat eE_len dE (edgesOf pc.reverse) (k) (by omega)) rfl) ?_
            refine l_new rfl o_alloc fun b11 => ?_
            refine l_store rfl (o_storeW (key := 11) (xs := [_, _, _, _, _, _, _]) rfl rfl rfl rfl rfl rfl rfl) ?_
            refine l_nil ?_
            refine kt_norm ?_
            refine v_seq ?_
            refine v_region ?_
            refine l_val rfl (o_fld rfl) ?_
            refine l_val rfl (o_load1 (key := 11) rfl rfl rfl) ?_
            refine l_val rfl (o_negi rfl ?_) ?_
            · omega
            refine l_val rfl (o_fld rfl) ?_
            refine l_store rfl (o_store1 (key := 11) (rs := [_, _, _, _, _, _, _]) rfl rfl rfl rfl rfl rfl rfl) ?_
            refine l_nil ?_
            refine kt_norm ?_
            refine v_sel [10, 8, 9, 7, 5, 6, 11] [11, 35, 37, 39] rfl rfl ?_
            refine v_seq ?_
            refine v_drawZ [[11], [], [], [], [37], []] mixed ?_ (by kernel_rfl) (by kernel_rfl)
            refine d_val (fun _ => rfl) rfl rfl (fun _ => o_loadW (key := 11) rfl rfl rfl) ?_
            refine d_val (fun _ => rfl) rfl rfl (fun _ => o_move rfl) ?_
            refine d_val (fun _ => rfl) rfl rfl (fun _ => o_move rfl) ?_
            refine d_val (fun _ => rfl) rfl rfl (fun _ => o_idx (i) rfl hl rfl (by first | rfl | omega) (by omega)) ?_
            refine d_val (fun _ => rfl) rfl rfl (fun _ => o_loadRE (c' := [_, _, _, _, _, _, _]) rfl (row_own (key := 37) rfl) (el_flat eE_len dE (edgesOf pc) (i) (by omega)) rfl) ?_
            refine d_eqs (xl := [_, _, _, _, _, _, _]) (yl := [_, _, _, _, _, _, _]) (az := [_, _, _, _, _, _, _]) (bz := [_, _, _, _, _, _, _]) (fun _ => rfl) (fun _ => rfl) (fun _ => rfl) rfl rfl rfl rfl (fun h24 => ?_) (fun h24 => ?_)
            · simp only [List.map_cons, List.map_nil, List.cons.injEq, and_true] at h24
              refine d_nil (fun σ => ?_)
              refine l_nil ?_
              refine kt_norm ?_
              refine v_sel [10, 8, 9, 7, 5, 6, 88] [35, 37, 39] rfl rfl ?_
              refine v_condT rfl ?_
              refine v_region ?_
              refine l_val rfl (o_move rfl) ?_
              refine l_val rfl (o_addi rfl rfl ?_) ?_
              · omega
              refine l_val rfl (o_assign rfl) ?_
              refine l_nil ?_
              refine kb_norm ?_
              refine kt_norm ?_
              refine v_region ?_
              refine l_val rfl (o_move rfl) ?_
              refine l_val rfl (o_addi rfl rfl ?_) ?_
              · omega
              refine l_val rfl (o_assign rfl) ?_
              refine l_nil ?_
              refine kt_norm ?_
              refine ⟨k + 1, hkl, by omega, le_app (And.intro rfl (And.intro (congrArg (fun q => some (Value.int .i64 q)) (cntE_no hkl (fun q => h20 (by rw [q]; exact ⟨rfl, rfl, rfl, rfl, rfl, rfl, rfl⟩)))) (And.intro (congrArg (fun q => some (Value.int .i64 q)) (cntN_yes hkm (edge_ext (e := negE _) h24))) (True.intro)))) [7, 5, 6] rfl (True.intro) [35, 37, 39] rfl⟩
            · simp only [List.map_cons, List.map_nil, List.cons.injEq, and_true] at h24
              refine d_nil (fun σ => ?_)
              refine l_nil ?_
              refine kt_norm ?_
              refine v_sel [10, 8, 9, 7, 5, 6, 88] [35, 37, 39] rfl rfl ?_
              refine v_condF rfl ?_
              refine v_skip ?_
              refine kb_norm ?_
              refine kt_norm ?_
              refine v_region ?_
              refine l_val rfl (o_move rfl) ?_
              refine l_val rfl (o_addi rfl rfl ?_) ?_
              · omega
              refine l_val rfl (o_assign rfl) ?_
              refine l_nil ?_
              refine kt_norm ?_
              refine ⟨k + 1, hkl, by omega, le_app (And.intro rfl (And.intro (congrArg (fun q => some (Value.int .i64 q)) (cntE_no hkl (fun q => h20 (by rw [q]; exact ⟨rfl, rfl, rfl, rfl, rfl, rfl, rfl⟩)))) (And.intro (congrArg (fun q => some (Value.int .i64 q)) (cntN_no hkm (fun q => h24 (by rw [← q]; exact ⟨rfl, rfl, rfl, rfl, rfl, rfl, rfl⟩)))) (True.intro)))) [7, 5, 6] rfl (True.intro) [35, 37, 39] rfl⟩
        · skip
          refine l_nil ?_
          refine kt_norm ?_
          refine v_condF rfl ?_
          refine v_exit ?_
          refine kt_exit ?_
          refine kt_exit ?_
          refine kb_eq ?_
          refine kt_norm ?_
          refine v_seq ?_
          refine v_region ?_
          refine l_val rfl (o_move rfl) ?_
          refine l_val rfl (o_move rfl) ?_
          have hcc := turned_cnt pc ((edgesOf pc).getD i dE) (k := k) (by omega)
          refine l_split rfl (o_neq rfl rfl) (fun q6 => absurd q6 (by omega)) (fun q6 => ?_)
          refine l_nil ?_
          refine kt_norm ?_
          refine v_sel [7, 5, 6, 93] [35, 37, 39] rfl rfl ?_
          refine v_condF rfl ?_
          refine v_skip ?_
          refine kb_norm ?_
          refine kt_norm ?_
          refine v_region ?_
          refine l_val rfl (o_move rfl) ?_
          refine l_val rfl (o_addi rfl rfl ?_) ?_
          · omega
          refine l_val rfl (o_assign rfl) ?_
          refine l_nil ?_
          refine kt_norm ?_
          refine ⟨i + 1, hil, by omega, le_app (And.intro rfl (True.intro)) [5, 6] rfl (True.intro) [35, 37, 39] rfl⟩
      · skip
        refine l_nil ?_
        refine kt_norm ?_
        refine v_condF rfl ?_
        refine v_exit ?_
        refine kt_exit ?_
        refine kt_exit ?_
        refine kb_eq ?_
        refine kt_norm ?_
        refine v_sel [] [35] rfl rfl ?_
        refine v_seq ?_
        refine v_region ?_
        refine l_val rfl (o_assign rfl) ?_
        refine l_nil ?_
        refine kt_norm ?_
        refine v_ret ?_
        refine ⟨[_], .cons (.tmp rfl) (ResAll.nil), ?_⟩
        rfl
  · skip
    refine l_val rfl (o_not rfl rfl) ?_
    refine l_val rfl (o_move rfl) ?_
    refine l_no rfl ?_
    refine l_no rfl ?_
    refine l_val rfl (o_pickT rfl rfl) ?_
    refine l_nil ?_
    refine kt_norm ?_
    refine v_sel [0, 19] [] rfl rfl ?_
    refine v_condT rfl ?_
    refine v_seq ?_
    refine v_region ?_
    refine l_ans (vs := []) rfl rfl (a_shown) ?_
    refine l_val rfl (o_assign rfl) ?_
    refine l_nil ?_
    refine kt_norm ?_
    refine v_ret ?_
    refine kt_ret ?_
    refine ⟨[_], .cons (.tmp rfl) (ResAll.nil), ?_⟩
    rfl
end Go.Proofs.Ytegfonghlpbgdaa
