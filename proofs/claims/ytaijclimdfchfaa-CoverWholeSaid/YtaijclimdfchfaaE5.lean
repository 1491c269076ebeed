import Derived.Test.YtaijclimdfchfaaE4
/- The edges of pieces, one by one; the edges of a piece. Conditions: none. -/
namespace Go.Proofs.Ytaijclimdfchfaa
open Go.Proofs Go.RowKit Go.Shelf

/-- the edge that leaves the j-th point -/
def edgesAt (pc : List PtT) (j : Nat) : List EdgeT := if (edgeOf (pc.getD j dP) (pc.getD ((j + 1) % pc.length) dP)).fr < (edgeOf (pc.getD j dP) (pc.getD ((j + 1) % pc.length) dP)).to then [edgeOf (pc.getD j dP) (pc.getD ((j + 1) % pc.length) dP)] else []
def edgesTo (pc : List PtT) (j : Nat) : List EdgeT := (List.range j).flatMap (edgesAt pc)
def edgesOf (pc : List PtT) : List EdgeT := edgesTo pc pc.length
def edgesAll (ps : List (List PtT)) : List EdgeT := ps.flatMap edgesOf
theorem edgesTo_succ (pc : List PtT) (j : Nat) : edgesTo pc (j + 1) = edgesTo pc j ++ edgesAt pc j := by
  unfold edgesTo; rw [List.range_succ, List.flatMap_append]; simp
theorem edgesAt_yes {pc : List PtT} {j : Nat} (h : (edgeOf (pc.getD j dP) (pc.getD ((j + 1) % pc.length) dP)).fr < (edgeOf (pc.getD j dP) (pc.getD ((j + 1) % pc.length) dP)).to) : edgesAt pc j = [edgeOf (pc.getD j dP) (pc.getD ((j + 1) % pc.length) dP)] := if_pos h
theorem edgesAt_no {pc : List PtT} {j : Nat} (h : ¬ (edgeOf (pc.getD j dP) (pc.getD ((j + 1) % pc.length) dP)).fr < (edgeOf (pc.getD j dP) (pc.getD ((j + 1) % pc.length) dP)).to) : edgesAt pc j = [] := if_neg h
theorem edgesTo_split (pc : List PtT) {j n : Nat} (h : j ≤ n) : ∃ r, edgesTo pc n = edgesTo pc j ++ r := by
  induction n with
  | zero =>
    obtain rfl : j = 0 := by omega
    exact ⟨[], by simp⟩
  | succ n ih =>
    by_cases e : j = n + 1
    · exact ⟨[], by rw [e]; simp⟩
    · obtain ⟨r, hr⟩ := ih (by omega)
      exact ⟨r ++ edgesAt pc n, by rw [edgesTo_succ, hr, List.append_assoc]⟩
theorem edgesTo_len (pc : List PtT) (j : Nat) : (edgesTo pc j).length ≤ j := by
  induction j with
  | zero => exact Nat.le_refl 0
  | succ j ih =>
    rw [edgesTo_succ, List.length_append]
    have : (edgesAt pc j).length ≤ 1 := by unfold edgesAt; split <;> simp
    omega
theorem all_take_succ {ps : List (List PtT)} {i : Nat} (hi : i < ps.length) : edgesAll (ps.take (i + 1)) = edgesAll (ps.take i) ++ edgesOf (ps.getD i []) := by
  unfold edgesAll
  rw [List.take_add_one, List.getElem?_eq_getElem hi, List.flatMap_append, List.getD_eq_getElem?_getD, List.getElem?_eq_getElem hi]
  simp
/-- the edge that is handed on -/
theorem edgesAll_get {ps : List (List PtT)} {i j : Nat} {e : EdgeT} (hi : i < ps.length) (hj : j < (ps.getD i []).length) (he : edgesAt (ps.getD i []) j = [e]) : (edgesAll ps)[(edgesAll (ps.take i) ++ edgesTo (ps.getD i []) j).length]? = some e := by
  have h1 : edgesAll ps = edgesAll (ps.take (i + 1)) ++ edgesAll (ps.drop (i + 1)) := by
    unfold edgesAll; rw [← List.flatMap_append, List.take_append_drop]
  obtain ⟨r, hr⟩ := edgesTo_split (ps.getD i []) (j := j + 1) (n := (ps.getD i []).length) (by omega)
  rw [h1, all_take_succ hi, edgesOf, hr, edgesTo_succ, he]
  simp only [List.append_assoc]
  rw [← List.append_assoc (edgesAll _), List.getElem?_append_right (Nat.le_refl _), Nat.sub_self]
  rfl
theorem near_getD {pc : List PtT} (h : ∀ p ∈ pc, NearT p) {j : Nat} (hj : j < pc.length) : NearT (pc.getD j dP) := by
  rw [List.getD_eq_getElem?_getD, List.getElem?_eq_getElem hj]; exact h _ (List.getElem_mem hj)
/-- pieces that lie in memory: what is said of them whatever the world -/
structure PcsV (v : Value) (pvs : List Value) (ps : List (List PtT)) : Prop where
  V : RowV v ps.length
  lenv : pvs.length = ps.length
  len : ps.length ≤ 1099511627776
  pV : ∀ i, i < ps.length → RowV (pvs.getD i undef) (ps.getD i []).length
  short : ∀ i, i < ps.length → (ps.getD i []).length ≤ 1099511627776
  near : ∀ i, i < ps.length → ∀ p ∈ ps.getD i [], NearT p
structure PcsAt (w : World) (v : Value) (pvs : List Value) (ps : List (List PtT)) : Prop where
  row : RowAt w v 1 ps.length pvs
  pc : ∀ i, i < ps.length → RowAt w (pvs.getD i undef) 2 (ps.getD i []).length ((ps.getD i []).flatMap eP)
theorem PcsAt.keep {w w' : World} {v : Value} {pvs : List Value} {ps : List (List PtT)} (h : PcsAt w v pvs ps) (hc : Chg (fun _ => False) w w') : PcsAt w' v pvs ps := ⟨h.row.chg hc (fun h => h), fun i hi => (h.pc i hi).chg hc (fun h => h)⟩

theorem a_edges (w : World) (a : Option Addr) (n c : Nat) : Calls Try.prog 54 #[.slice a n c] w fun e w' => ∃ b, e = .returned (.func (.func 75) #[] #[.pointer (some ⟨b, 0, none⟩)]) ∧ Below w.heap.size w w' ∧ Blk w' b #[.slice a n c] 22 ∧ w.heap.size ≤ b := by
  refine calls_box (args := [.slice a n c]) (X := fun b => .func (.func 75) #[] #[.pointer (some ⟨b, 0, none⟩)]) (cs := [.slice a n c]) Try.func54 rfl Try.ntmps54 Try.results54 rfl ?_
  refine v_seq ?_
  refine v_region ?_
  refine l_new rfl (o_box (cs := [_]) rfl rfl) fun b1 => ?_
  refine l_val rfl (o_assign rfl) ?_
  refine l_nil ?_
  refine kt_norm ?_
  refine v_seq ?_
  refine v_region ?_
  refine l_val rfl (o_makeFunc (vs := [_]) rfl) ?_
  refine l_val rfl (o_assign rfl) ?_
  refine l_nil ?_
  refine kt_norm ?_
  refine v_ret ?_
  refine ⟨[_], .cons (.tmp rfl) (ResAll.nil), ?_⟩
  exact ⟨1, b1, rfl, rfl⟩
theorem a_edges1 (b : Nat) (v : Value) (pvs : List Value) (ps : List (List PtT)) (hv : PcsV v pvs ps) : Iter Try.prog 75 #[.pointer (some ⟨b, 0, none⟩)] (fun e : EdgeT => [.agg (eE e).toArray]) (edgesAll ps) (fun w => Blk w b #[v] 22 ∧ PcsAt w v pvs ps) := by
  intro lp J Jx O0 W hJ hJx hJG hround hJ0
  have gst : ∀ {w w' : World}, Blk w b #[v] 22 ∧ PcsAt w v pvs ps → Chg (fun _ => False) w w' → Blk w' b #[v] 22 ∧ PcsAt w' v pvs ps := fun h hc => ⟨(hc.block b (Blk.lt h.1) (fun h => h)).trans h.1, h.2.keep hc⟩
  have hG0 := (hJG _ _ _ hJ0).1
  have hVp := hv.V
  refine enterI (A := fun W' => (∃ O', J (edgesAll ps).length O' W') ∨ Jx W') (args := [.func (.yield lp) #[] #[], .pointer (some ⟨b, 0, none⟩)]) Try.func75 rfl Try.ntmps75 Try.results75 rfl (fun w w' h hc => h.imp (fun ⟨O, h⟩ => ⟨O, hJ _ _ _ _ h hc⟩) (fun h => hJx _ _ h hc)) ?_
  refine v_seq ?_
  refine v_region ?_
  refine l_val rfl (o_loadG1 rfl (fun w hg => (gst hG0 hg).1.cell 0 _ rfl)) ?_
  refine l_val rfl (o_len rfl hVp) ?_
  refine l_val rfl (o_move rfl) ?_
  refine l_nil ?_
  refine kt_norm ?_
  refine v_block ?_
  refine v_loopL (α := Nat × World) (fun ⟨i, W1⟩ => [(11, .int .i64 (i : Int))]) (fun ⟨i, W1⟩ => []) (fun ⟨i, W1⟩ => fun w => Chg (fun _ => False) W1 w) (fun ⟨i, W1⟩ => fun b => b < W1.heap.size) (fun ⟨i, W1⟩ => i ≤ ps.length ∧ ∃ O1, J (edgesAll (ps.take i)).length O1 W1) (fun ⟨i, W1⟩ => ps.length - i) (0, W) [0, 9, 10] [] ⟨Nat.zero_le _, O0, hJ0⟩ rfl rfl (And.intro rfl (True.intro)) rfl (True.intro) rfl ?_
  rintro ⟨i, W1⟩ ⟨hi, O1, hJ1⟩
  have hrowP := fun w hg => (gst (hJG _ _ _ hJ1).1 (w' := w) hg).2.row
  have hlen := hv.len
  refine v_seq ?_
  refine v_region ?_
  refine l_split rfl (o_lss rfl rfl) (fun q1 => ?_) (fun q1 => ?_)
  · have hil : i < ps.length := by omega
    obtain ⟨pc, hpc⟩ : ∃ pc, ps.getD i [] = pc := ⟨_, rfl⟩
    have hVq := hv.pV i hil
    have hnear := hv.near i hil
    have hshort := hv.short i hil
    rw [hpc] at hVq hnear hshort
    refine l_nil ?_
    refine kt_norm ?_
    refine v_seq ?_
    refine v_condT rfl ?_
    refine v_skip ?_
    refine kt_norm ?_
    refine v_seq ?_
    refine v_block ?_
    refine v_seq ?_
    refine v_region ?_
    refine l_val rfl (o_idx (i) rfl hVp rfl (by first | rfl | omega) (by omega)) ?_
    refine l_val rfl (o_loadR1 rfl (row_imm hrowP) (el_one (by rw [hv.lenv]; exact hil))) ?_
    refine l_val rfl (o_assign rfl) ?_
    refine l_nil ?_
    refine kt_norm ?_
    refine v_seq ?_
    refine v_region ?_
    refine l_val rfl (o_move rfl) ?_
    refine l_val rfl (o_len rfl hVq) ?_
    refine l_val rfl (o_move rfl) ?_
    refine l_nil ?_
    refine kt_norm ?_
    refine v_block ?_
    refine v_loopL (α := Nat × World) (fun ⟨j, W2⟩ => [(17, .int .i64 (j : Int))]) (fun ⟨j, W2⟩ => []) (fun ⟨j, W2⟩ => fun w => Chg (fun _ => False) W2 w) (fun ⟨j, W2⟩ => fun b => b < W2.heap.size) (fun ⟨j, W2⟩ => j ≤ pc.length ∧ ∃ O2, J (edgesAll (ps.take i) ++ edgesTo pc j).length O2 W2) (fun ⟨j, W2⟩ => pc.length - j) (0, W1) [11, 0, 9, 10, 4, 15, 16] [] ⟨Nat.zero_le _, O1, by show J (edgesAll (ps.take i) ++ []).length O1 W1; rw [List.append_nil]; exact hJ1⟩ rfl rfl (And.intro rfl (True.intro)) rfl (True.intro) rfl ?_
    rintro ⟨j, W2⟩ ⟨hj, O2, hJ2⟩
    have hrowQ := fun w hg => (gst (hJG _ _ _ hJ2).1 (w' := w) hg).2.pc i hil
    rw [hpc] at hrowQ
    refine v_seq ?_
    refine v_region ?_
    refine l_split rfl (o_lss rfl rfl) (fun q2 => ?_) (fun q2 => ?_)
    · have hjl : j < pc.length := by omega
      refine l_nil ?_
      refine kt_norm ?_
      refine v_seq ?_
      refine v_condT rfl ?_
      refine v_skip ?_
      refine kt_norm ?_
      refine v_seq ?_
      refine v_block ?_
      refine v_seq ?_
      refine v_region ?_
      refine l_val rfl (o_move rfl) ?_
      refine l_val rfl (o_idx (j) rfl hVq rfl (by first | rfl | omega) (by omega)) ?_
      refine l_val rfl (o_loadRE (c' := [_, _]) rfl (row_imm hrowQ) (el_flat eP_len dP pc (j) (by omega)) rfl) ?_
      refine l_new rfl o_alloc fun b6 => ?_
      refine l_val rfl (o_assign rfl) ?_
      refine l_store rfl (o_storeW (key := 6) (xs := [_, _]) rfl rfl rfl rfl rfl rfl rfl) ?_
      refine l_nil ?_
      refine kt_norm ?_
      refine v_seq ?_
      refine v_drawZ [[6], [], [], [], [], [], [], [], [], [], [], [], [], [], [7], []] mixed ?_ (by kernel_rfl) (by kernel_rfl)
      refine d_val (fun _ => rfl) rfl rfl (fun _ => o_loadW (key := 6) rfl rfl rfl) ?_
      refine d_val (fun _ => rfl) rfl rfl (fun _ => o_move rfl) ?_
      refine d_val (fun _ => rfl) rfl rfl (fun _ => o_move rfl) ?_
      refine d_val (fun _ => rfl) rfl rfl (fun _ => o_addi rfl rfl ?_) ?_
      · omega
      refine d_val (fun _ => rfl) rfl rfl (fun _ => o_move rfl) ?_
      refine d_val (fun _ => rfl) rfl rfl (fun _ => o_len rfl hVq) ?_
      refine d_val (fun _ => rfl) rfl rfl (fun _ => o_remn rfl rfl ?_) ?_
      · omega
      refine d_val (fun _ => rfl) rfl rfl (fun _ => o_idx ((j + 1) % pc.length) rfl hVq rfl (by first | rfl | omega) (Nat.mod_lt _ (by omega))) ?_
      refine d_val (fun _ => rfl) rfl rfl (fun _ => o_loadRE (c' := [_, _]) rfl (row_imm hrowQ) (el_flat eP_len dP pc ((j + 1) % pc.length) (Nat.mod_lt _ (by omega))) rfl) ?_
      refine d_ans (vs := [_, _]) (fun _ => rfl) (fun _ => rfl) (a_edge (pc.getD j dP) (pc.getD ((j + 1) % pc.length) dP) (near_getD hnear hjl) (near_getD hnear (Nat.mod_lt _ (by omega)))) ?_
      refine d_val (fun _ => rfl) rfl rfl (fun _ => o_move rfl) ?_
      refine d_val (fun _ => rfl) rfl rfl (fun _ => o_extract rfl rfl) ?_
      refine d_val (fun _ => rfl) rfl rfl (fun _ => o_extract rfl rfl) ?_
      refine d_new (fun _ => rfl) rfl rfl (fun _ => o_alloc) ?_
      refine d_store (fun _ => rfl) rfl rfl (fun _ => o_storeW (key := 7) (xs := [_, _, _, _, _, _, _]) rfl rfl rfl rfl rfl rfl rfl) ?_
      refine d_val (fun _ => rfl) rfl rfl (fun _ => o_assign rfl) ?_
      refine d_nil (fun σ => ?_)
      refine l_nil ?_
      refine kt_norm ?_
      refine v_sel [17, 11, 0, 9, 10, 4, 15, 16, 7, 8] [7] rfl rfl ?_
      refine v_seq ?_
      refine v_region ?_
      refine l_val rfl (o_move rfl) ?_
      refine l_val rfl (o_move rfl) ?_
      refine lz_bool (fun hgo => ?_) (fun hgo => ?_)
      · skip
        refine l_val rfl (o_move rfl) ?_
        refine l_val rfl (o_loadW (key := 7) rfl rfl rfl) ?_
        have he := edgesAt_yes hgo
        refine l_yield (k := 0) (vs := [_]) (A := fun W3 => ∃ O3, J ((edgesAll (ps.take i) ++ edgesTo pc j).length + 1) O3 W3) (B := Jx) rfl rfl (fun _ => trivial) (fun h => h) rfl rfl rfl (fun w hg => ⟨O2, yieldAt_mono (hround _ _ O2 w (by rw [← hpc] at he ⊢; exact edgesAll_get hil (by rw [hpc]; exact hjl) he) (hJ _ _ _ _ hJ2 hg)) (fun e w' h => h.imp (fun h => ⟨h.1, h.2.1, h.2.2.imp fun O h => h.1⟩) id)⟩) (fun W3 hA => ?_) (fun W3 hB => ?_)
        · obtain ⟨O3, hJ3⟩ := hA
          refine l_val rfl (o_not rfl rfl) ?_
          refine l_val rfl (o_pickT rfl rfl) ?_
          refine l_nil ?_
          refine kt_norm ?_
          refine v_condF rfl ?_
          refine v_skip ?_
          refine kb_norm ?_
          refine kt_norm ?_
          refine v_region ?_
          refine l_val rfl (o_addi rfl rfl ?_) ?_
          · omega
          refine l_val rfl (o_move rfl) ?_
          refine l_nil ?_
          refine kt_norm ?_
          refine ⟨(j + 1, W3), ⟨hjl, O3, by rw [edgesTo_succ, he, ← List.append_assoc, List.length_append]; exact hJ3⟩, (by show pc.length - (j + 1) < pc.length - j; omega), le_app (And.intro rfl (True.intro)) [11, 0, 9, 10, 4, 15, 16] rfl (True.intro) [] rfl⟩
        · skip
          refine l_val rfl (o_not rfl rfl) ?_
          refine l_val rfl (o_pickT rfl rfl) ?_
          refine l_nil ?_
          refine kt_norm ?_
          refine v_condT rfl ?_
          refine v_ret ?_
          refine kb_ret ?_
          refine kt_ret ?_
          refine kt_ret ?_
          refine kb_ret ?_
          refine kb_ret ?_
          refine kt_ret ?_
          refine kt_ret ?_
          refine kb_ret ?_
          refine ⟨[], ResAll.nil, ?_⟩
          first
            | exact ⟨rfl, fun w hg => .inr (hJx _ _ hB hg)⟩
            | exact ⟨rfl, fun w hg => .inl ⟨O1, hJ _ _ _ _ (by have e : ps.take i = ps := List.take_of_length_le (by omega); rw [e] at hJ1; exact hJ1) hg⟩⟩
      · skip
        refine l_no rfl ?_
        refine l_no rfl ?_
        refine l_no rfl ?_
        refine l_no rfl ?_
        refine l_val rfl (o_pickF rfl rfl) ?_
        refine l_nil ?_
        refine kt_norm ?_
        refine v_condF rfl ?_
        refine v_skip ?_
        refine kb_norm ?_
        refine kt_norm ?_
        refine v_region ?_
        refine l_val rfl (o_addi rfl rfl ?_) ?_
        · omega
        refine l_val rfl (o_move rfl) ?_
        refine l_nil ?_
        refine kt_norm ?_
        refine ⟨(j + 1, W2), ⟨hjl, O2, by rw [edgesTo_succ, edgesAt_no hgo, List.append_nil]; exact hJ2⟩, (by show pc.length - (j + 1) < pc.length - j; omega), le_app (And.intro rfl (True.intro)) [11, 0, 9, 10, 4, 15, 16] rfl (True.intro) [] rfl⟩
    · skip
      refine l_nil ?_
      refine kt_norm ?_
      refine v_seq ?_
      refine v_condF rfl ?_
      refine v_exit ?_
      refine kt_exit ?_
      refine kt_exit ?_
      refine kb_eq ?_
      refine kb_norm ?_
      refine kt_norm ?_
      refine v_region ?_
      refine l_val rfl (o_addi rfl rfl ?_) ?_
      · omega
      refine l_val rfl (o_move rfl) ?_
      refine l_nil ?_
      refine kt_norm ?_
      refine ⟨(i + 1, W2), ⟨hil, O2, by rw [all_take_succ hil, hpc, edgesOf, ← (show j = pc.length by omega)]; exact hJ2⟩, (by show ps.length - (i + 1) < ps.length - i; omega), le_app (And.intro rfl (True.intro)) [0, 9, 10] rfl (True.intro) [] rfl⟩
  · skip
    refine l_nil ?_
    refine kt_norm ?_
    refine v_seq ?_
    refine v_condF rfl ?_
    refine v_exit ?_
    refine kt_exit ?_
    refine kt_exit ?_
    refine kb_eq ?_
    refine ⟨[], ResAll.nil, ?_⟩
    first
      | exact ⟨rfl, fun w hg => .inr (hJx _ _ hB hg)⟩
      | exact ⟨rfl, fun w hg => .inl ⟨O1, hJ _ _ _ _ (by have e : ps.take i = ps := List.take_of_length_le (by omega); rw [e] at hJ1; exact hJ1) hg⟩⟩
theorem pcsV_one {v pv : Value} {pc : List PtT} (h : RowV v 1) (hV : RowV pv pc.length) (hs : pc.length ≤ 1000000) (hn : ∀ p ∈ pc, NearT p) : PcsV v [pv] [pc] :=
  ⟨h, rfl, (show 1 ≤ 1099511627776 by omega), fun i hi => by (obtain rfl : i = 0 := by simpa using hi); exact hV, fun i hi => by (obtain rfl : i = 0 := by simpa using hi); show pc.length ≤ _; omega, fun i hi => by (obtain rfl : i = 0 := by simpa using hi); exact hn⟩
theorem edgesAll_one (pc : List PtT) : edgesAll [pc] = edgesOf pc := by simp [edgesAll]
theorem edgesAll_one_len (pc : List PtT) : (edgesAll [pc]).length ≤ pc.length := by rw [edgesAll_one]; exact edgesTo_len pc _
theorem a_OfE (w : World) (pv : Value) (pc : List PtT) (hs : pc.length ≤ 1000000) (hV : RowV pv pc.length) (hrow : RowAt w pv 2 pc.length (pc.flatMap eP)) (hnear : ∀ p ∈ pc, NearT p) :
    Calls Try.prog 32 #[pv] w fun e w' => ∃ y, e = .returned y ∧ Below w.heap.size w w' ∧ OwnAt w.heap.size w' y 90 7 (edgesOf pc).length ((edgesOf pc).flatMap eE) := by
  have hr : ∀ w', Chg (fun _ => False) w w' → RowAt w' pv 2 pc.length (pc.flatMap eP) := fun w' h => hrow.chg h (fun h => h)
  rw [← edgesAll_one]
  obtain ⟨a0, n0, c0, e0⟩ : ∃ a n c, pv = .slice a n c := by (obtain ⟨a, c, h⟩ := hV.sl); exact ⟨a, _, c, h⟩
  obtain ⟨pv', e1⟩ : ∃ pv', pv' = Value.slice a0 n0 c0 := ⟨_, rfl⟩
  subst e0
  clear e1 pv'
  refine calls_own (args := [.slice a0 n0 c0]) Try.func32 rfl Try.ntmps32 Try.results32 rfl ?_
  refine v_seq ?_
  refine v_region ?_
  refine l_new rfl o_alloc fun b2 => ?_
  refine l_nil ?_
  refine kt_norm ?_
  refine v_seq ?_
  refine v_seq ?_
  refine v_region ?_
  refine l_val rfl (o_move rfl) ?_
  refine l_buildSlice (vs := [_]) (cs := [_]) rfl rfl rfl rfl rfl rfl fun v5 hv5 => ?_
  obtain ⟨a5, n5, c5, rfl⟩ : ∃ a n c, v5 = .slice a n c := by (obtain ⟨a, c, h⟩ := hv5.sl); exact ⟨a, _, c, h⟩
  refine l_gbox (ks := []) (caps := #[]) (vs := [_]) (T := 22) (cs := [_]) rfl rfl (ent_of Try.func54 rfl rfl) rfl (fun w' _ _ => a_edges w' a5 n5 c5) fun b6 => ?_
  refine l_nil ?_
  refine kt_norm ?_
  refine v_block ?_
  refine v_freeze 6 [2, 5] rfl rfl rfl ?_
  refine v_freeze 5 [2] rfl rfl rfl ?_
  refine v_ghost 11 90 7 ?_
  refine v_range (τ := Value × List EdgeT) rfl rfl rfl (ent_of Try.func75 rfl rfl) (a_edges1 b6 (.slice a5 n5 c5) [.slice a0 n0 c0] [pc] (pcsV_one hv5 hV hs hnear)) (fun w' hg => ⟨hg.1.2, (rowAt_own hg.2), fun i hi => by (obtain rfl : i = 0 := by simpa using hi); exact hr w' hg.1.1⟩) (fun _ => rfl) (fun t => [(2, .box b2 28 [t.1]), (11, .own t.1 90 7 t.2.length (t.2.flatMap eE))]) (fun k t => t.2 = (edgesAll [pc]).take k ∧ RowV t.1 t.2.length) (.slice none 0 0, []) ⟨rfl, .nil0⟩ [2, 11] rfl ?_ ?_
  · rintro k x ⟨va, es⟩ lp W1 Wa hx ⟨hes, hva⟩
    dsimp only at hes hva
    have hkx : k < (edgesAll [pc]).length := (List.getElem?_eq_some_iff.1 hx).1
    have hlen := edgesAll_one_len pc
    have hel : es.length ≤ k := by rw [hes, List.length_take]; omega
    refine v_region ?_
    refine l_new rfl o_alloc fun b3 => ?_
    refine l_store rfl (o_storeW (key := 3) (xs := [_, _, _, _, _, _, _]) rfl rfl rfl rfl rfl rfl rfl) ?_
    refine l_nil ?_
    refine ⟨rfl, rfl, rfl, rfl, fun W2 Wb => ?_⟩
    refine v_block ?_
    refine v_region ?_
    refine l_val rfl (o_load1 (key := 2) rfl rfl rfl) ?_
    refine l_val rfl (o_loadW (key := 3) rfl rfl rfl) ?_
    refine l_buildSlice (vs := [_]) (cs := [_, _, _, _, _, _, _]) rfl rfl rfl rfl rfl rfl fun v10 hv10 => ?_
    refine l_append 11 [2, 3, 10] rfl rfl rfl rfl rfl rfl rfl hv10 (row_own (key := 10) rfl) (by show es.length + 1 ≤ _; omega) fun v11 hv11 => ?_
    refine l_store rfl (o_store1 (key := 2) (rs := [_]) rfl rfl (rowV_cells hv11) rfl rfl (rowV_one hv11) rfl) ?_
    refine l_nil ?_
    refine kb_norm ?_
    exact ⟨rfl, (v11, es ++ [x]), ⟨by show es ++ [x] = _; rw [List.take_add_one, hx, hes]; rfl, by simpa using hv11⟩, ⟨fun _ _ h => (by cases h), leL_ok _ (And.intro rfl (And.intro (congrArg some (own_congr (by simp) (by simp [eE]))) True.intro)), rfl, rfl, rfl⟩⟩
  · rintro ⟨va, es⟩ D ⟨hes, hva⟩
    dsimp only at hes hva
    rw [List.take_length] at hes
    subst hes
    refine kb_norm ?_
    refine kt_norm ?_
    refine v_seq ?_
    refine v_region ?_
    refine l_val rfl (o_load1 (key := 2) rfl rfl rfl) ?_
    refine l_store rfl (o_store1 (key := 2) (rs := [_]) rfl rfl (rowV_cells hva) rfl rfl (rowV_one hva) rfl) ?_
    refine l_nil ?_
    refine kt_norm ?_
    refine v_ret ?_
    refine ⟨[_], .cons (.cell1 (key := 2) rfl rfl) (ResAll.nil), ?_⟩
    exact ⟨11, rfl⟩
end Go.Proofs.Ytaijclimdfchfaa
