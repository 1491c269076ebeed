import Derived.Test.YtegfonghlpbgdaaE11
/- Where an edge crosses any of its rows is as the document has it, and lies between its ends. Conditions: none. -/
namespace Go.Proofs.Ytegfonghlpbgdaa
open Go.Proofs Go.RowKit Go.Shelf

theorem edgesOf3 (a b : PtT) : edgesOf [a, b, a] = onE a b ++ onE b a ++ onE a a := by
  simp [edgesOf, edgesTo, List.range_succ, edgesAt_on]
theorem onE_self (a : PtT) : onE a a = [] := by
  unfold onE
  rw [edgeOf_ge (show ¬ a.y < a.y by omega)]
  exact if_neg (by dsimp only; omega)
theorem at_len (a b : PtT) : (edgesOf [a, b, a]).length = 0 ∨ (edgesOf [a, b, a]).length = 2 := by
  have h := congrArg List.length (turned_edge a b)
  rw [List.length_map] at h
  rw [edgesOf3, onE_self, List.append_nil, List.length_append, h]
  unfold onE
  split
  · exact .inr rfl
  · exact .inl rfl
def EndsIn (a b : PtT) (e : EdgeT) : Prop := (e.x = a.x ∧ e.x + e.dx = b.x) ∨ (e.x = b.x ∧ e.x + e.dx = a.x)
theorem endsIn_edge (a b : PtT) : EndsIn a b (edgeOf a b) := by
  unfold EndsIn
  by_cases h : b.y < a.y
  · rw [edgeOf_lt h]; dsimp only; omega
  · rw [edgeOf_ge h]; dsimp only; omega
theorem ends_getD {a b : PtT} {i : Nat} (hi : i < (edgesOf [a, b, a]).length) : EndsIn a b ((edgesOf [a, b, a]).getD i dE) := by
  rw [List.getD_eq_getElem?_getD, List.getElem?_eq_getElem hi]
  have hm := List.getElem_mem hi
  generalize (edgesOf [a, b, a])[i] = e at hm
  rw [edgesOf3, onE_self, List.append_nil] at hm
  show EndsIn a b e
  unfold onE at hm
  rcases List.mem_append.1 hm with h | h
  · split at h
    · rw [List.mem_singleton.1 h]; exact endsIn_edge a b
    · cases h
  · split at h
    · rw [List.mem_singleton.1 h]
      have := endsIn_edge b a
      unfold EndsIn at this ⊢
      omega
    · cases h

set_option maxHeartbeats 1000000 in
theorem a_EdgesAt (a b : PtT) (at_ : Int) (hat : 0 ≤ at_ ∧ at_ < 4294967296) : Ans Try.prog 3 [.agg #[.int .i64 a.x, .int .i64 a.y], .agg #[.int .i64 b.x, .int .i64 b.y], .int .u32 at_] (.bool true) := by
  refine ans_of Try.func3 rfl Try.ntmps3 Try.results3 rfl rfl fun w => ?_
  refine v_seq ?_
  refine v_region ?_
  refine l_new rfl (o_box (cs := [_, _]) rfl rfl) fun b3 => ?_
  refine l_new rfl (o_box (cs := [_, _]) rfl rfl) fun b4 => ?_
  refine l_val rfl (o_assign rfl) ?_
  refine l_nil ?_
  refine kt_norm ?_
  refine v_seq ?_
  refine v_seq ?_
  refine v_region ?_
  refine l_val rfl (o_loadW (key := 3) rfl rfl rfl) ?_
  refine l_ans (vs := [_]) rfl rfl (a_Near a) ?_
  refine lz_bool (fun hna => ?_) (fun hna => ?_)
  · skip
    refine l_val rfl (o_not rfl rfl) ?_
    refine l_val rfl (o_move rfl) ?_
    refine l_val rfl (o_loadW (key := 4) rfl rfl rfl) ?_
    refine l_ans (vs := [_]) rfl rfl (a_Near b) ?_
    refine lz_bool (fun hnb => ?_) (fun hnb => ?_)
    · have hn3 : ∀ p ∈ [a, b, a], NearT p := fun p hp => by
        simp only [List.mem_cons, List.not_mem_nil, or_false] at hp
        rcases hp with rfl | rfl | rfl <;> assumption
      refine l_val rfl (o_not rfl rfl) ?_
      refine l_val rfl (o_pickF rfl rfl) ?_
      refine l_val rfl (o_move rfl) ?_
      refine l_ans (vs := []) rfl rfl (a_shown) ?_
      refine l_val rfl (o_not rfl rfl) ?_
      refine l_val rfl (o_pickF rfl rfl) ?_
      refine l_nil ?_
      refine kt_norm ?_
      refine v_sel [2, 3, 4, 23] [3, 4] rfl rfl ?_
      refine v_condF rfl ?_
      refine v_skip ?_
      refine kt_norm ?_
      refine v_seq ?_
      refine v_region ?_
      refine l_val rfl (o_loadW (key := 3) rfl rfl rfl) ?_
      refine l_val rfl (o_loadW (key := 4) rfl rfl rfl) ?_
      refine l_val rfl (o_loadW (key := 3) rfl rfl rfl) ?_
      refine l_buildSlice (vs := [_, _, _]) (cs := [_, _, _, _, _, _]) rfl rfl rfl rfl rfl rfl fun v28 hv28 => ?_
      refine l_gown (ks := [28]) (caps := #[]) (vs := [_]) rfl rfl (ent_of Try.func12 rfl rfl) rfl (fun w' hg hh => a_OfE w' v28 [a, b, a] (by show 3 ≤ _; omega) hv28 (rowAt_own (hh 28 (by simp) _ rfl)) hn3) fun l hl => ?_
      refine l_val rfl (o_assign rfl) ?_
      refine l_nil ?_
      refine kt_norm ?_
      refine v_sel [2, 3, 4, 7] [3, 4, 29] rfl rfl ?_
      refine v_seq ?_
      refine v_seq ?_
      refine v_region ?_
      refine l_val rfl (o_assign rfl) ?_
      refine l_nil ?_
      refine kt_norm ?_
      refine v_block ?_
      refine v_loopS (α := Nat) (fun i => [(8, .int .i64 (i : Int))]) (fun i => [])  (fun i => i ≤ (edgesOf [a, b, a]).length) (fun i => (edgesOf [a, b, a]).length - i) 0 [2, 3, 4, 7] [3, 4, 29] (Nat.zero_le _)  (And.intro rfl (True.intro)) rfl (True.intro) rfl ?_
      rintro i hi
      refine v_seq ?_
      refine v_seq ?_
      refine v_region ?_
      refine l_val rfl (o_move rfl) ?_
      refine l_val rfl (o_move rfl) ?_
      refine l_val rfl (o_len rfl hl) ?_
      refine l_split rfl (o_lss rfl rfl) (fun q1 => ?_) (fun q1 => ?_)
      · have hil : i < (edgesOf [a, b, a]).length := by omega
        refine l_nil ?_
        refine kt_norm ?_
        refine v_condT rfl ?_
        refine v_skip ?_
        refine kt_norm ?_
        refine v_seq ?_
        refine v_block ?_
        refine v_seq ?_
        refine v_region ?_
        refine l_val rfl (o_move rfl) ?_
        refine l_val rfl (o_move rfl) ?_
        have ho := edgeOk_getD hn3 hil
        have he := ends_getD hil
        have hlt := ho.lt
        have hri := row_in ho hat.1
        have hrr := ho.rows
        have hox := ho.x; have hox2 := ho.x2; have hoy := ho.y; have hoy2 := ho.y2; have hdy := ho.dy
        have hm := ho.mid (r := (((edgesOf [a, b, a]).getD i dE).fr + at_ % (((edgesOf [a, b, a]).getD i dE).to - ((edgesOf [a, b, a]).getD i dE).fr))) (by omega) (by omega)
        have hc := ho.cross (r := (((edgesOf [a, b, a]).getD i dE).fr + at_ % (((edgesOf [a, b, a]).getD i dE).to - ((edgesOf [a, b, a]).getD i dE).fr))) (by omega) (by omega)
        have hlen := at_len a b
        unfold EndsIn at he
        refine l_val rfl (o_idx (i) rfl hl rfl (by first | rfl | omega) (by omega)) ?_
        refine l_val rfl (o_loadRE (c' := [_, _, _, _, _, _, _]) rfl (row_own (key := 29) rfl) (el_flat eE_len dE (edgesOf [a, b, a]) (i) (by omega)) rfl) ?_
        refine l_new rfl o_alloc fun b9 => ?_
        refine l_store rfl (o_storeW (key := 9) (xs := [_, _, _, _, _, _, _]) rfl rfl rfl rfl rfl rfl rfl) ?_
        refine l_nil ?_
        refine kt_norm ?_
        refine v_sel [8, 2, 3, 4, 7, 9] [3, 4, 9, 29] rfl rfl ?_
        refine v_seq ?_
        refine v_seq ?_
        refine v_region ?_
        refine l_val rfl (o_fld rfl) ?_
        refine l_val rfl (o_load1 (key := 9) rfl rfl rfl) ?_
        refine l_val rfl (o_fld rfl) ?_
        refine l_val rfl (o_load1 (key := 9) rfl rfl rfl) ?_
        refine l_split rfl (o_leq rfl rfl) (fun q2 => absurd q2 (by omega)) (fun q2 => ?_)
        refine l_val rfl (o_move rfl) ?_
        refine l_val rfl (o_fld rfl) ?_
        refine l_val rfl (o_load1 (key := 9) rfl rfl rfl) ?_
        refine l_split rfl (o_leq rfl rfl) (fun q3 => absurd q3 (by omega)) (fun q3 => ?_)
        refine l_val rfl (o_pickF rfl rfl) ?_
        refine l_nil ?_
        refine kt_norm ?_
        refine v_sel [8, 2, 3, 4, 7, 9, 46, 47, 48, 49] [3, 4, 9, 29] rfl rfl ?_
        refine v_condF rfl ?_
        refine v_skip ?_
        refine kt_norm ?_
        refine v_seq ?_
        refine v_drawZ [[], [9], [], [], [], [9], [], [9], [], [], [], []] mixed ?_ (by kernel_rfl) (by kernel_rfl)
        refine d_val (fun _ => rfl) rfl rfl (fun _ => o_fld rfl) ?_
        refine d_val (fun _ => rfl) rfl rfl (fun _ => o_load1 (key := 9) rfl rfl rfl) ?_
        refine d_val (fun _ => rfl) rfl rfl (fun _ => o_move rfl) ?_
        refine d_val (fun _ => rfl) rfl rfl (fun _ => o_convi rfl ?_) ?_
        · omega
        refine d_val (fun _ => rfl) rfl rfl (fun _ => o_fld rfl) ?_
        refine d_val (fun _ => rfl) rfl rfl (fun _ => o_load1 (key := 9) rfl rfl rfl) ?_
        refine d_val (fun _ => rfl) rfl rfl (fun _ => o_fld rfl) ?_
        refine d_val (fun _ => rfl) rfl rfl (fun _ => o_load1 (key := 9) rfl rfl rfl) ?_
        refine d_val (fun _ => rfl) rfl rfl (fun _ => o_subi rfl rfl ?_) ?_
        · omega
        refine d_val (fun _ => rfl) rfl rfl (fun _ => o_remn rfl rfl ?_) ?_
        · omega
        refine d_val (fun _ => rfl) rfl rfl (fun _ => o_addi rfl rfl ?_) ?_
        · omega
        refine d_val (fun _ => rfl) rfl rfl (fun _ => o_assign rfl) ?_
        refine d_nil (fun σ => ?_)
        refine l_nil ?_
        refine kt_norm ?_
        refine v_sel [8, 2, 3, 4, 7, 9, 46, 47, 48, 10] [3, 4, 9, 29] rfl rfl ?_
        refine v_seq ?_
        refine v_region ?_
        refine l_val rfl (o_loadW (key := 9) rfl rfl rfl) ?_
        refine l_val rfl (o_move rfl) ?_
        refine l_ans (vs := [_, _]) rfl rfl (a_AtOk ho (by omega) (by omega)) ?_
        refine l_val rfl (o_assign rfl) ?_
        refine l_nil ?_
        refine kt_norm ?_
        refine v_seq ?_
        refine v_region ?_
        refine l_val rfl (o_move rfl) ?_
        refine l_val rfl (o_loadW (key := 9) rfl rfl rfl) ?_
        refine l_val rfl (o_move rfl) ?_
        refine l_ans (vs := [_, _]) rfl rfl (r_AtOk ho (by omega) (by omega)) ?_
        refine l_split rfl (o_neq rfl rfl) (fun q4 => absurd q4 (by omega)) (fun q4 => ?_)
        refine l_val rfl (o_move rfl) ?_
        refine l_val rfl (o_move rfl) ?_
        refine l_val rfl (o_fld rfl) ?_
        refine l_val rfl (o_load1 (key := 3) rfl rfl rfl) ?_
        refine l_val rfl (o_fld rfl) ?_
        refine l_val rfl (o_load1 (key := 4) rfl rfl rfl) ?_
        refine l_val rfl (o_min rfl rfl) ?_
        refine l_split rfl (o_lss rfl rfl) (fun q5 => absurd q5 (by omega)) (fun q5 => ?_)
        refine l_val rfl (o_pickF rfl rfl) ?_
        refine l_val rfl (o_move rfl) ?_
        refine l_val rfl (o_move rfl) ?_
        refine l_val rfl (o_fld rfl) ?_
        refine l_val rfl (o_load1 (key := 3) rfl rfl rfl) ?_
        refine l_val rfl (o_fld rfl) ?_
        refine l_val rfl (o_load1 (key := 4) rfl rfl rfl) ?_
        refine l_val rfl (o_max rfl rfl) ?_
        refine l_split rfl (o_gtr rfl rfl) (fun q6 => absurd q6 (by omega)) (fun q6 => ?_)
        refine l_val rfl (o_pickF rfl rfl) ?_
        refine l_val rfl (o_move rfl) ?_
        refine l_val rfl (o_move rfl) ?_
        refine l_val rfl (o_muli rfl rfl ?_) ?_
        · omega
        refine l_val rfl (o_addi rfl rfl ?_) ?_
        · omega
        refine l_val rfl (o_fld rfl) ?_
        refine l_val rfl (o_load1 (key := 9) rfl rfl rfl) ?_
        refine l_split rfl (o_lss rfl rfl) (fun q7 => absurd q7 (by omega)) (fun q7 => ?_)
        refine l_val rfl (o_pickF rfl rfl) ?_
        refine l_val rfl (o_move rfl) ?_
        refine l_val rfl (o_move rfl) ?_
        refine l_val rfl (o_muli rfl rfl ?_) ?_
        · omega
        refine l_val rfl (o_addi rfl rfl ?_) ?_
        · omega
        refine l_val rfl (o_fld rfl) ?_
        refine l_val rfl (o_load1 (key := 9) rfl rfl rfl) ?_
        refine l_val rfl (o_fld rfl) ?_
        refine l_val rfl (o_load1 (key := 9) rfl rfl rfl) ?_
        refine l_val rfl (o_addi rfl rfl ?_) ?_
        · omega
        refine l_split rfl (o_geq rfl rfl) (fun q8 => absurd q8 (by omega)) (fun q8 => ?_)
        refine l_val rfl (o_pickF rfl rfl) ?_
        refine l_nil ?_
        refine kt_norm ?_
        refine v_sel [8, 2, 3, 4, 7, 46, 47, 48, 70, 71, 72, 73, 74, 75, 76, 79, 80, 81, 82, 83, 84, 85, 88, 89, 90, 91, 92, 93, 96, 97, 98, 99, 100, 101, 102, 103, 104, 105] [3, 4, 9, 29] rfl rfl ?_
        refine v_condF rfl ?_
        refine v_skip ?_
        refine kb_norm ?_
        refine kt_norm ?_
        refine v_region ?_
        refine l_val rfl (o_move rfl) ?_
        have hlen := at_len a b
        refine l_val rfl (o_addi rfl rfl ?_) ?_
        · omega
        refine l_val rfl (o_assign rfl) ?_
        refine l_nil ?_
        refine kt_norm ?_
        refine ⟨i + 1, hil, by omega, le_app (And.intro rfl (True.intro)) [2, 3, 4, 7] rfl (True.intro) [3, 4, 29] rfl⟩
      · skip
        refine l_nil ?_
        refine kt_norm ?_
        refine v_condF rfl ?_
        refine v_exit ?_
        refine kt_exit ?_
        refine kt_exit ?_
        refine kb_eq ?_
        refine kt_norm ?_
        refine v_sel [7] [29] rfl rfl ?_
        refine v_seq ?_
        refine v_region ?_
        refine l_val rfl (o_move rfl) ?_
        refine l_val rfl (o_len rfl hl) ?_
        have hlen := at_len a b
        refine l_split rfl (o_eql rfl rfl) (fun q9 => ?_) (fun q9 => ?_)
        · skip
          refine l_val rfl (o_move rfl) ?_
          refine l_no rfl ?_
          refine l_no rfl ?_
          refine l_no rfl ?_
          refine l_val rfl (o_pickT rfl rfl) ?_
          refine l_val rfl (o_assign rfl) ?_
          refine l_nil ?_
          refine kt_norm ?_
          refine v_sel [6] [] rfl rfl ?_
          refine v_ret ?_
          refine ⟨[_], .cons (.tmp rfl) (ResAll.nil), ?_⟩
          rfl
        · skip
          refine l_val rfl (o_move rfl) ?_
          refine l_val rfl (o_move rfl) ?_
          refine l_val rfl (o_len rfl hl) ?_
          refine l_split rfl (o_eql rfl rfl) (fun q10 => ?_) (fun q10 => absurd (show _ by omega) q10)
          refine l_val rfl (o_pickF rfl rfl) ?_
          refine l_val rfl (o_assign rfl) ?_
          refine l_nil ?_
          refine kt_norm ?_
          refine v_sel [6] [] rfl rfl ?_
          refine v_ret ?_
          refine ⟨[_], .cons (.tmp rfl) (ResAll.nil), ?_⟩
          rfl
    · skip
      refine l_val rfl (o_not rfl rfl) ?_
      refine l_val rfl (o_pickF rfl rfl) ?_
      refine l_val rfl (o_move rfl) ?_
      refine l_no rfl ?_
      refine l_no rfl ?_
      refine l_val rfl (o_pickT rfl rfl) ?_
      refine l_nil ?_
      refine kt_norm ?_
      refine v_sel [2, 3, 4, 23] [3, 4] rfl rfl ?_
      refine v_condT rfl ?_
      refine v_seq ?_
      refine v_region ?_
      refine l_ans (vs := []) rfl rfl (a_shown) ?_
      refine l_val rfl (o_assign rfl) ?_
      refine l_nil ?_
      refine kt_norm ?_
      refine v_ret ?_
      refine kt_ret ?_
      refine ⟨[_], .cons (.tmp rfl) (ResAll.nil), ?_⟩
      rfl
  · skip
    refine l_val rfl (o_not rfl rfl) ?_
    refine l_val rfl (o_move rfl) ?_
    refine l_no rfl ?_
    refine l_no rfl ?_
    refine l_no rfl ?_
    refine l_val rfl (o_pickT rfl rfl) ?_
    refine l_val rfl (o_move rfl) ?_
    refine l_no rfl ?_
    refine l_no rfl ?_
    refine l_val rfl (o_pickT rfl rfl) ?_
    refine l_nil ?_
    refine kt_norm ?_
    refine v_sel [2, 3, 4, 23] [3, 4] rfl rfl ?_
    refine v_condT rfl ?_
    refine v_seq ?_
    refine v_region ?_
    refine l_ans (vs := []) rfl rfl (a_shown) ?_
    refine l_val rfl (o_assign rfl) ?_
    refine l_nil ?_
    refine kt_norm ?_
    refine v_ret ?_
    refine kt_ret ?_
    refine ⟨[_], .cons (.tmp rfl) (ResAll.nil), ?_⟩
    rfl
end Go.Proofs.Ytegfonghlpbgdaa
