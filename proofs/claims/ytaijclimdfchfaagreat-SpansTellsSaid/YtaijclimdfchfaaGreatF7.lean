import Derived.Test.YtaijclimdfchfaaGreatF6
/- The spans of a row, clipped and asked, are as the document has them. Conditions: none. -/
namespace Go.Proofs.YtaijclimdfchfaaGreat
open Go.Proofs Go.RowKit Go.Shelf

theorem r_its20 (w : World) (v : Value) (es : List EdgeT) (hn : es.length ≤ 1099511627775) (hV : RowV v es.length) (hrow : RowAt w v 7 es.length (es.flatMap eE)) :
    Calls Tryz.prog 13 #[v] w fun e w' => ∃ y, e = .returned y ∧ Below w.heap.size w w' ∧ OwnAt w.heap.size w' y 79 7 es.length (es.flatMap eE) := by
  have hr : ∀ w', Chg (fun _ => False) w w' → RowAt w' v 7 es.length (es.flatMap eE) := fun w' h => hrow.chg h (fun h => h)
  refine calls_own (args := [v]) Tryz.func13 rfl Tryz.ntmps13 Tryz.results13 rfl ?_
  refine v_seq ?_
  refine v_region ?_
  refine l_val rfl (o_assign rfl) ?_
  refine l_nil ?_
  refine kt_norm ?_
  refine v_seq ?_
  refine v_region ?_
  refine l_buildSlice (vs := []) (cs := []) rfl rfl rfl rfl rfl rfl fun v5 hv5 => ?_
  refine l_val rfl (o_assign rfl) ?_
  refine l_nil ?_
  refine kt_norm ?_
  refine v_seq ?_
  refine v_seq ?_
  refine v_region ?_
  refine l_val rfl (o_assign rfl) ?_
  refine l_nil ?_
  refine kt_norm ?_
  refine v_block ?_
  refine v_ren 5 18 [] rfl rfl rfl ?_
  refine v_loopS (α := Nat × Value) (fun ⟨i, v3⟩ => [(4, .int .i64 (i : Int)), (3, v3)]) (fun ⟨i, v3⟩ => [(18, Hp.own v3 79 7 i ((es.take i).flatMap eE))])  (fun ⟨i, v3⟩ => i ≤ es.length ∧ RowV v3 i) (fun ⟨i, v3⟩ => es.length - i) (0, v5) [0] [] ⟨Nat.zero_le _, hv5⟩  (And.intro rfl (And.intro rfl (True.intro))) rfl (And.intro rfl (True.intro)) rfl ?_
  rintro ⟨i, v3⟩ ⟨hi, hv3⟩
  refine v_seq ?_
  refine v_seq ?_
  refine v_region ?_
  refine l_val rfl (o_move rfl) ?_
  refine l_val rfl (o_move rfl) ?_
  refine l_val rfl (o_len rfl hV) ?_
  refine l_split rfl (o_lss rfl rfl) (fun q1 => ?_) (fun q1 => ?_)
  · skip
    refine l_nil ?_
    refine kt_norm ?_
    refine v_condT rfl ?_
    refine v_skip ?_
    refine kt_norm ?_
    refine v_seq ?_
    refine v_block ?_
    refine v_region ?_
    refine l_val rfl (o_move rfl) ?_
    refine l_val rfl (o_move rfl) ?_
    refine l_val rfl (o_move rfl) ?_
    refine l_val rfl (o_idx (i) rfl hV rfl (by first | rfl | omega) (by omega)) ?_
    refine l_val rfl (o_loadRE (c' := [_, _, _, _, _, _, _]) rfl (row_imm hr) (el_flat eE_len dE es (i) (by omega)) rfl) ?_
    refine l_buildSlice (vs := [_]) (cs := [_, _, _, _, _, _, _]) rfl rfl rfl rfl rfl rfl fun v17 hv17 => ?_
    refine l_append 18 [17] rfl rfl rfl rfl rfl rfl rfl hv17 (row_own (key := 17) rfl) (by omega) fun v18 hv18 => ?_
    refine l_val rfl (o_assign rfl) ?_
    refine l_nil ?_
    refine kb_norm ?_
    refine kt_norm ?_
    refine v_sel [4, 3, 0] [18] rfl rfl ?_
    refine v_region ?_
    refine l_val rfl (o_move rfl) ?_
    refine l_val rfl (o_addi rfl rfl ?_) ?_
    · omega
    refine l_val rfl (o_assign rfl) ?_
    refine l_nil ?_
    refine kt_norm ?_
    refine ⟨(i + 1, v18), ⟨by omega, hv18⟩, (by show es.length - (i + 1) < es.length - i; omega), le_app (And.intro rfl (And.intro rfl (True.intro))) [0] rfl (And.intro (congrArg some (own_congr rfl (take_flat (by omega)))) (True.intro)) [] rfl⟩
  · skip
    refine l_nil ?_
    refine kt_norm ?_
    refine v_condF rfl ?_
    refine v_exit ?_
    refine kt_exit ?_
    refine kt_exit ?_
    refine kb_eq ?_
    refine kt_norm ?_
    refine v_sel [3] [18] rfl rfl ?_
    refine v_seq ?_
    refine v_region ?_
    obtain rfl : i = es.length := by omega
    refine l_val rfl (o_move rfl) ?_
    refine l_val rfl (o_assign rfl) ?_
    refine l_nil ?_
    refine kt_norm ?_
    refine v_ret ?_
    refine ⟨[_], .cons (.tmp rfl) (ResAll.nil), ?_⟩
    exact ⟨18, congrArg some (own_congr rfl (by rw [List.take_length]))⟩
theorem r_own20 (w : World) (v : Value) (l : List SpanT) (hn : l.length ≤ 1000000) (hV : RowV v l.length) (hrow : RowAt w v 2 l.length (l.flatMap eS)) :
    Calls Tryz.prog 17 #[v] w fun e w' => ∃ y, e = .returned y ∧ Below w.heap.size w w' ∧ OwnAt w.heap.size w' y 83 2 l.length (l.flatMap eS) := by
  have hr : ∀ w', Chg (fun _ => False) w w' → RowAt w' v 2 l.length (l.flatMap eS) := fun w' h => hrow.chg h (fun h => h)
  refine calls_own (args := [v]) Tryz.func17 rfl Tryz.ntmps17 Tryz.results17 rfl ?_
  refine v_seq ?_
  refine v_region ?_
  refine l_val rfl (o_assign rfl) ?_
  refine l_nil ?_
  refine kt_norm ?_
  refine v_seq ?_
  refine v_region ?_
  refine l_buildSlice (vs := []) (cs := []) rfl rfl rfl rfl rfl rfl fun v5 hv5 => ?_
  refine l_val rfl (o_assign rfl) ?_
  refine l_nil ?_
  refine kt_norm ?_
  refine v_seq ?_
  refine v_seq ?_
  refine v_region ?_
  refine l_val rfl (o_assign rfl) ?_
  refine l_nil ?_
  refine kt_norm ?_
  refine v_block ?_
  refine v_ren 5 18 [] rfl rfl rfl ?_
  refine v_loopS (α := Nat × Value) (fun ⟨i, v3⟩ => [(4, .int .i64 (i : Int)), (3, v3)]) (fun ⟨i, v3⟩ => [(18, Hp.own v3 83 2 i ((l.take i).flatMap eS))])  (fun ⟨i, v3⟩ => i ≤ l.length ∧ RowV v3 i) (fun ⟨i, v3⟩ => l.length - i) (0, v5) [0] [] ⟨Nat.zero_le _, hv5⟩  (And.intro rfl (And.intro rfl (True.intro))) rfl (And.intro rfl (True.intro)) rfl ?_
  rintro ⟨i, v3⟩ ⟨hi, hv3⟩
  refine v_seq ?_
  refine v_seq ?_
  refine v_region ?_
  refine l_val rfl (o_move rfl) ?_
  refine l_val rfl (o_move rfl) ?_
  refine l_val rfl (o_len rfl hV) ?_
  refine l_split rfl (o_lss rfl rfl) (fun q1 => ?_) (fun q1 => ?_)
  · skip
    refine l_nil ?_
    refine kt_norm ?_
    refine v_condT rfl ?_
    refine v_skip ?_
    refine kt_norm ?_
    refine v_seq ?_
    refine v_block ?_
    refine v_region ?_
    refine l_val rfl (o_move rfl) ?_
    refine l_val rfl (o_move rfl) ?_
    refine l_val rfl (o_move rfl) ?_
    refine l_val rfl (o_idx (i) rfl hV rfl (by first | rfl | omega) (by omega)) ?_
    refine l_val rfl (o_loadRE (c' := [_, _]) rfl (row_imm hr) (el_flat eS_len dS l (i) (by omega)) rfl) ?_
    refine l_buildSlice (vs := [_]) (cs := [_, _]) rfl rfl rfl rfl rfl rfl fun v17 hv17 => ?_
    refine l_append 18 [17] rfl rfl rfl rfl rfl rfl rfl hv17 (row_own (key := 17) rfl) (by omega) fun v18 hv18 => ?_
    refine l_val rfl (o_assign rfl) ?_
    refine l_nil ?_
    refine kb_norm ?_
    refine kt_norm ?_
    refine v_sel [4, 3, 0] [18] rfl rfl ?_
    refine v_region ?_
    refine l_val rfl (o_move rfl) ?_
    refine l_val rfl (o_addi rfl rfl ?_) ?_
    · omega
    refine l_val rfl (o_assign rfl) ?_
    refine l_nil ?_
    refine kt_norm ?_
    refine ⟨(i + 1, v18), ⟨by omega, hv18⟩, (by show l.length - (i + 1) < l.length - i; omega), le_app (And.intro rfl (And.intro rfl (True.intro))) [0] rfl (And.intro (congrArg some (own_congr rfl (by rw [takeSnoc dS (show i < l.length by omega)]; simp [eS]))) (True.intro)) [] rfl⟩
  · skip
    refine l_nil ?_
    refine kt_norm ?_
    refine v_condF rfl ?_
    refine v_exit ?_
    refine kt_exit ?_
    refine kt_exit ?_
    refine kb_eq ?_
    refine kt_norm ?_
    refine v_sel [3] [18] rfl rfl ?_
    refine v_seq ?_
    refine v_region ?_
    obtain rfl : i = l.length := by omega
    refine l_val rfl (o_move rfl) ?_
    refine l_val rfl (o_assign rfl) ?_
    refine l_nil ?_
    refine kt_norm ?_
    refine v_ret ?_
    refine ⟨[_], .cons (.tmp rfl) (ResAll.nil), ?_⟩
    exact ⟨18, congrArg some (own_congr rfl (by rw [List.take_length]))⟩
theorem r_Same20 (w : World) (v u : Value) (l : List SpanT) (hn : l.length ≤ 1000000) (hV : RowV v l.length) (hrow : RowAt w v 2 l.length (l.flatMap eS)) (hU : RowV u l.length) (hrow2 : RowAt w u 2 l.length (l.flatMap eS)) :
    Calls Tryz.prog 16 #[v, u] w fun e w' => e = .returned (.bool true) ∧ Below w.heap.size w w' := by
  have hr : ∀ w', Chg (fun _ => False) w w' → RowAt w' v 2 l.length (l.flatMap eS) := fun w' h => hrow.chg h (fun h => h)
  have hr2 : ∀ w', Chg (fun _ => False) w w' → RowAt w' u 2 l.length (l.flatMap eS) := fun w' h => hrow2.chg h (fun h => h)
  refine calls_of (args := [v, u]) Tryz.func16 rfl Tryz.ntmps16 Tryz.results16 rfl ?_
  refine v_seq ?_
  refine v_region ?_
  refine l_val rfl (o_assign rfl) ?_
  refine l_nil ?_
  refine kt_norm ?_
  refine v_seq ?_
  refine v_seq ?_
  refine v_region ?_
  refine l_val rfl (o_move rfl) ?_
  refine l_val rfl (o_len rfl hV) ?_
  refine l_val rfl (o_move rfl) ?_
  refine l_val rfl (o_len rfl hU) ?_
  refine l_split rfl (o_neq rfl rfl) (fun q1 => absurd q1 (by omega)) (fun q1 => ?_)
  refine l_nil ?_
  refine kt_norm ?_
  refine v_condF rfl ?_
  refine v_skip ?_
  refine kt_norm ?_
  refine v_sel [0, 1] [] rfl rfl ?_
  refine v_seq ?_
  refine v_seq ?_
  refine v_region ?_
  refine l_val rfl (o_assign rfl) ?_
  refine l_nil ?_
  refine kt_norm ?_
  refine v_block ?_
  refine v_loopS (α := Nat) (fun i => [(5, .int .i64 (i : Int))]) (fun i => [])  (fun i => i ≤ l.length) (fun i => l.length - i) 0 [0, 1] [] (Nat.zero_le _)  (And.intro rfl (True.intro)) rfl (True.intro) rfl ?_
  rintro i hi
  refine v_seq ?_
  refine v_seq ?_
  refine v_region ?_
  refine l_val rfl (o_move rfl) ?_
  refine l_val rfl (o_move rfl) ?_
  refine l_val rfl (o_len rfl hV) ?_
  refine l_split rfl (o_lss rfl rfl) (fun q2 => ?_) (fun q2 => ?_)
  · skip
    refine l_nil ?_
    refine kt_norm ?_
    refine v_condT rfl ?_
    refine v_skip ?_
    refine kt_norm ?_
    refine v_seq ?_
    refine v_block ?_
    refine v_seq ?_
    refine v_drawZ [[], [], [], [], [], [], [], [], []] mixed ?_ (by kernel_rfl) (by kernel_rfl)
    refine d_val (fun _ => rfl) rfl rfl (fun _ => o_move rfl) ?_
    refine d_val (fun _ => rfl) rfl rfl (fun _ => o_move rfl) ?_
    refine d_val (fun _ => rfl) rfl rfl (fun _ => o_idx (i) rfl hV rfl (by first | rfl | omega) (by omega)) ?_
    refine d_val (fun _ => rfl) rfl rfl (fun _ => o_loadRE (c' := [_, _]) rfl (row_imm hr) (el_flat eS_len dS l (i) (by omega)) rfl) ?_
    refine d_val (fun _ => rfl) rfl rfl (fun _ => o_move rfl) ?_
    refine d_val (fun _ => rfl) rfl rfl (fun _ => o_move rfl) ?_
    refine d_val (fun _ => rfl) rfl rfl (fun _ => o_idx (i) rfl hU rfl (by first | rfl | omega) (by omega)) ?_
    refine d_val (fun _ => rfl) rfl rfl (fun _ => o_loadRE (c' := [_, _]) rfl (row_imm hr2) (el_flat eS_len dS l (i) (by omega)) rfl) ?_
    refine d_neqs (xl := [_, _]) (yl := [_, _]) (az := [_, _]) (bz := [_, _]) (fun _ => rfl) (fun _ => rfl) (fun _ => rfl) rfl rfl rfl rfl (fun q3 => absurd rfl q3) (fun _ => ?_)
    refine d_nil (fun σ => ?_)
    refine l_nil ?_
    refine kt_norm ?_
    refine v_sel [5, 0, 1, 25] [] rfl rfl ?_
    refine v_condF rfl ?_
    refine v_skip ?_
    refine kb_norm ?_
    refine kt_norm ?_
    refine v_region ?_
    refine l_val rfl (o_move rfl) ?_
    refine l_val rfl (o_addi rfl rfl ?_) ?_
    · omega
    refine l_val rfl (o_assign rfl) ?_
    refine l_nil ?_
    refine kt_norm ?_
    refine ⟨i + 1, by omega, by omega, le_app (And.intro rfl (True.intro)) [0, 1] rfl (True.intro) [] rfl⟩
  · skip
    refine l_nil ?_
    refine kt_norm ?_
    refine v_condF rfl ?_
    refine v_exit ?_
    refine kt_exit ?_
    refine kt_exit ?_
    refine kb_eq ?_
    refine kt_norm ?_
    refine v_sel [] [] rfl rfl ?_
    refine v_seq ?_
    refine v_region ?_
    refine l_val rfl (o_assign rfl) ?_
    refine l_nil ?_
    refine kt_norm ?_
    refine v_ret ?_
    refine ⟨[_], .cons (.tmp rfl) (ResAll.nil), ?_⟩
    rfl
theorem r_Clip (w : World) (v : Value) (l : List SpanT) (lo hi : Int) (hn : l.length ≤ 1000000) (hV : RowV v l.length) (hrow : RowAt w v 2 l.length (l.flatMap eS)) :
    Calls Tryz.prog 15 #[v, .int .i64 lo, .int .i64 hi] w fun e w' => ∃ y, e = .returned y ∧ Below w.heap.size w w' ∧ OwnAt w.heap.size w' y 83 2 (clipT lo hi l).length ((clipT lo hi l).flatMap eS) := by
  have hr : ∀ w', Chg (fun _ => False) w w' → RowAt w' v 2 l.length (l.flatMap eS) := fun w' h => hrow.chg h (fun h => h)
  refine calls_own (args := [v, .int .i64 lo, .int .i64 hi]) Tryz.func15 rfl Tryz.ntmps15 Tryz.results15 rfl ?_
  refine v_seq ?_
  refine v_region ?_
  refine l_val rfl (o_assign rfl) ?_
  refine l_nil ?_
  refine kt_norm ?_
  refine v_seq ?_
  refine v_region ?_
  refine l_buildSlice (vs := []) (cs := []) rfl rfl rfl rfl rfl rfl fun v10 hv10 => ?_
  refine l_val rfl (o_assign rfl) ?_
  refine l_nil ?_
  refine kt_norm ?_
  refine v_seq ?_
  refine v_seq ?_
  refine v_region ?_
  refine l_val rfl (o_assign rfl) ?_
  refine l_nil ?_
  refine kt_norm ?_
  refine v_block ?_
  refine v_ren 10 40 [] rfl rfl rfl ?_
  refine v_loopS (α := Nat × Value) (fun ⟨i, v7⟩ => [(8, .int .i64 (i : Int)), (7, v7)]) (fun ⟨i, v7⟩ => [(40, Hp.own v7 83 2 (clipT lo hi (l.take i)).length ((clipT lo hi (l.take i)).flatMap eS))])  (fun ⟨i, v7⟩ => i ≤ l.length ∧ RowV v7 (clipT lo hi (l.take i)).length) (fun ⟨i, v7⟩ => l.length - i) (0, v10) [0, 1, 2] [] ⟨Nat.zero_le _, hv10⟩  (And.intro rfl (And.intro rfl (True.intro))) rfl (And.intro rfl (True.intro)) rfl ?_
  rintro ⟨i, v7⟩ ⟨hi_, hv7⟩
  refine v_seq ?_
  refine v_seq ?_
  refine v_region ?_
  refine l_val rfl (o_move rfl) ?_
  refine l_val rfl (o_move rfl) ?_
  refine l_val rfl (o_len rfl hV) ?_
  refine l_split rfl (o_lss rfl rfl) (fun q1 => ?_) (fun q1 => ?_)
  · have hil : i < l.length := by omega
    have hct := clip_take (lo := lo) (hi := hi) hil
    refine l_nil ?_
    refine kt_norm ?_
    refine v_condT rfl ?_
    refine v_skip ?_
    refine kt_norm ?_
    refine v_seq ?_
    refine v_block ?_
    refine v_seq ?_
    refine v_drawZ [[], [], [], [], [], [], [], [], [], [], [], [], [], [], [], [], [9]] mixed ?_ (by kernel_rfl) (by kernel_rfl)
    refine d_val (fun _ => rfl) rfl rfl (fun _ => o_move rfl) ?_
    refine d_val (fun _ => rfl) rfl rfl (fun _ => o_move rfl) ?_
    refine d_val (fun _ => rfl) rfl rfl (fun _ => o_idx (i) rfl hV rfl (by first | rfl | omega) (by omega)) ?_
    refine d_val (fun _ => rfl) rfl rfl (fun _ => o_fld rfl) ?_
    refine d_val (fun _ => rfl) rfl rfl (fun _ => o_loadRF (f := 0) rfl (row_imm hr) (el_flat eS_len dS l (i) (by omega)) rfl) ?_
    refine d_val (fun _ => rfl) rfl rfl (fun _ => o_move rfl) ?_
    refine d_val (fun _ => rfl) rfl rfl (fun _ => o_max rfl rfl) ?_
    refine d_val (fun _ => rfl) rfl rfl (fun _ => o_move rfl) ?_
    refine d_val (fun _ => rfl) rfl rfl (fun _ => o_move rfl) ?_
    refine d_val (fun _ => rfl) rfl rfl (fun _ => o_idx (i) rfl hV rfl (by first | rfl | omega) (by omega)) ?_
    refine d_val (fun _ => rfl) rfl rfl (fun _ => o_fld rfl) ?_
    refine d_val (fun _ => rfl) rfl rfl (fun _ => o_loadRF (f := 1) rfl (row_imm hr) (el_flat eS_len dS l (i) (by omega)) rfl) ?_
    refine d_val (fun _ => rfl) rfl rfl (fun _ => o_move rfl) ?_
    refine d_val (fun _ => rfl) rfl rfl (fun _ => o_min rfl rfl) ?_
    refine d_val (fun _ => rfl) rfl rfl (fun _ => o_build (vs := [_, _]) (cs := [_, _]) rfl rfl) ?_
    refine d_new (fun _ => rfl) rfl rfl (fun _ => o_alloc) ?_
    refine d_store (fun _ => rfl) rfl rfl (fun _ => o_storeW (key := 9) (xs := [_, _]) rfl rfl rfl rfl rfl rfl rfl) ?_
    refine d_nil (fun σ => ?_)
    refine l_nil ?_
    refine kt_norm ?_
    refine v_sel [8, 7, 0, 1, 2, 9] [9, 40] rfl rfl ?_
    refine v_seq ?_
    refine v_region ?_
    refine l_val rfl (o_fld rfl) ?_
    refine l_val rfl (o_load1 (key := 9) rfl rfl rfl) ?_
    refine l_val rfl (o_fld rfl) ?_
    refine l_val rfl (o_load1 (key := 9) rfl rfl rfl) ?_
    refine l_split rfl (o_lss rfl rfl) (fun hlt => ?_) (fun hlt => ?_)
    · have hc1 : (clipS lo hi (l.getD i dS)).fr < (clipS lo hi (l.getD i dS)).to := hlt
      refine l_nil ?_
      refine kt_norm ?_
      refine v_condT rfl ?_
      refine v_region ?_
      refine l_val rfl (o_move rfl) ?_
      refine l_val rfl (o_loadW (key := 9) rfl rfl rfl) ?_
      refine l_buildSlice (vs := [_]) (cs := [_, _]) rfl rfl rfl rfl rfl rfl fun v39 hv39 => ?_
      refine l_append 40 [9, 39] rfl rfl rfl rfl rfl rfl rfl hv39 (row_own (key := 39) rfl) (by have h1 := clipT_len lo hi (l.take i); have h2 := List.length_take (i := i) (l := l); omega) fun v40 hv40 => ?_
      refine l_val rfl (o_assign rfl) ?_
      refine l_nil ?_
      refine kb_norm ?_
      refine kt_norm ?_
      refine v_sel [8, 7, 0, 1, 2] [40] rfl rfl ?_
      refine v_region ?_
      refine l_val rfl (o_move rfl) ?_
      refine l_val rfl (o_addi rfl rfl ?_) ?_
      · omega
      refine l_val rfl (o_assign rfl) ?_
      refine l_nil ?_
      refine kt_norm ?_
      refine ⟨(i + 1, v40), ⟨hil, by rw [hct, if_pos hc1, List.length_append]; exact hv40⟩, (by show l.length - (i + 1) < l.length - i; omega), le_app (And.intro rfl (And.intro rfl (True.intro))) [0, 1, 2] rfl (And.intro (congrArg some (own_congr (by rw [hct, if_pos hc1, List.length_append]; rfl) (by rw [hct, if_pos hc1, List.flatMap_append]; simp [eS, clipS]))) (True.intro)) [] rfl⟩
    · have hc1 : ¬ (clipS lo hi (l.getD i dS)).fr < (clipS lo hi (l.getD i dS)).to := hlt
      refine l_nil ?_
      refine kt_norm ?_
      refine v_condF rfl ?_
      refine v_skip ?_
      refine kb_norm ?_
      refine kt_norm ?_
      refine v_sel [8, 7, 0, 1, 2] [40] rfl rfl ?_
      refine v_region ?_
      refine l_val rfl (o_move rfl) ?_
      refine l_val rfl (o_addi rfl rfl ?_) ?_
      · omega
      refine l_val rfl (o_assign rfl) ?_
      refine l_nil ?_
      refine kt_norm ?_
      refine ⟨(i + 1, v7), ⟨hil, by rw [hct, if_neg hc1, List.append_nil]; exact hv7⟩, (by show l.length - (i + 1) < l.length - i; omega), le_app (And.intro rfl (And.intro rfl (True.intro))) [0, 1, 2] rfl (And.intro (congrArg some (own_congr (by rw [hct, if_neg hc1, List.append_nil]) (by rw [hct, if_neg hc1, List.append_nil]))) (True.intro)) [] rfl⟩
  · skip
    refine l_nil ?_
    refine kt_norm ?_
    refine v_condF rfl ?_
    refine v_exit ?_
    refine kt_exit ?_
    refine kt_exit ?_
    refine kb_eq ?_
    refine kt_norm ?_
    refine v_sel [7] [40] rfl rfl ?_
    refine v_seq ?_
    refine v_region ?_
    obtain rfl : i = l.length := by omega
    refine l_val rfl (o_move rfl) ?_
    refine l_val rfl (o_assign rfl) ?_
    refine l_nil ?_
    refine kt_norm ?_
    refine v_ret ?_
    refine ⟨[_], .cons (.tmp rfl) (ResAll.nil), ?_⟩
    exact ⟨40, congrArg some (own_congr (by rw [List.take_length]) (by rw [List.take_length]))⟩
theorem r_Sum (w : World) (v : Value) (l : List SpanT) (hn : l.length ≤ 1000000) (ho : SpOk l) (hV : RowV v l.length) (hrow : RowAt w v 2 l.length (l.flatMap eS)) :
    Calls Tryz.prog 19 #[v] w fun e w' => e = .returned (.int .i64 (sumS l)) ∧ Below w.heap.size w w' := by
  have hr : ∀ w', Chg (fun _ => False) w w' → RowAt w' v 2 l.length (l.flatMap eS) := fun w' h => hrow.chg h (fun h => h)
  refine calls_of (args := [v]) Tryz.func19 rfl Tryz.ntmps19 Tryz.results19 rfl ?_
  refine v_seq ?_
  refine v_region ?_
  refine l_val rfl (o_assign rfl) ?_
  refine l_nil ?_
  refine kt_norm ?_
  refine v_seq ?_
  refine v_region ?_
  refine l_val rfl (o_assign rfl) ?_
  refine l_nil ?_
  refine kt_norm ?_
  refine v_seq ?_
  refine v_seq ?_
  refine v_region ?_
  refine l_val rfl (o_assign rfl) ?_
  refine l_nil ?_
  refine kt_norm ?_
  refine v_block ?_
  refine v_loopS (α := Nat) (fun i => [(4, .int .i64 (i : Int)), (3, .int .i64 (sumS (l.take i)))]) (fun i => [])  (fun i => i ≤ l.length) (fun i => l.length - i) 0 [0] [] (Nat.zero_le _)  (And.intro rfl (And.intro rfl (True.intro))) rfl (True.intro) rfl ?_
  rintro i hi
  refine v_seq ?_
  refine v_seq ?_
  refine v_region ?_
  refine l_val rfl (o_move rfl) ?_
  refine l_val rfl (o_move rfl) ?_
  refine l_val rfl (o_len rfl hV) ?_
  refine l_split rfl (o_lss rfl rfl) (fun q1 => ?_) (fun q1 => ?_)
  · have hil : i < l.length := by omega
    have hb1 := spOk_getD ho hil
    have hb2 := sumS_ok (spOk_take ho i)
    have hb3 := List.length_take (i := i) (l := l)
    refine l_nil ?_
    refine kt_norm ?_
    refine v_condT rfl ?_
    refine v_skip ?_
    refine kt_norm ?_
    refine v_seq ?_
    refine v_block ?_
    refine v_drawZ [[], [], [], [], [], [], [], [], [], [], [], [], [], []] mixed ?_ (by kernel_rfl) (by kernel_rfl)
    refine d_val (fun _ => rfl) rfl rfl (fun _ => o_move rfl) ?_
    refine d_val (fun _ => rfl) rfl rfl (fun _ => o_move rfl) ?_
    refine d_val (fun _ => rfl) rfl rfl (fun _ => o_move rfl) ?_
    refine d_val (fun _ => rfl) rfl rfl (fun _ => o_idx (i) rfl hV rfl (by first | rfl | omega) (by omega)) ?_
    refine d_val (fun _ => rfl) rfl rfl (fun _ => o_fld rfl) ?_
    refine d_val (fun _ => rfl) rfl rfl (fun _ => o_loadRF (f := 1) rfl (row_imm hr) (el_flat eS_len dS l (i) (by omega)) rfl) ?_
    refine d_val (fun _ => rfl) rfl rfl (fun _ => o_addi rfl rfl ?_) ?_
    · omega
    refine d_val (fun _ => rfl) rfl rfl (fun _ => o_move rfl) ?_
    refine d_val (fun _ => rfl) rfl rfl (fun _ => o_move rfl) ?_
    refine d_val (fun _ => rfl) rfl rfl (fun _ => o_idx (i) rfl hV rfl (by first | rfl | omega) (by omega)) ?_
    refine d_val (fun _ => rfl) rfl rfl (fun _ => o_fld rfl) ?_
    refine d_val (fun _ => rfl) rfl rfl (fun _ => o_loadRF (f := 0) rfl (row_imm hr) (el_flat eS_len dS l (i) (by omega)) rfl) ?_
    refine d_val (fun _ => rfl) rfl rfl (fun _ => o_subi rfl rfl ?_) ?_
    · omega
    refine d_val (fun _ => rfl) rfl rfl (fun _ => o_assign rfl) ?_
    refine d_nil (fun σ => ?_)
    refine l_nil ?_
    refine kb_norm ?_
    refine kt_norm ?_
    refine v_sel [4, 3, 0] [] rfl rfl ?_
    refine v_region ?_
    refine l_val rfl (o_move rfl) ?_
    refine l_val rfl (o_addi rfl rfl ?_) ?_
    · omega
    refine l_val rfl (o_assign rfl) ?_
    refine l_nil ?_
    refine kt_norm ?_
    refine ⟨i + 1, hil, by omega, le_app (And.intro rfl (And.intro (congrArg (fun q => some (Value.int .i64 q)) (by rw [sumS_take hil]; omega)) (True.intro))) [0] rfl (True.intro) [] rfl⟩
  · skip
    refine l_nil ?_
    refine kt_norm ?_
    refine v_condF rfl ?_
    refine v_exit ?_
    refine kt_exit ?_
    refine kt_exit ?_
    refine kb_eq ?_
    refine kt_norm ?_
    refine v_sel [3] [] rfl rfl ?_
    refine v_seq ?_
    refine v_region ?_
    obtain rfl : i = l.length := by omega
    refine l_val rfl (o_move rfl) ?_
    refine l_val rfl (o_assign rfl) ?_
    refine l_nil ?_
    refine kt_norm ?_
    refine v_ret ?_
    refine ⟨[_], .cons (.tmp rfl) (ResAll.nil), ?_⟩
    exact congrArg (Value.int .i64) (by rw [List.take_length])
theorem hasS_yes {l : List SpanT} {x : Int} {i : Nat} (h : i < l.length) (h1 : (l.getD i dS).fr ≤ x) (h2 : x < (l.getD i dS).to) : hasS l x = true :=
  List.any_eq_true.2 ⟨_, sp_mem h, by rw [decide_eq_true h1, decide_eq_true h2]; rfl⟩
theorem hasS_no {l : List SpanT} {x : Int} (h : ∀ i, i < l.length → ¬ ((l.getD i dS).fr ≤ x ∧ x < (l.getD i dS).to)) : hasS l x = false :=
  List.any_eq_false.2 fun s hs => by
    obtain ⟨i, hi, rfl⟩ := List.getElem_of_mem hs
    have := h i hi
    rw [List.getD_eq_getElem?_getD, List.getElem?_eq_getElem hi] at this
    simpa using this
theorem r_Has (w : World) (v : Value) (l : List SpanT) (x : Int) (hn : l.length ≤ 1000000) (hV : RowV v l.length) (hrow : RowAt w v 2 l.length (l.flatMap eS)) :
    Calls Tryz.prog 21 #[v, .int .i64 x] w fun e w' => e = .returned (.bool (hasS l x)) ∧ Below w.heap.size w w' := by
  have hr : ∀ w', Chg (fun _ => False) w w' → RowAt w' v 2 l.length (l.flatMap eS) := fun w' h => hrow.chg h (fun h => h)
  refine calls_of (args := [v, .int .i64 x]) Tryz.func21 rfl Tryz.ntmps21 Tryz.results21 rfl ?_
  refine v_seq ?_
  refine v_region ?_
  refine l_val rfl (o_assign rfl) ?_
  refine l_nil ?_
  refine kt_norm ?_
  refine v_seq ?_
  refine v_seq ?_
  refine v_region ?_
  refine l_val rfl (o_assign rfl) ?_
  refine l_nil ?_
  refine kt_norm ?_
  refine v_block ?_
  refine v_loopS (α := Nat) (fun i => [(5, .int .i64 (i : Int))]) (fun i => [])  (fun i => i ≤ l.length ∧ ∀ k, k < i → ¬ ((l.getD k dS).fr ≤ x ∧ x < (l.getD k dS).to)) (fun i => l.length - i) 0 [0, 1] [] ⟨Nat.zero_le _, fun k h => by omega⟩  (And.intro rfl (True.intro)) rfl (True.intro) rfl ?_
  rintro i ⟨hi, hB⟩
  refine v_seq ?_
  refine v_seq ?_
  refine v_region ?_
  refine l_val rfl (o_move rfl) ?_
  refine l_val rfl (o_move rfl) ?_
  refine l_val rfl (o_len rfl hV) ?_
  refine l_split rfl (o_lss rfl rfl) (fun q1 => ?_) (fun q1 => ?_)
  · have hil : i < l.length := by omega
    refine l_nil ?_
    refine kt_norm ?_
    refine v_condT rfl ?_
    refine v_skip ?_
    refine kt_norm ?_
    refine v_seq ?_
    refine v_block ?_
    refine v_seq ?_
    refine v_region ?_
    refine l_val rfl (o_move rfl) ?_
    refine l_val rfl (o_move rfl) ?_
    refine l_val rfl (o_idx (i) rfl hV rfl (by first | rfl | omega) (by omega)) ?_
    refine l_val rfl (o_fld rfl) ?_
    refine l_val rfl (o_loadRF (f := 0) rfl (row_imm hr) (el_flat eS_len dS l (i) (by omega)) rfl) ?_
    refine l_val rfl (o_move rfl) ?_
    refine l_split rfl (o_leq rfl rfl) (fun h46 => ?_) (fun h46 => ?_)
    · skip
      refine l_val rfl (o_move rfl) ?_
      refine l_val rfl (o_move rfl) ?_
      refine l_val rfl (o_move rfl) ?_
      refine l_val rfl (o_move rfl) ?_
      refine l_val rfl (o_idx (i) rfl hV rfl (by first | rfl | omega) (by omega)) ?_
      refine l_val rfl (o_fld rfl) ?_
      refine l_val rfl (o_loadRF (f := 1) rfl (row_imm hr) (el_flat eS_len dS l (i) (by omega)) rfl) ?_
      refine l_split rfl (o_lss rfl rfl) (fun h414 => ?_) (fun h414 => ?_)
      · skip
        refine l_val rfl (o_pickT rfl rfl) ?_
        refine l_nil ?_
        refine kt_norm ?_
        refine v_sel [5, 0, 1, 20, 21, 22, 23, 24, 25, 26, 27] [] rfl rfl ?_
        refine v_condT rfl ?_
        refine v_seq ?_
        refine v_region ?_
        refine l_val rfl (o_assign rfl) ?_
        refine l_nil ?_
        refine kt_norm ?_
        refine v_sel [4] [] rfl rfl ?_
        refine v_ret ?_
        refine kb_ret ?_
        refine kt_ret ?_
        refine kt_ret ?_
        refine kb_ret ?_
        refine kt_ret ?_
        refine ⟨[_], .cons (.tmp rfl) (ResAll.nil), ?_⟩
        first
          | exact congrArg Value.bool (hasS_yes hil h46 h414).symm
          | exact congrArg Value.bool (hasS_no (fun k hk => hB k (by omega))).symm
      · skip
        refine l_val rfl (o_pickT rfl rfl) ?_
        refine l_nil ?_
        refine kt_norm ?_
        refine v_sel [5, 0, 1, 20, 21, 22, 23, 24, 25, 26, 27] [] rfl rfl ?_
        refine v_condF rfl ?_
        refine v_skip ?_
        refine kb_norm ?_
        refine kt_norm ?_
        refine v_region ?_
        refine l_val rfl (o_move rfl) ?_
        refine l_val rfl (o_addi rfl rfl ?_) ?_
        · omega
        refine l_val rfl (o_assign rfl) ?_
        refine l_nil ?_
        refine kt_norm ?_
        refine ⟨i + 1, ⟨hil, fun k hk => by rcases Nat.lt_or_eq_of_le (Nat.le_of_lt_succ hk) with h | h; exact hB k h; subst h; omega⟩, by omega, le_app (And.intro rfl (True.intro)) [0, 1] rfl (True.intro) [] rfl⟩
    · skip
      refine l_val rfl (o_move rfl) ?_
      refine l_no rfl ?_
      refine l_no rfl ?_
      refine l_no rfl ?_
      refine l_no rfl ?_
      refine l_no rfl ?_
      refine l_no rfl ?_
      refine l_no rfl ?_
      refine l_val rfl (o_pickF rfl rfl) ?_
      refine l_nil ?_
      refine kt_norm ?_
      refine v_sel [5, 0, 1, 20, 21, 22, 23, 24, 25, 26, 27] [] rfl rfl ?_
      refine v_condF rfl ?_
      refine v_skip ?_
      refine kb_norm ?_
      refine kt_norm ?_
      refine v_region ?_
      refine l_val rfl (o_move rfl) ?_
      refine l_val rfl (o_addi rfl rfl ?_) ?_
      · omega
      refine l_val rfl (o_assign rfl) ?_
      refine l_nil ?_
      refine kt_norm ?_
      refine ⟨i + 1, ⟨hil, fun k hk => by rcases Nat.lt_or_eq_of_le (Nat.le_of_lt_succ hk) with h | h; exact hB k h; subst h; omega⟩, by omega, le_app (And.intro rfl (True.intro)) [0, 1] rfl (True.intro) [] rfl⟩
  · skip
    refine l_nil ?_
    refine kt_norm ?_
    refine v_condF rfl ?_
    refine v_exit ?_
    refine kt_exit ?_
    refine kt_exit ?_
    refine kb_eq ?_
    refine kt_norm ?_
    refine v_sel [] [] rfl rfl ?_
    refine v_seq ?_
    refine v_region ?_
    refine l_val rfl (o_assign rfl) ?_
    refine l_nil ?_
    refine kt_norm ?_
    refine v_ret ?_
    refine ⟨[_], .cons (.tmp rfl) (ResAll.nil), ?_⟩
    first
      | exact congrArg Value.bool (hasS_yes hil h46 h414).symm
      | exact congrArg Value.bool (hasS_no (fun k hk => hB k (by omega))).symm
set_option maxHeartbeats 1000000 in
theorem a_SpansTells (w : World) (v : Value) (pvs : List Value) (ps : List (List PtT)) (r a b x : Int) (hv : PcsW v pvs ps) (hat : PcsAt w v pvs ps) : Calls Tryz.prog 3 #[v, .int .i64 r, .int .i64 a, .int .i64 b, .int .i64 x] w fun e w' => e = .returned (.bool true) ∧ Below w.heap.size w w' := by
  have hVp := hv.V
  have hlen := hv.len
  have hrowP : ∀ w', Chg (fun _ => False) w w' → RowAt w' v 1 ps.length pvs := fun w' h => (hat.keep h).row
  refine calls_of (args := [v, .int .i64 r, .int .i64 a, .int .i64 b, .int .i64 x]) Tryz.func3 rfl Tryz.ntmps3 Tryz.results3 rfl ?_
  refine v_seq ?_
  refine v_region ?_
  refine l_val rfl (o_assign rfl) ?_
  refine l_nil ?_
  refine kt_norm ?_
  refine v_seq ?_
  refine v_seq ?_
  refine v_region ?_
  refine l_val rfl (o_move rfl) ?_
  refine l_call (ks := []) rfl (o_callC (vs := [_]) (r := .bool (decide (Bn20 ps))) (ent_of Tryz.func6 rfl rfl) rfl (fun w' hg hh => a_bounded20 w' _ pvs ps hv (hat.keep hg))) ?_
  refine lz_bool (fun hbb => ?_) (fun hbb => ?_)
  · have hb := hbb.bnd
    have hvp := hb.pcsV hv
    have h320 := edgesAll_len hb
    have hso := all_spOk hb r
    have hsl : (rowS (crs r (liveT r (edgesAll ps)))).length ≤ (edgesAll ps).length := by have h1 := rowS_len (crs r (liveT r (edgesAll ps))); rw [crs_len] at h1; exact Nat.le_trans h1 (List.length_filter_le _ _)
    have hdr := docRow_all r ps
    refine l_val rfl (o_not rfl rfl) ?_
    refine l_val rfl (o_move rfl) ?_
    refine l_val rfl (o_move rfl) ?_
    refine l_ans (vs := [_]) rfl rfl (a_row20 _) ?_
    refine lz_bool (fun q1 => ?_) (fun q1 => ?_)
    · skip
      refine l_val rfl (o_not rfl rfl) ?_
      refine l_val rfl (o_pickF rfl rfl) ?_
      refine l_val rfl (o_move rfl) ?_
      refine l_val rfl (o_move rfl) ?_
      refine l_ans (vs := [_]) rfl rfl (a_far _) ?_
      refine lz_bool (fun q2 => ?_) (fun q2 => ?_)
      · skip
        refine l_val rfl (o_pickF rfl rfl) ?_
        refine l_val rfl (o_move rfl) ?_
        refine l_no rfl ?_
        refine l_no rfl ?_
        refine l_val rfl (o_pickT rfl rfl) ?_
        refine l_val rfl (o_move rfl) ?_
        refine l_no rfl ?_
        refine l_no rfl ?_
        refine l_val rfl (o_pickT rfl rfl) ?_
        refine l_val rfl (o_move rfl) ?_
        refine l_no rfl ?_
        refine l_no rfl ?_
        refine l_val rfl (o_pickT rfl rfl) ?_
        refine l_nil ?_
        refine kt_norm ?_
        refine v_sel [0, 1, 2, 3, 4, 39] [] rfl rfl ?_
        refine v_condT rfl ?_
        refine v_seq ?_
        refine v_region ?_
        refine l_ans (vs := []) rfl rfl (a_shown20) ?_
        refine l_val rfl (o_assign rfl) ?_
        refine l_nil ?_
        refine kt_norm ?_
        refine v_sel [10] [] rfl rfl ?_
        refine v_ret ?_
        refine kt_ret ?_
        refine ⟨[_], .cons (.tmp rfl) (ResAll.nil), ?_⟩
        rfl
      · skip
        refine l_val rfl (o_pickF rfl rfl) ?_
        refine l_val rfl (o_move rfl) ?_
        refine l_val rfl (o_move rfl) ?_
        refine l_ans (vs := [_]) rfl rfl (a_far _) ?_
        refine lz_bool (fun q3 => ?_) (fun q3 => ?_)
        · skip
          refine l_val rfl (o_pickF rfl rfl) ?_
          refine l_val rfl (o_move rfl) ?_
          refine l_no rfl ?_
          refine l_no rfl ?_
          refine l_val rfl (o_pickT rfl rfl) ?_
          refine l_val rfl (o_move rfl) ?_
          refine l_no rfl ?_
          refine l_no rfl ?_
          refine l_val rfl (o_pickT rfl rfl) ?_
          refine l_nil ?_
          refine kt_norm ?_
          refine v_sel [0, 1, 2, 3, 4, 39] [] rfl rfl ?_
          refine v_condT rfl ?_
          refine v_seq ?_
          refine v_region ?_
          refine l_ans (vs := []) rfl rfl (a_shown20) ?_
          refine l_val rfl (o_assign rfl) ?_
          refine l_nil ?_
          refine kt_norm ?_
          refine v_sel [10] [] rfl rfl ?_
          refine v_ret ?_
          refine kt_ret ?_
          refine ⟨[_], .cons (.tmp rfl) (ResAll.nil), ?_⟩
          rfl
        · skip
          refine l_val rfl (o_pickF rfl rfl) ?_
          refine l_val rfl (o_move rfl) ?_
          refine l_val rfl (o_move rfl) ?_
          refine l_ans (vs := [_]) rfl rfl (a_far _) ?_
          refine lz_bool (fun q4 => ?_) (fun q4 => ?_)
          · skip
            refine l_val rfl (o_pickF rfl rfl) ?_
            refine l_val rfl (o_move rfl) ?_
            refine l_no rfl ?_
            refine l_no rfl ?_
            refine l_val rfl (o_pickT rfl rfl) ?_
            refine l_nil ?_
            refine kt_norm ?_
            refine v_sel [0, 1, 2, 3, 4, 39] [] rfl rfl ?_
            refine v_condT rfl ?_
            refine v_seq ?_
            refine v_region ?_
            refine l_ans (vs := []) rfl rfl (a_shown20) ?_
            refine l_val rfl (o_assign rfl) ?_
            refine l_nil ?_
            refine kt_norm ?_
            refine v_sel [10] [] rfl rfl ?_
            refine v_ret ?_
            refine kt_ret ?_
            refine ⟨[_], .cons (.tmp rfl) (ResAll.nil), ?_⟩
            rfl
          · skip
            refine l_val rfl (o_pickF rfl rfl) ?_
            refine l_val rfl (o_move rfl) ?_
            refine l_ans (vs := []) rfl rfl (a_shown20) ?_
            refine l_val rfl (o_not rfl rfl) ?_
            refine l_val rfl (o_pickF rfl rfl) ?_
            refine l_nil ?_
            refine kt_norm ?_
            refine v_sel [0, 1, 2, 3, 4, 39] [] rfl rfl ?_
            refine v_condF rfl ?_
            refine v_skip ?_
            refine kt_norm ?_
            refine v_seq ?_
            refine v_region ?_
            refine l_val rfl (o_move rfl) ?_
            refine l_gown (ks := []) (caps := #[]) (vs := [_]) rfl rfl (ent_of Tryz.func10 rfl rfl) rfl (fun w' hg hh => a_all w' _ pvs ps hb hvp (hat.keep hg)) fun ya hya => ?_
            refine l_val rfl (o_assign rfl) ?_
            refine l_nil ?_
            refine kt_norm ?_
            refine v_seq ?_
            refine v_region ?_
            refine l_val rfl (o_move rfl) ?_
            refine l_val rfl (o_move rfl) ?_
            refine l_gown (ks := [42]) (caps := #[]) (vs := [_, _]) rfl rfl (ent_of Tryz.func11 rfl rfl) rfl (fun w' hg hh => a_Spans w' ya (edgesAll ps) r (by omega) hya (rowAt_own (hh 42 (by simp) _ rfl)) (all_cross hb r)) fun ys hys => ?_
            refine l_val rfl (o_assign rfl) ?_
            refine l_nil ?_
            refine kt_norm ?_
            refine v_sel [1, 2, 3, 4, 11, 12] [42, 45] rfl rfl ?_
            refine v_seq ?_
            refine v_region ?_
            refine l_val rfl (o_move rfl) ?_
            refine l_gown (ks := [42]) (caps := #[]) (vs := [_]) rfl rfl (ent_of Tryz.func13 rfl rfl) rfl (fun w' hg hh => r_its20 w' ya (edgesAll ps) (by omega) hya (rowAt_own (hh 42 (by simp) _ rfl))) fun yi hyi => ?_
            refine l_val rfl (o_move rfl) ?_
            refine l_gown (ks := [47]) (caps := #[]) (vs := [_, _]) rfl rfl (ent_of Tryz.func12 rfl rfl) rfl (fun w' hg hh => hdr ▸ r_SpansR w' yi (edgesAll ps) r (by omega) hyi (rowAt_own (hh 47 (by simp) _ rfl)) (all_cross hb r)) fun yt hyt => ?_
            refine l_val rfl (o_assign rfl) ?_
            refine l_nil ?_
            refine kt_norm ?_
            refine v_sel [2, 3, 4, 12, 13] [45, 49] rfl rfl ?_
            refine v_seq ?_
            refine v_region ?_
            refine l_val rfl (o_move rfl) ?_
            refine l_val rfl (o_move rfl) ?_
            refine l_val rfl (o_move rfl) ?_
            refine l_gown (ks := [45]) (caps := #[]) (vs := [_, _, _]) rfl rfl (ent_of Tryz.func14 rfl rfl) rfl (fun w' hg hh => a_Clip w' ys (rowS (crs r (liveT r (edgesAll ps)))) a b (by omega) hys (rowAt_own (hh 45 (by simp) _ rfl))) fun yc hyc => ?_
            refine l_val rfl (o_assign rfl) ?_
            refine l_nil ?_
            refine kt_norm ?_
            refine v_seq ?_
            refine v_region ?_
            refine l_val rfl (o_move rfl) ?_
            refine l_val rfl (o_move rfl) ?_
            refine l_val rfl (o_move rfl) ?_
            refine l_gown (ks := [49]) (caps := #[]) (vs := [_, _, _]) rfl rfl (ent_of Tryz.func15 rfl rfl) rfl (fun w' hg hh => r_Clip w' yt (rowS (crs r (liveT r (edgesAll ps)))) a b (by omega) hyt (rowAt_own (hh 49 (by simp) _ rfl))) fun yd hyd => ?_
            refine l_val rfl (o_assign rfl) ?_
            refine l_nil ?_
            refine kt_norm ?_
            refine v_sel [4, 12, 13, 14, 15] [45, 49, 53, 57] rfl rfl ?_
            refine v_seq ?_
            refine v_region ?_
            have hlc := clipT_len a b (rowS (crs r (liveT r (edgesAll ps))))
            refine l_val rfl (o_move rfl) ?_
            refine l_gown (ks := [45]) (caps := #[]) (vs := [_]) rfl rfl (ent_of Tryz.func17 rfl rfl) rfl (fun w' hg hh => r_own20 w' ys (rowS (crs r (liveT r (edgesAll ps)))) (by omega) hys (rowAt_own (hh 45 (by simp) _ rfl))) fun yo hyo => ?_
            refine l_val rfl (o_move rfl) ?_
            refine l_call (ks := [59, 49]) rfl (o_callC (vs := [_, _]) (r := .bool true) (ent_of Tryz.func16 rfl rfl) rfl (fun w' hg hh => r_Same20 w' yo yt (rowS (crs r (liveT r (edgesAll ps)))) (by omega) hyo (rowAt_own (hh 59 (by simp) _ rfl)) hyt (rowAt_own (hh 49 (by simp) _ rfl)))) ?_
            refine l_val rfl (o_move rfl) ?_
            refine l_val rfl (o_move rfl) ?_
            refine l_gown (ks := [53]) (caps := #[]) (vs := [_]) rfl rfl (ent_of Tryz.func17 rfl rfl) rfl (fun w' hg hh => r_own20 w' yc (clipT a b (rowS (crs r (liveT r (edgesAll ps))))) (by omega) hyc (rowAt_own (hh 53 (by simp) _ rfl))) fun yp hyp => ?_
            refine l_val rfl (o_move rfl) ?_
            refine l_call (ks := [64, 57]) rfl (o_callC (vs := [_, _]) (r := .bool true) (ent_of Tryz.func16 rfl rfl) rfl (fun w' hg hh => r_Same20 w' yp yd (clipT a b (rowS (crs r (liveT r (edgesAll ps))))) (by omega) hyp (rowAt_own (hh 64 (by simp) _ rfl)) hyd (rowAt_own (hh 57 (by simp) _ rfl)))) ?_
            refine l_val rfl (o_pickT rfl rfl) ?_
            refine l_val rfl (o_move rfl) ?_
            refine l_val rfl (o_move rfl) ?_
            refine l_call (ks := [53]) rfl (o_callC (vs := [_]) (r := .int .i64 (sumS (clipT a b (rowS (crs r (liveT r (edgesAll ps))))))) (ent_of Tryz.func18 rfl rfl) rfl (fun w' hg hh => a_Sum w' yc (clipT a b (rowS (crs r (liveT r (edgesAll ps))))) (by omega) (spOk_clip hso _ _) hyc (rowAt_own (hh 53 (by simp) _ rfl)))) ?_
            refine l_val rfl (o_move rfl) ?_
            refine l_call (ks := [57]) rfl (o_callC (vs := [_]) (r := .int .i64 (sumS (clipT a b (rowS (crs r (liveT r (edgesAll ps))))))) (ent_of Tryz.func19 rfl rfl) rfl (fun w' hg hh => r_Sum w' yd (clipT a b (rowS (crs r (liveT r (edgesAll ps))))) (by omega) (spOk_clip hso _ _) hyd (rowAt_own (hh 57 (by simp) _ rfl)))) ?_
            refine l_split rfl (o_eql rfl rfl) (fun q5 => ?_) (fun q5 => absurd (show _ by omega) q5)
            refine l_val rfl (o_pickT rfl rfl) ?_
            refine l_val rfl (o_move rfl) ?_
            refine l_val rfl (o_move rfl) ?_
            refine l_val rfl (o_move rfl) ?_
            refine l_call (ks := [45]) rfl (o_callC (vs := [_, _]) (r := .bool (hasS (rowS (crs r (liveT r (edgesAll ps)))) x)) (ent_of Tryz.func20 rfl rfl) rfl (fun w' hg hh => a_Has w' ys (rowS (crs r (liveT r (edgesAll ps)))) x (by omega) hys (rowAt_own (hh 45 (by simp) _ rfl)))) ?_
            refine l_val rfl (o_move rfl) ?_
            refine l_val rfl (o_move rfl) ?_
            refine l_call (ks := [49]) rfl (o_callC (vs := [_, _]) (r := .bool (hasS (rowS (crs r (liveT r (edgesAll ps)))) x)) (ent_of Tryz.func21 rfl rfl) rfl (fun w' hg hh => r_Has w' yt (rowS (crs r (liveT r (edgesAll ps)))) x (by omega) hyt (rowAt_own (hh 49 (by simp) _ rfl)))) ?_
            refine l_val rfl (o_eqlb rfl rfl (BEq.rfl)) ?_
            refine l_val rfl (o_pickT rfl rfl) ?_
            refine l_val rfl (o_move rfl) ?_
            refine l_val rfl (o_move rfl) ?_
            refine l_val rfl (o_move rfl) ?_
            refine l_call (ks := [53]) rfl (o_callC (vs := [_, _]) (r := .bool (hasS (clipT a b (rowS (crs r (liveT r (edgesAll ps))))) x)) (ent_of Tryz.func20 rfl rfl) rfl (fun w' hg hh => a_Has w' yc (clipT a b (rowS (crs r (liveT r (edgesAll ps))))) x (by omega) hyc (rowAt_own (hh 53 (by simp) _ rfl)))) ?_
            refine l_val rfl (o_move rfl) ?_
            refine l_val rfl (o_move rfl) ?_
            refine l_call (ks := [57]) rfl (o_callC (vs := [_, _]) (r := .bool (hasS (clipT a b (rowS (crs r (liveT r (edgesAll ps))))) x)) (ent_of Tryz.func21 rfl rfl) rfl (fun w' hg hh => r_Has w' yd (clipT a b (rowS (crs r (liveT r (edgesAll ps))))) x (by omega) hyd (rowAt_own (hh 57 (by simp) _ rfl)))) ?_
            refine l_val rfl (o_eqlb rfl rfl (BEq.rfl)) ?_
            refine l_val rfl (o_pickT rfl rfl) ?_
            refine l_val rfl (o_assign rfl) ?_
            refine l_nil ?_
            refine kt_norm ?_
            refine v_sel [10] [] rfl rfl ?_
            refine v_ret ?_
            refine ⟨[_], .cons (.tmp rfl) (ResAll.nil), ?_⟩
            rfl
    · skip
      refine l_val rfl (o_not rfl rfl) ?_
      refine l_val rfl (o_pickF rfl rfl) ?_
      refine l_val rfl (o_move rfl) ?_
      refine l_no rfl ?_
      refine l_no rfl ?_
      refine l_val rfl (o_pickT rfl rfl) ?_
      refine l_val rfl (o_move rfl) ?_
      refine l_no rfl ?_
      refine l_no rfl ?_
      refine l_val rfl (o_pickT rfl rfl) ?_
      refine l_val rfl (o_move rfl) ?_
      refine l_no rfl ?_
      refine l_no rfl ?_
      refine l_val rfl (o_pickT rfl rfl) ?_
      refine l_val rfl (o_move rfl) ?_
      refine l_no rfl ?_
      refine l_no rfl ?_
      refine l_val rfl (o_pickT rfl rfl) ?_
      refine l_nil ?_
      refine kt_norm ?_
      refine v_sel [0, 1, 2, 3, 4, 39] [] rfl rfl ?_
      refine v_condT rfl ?_
      refine v_seq ?_
      refine v_region ?_
      refine l_ans (vs := []) rfl rfl (a_shown20) ?_
      refine l_val rfl (o_assign rfl) ?_
      refine l_nil ?_
      refine kt_norm ?_
      refine v_sel [10] [] rfl rfl ?_
      refine v_ret ?_
      refine kt_ret ?_
      refine ⟨[_], .cons (.tmp rfl) (ResAll.nil), ?_⟩
      rfl
  · skip
    refine l_val rfl (o_not rfl rfl) ?_
    refine l_val rfl (o_move rfl) ?_
    refine l_no rfl ?_
    refine l_no rfl ?_
    refine l_no rfl ?_
    refine l_val rfl (o_pickT rfl rfl) ?_
    refine l_val rfl (o_move rfl) ?_
    refine l_no rfl ?_
    refine l_no rfl ?_
    refine l_val rfl (o_pickT rfl rfl) ?_
    refine l_val rfl (o_move rfl) ?_
    refine l_no rfl ?_
    refine l_no rfl ?_
    refine l_val rfl (o_pickT rfl rfl) ?_
    refine l_val rfl (o_move rfl) ?_
    refine l_no rfl ?_
    refine l_no rfl ?_
    refine l_val rfl (o_pickT rfl rfl) ?_
    refine l_val rfl (o_move rfl) ?_
    refine l_no rfl ?_
    refine l_no rfl ?_
    refine l_val rfl (o_pickT rfl rfl) ?_
    refine l_nil ?_
    refine kt_norm ?_
    refine v_sel [0, 1, 2, 3, 4, 39] [] rfl rfl ?_
    refine v_condT rfl ?_
    refine v_seq ?_
    refine v_region ?_
    refine l_ans (vs := []) rfl rfl (a_shown20) ?_
    refine l_val rfl (o_assign rfl) ?_
    refine l_nil ?_
    refine kt_norm ?_
    refine v_sel [10] [] rfl rfl ?_
    refine v_ret ?_
    refine kt_ret ?_
    refine ⟨[_], .cons (.tmp rfl) (ResAll.nil), ?_⟩
    rfl
end Go.Proofs.YtaijclimdfchfaaGreat
