import Derived.Test.YtaijclimdfchfaaF13
import Derived.Test.YtaijclimdfchfaaF5
/- Pieces and a view that are shifted alike have one cover. Conditions: none. -/
namespace Go.Proofs.Ytaijclimdfchfaa
open Go.Proofs Go.RowKit Go.Shelf

theorem lenC_sh (d lo hi : Int) (s : SpanT) : lenC (lo + d) (hi + d) (shS d s) = lenC lo hi s := by
  have e1 := lenC_def (lo + d) (hi + d) (shS d s)
  have e2 := lenC_def lo hi s
  have f1 : (shS d s).fr = s.fr + d := rfl
  have f2 : (shS d s).to = s.to + d := rfl
  rw [f1, f2] at e1
  by_cases hc : max lo s.fr < min hi s.to
  · have h3 := e1.1 (by omega); have h4 := e2.1 hc; omega
  · have h3 := e1.2 (by omega); have h4 := e2.2 hc; omega
theorem covK_shift (dx dy c y : Int) (ps : List (List PtT)) : ∀ k, covK (shPs (256 * dx) (256 * dy) ps) (c + dx) (y + dy) k = covK ps c y k
  | 0 => rfl
  | k + 1 => by
    rw [covK, covK, covK_shift dx dy c y ps k]
    congr 1
    rw [show 16 * (y + dy) + (k : Int) = 16 * y + k + 16 * dy by omega, row_shift, sumF_map]
    refine sumF_congr _ fun s _ => ?_
    rw [show 256 * (c + dx) = 256 * c + 256 * dx by omega, show 256 * c + 256 * dx + 256 = 256 * c + 256 + 256 * dx by omega]
    exact lenC_sh _ _ _ _
/-- a cover, pixel by pixel -/
def covPix (ps : List (List PtT)) (X Y : Int) (n : Nat) : Nat → List Int
  | 0 => []
  | k + 1 => covPix ps X Y n k ++ (List.range n).map fun p : Nat => valT (covA ps (X + p) (Y + k))
theorem pixT_cov {X Y : Int} {n h : Nat} {ps : List (List PtT)} (hv : ViewOk X Y (n : Int) (h : Int)) : ∀ k, k ≤ h → pixT (tabT X Y (n : Int) (h : Int) ps) X Y n k = covPix ps X Y n k
  | 0, _ => rfl
  | k + 1, hk => by
    have h1 : pixRow (tabT X Y (n : Int) (h : Int) ps) X n (16 * (Y + (k : Int))) = (List.range n).map fun p : Nat => valT (covA ps (X + p) (Y + k)) := by
      unfold pixRow
      refine List.map_congr_left fun p _ => ?_
      unfold covA
      rw [← cov_row hv (show k < h by omega) p 16 (Nat.le_refl _)]
    rw [pixT, covPix, pixT_cov hv k (by omega), h1]
theorem covPix_shift (dx dy X Y : Int) (n : Nat) (ps : List (List PtT)) : ∀ k, covPix (shPs (256 * dx) (256 * dy) ps) (X + dx) (Y + dy) n k = covPix ps X Y n k
  | 0 => rfl
  | k + 1 => by
    rw [covPix, covPix, covPix_shift dx dy X Y n ps k]
    congr 1
    refine List.map_congr_left fun p _ => ?_
    rw [show X + dx + (p : Int) = X + p + dx by omega, show Y + dy + (k : Int) = Y + k + dy by omega]
    unfold covA
    rw [covK_shift]
theorem pix_shift {dx dy X Y : Int} {n h : Nat} {ps : List (List PtT)} (hv : ViewOk X Y (n : Int) (h : Int)) (hv2 : ViewOk (X + dx) (Y + dy) (n : Int) (h : Int)) : pixT (tabT X Y (n : Int) (h : Int) ps) X Y n h = pixT (tabT (X + dx) (Y + dy) (n : Int) (h : Int) (shPs (256 * dx) (256 * dy) ps)) (X + dx) (Y + dy) n h := by
  rw [pixT_cov hv h (Nat.le_refl _), pixT_cov hv2 h (Nat.le_refl _), covPix_shift]
theorem fill_one {v : Value} {n : Nat} (h : RowV v n) : fillL [(0, 1)] [.slice none 0 0] [(0, v)] = some [v] := by
  obtain ⟨a, c, rfl⟩ := h.sl; rfl
theorem all_one {v : Value} {n : Nat} (h : RowV v n) : [v].all (·.oneCell') = true := by
  obtain ⟨a, c, rfl⟩ := h.sl; rfl
theorem a_EqualU (w : World) (v u : Value) (p : List Int) (hn : p.length ≤ 1000000) (hV : RowV v p.length) (hrow : RowAt w v 1 p.length (iU p)) (hU : RowV u p.length) (hrow2 : RowAt w u 1 p.length (iU p)) :
    Calls Try.prog 53 #[v, u] w fun e w' => e = .returned (.bool true) ∧ Below w.heap.size w w' := by
  have hr : ∀ w', Chg (fun _ => False) w w' → RowAt w' v 1 p.length (iU p) := fun w' h => hrow.chg h (fun h => h)
  have hr2 : ∀ w', Chg (fun _ => False) w w' → RowAt w' u 1 p.length (iU p) := fun w' h => hrow2.chg h (fun h => h)
  refine calls_of (args := [v, u]) Try.func53 rfl Try.ntmps53 Try.results53 rfl ?_
  refine v_seq ?_
  refine v_region ?_
  refine l_val rfl (o_assign rfl) ?_
  refine l_nil ?_
  refine kt_norm ?_
  refine v_seq ?_
  refine v_seq ?_
  refine v_region ?_
  refine l_val rfl (o_move rfl) ?_
  refine l_val rfl (o_len rfl hV) ?_
  refine l_val rfl (o_move rfl) ?_
  refine l_val rfl (o_len rfl hU) ?_
  refine l_split rfl (o_neq rfl rfl) (fun q1 => absurd q1 (by omega)) (fun q1 => ?_)
  refine l_nil ?_
  refine kt_norm ?_
  refine v_condF rfl ?_
  refine v_skip ?_
  refine kt_norm ?_
  refine v_sel [0, 1] [] rfl rfl ?_
  refine v_seq ?_
  refine v_seq ?_
  refine v_region ?_
  refine l_val rfl (o_move rfl) ?_
  refine l_val rfl (o_len rfl hV) ?_
  refine l_val rfl (o_move rfl) ?_
  refine l_nil ?_
  refine kt_norm ?_
  refine v_block ?_
  refine v_loopS (α := Nat) (fun i => [(13, .int .i64 (i : Int))]) (fun i => [])  (fun i => i ≤ p.length) (fun i => p.length - i) 0 [0, 1, 12] [] (Nat.zero_le _)  (And.intro rfl (True.intro)) rfl (True.intro) rfl ?_
  rintro i hi
  refine v_seq ?_
  refine v_region ?_
  refine l_split rfl (o_lss rfl rfl) (fun q2 => ?_) (fun q2 => ?_)
  · skip
    refine l_nil ?_
    refine kt_norm ?_
    refine v_seq ?_
    refine v_condT rfl ?_
    refine v_skip ?_
    refine kt_norm ?_
    refine v_seq ?_
    refine v_block ?_
    refine v_seq ?_
    refine v_region ?_
    refine l_val rfl (o_move rfl) ?_
    refine l_val rfl (o_assign rfl) ?_
    refine l_nil ?_
    refine kt_norm ?_
    refine v_seq ?_
    refine v_drawZ [[], [], [], [], [], [], [], [], []] mixed ?_ (by kernel_rfl) (by kernel_rfl)
    refine d_val (fun _ => rfl) rfl rfl (fun _ => o_move rfl) ?_
    refine d_val (fun _ => rfl) rfl rfl (fun _ => o_move rfl) ?_
    refine d_val (fun _ => rfl) rfl rfl (fun _ => o_idx (i) rfl hV rfl (by first | rfl | omega) (by omega)) ?_
    refine d_val (fun _ => rfl) rfl rfl (fun _ => o_loadR1 rfl (row_imm hr) (el_u8 (l := p) (i := i) (by omega))) ?_
    refine d_val (fun _ => rfl) rfl rfl (fun _ => o_move rfl) ?_
    refine d_val (fun _ => rfl) rfl rfl (fun _ => o_move rfl) ?_
    refine d_val (fun _ => rfl) rfl rfl (fun _ => o_idx (i) rfl hU rfl (by first | rfl | omega) (by omega)) ?_
    refine d_val (fun _ => rfl) rfl rfl (fun _ => o_loadR1 rfl (row_imm hr2) (el_u8 (l := p) (i := i) (by omega))) ?_
    refine d_neq (fun _ => rfl) (fun _ => rfl) (fun _ => rfl) (fun q3 => absurd q3 (by omega)) (fun q3 => ?_)
    refine d_nil (fun σ => ?_)
    refine l_nil ?_
    refine kt_norm ?_
    refine v_sel [13, 0, 1, 12, 24] [] rfl rfl ?_
    refine v_condF rfl ?_
    refine v_skip ?_
    refine kb_norm ?_
    refine kt_norm ?_
    refine v_region ?_
    refine l_val rfl (o_addi rfl rfl ?_) ?_
    · omega
    refine l_val rfl (o_move rfl) ?_
    refine l_nil ?_
    refine kt_norm ?_
    refine ⟨i + 1, by omega, by omega, le_app (And.intro rfl (True.intro)) [0, 1, 12] rfl (True.intro) [] rfl⟩
  · skip
    refine l_nil ?_
    refine kt_norm ?_
    refine v_seq ?_
    refine v_condF rfl ?_
    refine v_exit ?_
    refine kt_exit ?_
    refine kt_exit ?_
    refine kb_eq ?_
    refine kt_norm ?_
    refine v_seq ?_
    refine v_region ?_
    refine l_val rfl (o_assign rfl) ?_
    refine l_nil ?_
    refine kt_norm ?_
    refine v_ret ?_
    refine ⟨[_], .cons (.tmp rfl) (ResAll.nil), ?_⟩
    rfl
theorem a_SameC (w : World) (v u : Value) (n h : Nat) (p q : List Int) (he : p = q) (hn : p.length ≤ 1000000) (hV : RowV v p.length) (hrow : RowAt w v 1 p.length (iU p)) (hU : RowV u q.length) (hrow2 : RowAt w u 1 q.length (iU q)) :
    Calls Try.prog 31 #[.agg #[.int .i64 (n : Int), .int .i64 (h : Int), v], .agg #[.int .i64 (n : Int), .int .i64 (h : Int), u]] w fun e w' => e = .returned (.bool true) ∧ Below w.heap.size w w' := by
  subst he
  have hr : ∀ w', Chg (fun _ => False) w w' → RowAt w' v 1 p.length (iU p) := fun w' h => hrow.chg h (fun h => h)
  have hr2 : ∀ w', Chg (fun _ => False) w w' → RowAt w' u 1 p.length (iU p) := fun w' h => hrow2.chg h (fun h => h)
  obtain ⟨a1, c1, rfl⟩ := hV.sl
  obtain ⟨a2, c2, rfl⟩ := hU.sl
  refine calls_of (args := [.agg #[.int .i64 (n : Int), .int .i64 (h : Int), .slice a1 p.length c1], .agg #[.int .i64 (n : Int), .int .i64 (h : Int), .slice a2 p.length c2]]) Try.func31 rfl Try.ntmps31 Try.results31 rfl ?_
  refine v_seq ?_
  refine v_region ?_
  refine l_new rfl (o_box (cs := [_, _, _]) rfl rfl) fun b2 => ?_
  refine l_new rfl (o_box (cs := [_, _, _]) rfl rfl) fun b3 => ?_
  refine l_val rfl (o_assign rfl) ?_
  refine l_nil ?_
  refine kt_norm ?_
  refine v_seq ?_
  refine v_region ?_
  refine l_val rfl (o_fld rfl) ?_
  refine l_val rfl (o_load1 (key := 2) rfl rfl rfl) ?_
  refine l_val rfl (o_fld rfl) ?_
  refine l_val rfl (o_load1 (key := 3) rfl rfl rfl) ?_
  refine l_split rfl (o_eql rfl rfl) (fun q1 => ?_) (fun q1 => absurd (show _ by omega) q1)
  refine l_val rfl (o_move rfl) ?_
  refine l_val rfl (o_fld rfl) ?_
  refine l_val rfl (o_load1 (key := 2) rfl rfl rfl) ?_
  refine l_val rfl (o_fld rfl) ?_
  refine l_val rfl (o_load1 (key := 3) rfl rfl rfl) ?_
  refine l_split rfl (o_eql rfl rfl) (fun q2 => ?_) (fun q2 => absurd (show _ by omega) q2)
  refine l_val rfl (o_pickT rfl rfl) ?_
  refine l_val rfl (o_move rfl) ?_
  refine l_val rfl (o_fld rfl) ?_
  refine l_val rfl (o_load1 (key := 2) rfl rfl rfl) ?_
  refine l_val rfl (o_fld rfl) ?_
  refine l_val rfl (o_load1 (key := 3) rfl rfl rfl) ?_
  refine l_call (ks := []) rfl (o_callC (vs := [_, _]) (r := .bool true) (ent_of Try.func53 rfl rfl) rfl (fun w' hg hh => a_EqualU w' (.slice a1 p.length c1) (.slice a2 p.length c2) p hn hV (hr w' hg) hU (hr2 w' hg))) ?_
  refine l_val rfl (o_pickT rfl rfl) ?_
  refine l_val rfl (o_assign rfl) ?_
  refine l_nil ?_
  refine kt_norm ?_
  refine v_sel [4] [] rfl rfl ?_
  refine v_ret ?_
  refine ⟨[_], .cons (.tmp rfl) (ResAll.nil), ?_⟩
  rfl
theorem r_PAdd (x y u v : Int) (hx : -1099511627776 ≤ x ∧ x ≤ 1099511627776) (hy : -1099511627776 ≤ y ∧ y ≤ 1099511627776) (hu : -1099511627776 ≤ u ∧ u ≤ 1099511627776) (hv : -1099511627776 ≤ v ∧ v ≤ 1099511627776) : Ans Try.prog 52 [.agg #[.int .i64 x, .int .i64 y], .agg #[.int .i64 u, .int .i64 v]] (.agg #[.int .i64 (x + u), .int .i64 (y + v)]) := by
  refine ans_of Try.func52 rfl Try.ntmps52 Try.results52 rfl rfl fun w => ?_
  refine v_seq ?_
  refine v_region ?_
  refine l_new rfl (o_box (cs := [_, _]) rfl rfl) fun b2 => ?_
  refine l_new rfl (o_box (cs := [_, _]) rfl rfl) fun b3 => ?_
  refine l_new rfl o_alloc fun b4 => ?_
  refine l_nil ?_
  refine kt_norm ?_
  refine v_seq ?_
  refine v_region ?_
  refine l_val rfl (o_fld rfl) ?_
  refine l_val rfl (o_load1 (key := 2) rfl rfl rfl) ?_
  refine l_val rfl (o_fld rfl) ?_
  refine l_val rfl (o_load1 (key := 3) rfl rfl rfl) ?_
  refine l_val rfl (o_addi rfl rfl ?_) ?_
  · omega
  refine l_val rfl (o_fld rfl) ?_
  refine l_val rfl (o_load1 (key := 2) rfl rfl rfl) ?_
  refine l_val rfl (o_fld rfl) ?_
  refine l_val rfl (o_load1 (key := 3) rfl rfl rfl) ?_
  refine l_val rfl (o_addi rfl rfl ?_) ?_
  · omega
  refine l_val rfl (o_build (vs := [_, _]) (cs := [_, _]) rfl rfl) ?_
  refine l_store rfl (o_storeW (key := 4) (xs := [_, _]) rfl rfl rfl rfl rfl rfl rfl) ?_
  refine l_nil ?_
  refine kt_norm ?_
  refine v_sel [4] [4] rfl rfl ?_
  refine v_ret ?_
  refine ⟨[_], .cons (.cellW (key := 4) rfl rfl rfl) (ResAll.nil), ?_⟩
  rfl
theorem r_Shift (w : World) (v : Value) (pc : List PtT) (bx by_ : Int) (hbx : -8388608 ≤ bx ∧ bx ≤ 8388608) (hby : -8388608 ≤ by_ ∧ by_ ≤ 8388608) (hs : pc.length ≤ 1000000) (hV : RowV v pc.length) (hrow : RowAt w v 2 pc.length (pc.flatMap eP)) (hnear : ∀ p ∈ pc, NearT p) :
    Calls Try.prog 30 #[v, .agg #[.int .i64 bx, .int .i64 by_]] w fun e w' => ∃ y, e = .returned y ∧ Below w.heap.size w w' ∧ OwnAt w.heap.size w' y 39 2 pc.length ((pc.map (shP bx by_)).flatMap eP) := by
  have hr : ∀ w', Chg (fun _ => False) w w' → RowAt w' v 2 pc.length (pc.flatMap eP) := fun w' h => hrow.chg h (fun h => h)
  refine calls_own (args := [v, .agg #[.int .i64 bx, .int .i64 by_]]) Try.func30 rfl Try.ntmps30 Try.results30 rfl ?_
  refine v_seq ?_
  refine v_region ?_
  refine l_new rfl (o_box (cs := [_, _]) rfl rfl) fun b3 => ?_
  refine l_val rfl (o_assign rfl) ?_
  refine l_nil ?_
  refine kt_norm ?_
  refine v_seq ?_
  refine v_region ?_
  refine l_buildSlice (vs := []) (cs := []) rfl rfl rfl rfl rfl rfl fun v7 hv7 => ?_
  refine l_val rfl (o_assign rfl) ?_
  refine l_nil ?_
  refine kt_norm ?_
  refine v_seq ?_
  refine v_seq ?_
  refine v_region ?_
  refine l_val rfl (o_assign rfl) ?_
  refine l_nil ?_
  refine kt_norm ?_
  refine v_block ?_
  refine v_ren 7 22 [3] rfl rfl rfl ?_
  refine v_loopS (α := Nat × Value) (fun ⟨i, v5⟩ => [(6, .int .i64 (i : Int)), (5, v5)]) (fun ⟨i, v5⟩ => [(22, Hp.own v5 39 2 i (((pc.take i).map (shP bx by_)).flatMap eP))])  (fun ⟨i, v5⟩ => i ≤ pc.length ∧ RowV v5 i) (fun ⟨i, v5⟩ => pc.length - i) (0, v7) [0, 3] [3] ⟨Nat.zero_le _, hv7⟩  (And.intro rfl (And.intro rfl (True.intro))) rfl (And.intro rfl (True.intro)) rfl ?_
  rintro ⟨i, v5⟩ ⟨hi, hv5⟩
  refine v_seq ?_
  refine v_seq ?_
  refine v_region ?_
  refine l_val rfl (o_move rfl) ?_
  refine l_val rfl (o_move rfl) ?_
  refine l_val rfl (o_len rfl hV) ?_
  refine l_split rfl (o_lss rfl rfl) (fun q1 => ?_) (fun q1 => ?_)
  · have hil : i < pc.length := by omega
    have hni := near_getD hnear hil
    unfold NearT at hni
    refine l_nil ?_
    refine kt_norm ?_
    refine v_condT rfl ?_
    refine v_skip ?_
    refine kt_norm ?_
    refine v_seq ?_
    refine v_block ?_
    refine v_drawZ [[], [], [], [], [], [3], [], []] mixed ?_ (by kernel_rfl) (by kernel_rfl)
    refine d_val (fun _ => rfl) rfl rfl (fun _ => o_move rfl) ?_
    refine d_val (fun _ => rfl) rfl rfl (fun _ => o_move rfl) ?_
    refine d_val (fun _ => rfl) rfl rfl (fun _ => o_move rfl) ?_
    refine d_val (fun _ => rfl) rfl rfl (fun _ => o_idx (i) rfl hV rfl (by first | rfl | omega) (by omega)) ?_
    refine d_val (fun _ => rfl) rfl rfl (fun _ => o_loadRE (c' := [_, _]) rfl (row_imm hr) (el_flat eP_len dP pc (i) (by omega)) rfl) ?_
    refine d_val (fun _ => rfl) rfl rfl (fun _ => o_loadW (key := 3) rfl rfl rfl) ?_
    refine d_ans (vs := [_, _]) (fun _ => rfl) (fun _ => rfl) (r_PAdd _ _ _ _ ?_ ?_ ?_ ?_) ?_
    · omega
    · omega
    · omega
    · omega
    refine d_newS (fun _ => rfl) rfl rfl (fun _ => o_bs (vs := [_]) (cs := [_, _]) rfl rfl rfl rfl) ?_
    refine d_nil (fun σ => ?_)
    refine l_toOwn 21 [3, 22] (n := 1) 2 rfl rfl rfl rfl rfl rfl ?_
    refine l_append 22 [3, 21] rfl rfl rfl rfl rfl rfl rfl (.inl ⟨_, _, _, rfl⟩) (row_own (key := 21) rfl) (by omega) fun v22 hv22 => ?_
    refine l_val rfl (o_assign rfl) ?_
    refine l_nil ?_
    refine kb_norm ?_
    refine kt_norm ?_
    refine v_sel [6, 5, 0, 3] [3, 22] rfl rfl ?_
    refine v_region ?_
    refine l_val rfl (o_move rfl) ?_
    refine l_val rfl (o_addi rfl rfl ?_) ?_
    · omega
    refine l_val rfl (o_assign rfl) ?_
    refine l_nil ?_
    refine kt_norm ?_
    refine ⟨(i + 1, v22), ⟨hil, hv22⟩, (by show pc.length - (i + 1) < pc.length - i; omega), le_app (And.intro rfl (And.intro rfl (True.intro))) [0, 3] rfl (And.intro (congrArg some (own_congr rfl (shp_snoc hil))) (True.intro)) [3] rfl⟩
  · skip
    refine l_nil ?_
    refine kt_norm ?_
    refine v_condF rfl ?_
    refine v_exit ?_
    refine kt_exit ?_
    refine kt_exit ?_
    refine kb_eq ?_
    refine kt_norm ?_
    refine v_sel [5] [22] rfl rfl ?_
    refine v_seq ?_
    refine v_region ?_
    obtain rfl : i = pc.length := by omega
    refine l_val rfl (o_move rfl) ?_
    refine l_val rfl (o_assign rfl) ?_
    refine l_nil ?_
    refine kt_norm ?_
    refine v_ret ?_
    refine ⟨[_], .cons (.tmp rfl) (ResAll.nil), ?_⟩
    exact ⟨22, congrArg some (own_congr rfl (by rw [List.take_length]))⟩
set_option maxHeartbeats 2000000 in
theorem a_CoverShifts (w : World) (v : Value) (pvs : List Value) (ps : List (List PtT)) (X Y W H dx dy : Int) (hv : PcsW v pvs ps) (hat : PcsAt w v pvs ps) (hX : -32768 ≤ X ∧ X < 32768) (hY : -32768 ≤ Y ∧ Y < 32768) (hW : 0 ≤ W ∧ W < 256) (hH : 0 ≤ H ∧ H < 256) (hdx : -32768 ≤ dx ∧ dx < 32768) (hdy : -32768 ≤ dy ∧ dy < 32768) :
    Calls Try.prog 9 #[v, .int .i16 X, .int .i16 Y, .int .u8 W, .int .u8 H, .int .i16 dx, .int .i16 dy] w fun e w' => e = .returned (.bool true) ∧ Below w.heap.size w w' := by
  have hVp := hv.V
  have hlen := hv.len
  have hrowP : ∀ w', Chg (fun _ => False) w w' → RowAt w' v 1 ps.length pvs := fun w' h => (hat.keep h).row
  obtain ⟨n, hnA⟩ : ∃ k : Nat, (k : Int) = 1 + W % 12 := ⟨(1 + W % 12).toNat, by omega⟩
  obtain ⟨h, hhA⟩ : ∃ k : Nat, (k : Int) = 1 + H % 8 := ⟨(1 + H % 8).toNat, by omega⟩
  have hVA : Ans Try.prog 25 [.int .i16 X, .int .i16 Y, .int .u8 W, .int .u8 H] (.agg #[.int .i64 X, .int .i64 Y, .int .i64 (n : Int), .int .i64 (h : Int)]) := by rw [hnA, hhA]; exact a_view21 _ _ _ _ (by omega) (by omega) (by omega) (by omega)
  have hvA : ViewOk X Y (n : Int) (h : Int) := (viewOk_def _ _ _ _).2 (by omega)
  have hvB : ViewOk (X + dx) (Y + dy) (n : Int) (h : Int) := (viewOk_def _ _ _ _).2 (by omega)
  refine calls_of (args := [v, .int .i16 X, .int .i16 Y, .int .u8 W, .int .u8 H, .int .i16 dx, .int .i16 dy]) Try.func9 rfl Try.ntmps9 Try.results9 rfl ?_
  refine v_seq ?_
  refine v_region ?_
  refine l_val rfl (o_assign rfl) ?_
  refine l_nil ?_
  refine kt_norm ?_
  refine v_seq ?_
  refine v_region ?_
  refine l_val rfl (o_move rfl) ?_
  refine l_val rfl (o_convi rfl ?_) ?_
  · omega
  refine l_val rfl (o_muli rfl rfl ?_) ?_
  · omega
  refine l_val rfl (o_move rfl) ?_
  refine l_val rfl (o_convi rfl ?_) ?_
  · omega
  refine l_val rfl (o_muli rfl rfl ?_) ?_
  · omega
  refine l_val rfl (o_build (vs := [_, _]) (cs := [_, _]) rfl rfl) ?_
  refine l_new rfl o_alloc fun b15 => ?_
  refine l_store rfl (o_storeW (key := 15) (xs := [_, _]) rfl rfl rfl rfl rfl rfl rfl) ?_
  refine l_nil ?_
  refine kt_norm ?_
  refine v_sel [0, 1, 2, 3, 4, 5, 6, 15] [15] rfl rfl ?_
  refine v_seq ?_
  refine v_seq ?_
  refine v_region ?_
  refine l_val rfl (o_move rfl) ?_
  refine l_call (ks := []) rfl (o_callC (vs := [_]) (r := .bool (decide (Bn21 ps))) (ent_of Try.func23 rfl rfl) rfl (fun w' hg hh => a_bounded21 w' _ pvs ps hv (hat.keep hg))) ?_
  refine lz_bool (fun hbb => ?_) (fun hbb => ?_)
  · have hb := hbb.bnd
    have hvp := hb.pcsV hv
    have hp12 := hbb.1
    refine l_val rfl (o_not rfl rfl) ?_
    refine l_val rfl (o_move rfl) ?_
    refine l_ans (vs := []) rfl rfl (a_shown21) ?_
    refine l_val rfl (o_not rfl rfl) ?_
    refine l_val rfl (o_pickF rfl rfl) ?_
    refine l_nil ?_
    refine kt_norm ?_
    refine v_sel [0, 1, 2, 3, 4, 5, 6, 15, 37] [15] rfl rfl ?_
    refine v_condF rfl ?_
    refine v_skip ?_
    refine kt_norm ?_
    refine v_seq ?_
    refine v_region ?_
    refine l_buildSlice (vs := []) (cs := []) rfl rfl rfl rfl rfl rfl fun v39 hv39 => ?_
    refine l_val rfl (o_assign rfl) ?_
    refine l_nil ?_
    refine kt_norm ?_
    refine v_seq ?_
    refine v_seq ?_
    refine v_region ?_
    refine l_val rfl (o_assign rfl) ?_
    refine l_nil ?_
    refine kt_norm ?_
    refine v_block ?_
    refine v_ren 39 54 [15] rfl rfl rfl ?_
    refine v_loopL (α := Nat × Value × List Value × List Hp) (fun ⟨i, v16, qvs, fs⟩ => [(17, .int .i64 (i : Int)), (16, v16)]) (fun ⟨i, v16, qvs, fs⟩ => [(54, Hp.own v16 41 1 i qvs)]) (fun ⟨i, v16, qvs, fs⟩ => gF (fun w2 => Chg (fun _ => False) w w2) fs) (fun ⟨i, v16, qvs, fs⟩ => gbF (fun b => b < w.heap.size ∧ ¬ False) fs) (fun ⟨i, v16, qvs, fs⟩ => MadeQ 39 (256 * dx) (256 * dy) ps i qvs fs ∧ RowV v16 i) (fun ⟨i, v16, qvs, fs⟩ => ps.length - i) (0, v39, [], []) [0, 1, 2, 3, 4, 5, 6, 15] [15] ⟨MadeQ.start, hv39⟩ rfl rfl (And.intro rfl (And.intro rfl (True.intro))) rfl (And.intro rfl (True.intro)) rfl ?_
    rintro ⟨i, v16, qvs, fs⟩ ⟨hM, hv16⟩
    have hile := hM.le
    have hql := hM.len
    refine v_seq ?_
    refine v_seq ?_
    refine v_region ?_
    refine l_val rfl (o_move rfl) ?_
    refine l_val rfl (o_move rfl) ?_
    refine l_val rfl (o_len rfl hVp) ?_
    refine l_split rfl (o_lss rfl rfl) (fun q1 => ?_) (fun q1 => ?_)
    · have hil : i < ps.length := by omega
      obtain ⟨pc, hpc⟩ : ∃ pc, ps.getD i [] = pc := ⟨_, rfl⟩
      have hVq := hvp.pV i hil
      have hnear := hvp.near i hil
      have hbi := (hbb.2 i hil).1
      have hrowQ : ∀ w', Chg (fun _ => False) w w' → RowAt w' (pvs.getD i undef) 2 (ps.getD i []).length ((ps.getD i []).flatMap eP) := fun w' h => (hat.keep h).pc i hil
      rw [hpc] at hVq hnear hrowQ hbi
      refine l_nil ?_
      refine kt_norm ?_
      refine v_condT rfl ?_
      refine v_skip ?_
      refine kt_norm ?_
      refine v_seq ?_
      refine v_block ?_
      refine v_drawW [(52, pc.length), (54, i + 1)] [[], [], [], [], [], [15], [], [], [54, 53], []] mixed ?_ (by kernel_rfl) (by kernel_rfl)
      refine d_val (fun _ => rfl) rfl rfl (fun σ8 => o_move rfl) ?_
      refine d_val (fun _ => rfl) rfl rfl (fun σ8 => o_move rfl) ?_
      refine d_val (fun _ => rfl) rfl rfl (fun σ8 => o_move rfl) ?_
      refine d_val (fun _ => rfl) rfl rfl (fun σ8 => o_idx (i) rfl hVp rfl (by first | rfl | omega) (by omega)) ?_
      refine d_val (fun _ => rfl) rfl rfl (fun σ8 => o_loadR1 rfl (row_imm (fun w2 hg => hrowP w2 (gF_base _ hg))) (el_one (by rw [hv.lenv]; exact hil))) ?_
      refine d_val (fun _ => rfl) rfl rfl (fun σ8 => o_loadW (key := 15) rfl rfl rfl) ?_
      refine d_gown (caps := #[]) (fun _ => rfl) (fun _ => rfl) (ent_of Try.func30 rfl rfl) (vs := fun _ => [_, _]) (fun _ => rfl) (fun _ h => h) (fun σ8 w' hg hh => r_Shift w' (pvs.getD i undef) pc (256 * dx) (256 * dy) (by omega) (by omega) (by omega) hVq (hrowQ w' (gF_base _ hg)) hnear) ?_
      refine d_bsO (n := 1) (vs := fun σ8 => [σ8.v 52]) (cs := fun σ8 => [σ8.v 52]) (fun _ => rfl) (fun _ => rfl) (fun σ8 => by exact fill_one (show RowV (σ8.v 52) pc.length from σ8.ok 52)) rfl rfl (fun _ => rfl) (fun σ8 => all_one (show RowV (σ8.v 52) pc.length from σ8.ok 52)) ?_
      refine d_app 54 (n := i) (mm := 1) (κ := [53]) (fun _ => rfl) (fun _ => rfl) (fun _ => rfl) (fun _ => rfl) rfl (fun σ8 => .inl ⟨_, _, _, rfl⟩) (fun σ8 => row_own (key := 53) rfl) (by omega) (fun _ h => h) ?_
      refine d_val (fun _ => rfl) rfl rfl (fun σ8 => o_assign rfl) ?_
      refine d_nil (fun σ8 => ?_)
      refine l_nil ?_
      refine kb_norm ?_
      refine kt_norm ?_
      refine v_sel [17, 16, 0, 1, 2, 3, 4, 5, 6, 15] [15, 52, 54] rfl rfl ?_
      refine v_region ?_
      have hv52 : RowV (σ8.v 52) pc.length := σ8.ok 52
      have hM1 := hM.step hil (v := σ8.v 52) (by rw [hpc]; exact hv52)
      refine l_freeze 52 [15, 54] rfl rfl rfl ?_
      refine l_val rfl (o_move rfl) ?_
      refine l_val rfl (o_addi rfl rfl ?_) ?_
      · omega
      refine l_val rfl (o_assign rfl) ?_
      refine l_nil ?_
      refine kt_norm ?_
      refine ⟨(i + 1, σ8.v 54, qvs ++ [σ8.v 52], shHp 39 (256 * dx) (256 * dy) (σ8.v 52) pc :: fs), ⟨by rw [hpc] at hM1; exact hM1, (show RowV (σ8.v 54) (i + 1) from σ8.ok 54)⟩, (by show ps.length - (i + 1) < ps.length - i; omega), le_app (And.intro rfl (And.intro rfl (True.intro))) [0, 1, 2, 3, 4, 5, 6, 15] rfl (And.intro rfl (True.intro)) [15] rfl⟩
    · skip
      refine l_nil ?_
      refine kt_norm ?_
      refine v_condF rfl ?_
      refine v_exit ?_
      refine kt_exit ?_
      refine kt_exit ?_
      refine kb_eq ?_
      refine kt_norm ?_
      refine v_sel [16, 0, 1, 2, 3, 4, 5, 6] [54] rfl rfl ?_
      refine v_seq ?_
      refine v_seq ?_
      refine v_region ?_
      obtain rfl : i = ps.length := by omega
      have hW := hM.pcsW hv16 hlen
      refine l_val rfl (o_move rfl) ?_
      refine l_call (ks := [54]) rfl (o_callC (vs := [_]) (r := .bool (decide (Bn21 (shPs (256 * dx) (256 * dy) ps)))) (ent_of Try.func23 rfl rfl) rfl (fun w' hg hh => a_bounded21 w' _ qvs (shPs (256 * dx) (256 * dy) ps) hW (hM.pcsAt hg (rowAt_own (hh 54 (by simp) _ rfl))))) ?_
      refine lz_bool (fun hbq => ?_) (fun hbq => ?_)
      · have hb2 := hbq.bnd
        have hvq := hb2.pcsV hW
        refine l_val rfl (o_not rfl rfl) ?_
        refine l_nil ?_
        refine kt_norm ?_
        refine v_condF rfl ?_
        refine v_skip ?_
        refine kt_norm ?_
        refine v_seq ?_
        refine v_region ?_
        refine l_val rfl (o_move rfl) ?_
        refine l_val rfl (o_move rfl) ?_
        refine l_val rfl (o_move rfl) ?_
        refine l_val rfl (o_move rfl) ?_
        refine l_ans (vs := [_, _, _, _]) rfl rfl (hVA) ?_
        refine l_new rfl o_alloc fun b18 => ?_
        refine l_store rfl (o_storeW (key := 18) (xs := [_, _, _, _]) rfl rfl rfl rfl rfl rfl rfl) ?_
        refine l_nil ?_
        refine kt_norm ?_
        refine v_sel [16, 0, 5, 6, 18] [18, 54] rfl rfl ?_
        refine v_seq ?_
        refine v_region ?_
        refine l_val rfl (o_loadW (key := 18) rfl rfl rfl) ?_
        refine l_new rfl o_alloc fun b19 => ?_
        refine l_store rfl (o_storeW (key := 19) (xs := [_, _, _, _]) rfl rfl rfl rfl rfl rfl rfl) ?_
        refine l_nil ?_
        refine kt_norm ?_
        refine v_seq ?_
        refine v_region ?_
        refine l_val rfl (o_fld rfl) ?_
        refine l_val rfl (o_load1 (key := 19) rfl rfl rfl) ?_
        refine l_val rfl (o_move rfl) ?_
        refine l_val rfl (o_convi rfl ?_) ?_
        · omega
        refine l_val rfl (o_addi rfl rfl ?_) ?_
        · omega
        refine l_val rfl (o_fld rfl) ?_
        refine l_store rfl (o_store1 (key := 19) (rs := [_, _, _, _]) rfl rfl rfl rfl rfl rfl rfl) ?_
        refine l_nil ?_
        refine kt_norm ?_
        refine v_sel [16, 0, 6, 18, 19] [18, 19, 54] rfl rfl ?_
        refine v_seq ?_
        refine v_region ?_
        refine l_val rfl (o_fld rfl) ?_
        refine l_val rfl (o_load1 (key := 19) rfl rfl rfl) ?_
        refine l_val rfl (o_move rfl) ?_
        refine l_val rfl (o_convi rfl ?_) ?_
        · omega
        refine l_val rfl (o_addi rfl rfl ?_) ?_
        · omega
        refine l_val rfl (o_fld rfl) ?_
        refine l_store rfl (o_store1 (key := 19) (rs := [_, _, _, _]) rfl rfl rfl rfl rfl rfl rfl) ?_
        refine l_nil ?_
        refine kt_norm ?_
        refine v_sel [16, 0, 18, 19] [18, 19, 54] rfl rfl ?_
        refine v_seq ?_
        refine v_region ?_
        refine l_val rfl (o_move rfl) ?_
        refine l_val rfl (o_loadW (key := 18) rfl rfl rfl) ?_
        refine l_gownF (fun y => .tuple #[.agg #[.int .i64 (n : Int), .int .i64 (h : Int), y], .int .i64 0]) (ks := []) (caps := #[]) (vs := [_, _]) rfl rfl (ent_of Try.func26 rfl rfl) rfl (fun w' hg hh => a_cover w' v pvs ps X Y n h hb hvp (hat.keep (gF_base _ hg)) hvA) fun pa hpa => ?_
        obtain ⟨apa, cpa, rfl⟩ := hpa.sl
        refine l_val rfl (o_move rfl) ?_
        refine l_val rfl (o_extract rfl rfl) ?_
        refine l_val rfl (o_extract rfl rfl) ?_
        refine l_new rfl o_alloc fun b20 => ?_
        refine l_store rfl (o_storeW (key := 20) (xs := [_, _, _]) rfl rfl rfl rfl rfl rfl rfl) ?_
        refine l_val rfl (o_assign rfl) ?_
        refine l_nil ?_
        refine kt_norm ?_
        refine v_sel [16, 19, 20, 21] [19, 20, 54, 79] rfl rfl ?_
        refine v_seq ?_
        refine v_region ?_
        skip
        refine l_val rfl (o_move rfl) ?_
        refine l_val rfl (o_loadW (key := 19) rfl rfl rfl) ?_
        refine l_gownF (fun y => .tuple #[.agg #[.int .i64 (n : Int), .int .i64 (h : Int), y], .int .i64 0]) (ks := [54]) (caps := #[]) (vs := [_, _]) rfl rfl (ent_of Try.func26 rfl rfl) rfl (fun w' hg hh => a_cover w' v16 qvs (shPs (256 * dx) (256 * dy) ps) (X + dx) (Y + dy) n h hb2 hvq (hM.pcsAt hg (rowAt_own (hh 54 (by simp) _ rfl))) hvB) fun pb hpb => ?_
        obtain ⟨apb, cpb, rfl⟩ := hpb.sl
        refine l_val rfl (o_move rfl) ?_
        refine l_val rfl (o_extract rfl rfl) ?_
        refine l_val rfl (o_extract rfl rfl) ?_
        refine l_new rfl o_alloc fun b22 => ?_
        refine l_store rfl (o_storeW (key := 22) (xs := [_, _, _]) rfl rfl rfl rfl rfl rfl rfl) ?_
        refine l_val rfl (o_assign rfl) ?_
        refine l_nil ?_
        refine kt_norm ?_
        refine v_sel [20, 21, 22, 23] [20, 22, 54, 79, 85] rfl rfl ?_
        refine v_seq ?_
        refine v_region ?_
        skip
        refine l_val rfl (o_move rfl) ?_
        refine l_split rfl (o_eql rfl rfl) (fun q2 => ?_) (fun q2 => absurd (show _ by omega) q2)
        refine l_val rfl (o_move rfl) ?_
        refine l_val rfl (o_move rfl) ?_
        refine l_split rfl (o_eql rfl rfl) (fun q3 => ?_) (fun q3 => absurd (show _ by omega) q3)
        refine l_val rfl (o_pickT rfl rfl) ?_
        refine l_val rfl (o_move rfl) ?_
        refine l_val rfl (o_loadW (key := 20) rfl rfl rfl) ?_
        refine l_val rfl (o_loadW (key := 22) rfl rfl rfl) ?_
        refine l_call (ks := [79, 85]) rfl (o_callC (vs := [_, _]) (r := .bool true) (ent_of Try.func31 rfl rfl) rfl (fun w' hg hh => a_SameC w' (.slice apa (pixT (tabT X Y (n : Int) (h : Int) ps) X Y n h).length cpa) (.slice apb (pixT (tabT (X + dx) (Y + dy) (n : Int) (h : Int) (shPs (256 * dx) (256 * dy) ps)) (X + dx) (Y + dy) n h).length cpb) n h (pixT (tabT X Y (n : Int) (h : Int) ps) X Y n h) (pixT (tabT (X + dx) (Y + dy) (n : Int) (h : Int) (shPs (256 * dx) (256 * dy) ps)) (X + dx) (Y + dy) n h) (pix_shift hvA hvB) (by rw [pix_len2]; have := @nh_le n h (by omega) (by omega); omega) hpa (rowAt_own (hh 79 (by simp) _ rfl)) hpb (rowAt_own (hh 85 (by simp) _ rfl)))) ?_
        refine l_val rfl (o_pickT rfl rfl) ?_
        refine l_val rfl (o_assign rfl) ?_
        refine l_nil ?_
        refine kt_norm ?_
        refine v_sel [14] [20, 22, 54, 79, 85] rfl rfl ?_
        refine v_ret ?_
        refine ⟨[_], .cons (.tmp rfl) (ResAll.nil), ?_⟩
        rfl
      · skip
        refine l_val rfl (o_not rfl rfl) ?_
        refine l_nil ?_
        refine kt_norm ?_
        refine v_condT rfl ?_
        refine v_seq ?_
        refine v_region ?_
        refine l_val rfl (o_assign rfl) ?_
        refine l_nil ?_
        refine kt_norm ?_
        refine v_sel [14] [54] rfl rfl ?_
        refine v_ret ?_
        refine kt_ret ?_
        refine ⟨[_], .cons (.tmp rfl) (ResAll.nil), ?_⟩
        rfl
  · skip
    refine l_val rfl (o_not rfl rfl) ?_
    refine l_val rfl (o_move rfl) ?_
    refine l_no rfl ?_
    refine l_no rfl ?_
    refine l_val rfl (o_pickT rfl rfl) ?_
    refine l_nil ?_
    refine kt_norm ?_
    refine v_sel [0, 1, 2, 3, 4, 5, 6, 15, 37] [15] rfl rfl ?_
    refine v_condT rfl ?_
    refine v_seq ?_
    refine v_region ?_
    refine l_ans (vs := []) rfl rfl (a_shown21) ?_
    refine l_val rfl (o_assign rfl) ?_
    refine l_nil ?_
    refine kt_norm ?_
    refine v_sel [14] [] rfl rfl ?_
    refine v_ret ?_
    refine kt_ret ?_
    refine ⟨[_], .cons (.tmp rfl) (ResAll.nil), ?_⟩
    rfl
end Go.Proofs.Ytaijclimdfchfaa
