import Derived.Test.YtaijclimdfchfaaE2
/- A quotient of products; where an edge crosses a row; edges of two points. Conditions: none. -/
namespace Go.Proofs.Ytaijclimdfchfaa
open Go.Proofs Go.RowKit Go.Shelf

structure PtT where
  x : Int
  y : Int
structure EdgeT where
  x : Int
  y : Int
  dx : Int
  dy : Int
  wi : Int
  fr : Int
  to : Int
def eP (p : PtT) : List Value := [.int .i64 p.x, .int .i64 p.y]
def eE (e : EdgeT) : List Value := [.int .i64 e.x, .int .i64 e.y, .int .i64 e.dx, .int .i64 e.dy, .int .i64 e.wi, .int .i64 e.fr, .int .i64 e.to]
def dP : PtT := ⟨0, 0⟩
def dE : EdgeT := ⟨0, 0, 0, 0, 0, 0, 0⟩
theorem eP_len (p : PtT) : (eP p).length = 2 := rfl
theorem eE_len (e : EdgeT) : (eE e).length = 7 := rfl
def NearT (p : PtT) : Prop := (-1073741824 ≤ p.x ∧ p.x ≤ 1073741824) ∧ (-1073741824 ≤ p.y ∧ p.y ≤ 1073741824)
theorem ediv_bound {x c B : Int} (hB : 0 ≤ B) (h1 : -B ≤ x) (h2 : x ≤ B) (hc : 0 < c) : -B ≤ x / c ∧ x / c ≤ B := by
  refine ⟨(Int.le_ediv_iff_mul_le hc).2 ?_, Int.ediv_le_of_le_mul hc ?_⟩
  · have := Int.mul_le_mul_of_nonneg_left (show (1 : Int) ≤ c by omega) hB
    rw [Int.mul_one] at this
    rw [Int.neg_mul]; omega
  · have := Int.mul_le_mul_of_nonneg_left (show (1 : Int) ≤ c by omega) hB
    rw [Int.mul_one] at this
    omega
def rowOf (y : Int) : Int := (y + 7) / 16
theorem rowOf_def (y : Int) : rowOf y = (y + 7) / 16 := rfl
def atE (e : EdgeT) (r : Int) : Int := e.x + (16 * r + 8 - e.y) * e.dx / e.dy
/-- the edge from a point to another one -/
def edgeOf (a b : PtT) : EdgeT := if b.y < a.y then ⟨b.x, b.y, a.x - b.x, a.y - b.y, -1, rowOf b.y, rowOf a.y⟩ else ⟨a.x, a.y, b.x - a.x, b.y - a.y, 1, rowOf a.y, rowOf b.y⟩
theorem edgeOf_lt {a b : PtT} (h : b.y < a.y) : edgeOf a b = ⟨b.x, b.y, a.x - b.x, a.y - b.y, -1, rowOf b.y, rowOf a.y⟩ := if_pos h
theorem edgeOf_ge {a b : PtT} (h : ¬ b.y < a.y) : edgeOf a b = ⟨a.x, a.y, b.x - a.x, b.y - a.y, 1, rowOf a.y, rowOf b.y⟩ := if_neg h
theorem edge_fin {x y dx dy wi fr to : Int} {b : Bool} (h : b = decide (fr < to)) : packV [.agg #[.int .i64 x, .int .i64 y, .int .i64 dx, .int .i64 dy, .int .i64 wi, .int .i64 fr, .int .i64 to], .bool b] = .tuple #[.agg (eE ⟨x, y, dx, dy, wi, fr, to⟩).toArray, .bool (decide (fr < to))] := by
  subst h; rfl
def ViewOk (X Y W H : Int) : Prop := 1 ≤ W ∧ W ≤ 256 ∧ 1 ≤ H ∧ H ≤ 256 ∧ -1048576 ≤ X ∧ X ≤ 1048576 ∧ -1048576 ≤ Y ∧ Y ≤ 1048576
theorem viewOk_def (X Y W H : Int) : ViewOk X Y W H ↔ 1 ≤ W ∧ W ≤ 256 ∧ 1 ≤ H ∧ H ≤ 256 ∧ -1048576 ≤ X ∧ X ≤ 1048576 ∧ -1048576 ≤ Y ∧ Y ≤ 1048576 := Iff.rfl
instance (X Y W H : Int) : Decidable (ViewOk X Y W H) := by unfold ViewOk; infer_instance

theorem a_divided (a b c : Int) (ha : -9223372036854775808 ≤ a ∧ a < 9223372036854775808) (hb : -9223372036854775808 ≤ b ∧ b < 9223372036854775808) (hp : -4611686018427387904 ≤ a * b ∧ a * b ≤ 4611686018427387904) (hc : 0 < c ∧ c < 9223372036854775808) : Ans Try.prog 96 [.int .i64 a, .int .i64 b, .int .i64 c, .bool false] (.tuple #[.int .i64 (a * b / c), .int .i64 0]) := by
  have d1 := ediv_bound (B := 4611686018427387904) (x := a * b) (c := c) (by omega) hp.1 hp.2 hc.1
  refine ans_of Try.func96 rfl Try.ntmps96 Try.results96 rfl rfl fun w => ?_
  refine v_seq ?_
  refine v_region ?_
  refine l_val rfl (o_assign rfl) ?_
  refine l_val rfl (o_assign rfl) ?_
  refine l_nil ?_
  refine kt_norm ?_
  refine v_seq ?_
  refine v_region ?_
  refine l_val rfl (o_move rfl) ?_
  refine l_val rfl (o_move rfl) ?_
  refine l_ans (vs := [_, _]) rfl rfl (a_Mul _ _ ?_ ?_) ?_
  · omega
  · omega
  refine l_val rfl (o_move rfl) ?_
  refine l_ans (vs := [_, _]) rfl rfl (a_Div _ _ ?_ ?_) ?_
  · omega
  · omega
  refine l_val rfl (o_move rfl) ?_
  refine l_val rfl (o_extract rfl rfl) ?_
  refine l_val rfl (o_extract rfl rfl) ?_
  refine l_val rfl (o_extract rfl rfl) ?_
  refine l_new rfl o_alloc fun b10 => ?_
  refine l_store rfl (o_storeW (key := 10) (xs := [_, _]) rfl rfl rfl rfl rfl rfl rfl) ?_
  refine l_val rfl (o_assign rfl) ?_
  refine l_val rfl (o_assign rfl) ?_
  refine l_nil ?_
  refine kt_norm ?_
  refine v_sel [2, 3, 10, 11, 12] [10] rfl rfl ?_
  refine v_seq ?_
  refine v_seq ?_
  refine v_region ?_
  refine l_val rfl (o_move rfl) ?_
  refine l_split rfl (o_neq rfl rfl) (fun q1 => absurd q1 (by omega)) (fun q1 => ?_)
  refine l_nil ?_
  refine kt_norm ?_
  refine v_condF rfl ?_
  refine v_skip ?_
  refine kt_norm ?_
  refine v_seq ?_
  refine v_seq ?_
  refine v_region ?_
  refine l_val rfl (o_move rfl) ?_
  refine l_val rfl (o_move rfl) ?_
  refine l_no rfl ?_
  refine l_no rfl ?_
  refine l_no rfl ?_
  refine l_no rfl ?_
  refine l_no rfl ?_
  refine l_val rfl (o_pickF rfl rfl) ?_
  refine l_nil ?_
  refine kt_norm ?_
  refine v_sel [10, 34] [10] rfl rfl ?_
  refine v_condF rfl ?_
  refine v_skip ?_
  refine kt_norm ?_
  refine v_seq ?_
  refine v_region ?_
  refine l_val rfl (o_loadW (key := 10) rfl rfl rfl) ?_
  refine l_ans (vs := [_]) rfl rfl (a_Narrow _ ?_) ?_
  · omega
  refine l_val rfl (o_move rfl) ?_
  refine l_val rfl (o_extract rfl rfl) ?_
  refine l_val rfl (o_extract rfl rfl) ?_
  refine l_val rfl (o_assign rfl) ?_
  refine l_val rfl (o_assign rfl) ?_
  refine l_nil ?_
  refine kt_norm ?_
  refine v_sel [13, 14] [] rfl rfl ?_
  refine v_seq ?_
  refine v_seq ?_
  refine v_region ?_
  refine l_val rfl (o_move rfl) ?_
  refine l_val rfl (o_not rfl rfl) ?_
  refine l_nil ?_
  refine kt_norm ?_
  refine v_condF rfl ?_
  refine v_skip ?_
  refine kt_norm ?_
  refine v_seq ?_
  refine v_region ?_
  refine l_val rfl (o_move rfl) ?_
  refine l_val rfl (o_assign rfl) ?_
  refine l_val rfl (o_assign rfl) ?_
  refine l_nil ?_
  refine kt_norm ?_
  refine v_ret ?_
  refine ⟨[_, _], .cons (.tmp rfl) (.cons (.tmp rfl) (ResAll.nil)), ?_⟩
  rfl
theorem a_Scale (a b c : Int) (ha : -9223372036854775808 ≤ a ∧ a < 9223372036854775808) (hb : -9223372036854775808 ≤ b ∧ b < 9223372036854775808) (hp : -4611686018427387904 ≤ a * b ∧ a * b ≤ 4611686018427387904) (hc : 0 < c ∧ c < 9223372036854775808) : Ans Try.prog 83 [.int .i64 a, .int .i64 b, .int .i64 c] (.tuple #[.int .i64 (a * b / c), .int .i64 0]) := by
  refine ans_of Try.func83 rfl Try.ntmps83 Try.results83 rfl rfl fun w => ?_
  refine v_seq ?_
  refine v_region ?_
  refine l_val rfl (o_assign rfl) ?_
  refine l_val rfl (o_assign rfl) ?_
  refine l_nil ?_
  refine kt_norm ?_
  refine v_seq ?_
  refine v_region ?_
  refine l_val rfl (o_move rfl) ?_
  refine l_val rfl (o_move rfl) ?_
  refine l_val rfl (o_move rfl) ?_
  refine l_ans (vs := [_, _, _, _]) rfl rfl (a_divided _ _ _ ha hb hp hc) ?_
  refine l_val rfl (o_extract rfl rfl) ?_
  refine l_val rfl (o_extract rfl rfl) ?_
  refine l_val rfl (o_assign rfl) ?_
  refine l_val rfl (o_assign rfl) ?_
  refine l_nil ?_
  refine kt_norm ?_
  refine v_sel [6, 7] [] rfl rfl ?_
  refine v_ret ?_
  refine ⟨[_, _], .cons (.tmp rfl) (.cons (.tmp rfl) (ResAll.nil)), ?_⟩
  rfl
theorem a_At (e : EdgeT) (r : Int) (hr : -1073741824 ≤ r ∧ r ≤ 1073741824) (hx : -1099511627776 ≤ e.x ∧ e.x ≤ 1099511627776) (hy : -1099511627776 ≤ e.y ∧ e.y ≤ 1099511627776) (hd : -1099511627776 ≤ e.dx ∧ e.dx ≤ 1099511627776) (hdy : 0 < e.dy ∧ e.dy ≤ 1099511627776) (hp : -4611686018427387904 ≤ (16 * r + 8 - e.y) * e.dx ∧ (16 * r + 8 - e.y) * e.dx ≤ 4611686018427387904) : Ans Try.prog 65 [.agg #[.int .i64 e.x, .int .i64 e.y, .int .i64 e.dx, .int .i64 e.dy, .int .i64 e.wi, .int .i64 e.fr, .int .i64 e.to], .int .i64 r] (.int .i64 (atE e r)) := by
  have d1 := ediv_bound (B := 4611686018427387904) (x := (16 * r + 8 - e.y) * e.dx) (c := e.dy) (by omega) hp.1 hp.2 hdy.1
  refine ans_of Try.func65 rfl Try.ntmps65 Try.results65 rfl rfl fun w => ?_
  refine v_seq ?_
  refine v_region ?_
  refine l_new rfl (o_box (cs := [_, _, _, _, _, _, _]) rfl rfl) fun b2 => ?_
  refine l_val rfl (o_assign rfl) ?_
  refine l_nil ?_
  refine kt_norm ?_
  refine v_seq ?_
  refine v_region ?_
  refine l_val rfl (o_move rfl) ?_
  refine l_val rfl (o_muli rfl rfl ?_) ?_
  · omega
  refine l_val rfl (o_addi rfl rfl ?_) ?_
  · omega
  refine l_val rfl (o_fld rfl) ?_
  refine l_val rfl (o_load1 (key := 2) rfl rfl rfl) ?_
  refine l_val rfl (o_subi rfl rfl ?_) ?_
  · omega
  refine l_val rfl (o_fld rfl) ?_
  refine l_val rfl (o_load1 (key := 2) rfl rfl rfl) ?_
  refine l_val rfl (o_fld rfl) ?_
  refine l_val rfl (o_load1 (key := 2) rfl rfl rfl) ?_
  refine l_ans (vs := [_, _, _]) rfl rfl (a_Scale _ _ _ ?_ ?_ hp ?_) ?_
  · omega
  · omega
  · omega
  refine l_val rfl (o_move rfl) ?_
  refine l_val rfl (o_extract rfl rfl) ?_
  refine l_val rfl (o_extract rfl rfl) ?_
  refine l_val rfl (o_assign rfl) ?_
  refine l_val rfl (o_assign rfl) ?_
  refine l_nil ?_
  refine kt_norm ?_
  refine v_sel [2, 5] [2] rfl rfl ?_
  refine v_seq ?_
  refine v_region ?_
  refine l_val rfl (o_fld rfl) ?_
  refine l_val rfl (o_load1 (key := 2) rfl rfl rfl) ?_
  refine l_val rfl (o_move rfl) ?_
  refine l_val rfl (o_addi rfl rfl ?_) ?_
  · omega
  refine l_val rfl (o_assign rfl) ?_
  refine l_nil ?_
  refine kt_norm ?_
  refine v_sel [4] [] rfl rfl ?_
  refine v_ret ?_
  refine ⟨[_], .cons (.tmp rfl) (ResAll.nil), ?_⟩
  rfl
theorem a_Row (y : Int) (hy : -1099511627776 ≤ y ∧ y ≤ 1099511627776) : Ans Try.prog 89 [.int .i64 y] (.int .i64 (rowOf y)) := by
  refine ans_of Try.func89 rfl Try.ntmps89 Try.results89 rfl rfl fun w => ?_
  refine v_seq ?_
  refine v_region ?_
  refine l_val rfl (o_assign rfl) ?_
  refine l_nil ?_
  refine kt_norm ?_
  refine v_seq ?_
  refine v_region ?_
  refine l_val rfl (o_move rfl) ?_
  refine l_val rfl (o_addi rfl rfl ?_) ?_
  · omega
  refine l_val rfl (o_subi rfl rfl ?_) ?_
  · omega
  refine l_val rfl (o_shr (n := 4) (p := 16) rfl rfl (by decide) rfl (by decide)) ?_
  refine l_val rfl (o_assign rfl) ?_
  refine l_nil ?_
  refine kt_norm ?_
  refine v_ret ?_
  refine ⟨[_], .cons (.tmp rfl) (ResAll.nil), ?_⟩
  show Value.int .i64 ((y + 8 - 1) / 16) = Value.int .i64 ((y + 7) / 16)
  rw [show y + 8 - 1 = y + 7 by omega]
theorem a_Neg (x y : Int) (hx : -1099511627776 ≤ x ∧ x ≤ 1099511627776) (hy : -1099511627776 ≤ y ∧ y ≤ 1099511627776) : Ans Try.prog 101 [.agg #[.int .i64 x, .int .i64 y]] (.agg #[.int .i64 (-x), .int .i64 (-y)]) := by
  refine ans_of Try.func101 rfl Try.ntmps101 Try.results101 rfl rfl fun w => ?_
  refine v_seq ?_
  refine v_region ?_
  refine l_new rfl (o_box (cs := [_, _]) rfl rfl) fun b1 => ?_
  refine l_new rfl o_alloc fun b2 => ?_
  refine l_nil ?_
  refine kt_norm ?_
  refine v_seq ?_
  refine v_region ?_
  refine l_val rfl (o_fld rfl) ?_
  refine l_val rfl (o_load1 (key := 1) rfl rfl rfl) ?_
  refine l_val rfl (o_negi rfl ?_) ?_
  · omega
  refine l_val rfl (o_fld rfl) ?_
  refine l_val rfl (o_load1 (key := 1) rfl rfl rfl) ?_
  refine l_val rfl (o_negi rfl ?_) ?_
  · omega
  refine l_val rfl (o_build (vs := [_, _]) (cs := [_, _]) rfl rfl) ?_
  refine l_store rfl (o_storeW (key := 2) (xs := [_, _]) rfl rfl rfl rfl rfl rfl rfl) ?_
  refine l_nil ?_
  refine kt_norm ?_
  refine v_sel [2] [2] rfl rfl ?_
  refine v_ret ?_
  refine ⟨[_], .cons (.cellW (key := 2) rfl rfl rfl) (ResAll.nil), ?_⟩
  rfl
theorem a_PAdd (x y u v : Int) (hx : -1099511627776 ≤ x ∧ x ≤ 1099511627776) (hy : -1099511627776 ≤ y ∧ y ≤ 1099511627776) (hu : -1099511627776 ≤ u ∧ u ≤ 1099511627776) (hv : -1099511627776 ≤ v ∧ v ≤ 1099511627776) : Ans Try.prog 100 [.agg #[.int .i64 x, .int .i64 y], .agg #[.int .i64 u, .int .i64 v]] (.agg #[.int .i64 (x + u), .int .i64 (y + v)]) := by
  refine ans_of Try.func100 rfl Try.ntmps100 Try.results100 rfl rfl fun w => ?_
  refine v_seq ?_
  refine v_region ?_
  refine l_new rfl (o_box (cs := [_, _]) rfl rfl) fun b2 => ?_
  refine l_new rfl (o_box (cs := [_, _]) rfl rfl) fun b3 => ?_
  refine l_new rfl o_alloc fun b4 => ?_
  refine l_nil ?_
  refine kt_norm ?_
  refine v_seq ?_
  refine v_region ?_
  refine l_val rfl (o_fld rfl) ?_
  refine l_val rfl (o_load1 (key := 2) rfl rfl rfl) ?_
  refine l_val rfl (o_fld rfl) ?_
  refine l_val rfl (o_load1 (key := 3) rfl rfl rfl) ?_
  refine l_val rfl (o_addi rfl rfl ?_) ?_
  · omega
  refine l_val rfl (o_fld rfl) ?_
  refine l_val rfl (o_load1 (key := 2) rfl rfl rfl) ?_
  refine l_val rfl (o_fld rfl) ?_
  refine l_val rfl (o_load1 (key := 3) rfl rfl rfl) ?_
  refine l_val rfl (o_addi rfl rfl ?_) ?_
  · omega
  refine l_val rfl (o_build (vs := [_, _]) (cs := [_, _]) rfl rfl) ?_
  refine l_store rfl (o_storeW (key := 4) (xs := [_, _]) rfl rfl rfl rfl rfl rfl rfl) ?_
  refine l_nil ?_
  refine kt_norm ?_
  refine v_sel [4] [4] rfl rfl ?_
  refine v_ret ?_
  refine ⟨[_], .cons (.cellW (key := 4) rfl rfl rfl) (ResAll.nil), ?_⟩
  rfl
theorem a_PSub (x y u v : Int) (hx : -1099511627776 ≤ x ∧ x ≤ 1099511627776) (hy : -1099511627776 ≤ y ∧ y ≤ 1099511627776) (hu : -1099511627776 ≤ u ∧ u ≤ 1099511627776) (hv : -1099511627776 ≤ v ∧ v ≤ 1099511627776) : Ans Try.prog 88 [.agg #[.int .i64 x, .int .i64 y], .agg #[.int .i64 u, .int .i64 v]] (.agg #[.int .i64 (x - u), .int .i64 (y - v)]) := by
  refine ans_of Try.func88 rfl Try.ntmps88 Try.results88 rfl rfl fun w => ?_
  refine v_seq ?_
  refine v_region ?_
  refine l_new rfl (o_box (cs := [_, _]) rfl rfl) fun b2 => ?_
  refine l_new rfl (o_box (cs := [_, _]) rfl rfl) fun b3 => ?_
  refine l_new rfl o_alloc fun b4 => ?_
  refine l_nil ?_
  refine kt_norm ?_
  refine v_seq ?_
  refine v_drawZ [[2], [3], [], [], [4]] mixed ?_ (by kernel_rfl) (by kernel_rfl)
  refine d_val (fun _ => rfl) rfl rfl (fun _ => o_loadW (key := 2) rfl rfl rfl) ?_
  refine d_val (fun _ => rfl) rfl rfl (fun _ => o_loadW (key := 3) rfl rfl rfl) ?_
  refine d_ans (vs := [_]) (fun _ => rfl) (fun _ => rfl) (a_Neg _ _ ?_ ?_) ?_
  · omega
  · omega
  refine d_ans (vs := [_, _]) (fun _ => rfl) (fun _ => rfl) (a_PAdd _ _ _ _ ?_ ?_ ?_ ?_) ?_
  · omega
  · omega
  · omega
  · omega
  refine d_store (fun _ => rfl) rfl rfl (fun _ => o_storeW (key := 4) (xs := [_, _]) rfl rfl rfl rfl rfl rfl rfl) ?_
  refine d_nil (fun σ => ?_)
  refine l_nil ?_
  refine kt_norm ?_
  refine v_sel [4] [4] rfl rfl ?_
  refine v_ret ?_
  refine ⟨[_], .cons (.cellW (key := 4) rfl rfl rfl) (ResAll.nil), ?_⟩
  show Value.agg #[.int .i64 (x + -u), .int .i64 (y + -v)] = _
  rw [show x + -u = x - u by omega, show y + -v = y - v by omega]
theorem a_edge (a b : PtT) (ha : NearT a) (hb : NearT b) : Ans Try.prog 76 [.agg #[.int .i64 a.x, .int .i64 a.y], .agg #[.int .i64 b.x, .int .i64 b.y]] (.tuple #[.agg (eE (edgeOf a b)).toArray, .bool (decide ((edgeOf a b).fr < (edgeOf a b).to))]) := by
  unfold NearT at ha hb
  have r1 := rowOf_def a.y
  have r2 := rowOf_def b.y
  refine ans_of Try.func76 rfl Try.ntmps76 Try.results76 rfl rfl fun w => ?_
  refine v_seq ?_
  refine v_region ?_
  refine l_new rfl (o_box (cs := [_, _]) rfl rfl) fun b2 => ?_
  refine l_new rfl (o_box (cs := [_, _]) rfl rfl) fun b3 => ?_
  refine l_new rfl o_alloc fun b4 => ?_
  refine l_val rfl (o_assign rfl) ?_
  refine l_nil ?_
  refine kt_norm ?_
  refine v_seq ?_
  refine v_region ?_
  refine l_val rfl (o_assign rfl) ?_
  refine l_nil ?_
  refine kt_norm ?_
  refine v_seq ?_
  refine v_seq ?_
  refine v_region ?_
  refine l_val rfl (o_fld rfl) ?_
  refine l_val rfl (o_load1 (key := 3) rfl rfl rfl) ?_
  refine l_val rfl (o_fld rfl) ?_
  refine l_val rfl (o_load1 (key := 2) rfl rfl rfl) ?_
  refine l_split rfl (o_lss rfl rfl) (fun q1 => ?_) (fun q1 => ?_)
  · first
    | (exfalso; omega; done)
    | (
        refine l_nil ?_
        refine kt_norm ?_
        refine v_sel [2, 3, 4, 6, 13] [2, 3, 4] rfl rfl ?_
        refine v_condT rfl ?_
        refine v_region ?_
        refine l_val rfl (o_loadW (key := 3) rfl rfl rfl) ?_
        refine l_val rfl (o_loadW (key := 2) rfl rfl rfl) ?_
        refine l_store rfl (o_storeW (key := 2) (xs := [_, _]) rfl rfl rfl rfl rfl rfl rfl) ?_
        refine l_store rfl (o_storeW (key := 3) (xs := [_, _]) rfl rfl rfl rfl rfl rfl rfl) ?_
        refine l_val rfl (o_assign rfl) ?_
        refine l_nil ?_
        refine kt_norm ?_
        refine v_seq ?_
        refine v_region ?_
        refine l_val rfl (o_loadW (key := 3) rfl rfl rfl) ?_
        refine l_val rfl (o_loadW (key := 2) rfl rfl rfl) ?_
        refine l_ans (vs := [_, _]) rfl rfl (a_PSub _ _ _ _ ?_ ?_ ?_ ?_) ?_
        · omega
        · omega
        · omega
        · omega
        refine l_new rfl o_alloc fun b7 => ?_
        refine l_store rfl (o_storeW (key := 7) (xs := [_, _]) rfl rfl rfl rfl rfl rfl rfl) ?_
        refine l_nil ?_
        refine kt_norm ?_
        refine v_sel [2, 3, 4, 6, 7] [2, 3, 4, 7] rfl rfl ?_
        refine v_seq ?_
        refine v_drawZ [[], [2], [], [2], [], [7], [], [7], [], [], [2], [], [], [3], [], [], [], [8]] mixed ?_ (by kernel_rfl) (by kernel_rfl)
        refine d_val (fun _ => rfl) rfl rfl (fun _ => o_fld rfl) ?_
        refine d_val (fun _ => rfl) rfl rfl (fun _ => o_load1 (key := 2) rfl rfl rfl) ?_
        refine d_val (fun _ => rfl) rfl rfl (fun _ => o_fld rfl) ?_
        refine d_val (fun _ => rfl) rfl rfl (fun _ => o_load1 (key := 2) rfl rfl rfl) ?_
        refine d_val (fun _ => rfl) rfl rfl (fun _ => o_fld rfl) ?_
        refine d_val (fun _ => rfl) rfl rfl (fun _ => o_load1 (key := 7) rfl rfl rfl) ?_
        refine d_val (fun _ => rfl) rfl rfl (fun _ => o_fld rfl) ?_
        refine d_val (fun _ => rfl) rfl rfl (fun _ => o_load1 (key := 7) rfl rfl rfl) ?_
        refine d_val (fun _ => rfl) rfl rfl (fun _ => o_move rfl) ?_
        refine d_val (fun _ => rfl) rfl rfl (fun _ => o_fld rfl) ?_
        refine d_val (fun _ => rfl) rfl rfl (fun _ => o_load1 (key := 2) rfl rfl rfl) ?_
        refine d_ans (vs := [_]) (fun _ => rfl) (fun _ => rfl) (a_Row _ ?_) ?_
        · omega
        refine d_val (fun _ => rfl) rfl rfl (fun _ => o_fld rfl) ?_
        refine d_val (fun _ => rfl) rfl rfl (fun _ => o_load1 (key := 3) rfl rfl rfl) ?_
        refine d_ans (vs := [_]) (fun _ => rfl) (fun _ => rfl) (a_Row _ ?_) ?_
        · omega
        refine d_val (fun _ => rfl) rfl rfl (fun _ => o_build (vs := [_, _, _, _, _, _, _]) (cs := [_, _, _, _, _, _, _]) rfl rfl) ?_
        refine d_new (fun _ => rfl) rfl rfl (fun _ => o_alloc) ?_
        refine d_store (fun _ => rfl) rfl rfl (fun _ => o_storeW (key := 8) (xs := [_, _, _, _, _, _, _]) rfl rfl rfl rfl rfl rfl rfl) ?_
        refine d_nil (fun σ => ?_)
        refine l_nil ?_
        refine kt_norm ?_
        refine v_sel [4, 8] [4, 8] rfl rfl ?_
        refine v_seq ?_
        refine v_drawZ [[8], [], [8], [], [8], [], [4], []] mixed ?_ (by kernel_rfl) (by kernel_rfl)
        refine d_val (fun _ => rfl) rfl rfl (fun _ => o_loadW (key := 8) rfl rfl rfl) ?_
        refine d_val (fun _ => rfl) rfl rfl (fun _ => o_fld rfl) ?_
        refine d_val (fun _ => rfl) rfl rfl (fun _ => o_load1 (key := 8) rfl rfl rfl) ?_
        refine d_val (fun _ => rfl) rfl rfl (fun _ => o_fld rfl) ?_
        refine d_val (fun _ => rfl) rfl rfl (fun _ => o_load1 (key := 8) rfl rfl rfl) ?_
        refine d_lss (fun _ => rfl) (fun _ => rfl) (fun _ => rfl) (fun q2 => ?_) (fun q2 => ?_)
        · first
          | (exfalso; omega; done)
          | (
              refine d_store (fun _ => rfl) rfl rfl (fun _ => o_storeW (key := 4) (xs := [_, _, _, _, _, _, _]) rfl rfl rfl rfl rfl rfl rfl) ?_
              refine d_val (fun _ => rfl) rfl rfl (fun _ => o_assign rfl) ?_
              refine d_nil (fun σ => ?_)
              refine l_nil ?_
              refine kt_norm ?_
              refine v_sel [4, 5] [4] rfl rfl ?_
              refine v_ret ?_
              refine ⟨[_, _], .cons (.cellW (key := 4) rfl rfl rfl) (.cons (.tmp rfl) (ResAll.nil)), ?_⟩
              first
                | (have e := edgeOf_lt (a := a) (b := b) (by assumption); rw [e]; first | exact edge_fin (decide_eq_true (by assumption)).symm | exact edge_fin (decide_eq_false (by assumption)).symm)
                | (have e := edgeOf_ge (a := a) (b := b) (by assumption); rw [e]; first | exact edge_fin (decide_eq_true (by assumption)).symm | exact edge_fin (decide_eq_false (by assumption)).symm))
        · first
          | (exfalso; omega; done)
          | (
              refine d_store (fun _ => rfl) rfl rfl (fun _ => o_storeW (key := 4) (xs := [_, _, _, _, _, _, _]) rfl rfl rfl rfl rfl rfl rfl) ?_
              refine d_val (fun _ => rfl) rfl rfl (fun _ => o_assign rfl) ?_
              refine d_nil (fun σ => ?_)
              refine l_nil ?_
              refine kt_norm ?_
              refine v_sel [4, 5] [4] rfl rfl ?_
              refine v_ret ?_
              refine ⟨[_, _], .cons (.cellW (key := 4) rfl rfl rfl) (.cons (.tmp rfl) (ResAll.nil)), ?_⟩
              first
                | (have e := edgeOf_lt (a := a) (b := b) (by assumption); rw [e]; first | exact edge_fin (decide_eq_true (by assumption)).symm | exact edge_fin (decide_eq_false (by assumption)).symm)
                | (have e := edgeOf_ge (a := a) (b := b) (by assumption); rw [e]; first | exact edge_fin (decide_eq_true (by assumption)).symm | exact edge_fin (decide_eq_false (by assumption)).symm)))
  · first
    | (exfalso; omega; done)
    | (
        refine l_nil ?_
        refine kt_norm ?_
        refine v_sel [2, 3, 4, 6, 13] [2, 3, 4] rfl rfl ?_
        refine v_condF rfl ?_
        refine v_skip ?_
        refine kt_norm ?_
        refine v_seq ?_
        refine v_region ?_
        refine l_val rfl (o_loadW (key := 3) rfl rfl rfl) ?_
        refine l_val rfl (o_loadW (key := 2) rfl rfl rfl) ?_
        refine l_ans (vs := [_, _]) rfl rfl (a_PSub _ _ _ _ ?_ ?_ ?_ ?_) ?_
        · omega
        · omega
        · omega
        · omega
        refine l_new rfl o_alloc fun b7 => ?_
        refine l_store rfl (o_storeW (key := 7) (xs := [_, _]) rfl rfl rfl rfl rfl rfl rfl) ?_
        refine l_nil ?_
        refine kt_norm ?_
        refine v_seq ?_
        refine v_drawZ [[], [2], [], [2], [], [7], [], [7], [], [], [2], [], [], [3], [], [], [], [8]] mixed ?_ (by kernel_rfl) (by kernel_rfl)
        refine d_val (fun _ => rfl) rfl rfl (fun _ => o_fld rfl) ?_
        refine d_val (fun _ => rfl) rfl rfl (fun _ => o_load1 (key := 2) rfl rfl rfl) ?_
        refine d_val (fun _ => rfl) rfl rfl (fun _ => o_fld rfl) ?_
        refine d_val (fun _ => rfl) rfl rfl (fun _ => o_load1 (key := 2) rfl rfl rfl) ?_
        refine d_val (fun _ => rfl) rfl rfl (fun _ => o_fld rfl) ?_
        refine d_val (fun _ => rfl) rfl rfl (fun _ => o_load1 (key := 7) rfl rfl rfl) ?_
        refine d_val (fun _ => rfl) rfl rfl (fun _ => o_fld rfl) ?_
        refine d_val (fun _ => rfl) rfl rfl (fun _ => o_load1 (key := 7) rfl rfl rfl) ?_
        refine d_val (fun _ => rfl) rfl rfl (fun _ => o_move rfl) ?_
        refine d_val (fun _ => rfl) rfl rfl (fun _ => o_fld rfl) ?_
        refine d_val (fun _ => rfl) rfl rfl (fun _ => o_load1 (key := 2) rfl rfl rfl) ?_
        refine d_ans (vs := [_]) (fun _ => rfl) (fun _ => rfl) (a_Row _ ?_) ?_
        · omega
        refine d_val (fun _ => rfl) rfl rfl (fun _ => o_fld rfl) ?_
        refine d_val (fun _ => rfl) rfl rfl (fun _ => o_load1 (key := 3) rfl rfl rfl) ?_
        refine d_ans (vs := [_]) (fun _ => rfl) (fun _ => rfl) (a_Row _ ?_) ?_
        · omega
        refine d_val (fun _ => rfl) rfl rfl (fun _ => o_build (vs := [_, _, _, _, _, _, _]) (cs := [_, _, _, _, _, _, _]) rfl rfl) ?_
        refine d_new (fun _ => rfl) rfl rfl (fun _ => o_alloc) ?_
        refine d_store (fun _ => rfl) rfl rfl (fun _ => o_storeW (key := 8) (xs := [_, _, _, _, _, _, _]) rfl rfl rfl rfl rfl rfl rfl) ?_
        refine d_nil (fun σ => ?_)
        refine l_nil ?_
        refine kt_norm ?_
        refine v_sel [4, 8] [4, 8] rfl rfl ?_
        refine v_seq ?_
        refine v_drawZ [[8], [], [8], [], [8], [], [4], []] mixed ?_ (by kernel_rfl) (by kernel_rfl)
        refine d_val (fun _ => rfl) rfl rfl (fun _ => o_loadW (key := 8) rfl rfl rfl) ?_
        refine d_val (fun _ => rfl) rfl rfl (fun _ => o_fld rfl) ?_
        refine d_val (fun _ => rfl) rfl rfl (fun _ => o_load1 (key := 8) rfl rfl rfl) ?_
        refine d_val (fun _ => rfl) rfl rfl (fun _ => o_fld rfl) ?_
        refine d_val (fun _ => rfl) rfl rfl (fun _ => o_load1 (key := 8) rfl rfl rfl) ?_
        refine d_lss (fun _ => rfl) (fun _ => rfl) (fun _ => rfl) (fun q3 => ?_) (fun q3 => ?_)
        · first
          | (exfalso; omega; done)
          | (
              refine d_store (fun _ => rfl) rfl rfl (fun _ => o_storeW (key := 4) (xs := [_, _, _, _, _, _, _]) rfl rfl rfl rfl rfl rfl rfl) ?_
              refine d_val (fun _ => rfl) rfl rfl (fun _ => o_assign rfl) ?_
              refine d_nil (fun σ => ?_)
              refine l_nil ?_
              refine kt_norm ?_
              refine v_sel [4, 5] [4] rfl rfl ?_
              refine v_ret ?_
              refine ⟨[_, _], .cons (.cellW (key := 4) rfl rfl rfl) (.cons (.tmp rfl) (ResAll.nil)), ?_⟩
              first
                | (have e := edgeOf_lt (a := a) (b := b) (by assumption); rw [e]; first | exact edge_fin (decide_eq_true (by assumption)).symm | exact edge_fin (decide_eq_false (by assumption)).symm)
                | (have e := edgeOf_ge (a := a) (b := b) (by assumption); rw [e]; first | exact edge_fin (decide_eq_true (by assumption)).symm | exact edge_fin (decide_eq_false (by assumption)).symm))
        · first
          | (exfalso; omega; done)
          | (
              refine d_store (fun _ => rfl) rfl rfl (fun _ => o_storeW (key := 4) (xs := [_, _, _, _, _, _, _]) rfl rfl rfl rfl rfl rfl rfl) ?_
              refine d_val (fun _ => rfl) rfl rfl (fun _ => o_assign rfl) ?_
              refine d_nil (fun σ => ?_)
              refine l_nil ?_
              refine kt_norm ?_
              refine v_sel [4, 5] [4] rfl rfl ?_
              refine v_ret ?_
              refine ⟨[_, _], .cons (.cellW (key := 4) rfl rfl rfl) (.cons (.tmp rfl) (ResAll.nil)), ?_⟩
              first
                | (have e := edgeOf_lt (a := a) (b := b) (by assumption); rw [e]; first | exact edge_fin (decide_eq_true (by assumption)).symm | exact edge_fin (decide_eq_false (by assumption)).symm)
                | (have e := edgeOf_ge (a := a) (b := b) (by assumption); rw [e]; first | exact edge_fin (decide_eq_true (by assumption)).symm | exact edge_fin (decide_eq_false (by assumption)).symm)))
theorem a_Check1 (n : Int) : Ans Try.prog 70 [.int .i64 n] (.bool (decide (1 ≤ n ∧ n ≤ 256))) := by
  refine ans_of Try.func70 rfl Try.ntmps70 Try.results70 rfl rfl fun w => ?_
  refine v_seq ?_
  refine v_region ?_
  refine l_val rfl (o_assign rfl) ?_
  refine l_nil ?_
  refine kt_norm ?_
  refine v_seq ?_
  refine v_region ?_
  refine l_val rfl (o_move rfl) ?_
  refine l_split rfl (o_geq rfl rfl) (fun q1 => ?_) (fun q1 => ?_)
  · first
    | (exfalso; omega; done)
    | (
        refine l_val rfl (o_move rfl) ?_
        refine l_val rfl (o_move rfl) ?_
        refine l_split rfl (o_leq rfl rfl) (fun q2 => ?_) (fun q2 => ?_)
        · first
          | (exfalso; omega; done)
          | (
              refine l_val rfl (o_pickT rfl rfl) ?_
              refine l_val rfl (o_assign rfl) ?_
              refine l_nil ?_
              refine kt_norm ?_
              refine v_sel [2] [] rfl rfl ?_
              refine v_ret ?_
              refine ⟨[_], .cons (.tmp rfl) (ResAll.nil), ?_⟩
              exact congrArg Value.bool (by first | exact (decide_eq_true (by omega)).symm | exact (decide_eq_false (by omega)).symm))
        · first
          | (exfalso; omega; done)
          | (
              refine l_val rfl (o_pickT rfl rfl) ?_
              refine l_val rfl (o_assign rfl) ?_
              refine l_nil ?_
              refine kt_norm ?_
              refine v_sel [2] [] rfl rfl ?_
              refine v_ret ?_
              refine ⟨[_], .cons (.tmp rfl) (ResAll.nil), ?_⟩
              exact congrArg Value.bool (by first | exact (decide_eq_true (by omega)).symm | exact (decide_eq_false (by omega)).symm)))
  · first
    | (exfalso; omega; done)
    | (
        refine l_val rfl (o_move rfl) ?_
        refine l_no rfl ?_
        refine l_no rfl ?_
        refine l_val rfl (o_pickF rfl rfl) ?_
        refine l_val rfl (o_assign rfl) ?_
        refine l_nil ?_
        refine kt_norm ?_
        refine v_sel [2] [] rfl rfl ?_
        refine v_ret ?_
        refine ⟨[_], .cons (.tmp rfl) (ResAll.nil), ?_⟩
        exact congrArg Value.bool (by first | exact (decide_eq_true (by omega)).symm | exact (decide_eq_false (by omega)).symm))
theorem a_Check2 (n : Int) : Ans Try.prog 71 [.int .i64 n] (.bool (decide (-1048576 ≤ n ∧ n ≤ 1048576))) := by
  refine ans_of Try.func71 rfl Try.ntmps71 Try.results71 rfl rfl fun w => ?_
  refine v_seq ?_
  refine v_region ?_
  refine l_val rfl (o_assign rfl) ?_
  refine l_nil ?_
  refine kt_norm ?_
  refine v_seq ?_
  refine v_region ?_
  refine l_val rfl (o_move rfl) ?_
  refine l_split rfl (o_leq rfl rfl) (fun q1 => ?_) (fun q1 => ?_)
  · first
    | (exfalso; omega; done)
    | (
        refine l_val rfl (o_move rfl) ?_
        refine l_val rfl (o_move rfl) ?_
        refine l_split rfl (o_leq rfl rfl) (fun q2 => ?_) (fun q2 => ?_)
        · first
          | (exfalso; omega; done)
          | (
              refine l_val rfl (o_pickT rfl rfl) ?_
              refine l_val rfl (o_assign rfl) ?_
              refine l_nil ?_
              refine kt_norm ?_
              refine v_sel [2] [] rfl rfl ?_
              refine v_ret ?_
              refine ⟨[_], .cons (.tmp rfl) (ResAll.nil), ?_⟩
              exact congrArg Value.bool (by first | exact (decide_eq_true (by omega)).symm | exact (decide_eq_false (by omega)).symm))
        · first
          | (exfalso; omega; done)
          | (
              refine l_val rfl (o_pickT rfl rfl) ?_
              refine l_val rfl (o_assign rfl) ?_
              refine l_nil ?_
              refine kt_norm ?_
              refine v_sel [2] [] rfl rfl ?_
              refine v_ret ?_
              refine ⟨[_], .cons (.tmp rfl) (ResAll.nil), ?_⟩
              exact congrArg Value.bool (by first | exact (decide_eq_true (by omega)).symm | exact (decide_eq_false (by omega)).symm)))
  · first
    | (exfalso; omega; done)
    | (
        refine l_val rfl (o_move rfl) ?_
        refine l_no rfl ?_
        refine l_no rfl ?_
        refine l_val rfl (o_pickF rfl rfl) ?_
        refine l_val rfl (o_assign rfl) ?_
        refine l_nil ?_
        refine kt_norm ?_
        refine v_sel [2] [] rfl rfl ?_
        refine v_ret ?_
        refine ⟨[_], .cons (.tmp rfl) (ResAll.nil), ?_⟩
        exact congrArg Value.bool (by first | exact (decide_eq_true (by omega)).symm | exact (decide_eq_false (by omega)).symm))
theorem a_Check (X Y W H : Int) : Ans Try.prog 47 [.agg #[.int .i64 X, .int .i64 Y, .int .i64 W, .int .i64 H]] (.int .i64 (if ViewOk X Y W H then 0 else 190)) := by
  have vd := viewOk_def X Y W H
  refine ans_of Try.func47 rfl Try.ntmps47 Try.results47 rfl rfl fun w => ?_
  refine v_seq ?_
  refine v_region ?_
  refine l_new rfl (o_box (cs := [_, _, _, _]) rfl rfl) fun b1 => ?_
  refine l_val rfl (o_assign rfl) ?_
  refine l_nil ?_
  refine kt_norm ?_
  refine v_seq ?_
  refine v_region ?_
  refine l_val rfl (o_assign rfl) ?_
  refine l_nil ?_
  refine kt_norm ?_
  refine v_seq ?_
  refine v_region ?_
  refine l_val rfl (o_assign rfl) ?_
  refine l_nil ?_
  refine kt_norm ?_
  refine v_seq ?_
  refine v_seq ?_
  refine v_region ?_
  refine l_val rfl (o_move rfl) ?_
  refine l_val rfl (o_fld rfl) ?_
  refine l_val rfl (o_load1 (key := 1) rfl rfl rfl) ?_
  refine l_ansv (vs := [_]) rfl rfl rfl (a_Check1 _) ?_
  refine lz_bool (fun q1 => ?_) (fun q1 => ?_)
  · first
    | (exfalso; omega; done)
    | (
        refine l_val rfl (o_move rfl) ?_
        refine l_val rfl (o_move rfl) ?_
        refine l_val rfl (o_fld rfl) ?_
        refine l_val rfl (o_load1 (key := 1) rfl rfl rfl) ?_
        refine l_ansv (vs := [_]) rfl rfl rfl (a_Check1 _) ?_
        refine lz_bool (fun q2 => ?_) (fun q2 => ?_)
        · first
          | (exfalso; omega; done)
          | (
              refine l_val rfl (o_pickT rfl rfl) ?_
              refine l_val rfl (o_move rfl) ?_
              refine l_val rfl (o_move rfl) ?_
              refine l_val rfl (o_fld rfl) ?_
              refine l_val rfl (o_load1 (key := 1) rfl rfl rfl) ?_
              refine l_ansv (vs := [_]) rfl rfl rfl (a_Check2 _) ?_
              refine lz_bool (fun q3 => ?_) (fun q3 => ?_)
              · first
                | (exfalso; omega; done)
                | (
                    refine l_val rfl (o_pickT rfl rfl) ?_
                    refine l_val rfl (o_move rfl) ?_
                    refine l_val rfl (o_move rfl) ?_
                    refine l_val rfl (o_fld rfl) ?_
                    refine l_val rfl (o_load1 (key := 1) rfl rfl rfl) ?_
                    refine l_ansv (vs := [_]) rfl rfl rfl (a_Check2 _) ?_
                    refine lz_bool (fun q4 => ?_) (fun q4 => ?_)
                    · first
                      | (exfalso; omega; done)
                      | (
                          refine l_val rfl (o_pickT rfl rfl) ?_
                          refine l_nil ?_
                          refine kt_norm ?_
                          refine v_sel [26] [] rfl rfl ?_
                          refine v_condT rfl ?_
                          refine v_seq ?_
                          refine v_region ?_
                          refine l_val rfl (o_assign rfl) ?_
                          refine l_nil ?_
                          refine kt_norm ?_
                          refine v_ret ?_
                          refine kt_ret ?_
                          refine ⟨[_], .cons (.tmp rfl) (ResAll.nil), ?_⟩
                          exact congrArg (Value.int .i64) (by first | exact (if_pos (vd.2 (by omega))).symm | exact (if_neg (fun h => by have := vd.1 h; omega)).symm))
                    · first
                      | (exfalso; omega; done)
                      | (
                          refine l_val rfl (o_pickT rfl rfl) ?_
                          refine l_nil ?_
                          refine kt_norm ?_
                          refine v_sel [26] [] rfl rfl ?_
                          refine v_condF rfl ?_
                          refine v_skip ?_
                          refine kt_norm ?_
                          refine v_seq ?_
                          refine v_region ?_
                          refine l_val rfl (o_assign rfl) ?_
                          refine l_nil ?_
                          refine kt_norm ?_
                          refine v_ret ?_
                          refine ⟨[_], .cons (.tmp rfl) (ResAll.nil), ?_⟩
                          exact congrArg (Value.int .i64) (by first | exact (if_pos (vd.2 (by omega))).symm | exact (if_neg (fun h => by have := vd.1 h; omega)).symm)))
              · first
                | (exfalso; omega; done)
                | (
                    refine l_val rfl (o_pickT rfl rfl) ?_
                    refine l_val rfl (o_move rfl) ?_
                    refine l_no rfl ?_
                    refine l_no rfl ?_
                    refine l_no rfl ?_
                    refine l_no rfl ?_
                    refine l_val rfl (o_pickF rfl rfl) ?_
                    refine l_nil ?_
                    refine kt_norm ?_
                    refine v_sel [26] [] rfl rfl ?_
                    refine v_condF rfl ?_
                    refine v_skip ?_
                    refine kt_norm ?_
                    refine v_seq ?_
                    refine v_region ?_
                    refine l_val rfl (o_assign rfl) ?_
                    refine l_nil ?_
                    refine kt_norm ?_
                    refine v_ret ?_
                    refine ⟨[_], .cons (.tmp rfl) (ResAll.nil), ?_⟩
                    exact congrArg (Value.int .i64) (by first | exact (if_pos (vd.2 (by omega))).symm | exact (if_neg (fun h => by have := vd.1 h; omega)).symm)))
        · first
          | (exfalso; omega; done)
          | (
              refine l_val rfl (o_pickT rfl rfl) ?_
              refine l_val rfl (o_move rfl) ?_
              refine l_no rfl ?_
              refine l_no rfl ?_
              refine l_no rfl ?_
              refine l_no rfl ?_
              refine l_val rfl (o_pickF rfl rfl) ?_
              refine l_val rfl (o_move rfl) ?_
              refine l_no rfl ?_
              refine l_no rfl ?_
              refine l_no rfl ?_
              refine l_no rfl ?_
              refine l_val rfl (o_pickF rfl rfl) ?_
              refine l_nil ?_
              refine kt_norm ?_
              refine v_sel [26] [] rfl rfl ?_
              refine v_condF rfl ?_
              refine v_skip ?_
              refine kt_norm ?_
              refine v_seq ?_
              refine v_region ?_
              refine l_val rfl (o_assign rfl) ?_
              refine l_nil ?_
              refine kt_norm ?_
              refine v_ret ?_
              refine ⟨[_], .cons (.tmp rfl) (ResAll.nil), ?_⟩
              exact congrArg (Value.int .i64) (by first | exact (if_pos (vd.2 (by omega))).symm | exact (if_neg (fun h => by have := vd.1 h; omega)).symm)))
  · first
    | (exfalso; omega; done)
    | (
        refine l_val rfl (o_move rfl) ?_
        refine l_no rfl ?_
        refine l_no rfl ?_
        refine l_no rfl ?_
        refine l_no rfl ?_
        refine l_val rfl (o_pickF rfl rfl) ?_
        refine l_val rfl (o_move rfl) ?_
        refine l_no rfl ?_
        refine l_no rfl ?_
        refine l_no rfl ?_
        refine l_no rfl ?_
        refine l_val rfl (o_pickF rfl rfl) ?_
        refine l_val rfl (o_move rfl) ?_
        refine l_no rfl ?_
        refine l_no rfl ?_
        refine l_no rfl ?_
        refine l_no rfl ?_
        refine l_val rfl (o_pickF rfl rfl) ?_
        refine l_nil ?_
        refine kt_norm ?_
        refine v_sel [26] [] rfl rfl ?_
        refine v_condF rfl ?_
        refine v_skip ?_
        refine kt_norm ?_
        refine v_seq ?_
        refine v_region ?_
        refine l_val rfl (o_assign rfl) ?_
        refine l_nil ?_
        refine kt_norm ?_
        refine v_ret ?_
        refine ⟨[_], .cons (.tmp rfl) (ResAll.nil), ?_⟩
        exact congrArg (Value.int .i64) (by first | exact (if_pos (vd.2 (by omega))).symm | exact (if_neg (fun h => by have := vd.1 h; omega)).symm))
end Go.Proofs.Ytaijclimdfchfaa
