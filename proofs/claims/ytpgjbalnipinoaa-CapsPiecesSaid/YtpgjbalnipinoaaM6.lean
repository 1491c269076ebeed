import Derived.Test.YtpgjbalnipinoaaM1
import Derived.Test.YtpgjbalnipinoaaM2
import Derived.Test.YtpgjbalnipinoaaM3
import Derived.Test.YtpgjbalnipinoaaM4
import Derived.Test.YtpgjbalnipinoaaM5
/- Caps and dots. Conditions: none. -/
namespace Go.Proofs.Ytpgjbalnipinoaa
open Go.Proofs Go.RowKit Go.Shelf

instance : TOne Try.prog 42 := .of (by kernel_rfl) (by kernel_rfl)
instance : TZero Try.prog 70 [.nilFunc, .nilFunc, .nilFunc] := .of (by kernel_rfl)
instance : TAgg Try.prog 70 3 := .of (by kernel_rfl) (by kernel_rfl)
instance : TArr Try.prog 70 42 1 3 [.nilFunc, .nilFunc, .nilFunc] := .of (by kernel_rfl) (by kernel_rfl) (by kernel_rfl) (by decide)
/-- the corners of a square cap, around its end -/
def sqC (s f : PtT) : List PtT := [s, ⟨s.x + f.x, s.y + f.y⟩, ⟨f.x - s.x, f.y - s.y⟩, ⟨-s.x, -s.y⟩]
def sqT (p u : PtT) (h : Int) (qs : List (List PtT)) : List (List PtT) := if normT ⟨-u.y, u.x⟩ h = ⟨0, 0⟩ ∨ normT u h = ⟨0, 0⟩ then qs else putT qs ((sqC (normT ⟨-u.y, u.x⟩ h) (normT u h)).map (addP p))
theorem sqT_no {p u s f : PtT} {h : Int} {qs : List (List PtT)} (hs : normT ⟨-u.y, u.x⟩ h = s) (hf : normT u h = f) (h0 : (s.x = 0 ∧ s.y = 0) ∨ (f.x = 0 ∧ f.y = 0)) : sqT p u h qs = qs := by
  unfold sqT; rw [hs, hf, if_pos (h0.imp pt_ext pt_ext)]
theorem sqT_yes {p u s f : PtT} {h : Int} {qs : List (List PtT)} (hs : normT ⟨-u.y, u.x⟩ h = s) (hf : normT u h = f) (h1 : ¬ (s.x = 0 ∧ s.y = 0)) (h2 : ¬ (f.x = 0 ∧ f.y = 0)) : sqT p u h qs = putT qs ((sqC s f).map (addP p)) := by
  unfold sqT; rw [hs, hf, if_neg (fun e => e.elim (fun e => h1 (by rw [e]; exact ⟨rfl, rfl⟩)) (fun e => h2 (by rw [e]; exact ⟨rfl, rfl⟩)))]
theorem sq_bd {s f : PtT} {h : Int} (hh : h ≤ 131072) (hs : (-h ≤ s.x ∧ s.x ≤ h) ∧ (-h ≤ s.y ∧ s.y ≤ h)) (hf : (-h ≤ f.x ∧ f.x ≤ h) ∧ (-h ≤ f.y ∧ f.y ≤ h)) : ∀ j, j < (sqC s f).length → BdT ((sqC s f).getD j dP) := fun j hj => by
  have := pt_mem hj
  generalize (sqC s f).getD j dP = q at this
  unfold sqC at this
  simp only [List.mem_cons, List.not_mem_nil, or_false] at this
  rcases this with rfl | rfl | rfl | rfl <;> (unfold BdT; first | omega | (dsimp only; omega))
def boxC (h : Int) : List PtT := [⟨-h, -h⟩, ⟨h, -h⟩, ⟨h, h⟩, ⟨-h, h⟩]
theorem box_bd {h : Int} (hh : 1 ≤ h ∧ h ≤ 131072) : ∀ j, j < (boxC h).length → BdT ((boxC h).getD j dP) := fun j hj => by
  have := pt_mem hj
  generalize (boxC h).getD j dP = q at this
  unfold boxC at this
  simp only [List.mem_cons, List.not_mem_nil, or_false] at this
  rcases this with rfl | rfl | rfl | rfl <;> (unfold BdT; dsimp only; omega)
/-- what a cap of a kind comes to, and a dot -/
def capK (k : Int) (p u : PtT) (h : Int) (qs : List (List PtT)) : List (List PtT) := if k = 1 then sqT p u h qs else if k = 2 then halfT p u h qs else qs
def dotK (k : Int) (p : PtT) (h : Int) (qs : List (List PtT)) : List (List PtT) := if k = 1 then putT qs ((boxC h).map (addP p)) else if k = 2 then piesT p h (discC h) qs else qs
set_option maxHeartbeats 2000000 in
theorem a_square1 (w : World) (v : Value) (pvs : List Value) (qs : List (List PtT)) (p : PtT) (h : Int) (hv : PcsW v pvs qs) (hcp : Capd v) (hat : PcsAt w v pvs qs) (hql : qs.length ≤ 2000) (hp : (-536870912 ≤ p.x ∧ p.x ≤ 536870912) ∧ (-536870912 ≤ p.y ∧ p.y ≤ 536870912)) (hr : 1 ≤ h ∧ h ≤ 131072) (u : PtT) (hx : -1073741824 ≤ u.x ∧ u.x ≤ 1073741824) (hy : -1073741824 ≤ u.y ∧ u.y ≤ 1073741824) : Calls Try.prog 52 #[v, .agg #[.int .i64 p.x, .int .i64 p.y], .agg #[.int .i64 u.x, .int .i64 u.y], .int .i64 h] w fun e w' => ∃ x : PutsY v pvs qs (sqT p u h qs), e = .returned x.1.1 ∧ Below w.heap.size w w' ∧ SaidOk w' x.1.2.2.1 x.1.2.2.2 ∧ ∀ b, x.1.2.2.2 b → w.heap.size ≤ b := by
  obtain ⟨s, hs⟩ : ∃ s, normT ⟨-u.y, u.x⟩ h = s := ⟨_, rfl⟩
  obtain ⟨f, hf⟩ : ∃ f, normT u h = f := ⟨_, rfl⟩
  have hbs := hs ▸ norm_bound (p := ⟨-u.y, u.x⟩) (r := h) (by dsimp only; omega) (by dsimp only; omega) (by omega)
  have hbf := hf ▸ norm_bound (p := u) (r := h) (by omega) (by omega) (by omega)
  have hno := fun h0 => sqT_no (p := p) (qs := qs) hs hf h0
  have hyes := fun h1 h2 => sqT_yes (p := p) (qs := qs) hs hf h1 h2
  obtain ⟨Z, hZ⟩ : ∃ Z, sqT p u h qs = Z := ⟨_, rfl⟩
  rw [hZ] at hno hyes ⊢
  refine calls_said (args := [v, .agg #[.int .i64 p.x, .int .i64 p.y], .agg #[.int .i64 u.x, .int .i64 u.y], .int .i64 h]) (fun x : PutsY v pvs qs (Z) => x.1.1) (fun x w' => SaidOk w' x.1.2.2.1 x.1.2.2.2) (fun x b => x.1.2.2.2 b) Try.func52 rfl Try.ntmps52 Try.results52 rfl ?_
  refine v_seq ?_
  refine v_region ?_
  refine l_new rfl (o_box (cs := [_, _]) rfl rfl) fun b5 => ?_
  refine l_new rfl (o_box (cs := [_, _]) rfl rfl) fun b6 => ?_
  refine l_val rfl (o_assign rfl) ?_
  refine l_nil ?_
  refine kt_norm ?_
  refine v_seq ?_
  refine v_drawZ [[6], [], [], [], [6], [], [], [], [], [9], [10]] mixed ?_ (by kernel_rfl) (by kernel_rfl)
  refine d_val (fun _ => rfl) rfl rfl (fun _ => o_loadW (key := 6) rfl rfl rfl) ?_
  refine d_ans (vs := [_]) (fun _ => rfl) (fun _ => rfl) (a_Left _ _ ?_ ?_) ?_
  · omega
  · omega
  refine d_val (fun _ => rfl) rfl rfl (fun _ => o_move rfl) ?_
  refine d_ans (vs := [_, _]) (fun _ => rfl) (fun _ => rfl) (a_nrm (u := ⟨-u.y, u.x⟩) hr (by dsimp only; omega) (by dsimp only; omega) hs) ?_
  refine d_val (fun _ => rfl) rfl rfl (fun _ => o_loadW (key := 6) rfl rfl rfl) ?_
  refine d_val (fun _ => rfl) rfl rfl (fun _ => o_move rfl) ?_
  refine d_ans (vs := [_, _]) (fun _ => rfl) (fun _ => rfl) (a_nrm hr hx hy hf) ?_
  refine d_new (fun _ => rfl) rfl rfl (fun _ => o_alloc) ?_
  refine d_new (fun _ => rfl) rfl rfl (fun _ => o_alloc) ?_
  refine d_store (fun _ => rfl) rfl rfl (fun _ => o_storeW (key := 9) (xs := [_, _]) rfl rfl rfl rfl rfl rfl rfl) ?_
  refine d_store (fun _ => rfl) rfl rfl (fun _ => o_storeW (key := 10) (xs := [_, _]) rfl rfl rfl rfl rfl rfl rfl) ?_
  refine d_nil (fun σ => ?_)
  refine l_nil ?_
  refine kt_norm ?_
  refine v_sel [0, 5, 9, 10] [5, 9, 10] rfl rfl ?_
  refine v_seq ?_
  refine v_seq ?_
  refine v_region ?_
  refine l_val rfl (o_loadW (key := 9) rfl rfl rfl) ?_
  refine l_val rfl (o_build (vs := []) (cs := [_, _]) rfl rfl) ?_
  refine l_split rfl (o_eqs (xl := [_, _]) (yl := [_, _]) (az := [_, _]) (bz := [_, _]) rfl rfl rfl rfl rfl rfl) (fun hs0 => ?_) (fun hs0 => ?_)
  · simp only [List.map_cons, List.map_nil, List.cons.injEq, and_true] at hs0
    refine l_val rfl (o_move rfl) ?_
    refine l_no rfl ?_
    refine l_no rfl ?_
    refine l_no rfl ?_
    refine l_val rfl (o_pickT rfl rfl) ?_
    refine l_nil ?_
    refine kt_norm ?_
    refine v_sel [0, 5, 9, 10, 25] [5, 9, 10] rfl rfl ?_
    refine v_condT rfl ?_
    refine v_seq ?_
    refine v_region ?_
    refine l_val rfl (o_move rfl) ?_
    refine l_val rfl (o_assign rfl) ?_
    refine l_nil ?_
    refine kt_norm ?_
    refine v_sel [8] [] rfl rfl ?_
    refine v_ret ?_
    refine kt_ret ?_
    refine ⟨[_], .cons (.tmp rfl) (ResAll.nil), ?_⟩
    first
      | exact ⟨⟨(v, pvs, fun _ => True, fun _ => False), (hno (.inl hs0)).symm ▸ hv, hcp, fun w2 h _ => (hno (.inl hs0)).symm ▸ h⟩, rfl, fun w' ho => ⟨⟨trivial, fun b hb => hb.elim, fun _ _ _ _ => trivial⟩, fun b hb => hb.elim⟩⟩
      | exact ⟨⟨(v, pvs, fun _ => True, fun _ => False), (hno (.inr hf0)).symm ▸ hv, hcp, fun w2 h _ => (hno (.inr hf0)).symm ▸ h⟩, rfl, fun w' ho => ⟨⟨trivial, fun b hb => hb.elim, fun _ _ _ _ => trivial⟩, fun b hb => hb.elim⟩⟩
      | exact ⟨⟨xr.1, (hyes hs0 hf0).symm ▸ xr.2⟩, rfl, fun w' ho => ⟨(ho.mo 39 _ rfl).1.1, fun b hb => ((ho.mo 39 _ rfl).2 b hb).elim id False.elim⟩⟩
  · simp only [List.map_cons, List.map_nil, List.cons.injEq, and_true] at hs0
    refine l_val rfl (o_move rfl) ?_
    refine l_val rfl (o_loadW (key := 10) rfl rfl rfl) ?_
    refine l_val rfl (o_build (vs := []) (cs := [_, _]) rfl rfl) ?_
    refine l_split rfl (o_eqs (xl := [_, _]) (yl := [_, _]) (az := [_, _]) (bz := [_, _]) rfl rfl rfl rfl rfl rfl) (fun hf0 => ?_) (fun hf0 => ?_)
    · simp only [List.map_cons, List.map_nil, List.cons.injEq, and_true] at hf0
      refine l_val rfl (o_pickF rfl rfl) ?_
      refine l_nil ?_
      refine kt_norm ?_
      refine v_sel [0, 5, 9, 10, 25] [5, 9, 10] rfl rfl ?_
      refine v_condT rfl ?_
      refine v_seq ?_
      refine v_region ?_
      refine l_val rfl (o_move rfl) ?_
      refine l_val rfl (o_assign rfl) ?_
      refine l_nil ?_
      refine kt_norm ?_
      refine v_sel [8] [] rfl rfl ?_
      refine v_ret ?_
      refine kt_ret ?_
      refine ⟨[_], .cons (.tmp rfl) (ResAll.nil), ?_⟩
      first
        | exact ⟨⟨(v, pvs, fun _ => True, fun _ => False), (hno (.inl hs0)).symm ▸ hv, hcp, fun w2 h _ => (hno (.inl hs0)).symm ▸ h⟩, rfl, fun w' ho => ⟨⟨trivial, fun b hb => hb.elim, fun _ _ _ _ => trivial⟩, fun b hb => hb.elim⟩⟩
        | exact ⟨⟨(v, pvs, fun _ => True, fun _ => False), (hno (.inr hf0)).symm ▸ hv, hcp, fun w2 h _ => (hno (.inr hf0)).symm ▸ h⟩, rfl, fun w' ho => ⟨⟨trivial, fun b hb => hb.elim, fun _ _ _ _ => trivial⟩, fun b hb => hb.elim⟩⟩
        | exact ⟨⟨xr.1, (hyes hs0 hf0).symm ▸ xr.2⟩, rfl, fun w' ho => ⟨(ho.mo 39 _ rfl).1.1, fun b hb => ((ho.mo 39 _ rfl).2 b hb).elim id False.elim⟩⟩
    · simp only [List.map_cons, List.map_nil, List.cons.injEq, and_true] at hf0
      refine l_val rfl (o_pickF rfl rfl) ?_
      refine l_nil ?_
      refine kt_norm ?_
      refine v_sel [0, 5, 9, 10, 25] [5, 9, 10] rfl rfl ?_
      refine v_condF rfl ?_
      refine v_skip ?_
      refine kt_norm ?_
      refine v_seq ?_
      refine v_drawW [(38, 4)] [[], [5], [9], [9], [10], [], [10], [9], [], [9], [], []] mixed ?_ (by kernel_rfl) (by kernel_rfl)
      refine d_val (fun _ => rfl) rfl rfl (fun σ4 => o_move rfl) ?_
      refine d_val (fun _ => rfl) rfl rfl (fun σ4 => o_loadW (key := 5) rfl rfl rfl) ?_
      refine d_val (fun _ => rfl) rfl rfl (fun σ4 => o_loadW (key := 9) rfl rfl rfl) ?_
      refine d_val (fun _ => rfl) rfl rfl (fun σ4 => o_loadW (key := 9) rfl rfl rfl) ?_
      refine d_val (fun _ => rfl) rfl rfl (fun σ4 => o_loadW (key := 10) rfl rfl rfl) ?_
      refine d_ans (vs := [_, _]) (fun _ => rfl) (fun _ => rfl) (a_PAdd _ _ _ _ ?_ ?_ ?_ ?_) ?_
      · omega
      · omega
      · omega
      · omega
      refine d_val (fun _ => rfl) rfl rfl (fun σ4 => o_loadW (key := 10) rfl rfl rfl) ?_
      refine d_val (fun _ => rfl) rfl rfl (fun σ4 => o_loadW (key := 9) rfl rfl rfl) ?_
      refine d_ans (vs := [_, _]) (fun _ => rfl) (fun _ => rfl) (a_PSub _ _ _ _ ?_ ?_ ?_ ?_) ?_
      · omega
      · omega
      · omega
      · omega
      refine d_val (fun _ => rfl) rfl rfl (fun σ4 => o_loadW (key := 9) rfl rfl rfl) ?_
      refine d_ans (vs := [_]) (fun _ => rfl) (fun _ => rfl) (a_Neg _ _ ?_ ?_) ?_
      · omega
      · omega
      refine d_bsO (n := 4) (vs := fun _ => [_, _, _, _]) (cs := fun _ => [_, _, _, _, _, _, _, _]) (fun _ => rfl) (fun _ => rfl) (fun _ => rfl) rfl rfl (fun _ => rfl) (fun _ => rfl) ?_
      refine d_nil (fun σ4 => ?_)
      refine l_hsaid (ks := [38]) (caps := #[]) (vs := [_, _, _]) (α := PutsY v pvs qs (putT qs ((sqC s f).map (addP p)))) (fun x => x.1.1) (fun x w' => SaidOk w' x.1.2.2.1 x.1.2.2.2) (fun x b => x.1.2.2.2 b) rfl rfl (ent_of Try.func55 rfl rfl) rfl (fun x w1 w2 h hb => h.keep hb) (fun x w1 b h hb => h.2.1 b hb) (fun w' hg hh => a_around w' _ pvs qs p hv hcp (hat.keep hg) hql hp _ (sqC s f) rfl (.inl ⟨_, _, _, rfl⟩) (rowAt_own (hh 38 (by simp) _ rfl)) (sq_bd hr.2 hbs hbf)) fun xr => ?_
      refine l_val rfl (o_assign rfl) ?_
      refine l_nil ?_
      refine kt_norm ?_
      refine v_sel [8] [39] rfl rfl ?_
      refine v_ret ?_
      refine ⟨[_], .cons (.tmp rfl) (ResAll.nil), ?_⟩
      first
        | exact ⟨⟨(v, pvs, fun _ => True, fun _ => False), (hno (.inl hs0)).symm ▸ hv, hcp, fun w2 h _ => (hno (.inl hs0)).symm ▸ h⟩, rfl, fun w' ho => ⟨⟨trivial, fun b hb => hb.elim, fun _ _ _ _ => trivial⟩, fun b hb => hb.elim⟩⟩
        | exact ⟨⟨(v, pvs, fun _ => True, fun _ => False), (hno (.inr hf0)).symm ▸ hv, hcp, fun w2 h _ => (hno (.inr hf0)).symm ▸ h⟩, rfl, fun w' ho => ⟨⟨trivial, fun b hb => hb.elim, fun _ _ _ _ => trivial⟩, fun b hb => hb.elim⟩⟩
        | exact ⟨⟨xr.1, (hyes hs0 hf0).symm ▸ xr.2⟩, rfl, fun w' ho => ⟨(ho.mo 39 _ rfl).1.1, fun b hb => ((ho.mo 39 _ rfl).2 b hb).elim id False.elim⟩⟩
theorem a_none (w : World) (v : Value) (p u : PtT) (h : Int) : Calls Try.prog 51 #[v, .agg #[.int .i64 p.x, .int .i64 p.y], .agg #[.int .i64 u.x, .int .i64 u.y], .int .i64 h] w fun e w' => e = .returned v ∧ Below w.heap.size w w' := by
  refine calls_of (args := [v, .agg #[.int .i64 p.x, .int .i64 p.y], .agg #[.int .i64 u.x, .int .i64 u.y], .int .i64 h]) Try.func51 rfl Try.ntmps51 Try.results51 rfl ?_
  refine v_seq ?_
  refine v_region ?_
  refine l_new rfl (o_box (cs := [_, _]) rfl rfl) fun b5 => ?_
  refine l_new rfl (o_box (cs := [_, _]) rfl rfl) fun b6 => ?_
  refine l_val rfl (o_assign rfl) ?_
  refine l_nil ?_
  refine kt_norm ?_
  refine v_sel [0] [] rfl rfl ?_
  refine v_seq ?_
  refine v_region ?_
  refine l_val rfl (o_move rfl) ?_
  refine l_val rfl (o_assign rfl) ?_
  refine l_nil ?_
  refine kt_norm ?_
  refine v_ret ?_
  refine ⟨[_], .cons (.tmp rfl) (ResAll.nil), ?_⟩
  rfl
theorem a_PutK0 (w : World) (v : Value) (pvs : List Value) (qs : List (List PtT)) (p : PtT) (h : Int) (hv : PcsW v pvs qs) (hcp : Capd v) (hat : PcsAt w v pvs qs) (hql : qs.length ≤ 2000) (hp : (-536870912 ≤ p.x ∧ p.x ≤ 536870912) ∧ (-536870912 ≤ p.y ∧ p.y ≤ 536870912)) (hr : 1 ≤ h ∧ h ≤ 131072) (u : PtT) (hx : -1073741824 ≤ u.x ∧ u.x ≤ 1073741824) (hy : -1073741824 ≤ u.y ∧ u.y ≤ 1073741824) {Z : List (List PtT)} (hZ : Z = qs) : Calls Try.prog 35 #[v, .int .i64 0, .agg #[.int .i64 p.x, .int .i64 p.y], .agg #[.int .i64 u.x, .int .i64 u.y], .int .i64 h] w fun e w' => ∃ x : PutsY v pvs qs (Z), e = .returned x.1.1 ∧ Below w.heap.size w w' ∧ SaidOk w' x.1.2.2.1 x.1.2.2.2 ∧ ∀ b, x.1.2.2.2 b → w.heap.size ≤ b := by
  refine calls_said (args := [v, .int .i64 0, .agg #[.int .i64 p.x, .int .i64 p.y], .agg #[.int .i64 u.x, .int .i64 u.y], .int .i64 h]) (fun x : PutsY v pvs qs (Z) => x.1.1) (fun x w' => SaidOk w' x.1.2.2.1 x.1.2.2.2) (fun x b => x.1.2.2.2 b) Try.func35 rfl Try.ntmps35 Try.results35 rfl ?_
  refine v_seq ?_
  refine v_region ?_
  refine l_new rfl (o_box (cs := [_, _]) rfl rfl) fun b7 => ?_
  refine l_new rfl (o_box (cs := [_, _]) rfl rfl) fun b8 => ?_
  refine l_val rfl (o_assign rfl) ?_
  refine l_nil ?_
  refine kt_norm ?_
  refine v_seq ?_
  refine v_region ?_
  refine l_val rfl (o_buildA (vs := [_, _, _]) (cs := [_, _, _]) rfl rfl) ?_
  refine l_new rfl o_alloc fun b11 => ?_
  refine l_store rfl (o_storeW (key := 11) (xs := [_, _, _]) rfl rfl rfl rfl rfl rfl rfl) ?_
  refine l_nil ?_
  refine kt_norm ?_
  refine v_seq ?_
  refine v_seq ?_
  refine v_region ?_
  refine l_val rfl (o_move rfl) ?_
  refine l_split rfl (o_lss rfl rfl) (fun q1 => absurd q1 (by omega)) (fun q1 => ?_)
  refine l_val rfl (o_move rfl) ?_
  refine l_val rfl (o_move rfl) ?_
  refine l_split rfl (o_geq rfl rfl) (fun q2 => absurd q2 (by omega)) (fun q2 => ?_)
  refine l_val rfl (o_pickF rfl rfl) ?_
  refine l_nil ?_
  refine kt_norm ?_
  refine v_sel [0, 1, 4, 7, 8, 11, 18] [7, 8, 11] rfl rfl ?_
  refine v_condF rfl ?_
  refine v_skip ?_
  refine kt_norm ?_
  refine v_seq ?_
  refine v_drawW [] [[], [], [11], [], [7], [8], []] mixed ?_ (by kernel_rfl) (by kernel_rfl)
  refine d_val (fun _ => rfl) rfl rfl (fun σ4 => o_move rfl) ?_
  refine d_val (fun _ => rfl) rfl rfl (fun σ4 => o_idxA 0 rfl rfl rfl (by decide)) ?_
  refine d_val (fun _ => rfl) rfl rfl (fun σ4 => o_load1 (key := 11) rfl rfl rfl) ?_
  refine d_val (fun _ => rfl) rfl rfl (fun σ4 => o_move rfl) ?_
  refine d_val (fun _ => rfl) rfl rfl (fun σ4 => o_loadW (key := 7) rfl rfl rfl) ?_
  refine d_val (fun _ => rfl) rfl rfl (fun σ4 => o_loadW (key := 8) rfl rfl rfl) ?_
  refine d_val (fun _ => rfl) rfl rfl (fun σ4 => o_move rfl) ?_
  refine d_nil (fun σ4 => ?_)
  refine l_call (ks := []) rfl (o_callF (caps := #[]) (vs := [_, _, _, _]) (r := v) rfl (ent_of Try.func51 rfl rfl) rfl (fun w' hg _ => a_none w' v p u h)) ?_
  refine l_val rfl (o_assign rfl) ?_
  refine l_nil ?_
  refine kt_norm ?_
  refine v_sel [10] [] rfl rfl ?_
  refine v_ret ?_
  refine ⟨[_], .cons (.tmp rfl) (ResAll.nil), ?_⟩
  exact ⟨⟨(v, pvs, fun _ => True, fun _ => False), (hZ).symm ▸ hv, hcp, fun w2 h _ => (hZ).symm ▸ h⟩, rfl, fun w' ho => ⟨⟨trivial, fun b hb => hb.elim, fun _ _ _ _ => trivial⟩, fun b hb => hb.elim⟩⟩
theorem a_PutK1 (w : World) (v : Value) (pvs : List Value) (qs : List (List PtT)) (p : PtT) (h : Int) (hv : PcsW v pvs qs) (hcp : Capd v) (hat : PcsAt w v pvs qs) (hql : qs.length ≤ 2000) (hp : (-536870912 ≤ p.x ∧ p.x ≤ 536870912) ∧ (-536870912 ≤ p.y ∧ p.y ≤ 536870912)) (hr : 1 ≤ h ∧ h ≤ 131072) (u : PtT) (hx : -1073741824 ≤ u.x ∧ u.x ≤ 1073741824) (hy : -1073741824 ≤ u.y ∧ u.y ≤ 1073741824) {Z : List (List PtT)} (hZ : Z = sqT p u h qs) : Calls Try.prog 35 #[v, .int .i64 1, .agg #[.int .i64 p.x, .int .i64 p.y], .agg #[.int .i64 u.x, .int .i64 u.y], .int .i64 h] w fun e w' => ∃ x : PutsY v pvs qs (Z), e = .returned x.1.1 ∧ Below w.heap.size w w' ∧ SaidOk w' x.1.2.2.1 x.1.2.2.2 ∧ ∀ b, x.1.2.2.2 b → w.heap.size ≤ b := by
  refine calls_said (args := [v, .int .i64 1, .agg #[.int .i64 p.x, .int .i64 p.y], .agg #[.int .i64 u.x, .int .i64 u.y], .int .i64 h]) (fun x : PutsY v pvs qs (Z) => x.1.1) (fun x w' => SaidOk w' x.1.2.2.1 x.1.2.2.2) (fun x b => x.1.2.2.2 b) Try.func35 rfl Try.ntmps35 Try.results35 rfl ?_
  refine v_seq ?_
  refine v_region ?_
  refine l_new rfl (o_box (cs := [_, _]) rfl rfl) fun b7 => ?_
  refine l_new rfl (o_box (cs := [_, _]) rfl rfl) fun b8 => ?_
  refine l_val rfl (o_assign rfl) ?_
  refine l_nil ?_
  refine kt_norm ?_
  refine v_seq ?_
  refine v_region ?_
  refine l_val rfl (o_buildA (vs := [_, _, _]) (cs := [_, _, _]) rfl rfl) ?_
  refine l_new rfl o_alloc fun b11 => ?_
  refine l_store rfl (o_storeW (key := 11) (xs := [_, _, _]) rfl rfl rfl rfl rfl rfl rfl) ?_
  refine l_nil ?_
  refine kt_norm ?_
  refine v_seq ?_
  refine v_seq ?_
  refine v_region ?_
  refine l_val rfl (o_move rfl) ?_
  refine l_split rfl (o_lss rfl rfl) (fun q1 => absurd q1 (by omega)) (fun q1 => ?_)
  refine l_val rfl (o_move rfl) ?_
  refine l_val rfl (o_move rfl) ?_
  refine l_split rfl (o_geq rfl rfl) (fun q2 => absurd q2 (by omega)) (fun q2 => ?_)
  refine l_val rfl (o_pickF rfl rfl) ?_
  refine l_nil ?_
  refine kt_norm ?_
  refine v_sel [0, 1, 4, 7, 8, 11, 18] [7, 8, 11] rfl rfl ?_
  refine v_condF rfl ?_
  refine v_skip ?_
  refine kt_norm ?_
  refine v_seq ?_
  refine v_drawW [] [[], [], [11], [], [7], [8], []] mixed ?_ (by kernel_rfl) (by kernel_rfl)
  refine d_val (fun _ => rfl) rfl rfl (fun σ4 => o_move rfl) ?_
  refine d_val (fun _ => rfl) rfl rfl (fun σ4 => o_idxA 1 rfl rfl rfl (by decide)) ?_
  refine d_val (fun _ => rfl) rfl rfl (fun σ4 => o_load1 (key := 11) rfl rfl rfl) ?_
  refine d_val (fun _ => rfl) rfl rfl (fun σ4 => o_move rfl) ?_
  refine d_val (fun _ => rfl) rfl rfl (fun σ4 => o_loadW (key := 7) rfl rfl rfl) ?_
  refine d_val (fun _ => rfl) rfl rfl (fun σ4 => o_loadW (key := 8) rfl rfl rfl) ?_
  refine d_val (fun _ => rfl) rfl rfl (fun σ4 => o_move rfl) ?_
  refine d_nil (fun σ4 => ?_)
  refine l_hsaid (ks := []) (caps := #[]) (vs := [_, _, _, _]) (α := PutsY v pvs qs (sqT p u h qs)) (fun x => x.1.1) (fun x w' => SaidOk w' x.1.2.2.1 x.1.2.2.2) (fun x b => x.1.2.2.2 b) rfl rfl (ent_of Try.func52 rfl rfl) rfl (fun x w1 w2 h hb => h.keep hb) (fun x w1 b h hb => h.2.1 b hb) (fun w' hg hh => a_square1 w' _ pvs qs p h hv hcp (hat.keep hg) hql hp hr u hx hy) fun xr => ?_
  refine l_val rfl (o_assign rfl) ?_
  refine l_nil ?_
  refine kt_norm ?_
  refine v_sel [10] [27] rfl rfl ?_
  refine v_ret ?_
  refine ⟨[_], .cons (.tmp rfl) (ResAll.nil), ?_⟩
  exact ⟨⟨xr.1, (hZ).symm ▸ xr.2⟩, rfl, fun w' ho => ⟨(ho.mo 27 _ rfl).1.1, fun b hb => ((ho.mo 27 _ rfl).2 b hb).elim id False.elim⟩⟩
theorem a_PutK2 (w : World) (v : Value) (pvs : List Value) (qs : List (List PtT)) (p : PtT) (h : Int) (hv : PcsW v pvs qs) (hcp : Capd v) (hat : PcsAt w v pvs qs) (hql : qs.length ≤ 2000) (hp : (-536870912 ≤ p.x ∧ p.x ≤ 536870912) ∧ (-536870912 ≤ p.y ∧ p.y ≤ 536870912)) (hr : 1 ≤ h ∧ h ≤ 131072) (u : PtT) (hx : -1073741824 ≤ u.x ∧ u.x ≤ 1073741824) (hy : -1073741824 ≤ u.y ∧ u.y ≤ 1073741824) {Z : List (List PtT)} (hZ : Z = halfT p u h qs) : Calls Try.prog 35 #[v, .int .i64 2, .agg #[.int .i64 p.x, .int .i64 p.y], .agg #[.int .i64 u.x, .int .i64 u.y], .int .i64 h] w fun e w' => ∃ x : PutsY v pvs qs (Z), e = .returned x.1.1 ∧ Below w.heap.size w w' ∧ SaidOk w' x.1.2.2.1 x.1.2.2.2 ∧ ∀ b, x.1.2.2.2 b → w.heap.size ≤ b := by
  refine calls_said (args := [v, .int .i64 2, .agg #[.int .i64 p.x, .int .i64 p.y], .agg #[.int .i64 u.x, .int .i64 u.y], .int .i64 h]) (fun x : PutsY v pvs qs (Z) => x.1.1) (fun x w' => SaidOk w' x.1.2.2.1 x.1.2.2.2) (fun x b => x.1.2.2.2 b) Try.func35 rfl Try.ntmps35 Try.results35 rfl ?_
  refine v_seq ?_
  refine v_region ?_
  refine l_new rfl (o_box (cs := [_, _]) rfl rfl) fun b7 => ?_
  refine l_new rfl (o_box (cs := [_, _]) rfl rfl) fun b8 => ?_
  refine l_val rfl (o_assign rfl) ?_
  refine l_nil ?_
  refine kt_norm ?_
  refine v_seq ?_
  refine v_region ?_
  refine l_val rfl (o_buildA (vs := [_, _, _]) (cs := [_, _, _]) rfl rfl) ?_
  refine l_new rfl o_alloc fun b11 => ?_
  refine l_store rfl (o_storeW (key := 11) (xs := [_, _, _]) rfl rfl rfl rfl rfl rfl rfl) ?_
  refine l_nil ?_
  refine kt_norm ?_
  refine v_seq ?_
  refine v_seq ?_
  refine v_region ?_
  refine l_val rfl (o_move rfl) ?_
  refine l_split rfl (o_lss rfl rfl) (fun q1 => absurd q1 (by omega)) (fun q1 => ?_)
  refine l_val rfl (o_move rfl) ?_
  refine l_val rfl (o_move rfl) ?_
  refine l_split rfl (o_geq rfl rfl) (fun q2 => absurd q2 (by omega)) (fun q2 => ?_)
  refine l_val rfl (o_pickF rfl rfl) ?_
  refine l_nil ?_
  refine kt_norm ?_
  refine v_sel [0, 1, 4, 7, 8, 11, 18] [7, 8, 11] rfl rfl ?_
  refine v_condF rfl ?_
  refine v_skip ?_
  refine kt_norm ?_
  refine v_seq ?_
  refine v_drawW [] [[], [], [11], [], [7], [8], []] mixed ?_ (by kernel_rfl) (by kernel_rfl)
  refine d_val (fun _ => rfl) rfl rfl (fun σ4 => o_move rfl) ?_
  refine d_val (fun _ => rfl) rfl rfl (fun σ4 => o_idxA 2 rfl rfl rfl (by decide)) ?_
  refine d_val (fun _ => rfl) rfl rfl (fun σ4 => o_load1 (key := 11) rfl rfl rfl) ?_
  refine d_val (fun _ => rfl) rfl rfl (fun σ4 => o_move rfl) ?_
  refine d_val (fun _ => rfl) rfl rfl (fun σ4 => o_loadW (key := 7) rfl rfl rfl) ?_
  refine d_val (fun _ => rfl) rfl rfl (fun σ4 => o_loadW (key := 8) rfl rfl rfl) ?_
  refine d_val (fun _ => rfl) rfl rfl (fun σ4 => o_move rfl) ?_
  refine d_nil (fun σ4 => ?_)
  refine l_hsaid (ks := []) (caps := #[]) (vs := [_, _, _, _]) (α := PutsY v pvs qs (halfT p u h qs)) (fun x => x.1.1) (fun x w' => SaidOk w' x.1.2.2.1 x.1.2.2.2) (fun x b => x.1.2.2.2 b) rfl rfl (ent_of Try.func24 rfl rfl) rfl (fun x w1 w2 h hb => h.keep hb) (fun x w1 b h hb => h.2.1 b hb) (fun w' hg hh => a_Half w' _ pvs qs p h hv hcp (hat.keep hg) hql hp hr u hx hy) fun xr => ?_
  refine l_val rfl (o_assign rfl) ?_
  refine l_nil ?_
  refine kt_norm ?_
  refine v_sel [10] [27] rfl rfl ?_
  refine v_ret ?_
  refine ⟨[_], .cons (.tmp rfl) (ResAll.nil), ?_⟩
  exact ⟨⟨xr.1, (hZ).symm ▸ xr.2⟩, rfl, fun w' ho => ⟨(ho.mo 27 _ rfl).1.1, fun b hb => ((ho.mo 27 _ rfl).2 b hb).elim id False.elim⟩⟩
theorem a_PutKx (w : World) (v : Value) (pvs : List Value) (qs : List (List PtT)) (p : PtT) (h : Int) (hv : PcsW v pvs qs) (hcp : Capd v) (hat : PcsAt w v pvs qs) (hql : qs.length ≤ 2000) (hp : (-536870912 ≤ p.x ∧ p.x ≤ 536870912) ∧ (-536870912 ≤ p.y ∧ p.y ≤ 536870912)) (hr : 1 ≤ h ∧ h ≤ 131072) (u : PtT) (hx : -1073741824 ≤ u.x ∧ u.x ≤ 1073741824) (hy : -1073741824 ≤ u.y ∧ u.y ≤ 1073741824) (k : Int) (hk : k < 0 ∨ 3 ≤ k) {Z : List (List PtT)} (hZ : Z = qs) : Calls Try.prog 35 #[v, .int .i64 k, .agg #[.int .i64 p.x, .int .i64 p.y], .agg #[.int .i64 u.x, .int .i64 u.y], .int .i64 h] w fun e w' => ∃ x : PutsY v pvs qs (Z), e = .returned x.1.1 ∧ Below w.heap.size w w' ∧ SaidOk w' x.1.2.2.1 x.1.2.2.2 ∧ ∀ b, x.1.2.2.2 b → w.heap.size ≤ b := by
  refine calls_said (args := [v, .int .i64 k, .agg #[.int .i64 p.x, .int .i64 p.y], .agg #[.int .i64 u.x, .int .i64 u.y], .int .i64 h]) (fun x : PutsY v pvs qs (Z) => x.1.1) (fun x w' => SaidOk w' x.1.2.2.1 x.1.2.2.2) (fun x b => x.1.2.2.2 b) Try.func35 rfl Try.ntmps35 Try.results35 rfl ?_
  refine v_seq ?_
  refine v_region ?_
  refine l_new rfl (o_box (cs := [_, _]) rfl rfl) fun b7 => ?_
  refine l_new rfl (o_box (cs := [_, _]) rfl rfl) fun b8 => ?_
  refine l_val rfl (o_assign rfl) ?_
  refine l_nil ?_
  refine kt_norm ?_
  refine v_seq ?_
  refine v_region ?_
  refine l_val rfl (o_buildA (vs := [_, _, _]) (cs := [_, _, _]) rfl rfl) ?_
  refine l_new rfl o_alloc fun b11 => ?_
  refine l_store rfl (o_storeW (key := 11) (xs := [_, _, _]) rfl rfl rfl rfl rfl rfl rfl) ?_
  refine l_nil ?_
  refine kt_norm ?_
  refine v_seq ?_
  refine v_seq ?_
  refine v_region ?_
  refine l_val rfl (o_move rfl) ?_
  refine l_split rfl (o_lss rfl rfl) (fun q1 => ?_) (fun q1 => ?_)
  · skip
    refine l_val rfl (o_move rfl) ?_
    refine l_no rfl ?_
    refine l_no rfl ?_
    refine l_val rfl (o_pickT rfl rfl) ?_
    refine l_nil ?_
    refine kt_norm ?_
    refine v_sel [0, 1, 4, 7, 8, 11, 18] [7, 8, 11] rfl rfl ?_
    refine v_condT rfl ?_
    refine v_seq ?_
    refine v_region ?_
    refine l_val rfl (o_move rfl) ?_
    refine l_val rfl (o_assign rfl) ?_
    refine l_nil ?_
    refine kt_norm ?_
    refine v_sel [10] [] rfl rfl ?_
    refine v_ret ?_
    refine kt_ret ?_
    refine ⟨[_], .cons (.tmp rfl) (ResAll.nil), ?_⟩
    exact ⟨⟨(v, pvs, fun _ => True, fun _ => False), (hZ).symm ▸ hv, hcp, fun w2 h _ => (hZ).symm ▸ h⟩, rfl, fun w' ho => ⟨⟨trivial, fun b hb => hb.elim, fun _ _ _ _ => trivial⟩, fun b hb => hb.elim⟩⟩
  · skip
    refine l_val rfl (o_move rfl) ?_
    refine l_val rfl (o_move rfl) ?_
    refine l_split rfl (o_geq rfl rfl) (fun q2 => ?_) (fun q2 => absurd (show _ by omega) q2)
    refine l_val rfl (o_pickF rfl rfl) ?_
    refine l_nil ?_
    refine kt_norm ?_
    refine v_sel [0, 1, 4, 7, 8, 11, 18] [7, 8, 11] rfl rfl ?_
    refine v_condT rfl ?_
    refine v_seq ?_
    refine v_region ?_
    refine l_val rfl (o_move rfl) ?_
    refine l_val rfl (o_assign rfl) ?_
    refine l_nil ?_
    refine kt_norm ?_
    refine v_sel [10] [] rfl rfl ?_
    refine v_ret ?_
    refine kt_ret ?_
    refine ⟨[_], .cons (.tmp rfl) (ResAll.nil), ?_⟩
    exact ⟨⟨(v, pvs, fun _ => True, fun _ => False), (hZ).symm ▸ hv, hcp, fun w2 h _ => (hZ).symm ▸ h⟩, rfl, fun w' ho => ⟨⟨trivial, fun b hb => hb.elim, fun _ _ _ _ => trivial⟩, fun b hb => hb.elim⟩⟩
theorem a_CapQ (w : World) (v : Value) (pvs : List Value) (qs : List (List PtT)) (p : PtT) (h : Int) (hv : PcsW v pvs qs) (hcp : Capd v) (hat : PcsAt w v pvs qs) (hql : qs.length ≤ 2000) (hp : (-536870912 ≤ p.x ∧ p.x ≤ 536870912) ∧ (-536870912 ≤ p.y ∧ p.y ≤ 536870912)) (hr : 1 ≤ h ∧ h ≤ 131072) (u : PtT) (hx : -1073741824 ≤ u.x ∧ u.x ≤ 1073741824) (hy : -1073741824 ≤ u.y ∧ u.y ≤ 1073741824) (k : Int) {Q : List (List PtT)} (hQ : capK k p u h qs = Q) : Calls Try.prog 35 #[v, .int .i64 k, .agg #[.int .i64 p.x, .int .i64 p.y], .agg #[.int .i64 u.x, .int .i64 u.y], .int .i64 h] w fun e w' => ∃ x : PutsY v pvs qs (Q), e = .returned x.1.1 ∧ Below w.heap.size w w' ∧ SaidOk w' x.1.2.2.1 x.1.2.2.2 ∧ ∀ b, x.1.2.2.2 b → w.heap.size ≤ b := by
  have e1 : k = 1 → Q = sqT p u h qs := fun e => by rw [← hQ]; exact if_pos e
  have e2 : k = 2 → Q = halfT p u h qs := fun e => by rw [← hQ]; unfold capK; rw [if_neg (by omega)]; exact if_pos e
  have e0 : k ≠ 1 → k ≠ 2 → Q = qs := fun e1 e2 => by rw [← hQ]; unfold capK; rw [if_neg e1, if_neg e2]
  clear hQ
  by_cases h1 : k = 1
  · have e := e1 h1
    rw [h1]; exact a_PutK1 w v pvs qs p h hv hcp hat hql hp hr u hx hy e
  · by_cases h2 : k = 2
    · have e := e2 h2
      rw [h2]; exact a_PutK2 w v pvs qs p h hv hcp hat hql hp hr u hx hy e
    · have e := e0 h1 h2
      by_cases h0 : k = 0
      · rw [h0]; exact a_PutK0 w v pvs qs p h hv hcp hat hql hp hr u hx hy e
      · exact a_PutKx w v pvs qs p h hv hcp hat hql hp hr u hx hy k (by omega) e
set_option maxHeartbeats 2000000 in
theorem a_DotQ (w : World) (v : Value) (pvs : List Value) (qs : List (List PtT)) (p : PtT) (h : Int) (hv : PcsW v pvs qs) (hcp : Capd v) (hat : PcsAt w v pvs qs) (hql : qs.length ≤ 2000) (hp : (-536870912 ≤ p.x ∧ p.x ≤ 536870912) ∧ (-536870912 ≤ p.y ∧ p.y ≤ 536870912)) (hr : 1 ≤ h ∧ h ≤ 131072) (k : Int) {Q : List (List PtT)} (hQ : dotK k p h qs = Q) : Calls Try.prog 37 #[v, .int .i64 k, .agg #[.int .i64 p.x, .int .i64 p.y], .int .i64 h] w fun e w' => ∃ x : PutsY v pvs qs (Q), e = .returned x.1.1 ∧ Below w.heap.size w w' ∧ SaidOk w' x.1.2.2.1 x.1.2.2.2 ∧ ∀ b, x.1.2.2.2 b → w.heap.size ≤ b := by
  have hk1 : k = 1 → Q = putT qs ((boxC h).map (addP p)) := fun e => by rw [← hQ]; exact if_pos e
  have hk2 : k = 2 → Q = piesT p h (discC h) qs := fun e => by rw [← hQ]; unfold dotK; rw [if_neg (by omega)]; exact if_pos e
  have hk0 : k ≠ 1 → k ≠ 2 → Q = qs := fun e1 e2 => by rw [← hQ]; unfold dotK; rw [if_neg e1, if_neg e2]
  refine calls_said (args := [v, .int .i64 k, .agg #[.int .i64 p.x, .int .i64 p.y], .int .i64 h]) (fun x : PutsY v pvs qs (Q) => x.1.1) (fun x w' => SaidOk w' x.1.2.2.1 x.1.2.2.2) (fun x b => x.1.2.2.2 b) Try.func37 rfl Try.ntmps37 Try.results37 rfl ?_
  refine v_seq ?_
  refine v_region ?_
  refine l_new rfl (o_box (cs := [_, _]) rfl rfl) fun b6 => ?_
  refine l_val rfl (o_assign rfl) ?_
  refine l_nil ?_
  refine kt_norm ?_
  refine v_seq ?_
  refine v_seq ?_
  refine v_region ?_
  refine l_val rfl (o_move rfl) ?_
  refine l_nil ?_
  refine kt_norm ?_
  refine v_block ?_
  refine v_seq ?_
  refine v_region ?_
  refine l_split rfl (o_eql rfl rfl) (fun he2 => ?_) (fun he2 => ?_)
  · skip
    refine l_val rfl (o_assign rfl) ?_
    refine l_nil ?_
    refine kt_norm ?_
    refine v_condT rfl ?_
    refine v_seq ?_
    refine v_region ?_
    refine l_val rfl (o_move rfl) ?_
    refine l_val rfl (o_loadW (key := 6) rfl rfl rfl) ?_
    refine l_val rfl (o_move rfl) ?_
    refine l_hsaid (ks := []) (caps := #[]) (vs := [_, _, _]) (α := PutsY v pvs qs (piesT p h (discC h) qs)) (fun x => x.1.1) (fun x w' => SaidOk w' x.1.2.2.1 x.1.2.2.2) (fun x b => x.1.2.2.2 b) rfl rfl (ent_of Try.func15 rfl rfl) rfl (fun x w1 w2 h hb => h.keep hb) (fun x w1 b h hb => h.2.1 b hb) (fun w' hg hh => a_Disc w' _ pvs qs p h hv hcp (hat.keep hg) hql hp hr) fun xr => ?_
    refine l_val rfl (o_assign rfl) ?_
    refine l_nil ?_
    refine kt_norm ?_
    refine v_sel [8] [15] rfl rfl ?_
    refine v_ret ?_
    refine kb_ret ?_
    refine kt_ret ?_
    refine ⟨[_], .cons (.tmp rfl) (ResAll.nil), ?_⟩
    first
      | exact ⟨⟨xr.1, (hk2 he2).symm ▸ xr.2⟩, rfl, fun w' ho => ⟨(ho.mo 15 _ rfl).1.1, fun b hb => ((ho.mo 15 _ rfl).2 b hb).elim id False.elim⟩⟩
      | exact ⟨⟨xr.1, (hk1 he1).symm ▸ xr.2⟩, rfl, fun w' ho => ⟨(ho.mo 37 _ rfl).1.1, fun b hb => ((ho.mo 37 _ rfl).2 b hb).elim id False.elim⟩⟩
      | exact ⟨⟨(v, pvs, fun _ => True, fun _ => False), (hk0 he1 he2).symm ▸ hv, hcp, fun w2 h _ => (hk0 he1 he2).symm ▸ h⟩, rfl, fun w' ho => ⟨⟨trivial, fun b hb => hb.elim, fun _ _ _ _ => trivial⟩, fun b hb => hb.elim⟩⟩
  · skip
    refine l_val rfl (o_assign rfl) ?_
    refine l_nil ?_
    refine kt_norm ?_
    refine v_condF rfl ?_
    refine v_seq ?_
    refine v_region ?_
    refine l_split rfl (o_eql rfl rfl) (fun he1 => ?_) (fun he1 => ?_)
    · skip
      refine l_val rfl (o_assign rfl) ?_
      refine l_nil ?_
      refine kt_norm ?_
      refine v_sel [0, 3, 6, 16] [6] rfl rfl ?_
      refine v_condT rfl ?_
      refine v_seq ?_
      refine v_region ?_
      refine l_val rfl (o_move rfl) ?_
      refine l_val rfl (o_loadW (key := 6) rfl rfl rfl) ?_
      refine l_val rfl (o_move rfl) ?_
      refine l_val rfl (o_negi rfl ?_) ?_
      · omega
      refine l_val rfl (o_move rfl) ?_
      refine l_val rfl (o_negi rfl ?_) ?_
      · omega
      refine l_val rfl (o_build (vs := [_, _]) (cs := [_, _]) rfl rfl) ?_
      refine l_val rfl (o_move rfl) ?_
      refine l_val rfl (o_move rfl) ?_
      refine l_val rfl (o_negi rfl ?_) ?_
      · omega
      refine l_val rfl (o_build (vs := [_, _]) (cs := [_, _]) rfl rfl) ?_
      refine l_val rfl (o_move rfl) ?_
      refine l_val rfl (o_move rfl) ?_
      refine l_val rfl (o_build (vs := [_, _]) (cs := [_, _]) rfl rfl) ?_
      refine l_val rfl (o_move rfl) ?_
      refine l_val rfl (o_negi rfl ?_) ?_
      · omega
      refine l_val rfl (o_move rfl) ?_
      refine l_val rfl (o_build (vs := [_, _]) (cs := [_, _]) rfl rfl) ?_
      refine l_buildSlice (vs := [_, _, _, _]) (cs := [_, _, _, _, _, _, _, _]) rfl rfl rfl rfl rfl rfl fun v36 hv36 => ?_
      refine l_hsaid (ks := [36]) (caps := #[]) (vs := [_, _, _]) (α := PutsY v pvs qs (putT qs ((boxC h).map (addP p)))) (fun x => x.1.1) (fun x w' => SaidOk w' x.1.2.2.1 x.1.2.2.2) (fun x b => x.1.2.2.2 b) rfl rfl (ent_of Try.func55 rfl rfl) rfl (fun x w1 w2 h hb => h.keep hb) (fun x w1 b h hb => h.2.1 b hb) (fun w' hg hh => a_around w' _ pvs qs p hv hcp (hat.keep hg) hql hp _ (boxC h) rfl hv36 (rowAt_own (hh 36 (by simp) _ rfl)) (box_bd hr)) fun xr => ?_
      refine l_val rfl (o_assign rfl) ?_
      refine l_nil ?_
      refine kt_norm ?_
      refine v_sel [8] [36, 37] rfl rfl ?_
      refine v_ret ?_
      refine kb_ret ?_
      refine kt_ret ?_
      refine ⟨[_], .cons (.tmp rfl) (ResAll.nil), ?_⟩
      first
        | exact ⟨⟨xr.1, (hk2 he2).symm ▸ xr.2⟩, rfl, fun w' ho => ⟨(ho.mo 15 _ rfl).1.1, fun b hb => ((ho.mo 15 _ rfl).2 b hb).elim id False.elim⟩⟩
        | exact ⟨⟨xr.1, (hk1 he1).symm ▸ xr.2⟩, rfl, fun w' ho => ⟨(ho.mo 37 _ rfl).1.1, fun b hb => ((ho.mo 37 _ rfl).2 b hb).elim id False.elim⟩⟩
        | exact ⟨⟨(v, pvs, fun _ => True, fun _ => False), (hk0 he1 he2).symm ▸ hv, hcp, fun w2 h _ => (hk0 he1 he2).symm ▸ h⟩, rfl, fun w' ho => ⟨⟨trivial, fun b hb => hb.elim, fun _ _ _ _ => trivial⟩, fun b hb => hb.elim⟩⟩
    · skip
      refine l_val rfl (o_assign rfl) ?_
      refine l_nil ?_
      refine kt_norm ?_
      refine v_sel [0, 3, 6, 16] [6] rfl rfl ?_
      refine v_condF rfl ?_
      refine v_skip ?_
      refine kb_norm ?_
      refine kt_norm ?_
      refine v_seq ?_
      refine v_region ?_
      refine l_val rfl (o_move rfl) ?_
      refine l_val rfl (o_assign rfl) ?_
      refine l_nil ?_
      refine kt_norm ?_
      refine v_ret ?_
      refine ⟨[_], .cons (.tmp rfl) (ResAll.nil), ?_⟩
      first
        | exact ⟨⟨xr.1, (hk2 he2).symm ▸ xr.2⟩, rfl, fun w' ho => ⟨(ho.mo 15 _ rfl).1.1, fun b hb => ((ho.mo 15 _ rfl).2 b hb).elim id False.elim⟩⟩
        | exact ⟨⟨xr.1, (hk1 he1).symm ▸ xr.2⟩, rfl, fun w' ho => ⟨(ho.mo 37 _ rfl).1.1, fun b hb => ((ho.mo 37 _ rfl).2 b hb).elim id False.elim⟩⟩
        | exact ⟨⟨(v, pvs, fun _ => True, fun _ => False), (hk0 he1 he2).symm ▸ hv, hcp, fun w2 h _ => (hk0 he1 he2).symm ▸ h⟩, rfl, fun w' ho => ⟨⟨trivial, fun b hb => hb.elim, fun _ _ _ _ => trivial⟩, fun b hb => hb.elim⟩⟩
end Go.Proofs.Ytpgjbalnipinoaa

/- Pieces with four sides. Conditions: none. -/
namespace Go.Proofs.Ytpgjbalnipinoaa
open Go.Proofs Go.RowKit Go.Shelf

/-! ### pieces with four sides -/
def quadT (o a b : PtT) : List PtT := [o, ⟨o.x + a.x, o.y + a.y⟩, ⟨o.x + a.x + b.x, o.y + a.y + b.y⟩, ⟨o.x + b.x, o.y + b.y⟩]
theorem crossS4 (a b c d : PtT) : crossS [a, b, c, d] [a, b, c, d].length = 0 + crossT a b + crossT b c + crossT c d + crossT d a := by
  have e : [a, b, c, d].length = 4 := rfl
  show crossS [a, b, c, d] (0 + 1 + 1 + 1 + 1) = _
  rw [crossS, crossS, crossS, crossS, crossS, e]; rfl
theorem sides4 (a b c d : PtT) : sidesT [a, b, c, d] = [(a, b), (b, c), (c, d), (d, a)] := by
  have e : [a, b, c, d].length = 4 := rfl
  unfold sidesT; rw [e]; rfl
theorem area_quad (o a b : PtT) (h : -1152921504606846976 ≤ crossT a b ∧ crossT a b ≤ 1152921504606846976) : areaT (quadT o a b) = 2 * crossT a b := by
  unfold areaT
  rw [areaTo_S]
  have e : crossS (quadT o a b) (quadT o a b).length = 2 * crossT a b := by
    unfold quadT
    rw [crossS4]
    unfold crossT; grind
  rw [e, wr_small (by omega)]
theorem left_quad (o a b q : PtT) : leftB (quadT o a b) q = true ↔ 0 ≤ crossT a ⟨q.x - o.x, q.y - o.y⟩ ∧ 0 ≤ crossT b ⟨q.x - o.x, q.y - o.y⟩ + crossT a b ∧ 0 ≤ crossT a b - crossT a ⟨q.x - o.x, q.y - o.y⟩ ∧ 0 ≤ -crossT b ⟨q.x - o.x, q.y - o.y⟩ := by
  unfold leftB quadT
  rw [sides4]
  have e1 : crossT ⟨o.x + a.x - o.x, o.y + a.y - o.y⟩ ⟨q.x - o.x, q.y - o.y⟩ = crossT a ⟨q.x - o.x, q.y - o.y⟩ := by unfold crossT; grind
  have e2 : crossT ⟨o.x + a.x + b.x - (o.x + a.x), o.y + a.y + b.y - (o.y + a.y)⟩ ⟨q.x - (o.x + a.x), q.y - (o.y + a.y)⟩ = crossT b ⟨q.x - o.x, q.y - o.y⟩ + crossT a b := by unfold crossT; grind
  have e3 : crossT ⟨o.x + b.x - (o.x + a.x + b.x), o.y + b.y - (o.y + a.y + b.y)⟩ ⟨q.x - (o.x + a.x + b.x), q.y - (o.y + a.y + b.y)⟩ = crossT a b - crossT a ⟨q.x - o.x, q.y - o.y⟩ := by unfold crossT; grind
  have e4 : crossT ⟨o.x - (o.x + b.x), o.y - (o.y + b.y)⟩ ⟨q.x - (o.x + b.x), q.y - (o.y + b.y)⟩ = -crossT b ⟨q.x - o.x, q.y - o.y⟩ := by unfold crossT; grind
  simp only [List.all_cons, List.all_nil, Bool.and_true, Bool.and_eq_true, Bool.not_eq_true', decide_eq_false_iff_not, sideT, sg_neg, e1, e2, e3, e4]
  omega
theorem quad_convex {o a b : PtT} (h : 0 < crossT a b ∧ crossT a b ≤ 1152921504606846976) : oriT (quadT o a b) = quadT o a b ∧ convexB (quadT o a b) = true := by
  have ha := area_quad o a b (by omega)
  refine ⟨by unfold oriT; rw [ha, if_neg (by omega)], ?_⟩
  unfold convexB
  rw [ha, decide_eq_true (show 3 ≤ (quadT o a b).length by show 3 ≤ 4; omega), decide_eq_true (show 0 < 2 * crossT a b by omega), Bool.true_and, Bool.true_and, Bool.not_eq_true', List.any_eq_false]
  intro q hq
  rw [Bool.not_eq_true', Bool.not_eq_false]
  refine (left_quad o a b q).2 ?_
  have h0 := h.1
  unfold quadT at hq
  simp only [List.mem_cons, List.not_mem_nil, or_false] at hq
  unfold crossT at h0 ⊢
  rcases hq with rfl | rfl | rfl | rfl <;> dsimp only <;> grind
theorem quad_put {o a b : PtT} (h : 0 < crossT a b ∧ crossT a b ≤ 1152921504606846976) (qs : List (List PtT)) : putT qs (quadT o a b) = qs ++ [quadT o a b] := by
  obtain ⟨h1, h2⟩ := quad_convex (o := o) h
  exact (putT_yes (by rw [h1]; exact h2)).trans (by rw [h1])
/-! ### square dots -/
theorem box_list (p : PtT) (h : Int) : (boxC h).map (addP p) = quadT ⟨p.x + -h, p.y + -h⟩ ⟨2 * h, 0⟩ ⟨0, 2 * h⟩ := by
  simp only [boxC, quadT, addP, List.map_cons, List.map_nil, List.cons.injEq, PtT.mk.injEq, and_true, true_and]
  omega
theorem box_cross (h : Int) : crossT (⟨2 * h, 0⟩ : PtT) ⟨0, 2 * h⟩ = 4 * (h * h) := by unfold crossT; grind
theorem box_pos {h : Int} (hh : 1 ≤ h ∧ h ≤ 131072) : 0 < crossT (⟨2 * h, 0⟩ : PtT) ⟨0, 2 * h⟩ ∧ crossT (⟨2 * h, 0⟩ : PtT) ⟨0, 2 * h⟩ ≤ 1152921504606846976 := by
  rw [box_cross]
  have := sq_mono (x := h) (y := 131072) (by omega)
  have := Int.mul_pos (show 0 < h by omega) (show 0 < h by omega)
  omega
theorem box_put {h : Int} (hh : 1 ≤ h ∧ h ≤ 131072) (p : PtT) (qs : List (List PtT)) : dotK 1 p h qs = qs ++ [quadT ⟨p.x + -h, p.y + -h⟩ ⟨2 * h, 0⟩ ⟨0, 2 * h⟩] := by
  show putT qs ((boxC h).map (addP p)) = _
  rw [box_list]; exact quad_put (box_pos hh) qs
theorem box_area {h : Int} (hh : 1 ≤ h ∧ h ≤ 131072) (p : PtT) : areaT (quadT ⟨p.x + -h, p.y + -h⟩ ⟨2 * h, 0⟩ ⟨0, 2 * h⟩) = 8 * (h * h) := by
  have := box_pos hh
  rw [area_quad _ _ _ (by omega), box_cross]; omega
theorem box_left {h : Int} (hh : 1 ≤ h ∧ h ≤ 131072) (p q : PtT) : leftB (quadT ⟨p.x + -h, p.y + -h⟩ ⟨2 * h, 0⟩ ⟨0, 2 * h⟩) q = decide ((-h ≤ q.x - p.x ∧ q.x - p.x ≤ h) ∧ (-h ≤ q.y - p.y ∧ q.y - p.y ≤ h)) := by
  have hk : ∀ z : Int, (0 ≤ 2 * h * z ↔ 0 ≤ z) := fun z => by
    constructor
    · intro h0
      rcases Int.lt_or_le z 0 with hlt | hle
      · have := Int.mul_pos (show 0 < 2 * h by omega) (show 0 < -z by omega)
        rw [Int.mul_neg] at this; omega
      · exact hle
    · intro h0; exact Int.mul_nonneg (by omega) h0
  rw [Bool.eq_iff_iff, left_quad, decide_eq_true_eq, box_cross]
  have e1 : crossT (⟨2 * h, 0⟩ : PtT) ⟨q.x - (p.x + -h), q.y - (p.y + -h)⟩ = 2 * h * (q.y - p.y + h) := by unfold crossT; grind
  have e2 : crossT (⟨0, 2 * h⟩ : PtT) ⟨q.x - (p.x + -h), q.y - (p.y + -h)⟩ = -(2 * h * (q.x - p.x + h)) := by unfold crossT; grind
  have e3 : 4 * (h * h) - 2 * h * (q.y - p.y + h) = 2 * h * (h - (q.y - p.y)) := by grind
  have e4 : -(2 * h * (q.x - p.x + h)) + 4 * (h * h) = 2 * h * (h - (q.x - p.x)) := by grind
  dsimp only
  rw [e1, e2, e3, e4, Int.neg_neg, hk, hk, hk, hk]
  omega
theorem quad_near {o a b : PtT} (h1 : NearT o) (h2 : NearT ⟨o.x + a.x, o.y + a.y⟩) (h3 : NearT ⟨o.x + a.x + b.x, o.y + a.y + b.y⟩) (h4 : NearT ⟨o.x + b.x, o.y + b.y⟩) : ∀ x ∈ quadT o a b, NearT x := by
  intro x hx
  unfold quadT at hx
  simp only [List.mem_cons, List.not_mem_nil, or_false] at hx
  rcases hx with rfl | rfl | rfl | rfl <;> assumption
theorem box_near {h : Int} (hh : 1 ≤ h ∧ h ≤ 131072) {p : PtT} (hp : (-536870912 ≤ p.x ∧ p.x ≤ 536870912) ∧ (-536870912 ≤ p.y ∧ p.y ≤ 536870912)) : ∀ x ∈ quadT ⟨p.x + -h, p.y + -h⟩ ⟨2 * h, 0⟩ ⟨0, 2 * h⟩, NearT x :=
  quad_near (by unfold NearT; dsimp only; omega) (by unfold NearT; dsimp only; omega) (by unfold NearT; dsimp only; omega) (by unfold NearT; dsimp only; omega)
/-! ### square caps -/
theorem len_left (u : PtT) : lenT ⟨-u.y, u.x⟩ = lenT u := by
  unfold lenT; dsimp only; rw [Int.neg_mul_neg, Int.add_comm]
theorem len_pos {u : PtT} (hx : -1073741824 ≤ u.x ∧ u.x ≤ 1073741824) (hy : -1073741824 ≤ u.y ∧ u.y ≤ 1073741824) (h0 : ¬ (u.x = 0 ∧ u.y = 0)) : 1 ≤ lenT u ∧ lenT u * lenT u ≤ dotT u u ∧ dotT u u ≤ lenT u * lenT u + 2 * lenT u := by
  have s1 := sq_mono hx
  have s2 := sq_mono hy
  have p1 := sq_nn u.x
  have p2 := sq_nn u.y
  have hs : u.x * u.x + u.y * u.y < 18446744073709551616 := by omega
  have h1 : 1 ≤ u.x * u.x + u.y * u.y := by
    rcases Int.lt_or_le (u.x * u.x + u.y * u.y) 1 with hlt | hle
    · exfalso
      have e1 : u.x * u.x = 0 := by omega
      have e2 : u.y * u.y = 0 := by omega
      exact h0 ⟨by rcases Int.mul_eq_zero.1 e1 with e | e <;> exact e, by rcases Int.mul_eq_zero.1 e2 with e | e <;> exact e⟩
    · exact hle
  exact ⟨le_lenT (by omega) (by omega) hs, lenT_sq hs, lenT_lt hs⟩
/-- the vectors of a cap: its front, and its side -/
theorem vec_ok {u s f : PtT} {h : Int} (hh : 1 ≤ h) (hx : -1073741824 ≤ u.x ∧ u.x ≤ 1073741824) (hy : -1073741824 ≤ u.y ∧ u.y ≤ 1073741824) (h0 : ¬ (u.x = 0 ∧ u.y = 0)) (hs : normT ⟨-u.y, u.x⟩ h = s) (hf : normT u h = f) : Rnd h (lenT u) u f ∧ 1 ≤ dotT f f ∧ 1 ≤ crossT f s := by
  obtain ⟨l1, l2, l3⟩ := len_pos hx hy h0
  have nf : f = ⟨nearQ (u.x * h) (lenT u), nearQ (u.y * h) (lenT u)⟩ := by rw [← hf]; unfold normT; rw [if_neg (by omega)]
  have ns : s = ⟨nearQ (-u.y * h) (lenT u), nearQ (u.x * h) (lenT u)⟩ := by rw [← hs]; unfold normT; rw [len_left, if_neg (by omega)]
  obtain ⟨c, hc⟩ : ∃ c, lenT u = c := ⟨_, rfl⟩
  rw [hc] at l1 l2 l3 nf ns ⊢
  have ex := nearQ_err (p := u.x * h) (c := c) (by omega)
  have ey := nearQ_err (p := u.y * h) (c := c) (by omega)
  have ez := nearQ_err (p := -u.y * h) (c := c) (by omega)
  have fx : f.x = nearQ (u.x * h) c := by rw [nf]
  have fy : f.y = nearQ (u.y * h) c := by rw [nf]
  have sx : s.x = nearQ (-u.y * h) c := by rw [ns]
  have sy : s.y = f.x := by rw [ns, nf]
  rw [← fx] at ex
  rw [← fy] at ey
  rw [← sx, Int.neg_mul] at ez
  have hw : -1 ≤ f.y + s.x ∧ f.y + s.x ≤ 1 := by
    have e : c * (f.y + s.x) = c * f.y + c * s.x := Int.mul_add _ _ _
    constructor
    · rcases Int.lt_or_le (f.y + s.x) (-1) with hlt | hle
      · have := Int.mul_le_mul_of_nonneg_left (show f.y + s.x ≤ -2 by omega) (show 0 ≤ c by omega)
        omega
      · exact hle
    · rcases Int.lt_or_le 1 (f.y + s.x) with hlt | hle
      · have := Int.mul_le_mul_of_nonneg_left (show 2 ≤ f.y + s.x by omega) (show 0 ≤ c by omega)
        omega
      · exact hle
  have nz : ¬ (f.x = 0 ∧ (f.y = 0 ∨ s.x = 0)) := fun ⟨e1, e2⟩ => by
    rw [e1, Int.mul_zero] at ex
    have ey2 : -c ≤ 2 * (u.y * h) ∧ 2 * (u.y * h) ≤ c := by
      rcases e2 with e2 | e2
      · rw [e2, Int.mul_zero] at ey; omega
      · rw [e2, Int.mul_zero] at ez; omega
    have q1 := sq_mono (x := 2 * (u.x * h)) (y := c) (by omega)
    have q2 := sq_mono ey2
    have e3 : 2 * (u.x * h) * (2 * (u.x * h)) + 2 * (u.y * h) * (2 * (u.y * h)) = 4 * (h * h * dotT u u) := by unfold dotT; grind
    have hh2 : 1 ≤ h * h := Int.mul_le_mul hh hh (by omega) (by omega)
    have q3 := Int.mul_le_mul_of_nonneg_right hh2 (dot_self u)
    have cc := Int.mul_pos (show 0 < c by omega) (show 0 < c by omega)
    omega
  have sf := sq_nn f.x
  have sg := sq_nn f.y
  have hfx : f.x ≠ 0 → 1 ≤ f.x * f.x := fun hne => by
    rcases Int.lt_or_le 0 f.x with hp | hp
    · exact Int.mul_le_mul (show 1 ≤ f.x by omega) (show 1 ≤ f.x by omega) (by omega) (by omega)
    · have := Int.mul_pos (show 0 < -f.x by omega) (show 0 < -f.x by omega)
      rw [Int.neg_mul_neg] at this; omega
  have hfy : ∀ w : Int, -1 ≤ f.y - w ∧ f.y - w ≤ 1 → 0 ≤ f.y * w ∧ (f.y ≠ 0 → w ≠ 0 → 1 ≤ f.y * w) := fun w hw => by
    rcases Int.lt_or_le 0 f.y with hp | hp
    · have : 0 ≤ w := by omega
      refine ⟨Int.mul_nonneg (by omega) this, fun _ hne => ?_⟩
      exact Int.mul_le_mul (show 1 ≤ f.y by omega) (show 1 ≤ w by omega) (by omega) (by omega)
    · rcases Int.lt_or_le f.y 0 with hn | hn
      · have h1 : w ≤ 0 := by omega
        have := Int.mul_nonneg (show 0 ≤ -f.y by omega) (show 0 ≤ -w by omega)
        rw [Int.neg_mul_neg] at this
        refine ⟨this, fun _ hne => ?_⟩
        have := Int.mul_le_mul (show 1 ≤ -f.y by omega) (show 1 ≤ -w by omega) (by omega) (by omega)
        rw [Int.neg_mul_neg] at this; omega
      · have e : f.y = 0 := by omega
        rw [e, Int.zero_mul]
        exact ⟨Int.le_refl _, fun h => absurd rfl h⟩
  obtain ⟨w1, w2⟩ := hfy (-s.x) (by omega)
  obtain ⟨v1, v2⟩ := hfy f.y (by omega)
  refine ⟨⟨l2, l3, by omega, ex, ey⟩, ?_, ?_⟩
  · unfold dotT
    by_cases e : f.x = 0
    · have : f.y ≠ 0 := fun e2 => nz ⟨e, .inl e2⟩
      have := v2 this this
      omega
    · have := hfx e; omega
  · unfold crossT
    rw [sy]
    have e0 : f.y * -s.x = -(f.y * s.x) := Int.mul_neg _ _
    by_cases e : f.x = 0
    · have := w2 (fun e2 => nz ⟨e, .inl e2⟩) (fun e2 => nz ⟨e, .inr (by omega)⟩)
      omega
    · have := hfx e; omega
theorem sq_list (p s f : PtT) : (sqC s f).map (addP p) = quadT ⟨p.x + s.x, p.y + s.y⟩ f ⟨-(2 * s.x), -(2 * s.y)⟩ := by
  simp only [sqC, quadT, addP, List.map_cons, List.map_nil, List.cons.injEq, PtT.mk.injEq, and_true, true_and]
  omega
theorem sq_rev (p s f : PtT) : (quadT ⟨p.x + s.x, p.y + s.y⟩ f ⟨-(2 * s.x), -(2 * s.y)⟩).reverse = quadT ⟨p.x - s.x, p.y - s.y⟩ f ⟨2 * s.x, 2 * s.y⟩ := by
  simp only [quadT, List.reverse_cons, List.reverse_nil, List.nil_append, List.cons_append, List.cons.injEq, PtT.mk.injEq, and_true, true_and]
  omega
theorem sq_put {p u s f : PtT} {h : Int} (hh : 1 ≤ h ∧ h ≤ 131072) (hx : -1073741824 ≤ u.x ∧ u.x ≤ 1073741824) (hy : -1073741824 ≤ u.y ∧ u.y ≤ 1073741824) (h0 : ¬ (u.x = 0 ∧ u.y = 0)) (hs : normT ⟨-u.y, u.x⟩ h = s) (hf : normT u h = f) (qs : List (List PtT)) : sqT p u h qs = qs ++ [quadT ⟨p.x - s.x, p.y - s.y⟩ f ⟨2 * s.x, 2 * s.y⟩] ∧ 0 < crossT f ⟨2 * s.x, 2 * s.y⟩ ∧ crossT f ⟨2 * s.x, 2 * s.y⟩ ≤ 1152921504606846976 ∧ crossT f ⟨2 * s.x, 2 * s.y⟩ = 2 * crossT f s := by
  obtain ⟨-, d1, x1⟩ := vec_ok hh.1 hx hy h0 hs hf
  have hbs := hs ▸ norm_bound (p := ⟨-u.y, u.x⟩) (r := h) (by dsimp only; omega) (by dsimp only; omega) (by omega)
  have hbf := hf ▸ norm_bound (p := u) (r := h) (by omega) (by omega) (by omega)
  have hcr := cross_bd (f := f) (t := s) (by unfold BdT; omega) (by unfold BdT; omega)
  have e1 : crossT f ⟨2 * s.x, 2 * s.y⟩ = 2 * crossT f s := by unfold crossT; grind
  have e2 : crossT f ⟨-(2 * s.x), -(2 * s.y)⟩ = -(2 * crossT f s) := by unfold crossT; grind
  have hk : 0 < crossT f ⟨2 * s.x, 2 * s.y⟩ ∧ crossT f ⟨2 * s.x, 2 * s.y⟩ ≤ 1152921504606846976 := by rw [e1]; omega
  have nf : ¬ (f.x = 0 ∧ f.y = 0) := fun ⟨a, b⟩ => by unfold dotT at d1; rw [a, b] at d1; omega
  have ns : ¬ (s.x = 0 ∧ s.y = 0) := fun ⟨a, b⟩ => by unfold crossT at x1; rw [a, b] at x1; omega
  refine ⟨?_, hk.1, hk.2, e1⟩
  rw [sqT_yes hs hf ns nf, sq_list]
  have ho : oriT (quadT ⟨p.x + s.x, p.y + s.y⟩ f ⟨-(2 * s.x), -(2 * s.y)⟩) = quadT ⟨p.x - s.x, p.y - s.y⟩ f ⟨2 * s.x, 2 * s.y⟩ := by
    unfold oriT
    rw [area_quad _ _ _ (by omega), if_pos (by omega), sq_rev]
  exact (putT_yes (by rw [ho]; exact (quad_convex hk).2)).trans (by rw [ho])
theorem sq_none {p u : PtT} {h : Int} (h0 : u.x = 0 ∧ u.y = 0) (qs : List (List PtT)) : sqT p u h qs = qs := by
  have e : normT u h = ⟨0, 0⟩ := by
    unfold normT
    rw [if_pos]
    have hu : u = ⟨0, 0⟩ := pt_ext h0
    rw [hu]; unfold lenT
    show ((isq (0 * 0 + 0 * 0 : Int).toNat : Nat) : Int) = 0
    rw [show ((0 : Int) * 0 + 0 * 0).toNat = 0 from rfl, isq_zero]; rfl
  exact sqT_no rfl e (.inr ⟨rfl, rfl⟩)
/-- what a piece of a cap is -/
structure CapP (p : PtT) (q : List PtT) : Prop where
  len : q.length ≤ 4
  cx : convexB q = true
  has : leftB q p = true
  near : ∀ x ∈ q, NearT x
theorem TriT.cap {p : PtT} {q : List PtT} (h : TriT p q) : CapP p q := ⟨by have := h.1; omega, h.2.1, tri_has h, h.2.2.2⟩
theorem sq_cap {p s f : PtT} {h : Int} (hh : 1 ≤ h ∧ h ≤ 131072) (hp : (-536870912 ≤ p.x ∧ p.x ≤ 536870912) ∧ (-536870912 ≤ p.y ∧ p.y ≤ 536870912)) (hbs : (-h ≤ s.x ∧ s.x ≤ h) ∧ (-h ≤ s.y ∧ s.y ≤ h)) (hbf : (-h ≤ f.x ∧ f.x ≤ h) ∧ (-h ≤ f.y ∧ f.y ≤ h)) (hk : 0 < crossT f ⟨2 * s.x, 2 * s.y⟩ ∧ crossT f ⟨2 * s.x, 2 * s.y⟩ ≤ 1152921504606846976) : CapP p (quadT ⟨p.x - s.x, p.y - s.y⟩ f ⟨2 * s.x, 2 * s.y⟩) ∧ leftB (quadT ⟨p.x - s.x, p.y - s.y⟩ f ⟨2 * s.x, 2 * s.y⟩) ⟨p.x + f.x, p.y + f.y⟩ = true := by
  have k0 := hk.1
  refine ⟨⟨Nat.le_refl _, (quad_convex hk).2, (left_quad _ _ _ _).2 ?_, quad_near (by unfold NearT; dsimp only; omega) (by unfold NearT; dsimp only; omega) (by unfold NearT; dsimp only; omega) (by unfold NearT; dsimp only; omega)⟩, (left_quad _ _ _ _).2 ?_⟩
  · unfold crossT at k0 ⊢; dsimp only at k0 ⊢; grind
  · unfold crossT at k0 ⊢; dsimp only at k0 ⊢; grind
theorem box_cap {p : PtT} {h : Int} (hh : 1 ≤ h ∧ h ≤ 131072) (hp : (-536870912 ≤ p.x ∧ p.x ≤ 536870912) ∧ (-536870912 ≤ p.y ∧ p.y ≤ 536870912)) : CapP p (quadT ⟨p.x + -h, p.y + -h⟩ ⟨2 * h, 0⟩ ⟨0, 2 * h⟩) :=
  ⟨Nat.le_refl _, (quad_convex (box_pos hh)).2, by rw [box_left hh]; exact decide_eq_true (by omega), box_near hh hp⟩
end Go.Proofs.Ytpgjbalnipinoaa

/- What is shown of caps; square dots. Conditions: none. -/
namespace Go.Proofs.Ytpgjbalnipinoaa
open Go.Proofs Go.RowKit Go.Shelf

theorem normT_num {p q : PtT} {r : Int} (k : Nat) (h0 : (k : Int) * k ≤ p.x * p.x + p.y * p.y) (h1 : p.x * p.x + p.y * p.y < ((k : Int) + 1) * (k + 1)) (h2 : p.x * p.x + p.y * p.y < 18446744073709551616) (hk : 0 < k) (hx : nearQ (p.x * r) k = q.x) (hy : nearQ (p.y * r) k = q.y) : normT p r = q := by
  unfold normT
  rw [lenT_num k h0 h1 h2, if_neg (by omega)]
  exact pt_ext ⟨hx, hy⟩
theorem cap_s1 : capK 1 ⟨9, 0⟩ ⟨5, 0⟩ 2 [] = [[⟨9, -2⟩, ⟨11, -2⟩, ⟨11, 2⟩, ⟨9, 2⟩]] := by
  have hs : normT ⟨-(⟨5, 0⟩ : PtT).y, (⟨5, 0⟩ : PtT).x⟩ 2 = ⟨0, 2⟩ := normT_num 5 (by decide) (by decide) (by decide) (by decide) (by decide) (by decide)
  have hf : normT ⟨5, 0⟩ 2 = ⟨2, 0⟩ := normT_num 5 (by decide) (by decide) (by decide) (by decide) (by decide) (by decide)
  have e : capK 1 ⟨9, 0⟩ ⟨5, 0⟩ 2 [] = sqT ⟨9, 0⟩ ⟨5, 0⟩ 2 [] := if_pos rfl
  rw [e, sqT_yes hs hf (by decide) (by decide)]
  decide +kernel
theorem cap_s2 : dotK 1 ⟨0, 0⟩ 2 [] = [[⟨-2, -2⟩, ⟨2, -2⟩, ⟨2, 2⟩, ⟨-2, 2⟩]] := by decide +kernel
theorem cap_s3 : (capK 2 ⟨0, 0⟩ ⟨5, 0⟩ 2 []).length = 2 := by
  have hf : normT ⟨5, 0⟩ 2 = ⟨2, 0⟩ := normT_num 5 (by decide) (by decide) (by decide) (by decide) (by decide) (by decide)
  have e : capK 2 ⟨0, 0⟩ ⟨5, 0⟩ 2 [] = halfT ⟨0, 0⟩ ⟨5, 0⟩ 2 [] := by unfold capK; rw [if_neg (by decide), if_pos rfl]
  rw [e, halfT_yes hf (by decide)]
  show ((([] ++ chordsT 2 6 ⟨-(-(⟨2, 0⟩ : PtT).y), -(⟨2, 0⟩ : PtT).x⟩ ⟨2, 0⟩) ++ chordsT 2 6 ⟨2, 0⟩ ⟨-(⟨2, 0⟩ : PtT).y, (⟨2, 0⟩ : PtT).x⟩).foldl (pieT ⟨0, 0⟩) []).length = 2
  rw [chords_stop (.inl (by decide)), chords_stop (.inl (by decide))]
  decide +kernel
theorem a_withinK (p : PtT) (n : Int) (hn : 0 ≤ n ∧ n ≤ 1099511627776) : Ans Try.prog 39 [.agg #[.int .i64 p.x, .int .i64 p.y], .int .i64 n] (.bool (decide ((-n ≤ p.x ∧ p.x ≤ n) ∧ (-n ≤ p.y ∧ p.y ≤ n)))) := by
  refine ans_of Try.func39 rfl Try.ntmps39 Try.results39 rfl rfl fun w => ?_
  refine v_seq ?_
  refine v_region ?_
  refine l_new rfl (o_box (cs := [_, _]) rfl rfl) fun b2 => ?_
  refine l_val rfl (o_assign rfl) ?_
  refine l_nil ?_
  refine kt_norm ?_
  refine v_seq ?_
  refine v_region ?_
  refine l_val rfl (o_fld rfl) ?_
  refine l_val rfl (o_load1 (key := 2) rfl rfl rfl) ?_
  refine l_val rfl (o_move rfl) ?_
  refine l_val rfl (o_negi rfl ?_) ?_
  · omega
  refine l_split rfl (o_geq rfl rfl) (fun q1 => ?_) (fun q1 => ?_)
  · first
    | (exfalso; omega; done)
    | (
        refine l_val rfl (o_move rfl) ?_
        refine l_val rfl (o_fld rfl) ?_
        refine l_val rfl (o_load1 (key := 2) rfl rfl rfl) ?_
        refine l_val rfl (o_move rfl) ?_
        refine l_split rfl (o_leq rfl rfl) (fun q2 => ?_) (fun q2 => ?_)
        · first
          | (exfalso; omega; done)
          | (
              refine l_val rfl (o_pickT rfl rfl) ?_
              refine l_val rfl (o_move rfl) ?_
              refine l_val rfl (o_fld rfl) ?_
              refine l_val rfl (o_load1 (key := 2) rfl rfl rfl) ?_
              refine l_val rfl (o_move rfl) ?_
              refine l_val rfl (o_negi rfl ?_) ?_
              · omega
              refine l_split rfl (o_geq rfl rfl) (fun q3 => ?_) (fun q3 => ?_)
              · first
                | (exfalso; omega; done)
                | (
                    refine l_val rfl (o_pickT rfl rfl) ?_
                    refine l_val rfl (o_move rfl) ?_
                    refine l_val rfl (o_fld rfl) ?_
                    refine l_val rfl (o_load1 (key := 2) rfl rfl rfl) ?_
                    refine l_val rfl (o_move rfl) ?_
                    refine l_split rfl (o_leq rfl rfl) (fun q4 => ?_) (fun q4 => ?_)
                    · first
                      | (exfalso; omega; done)
                      | (
                          refine l_val rfl (o_pickT rfl rfl) ?_
                          refine l_val rfl (o_assign rfl) ?_
                          refine l_nil ?_
                          refine kt_norm ?_
                          refine v_sel [4] [] rfl rfl ?_
                          refine v_ret ?_
                          refine ⟨[_], .cons (.tmp rfl) (ResAll.nil), ?_⟩
                          exact congrArg Value.bool (by first | exact (decide_eq_true (by omega)).symm | exact (decide_eq_false (by omega)).symm))
                    · first
                      | (exfalso; omega; done)
                      | (
                          refine l_val rfl (o_pickT rfl rfl) ?_
                          refine l_val rfl (o_assign rfl) ?_
                          refine l_nil ?_
                          refine kt_norm ?_
                          refine v_sel [4] [] rfl rfl ?_
                          refine v_ret ?_
                          refine ⟨[_], .cons (.tmp rfl) (ResAll.nil), ?_⟩
                          exact congrArg Value.bool (by first | exact (decide_eq_true (by omega)).symm | exact (decide_eq_false (by omega)).symm)))
              · first
                | (exfalso; omega; done)
                | (
                    refine l_val rfl (o_pickT rfl rfl) ?_
                    refine l_val rfl (o_move rfl) ?_
                    refine l_no rfl ?_
                    refine l_no rfl ?_
                    refine l_no rfl ?_
                    refine l_no rfl ?_
                    refine l_val rfl (o_pickF rfl rfl) ?_
                    refine l_val rfl (o_assign rfl) ?_
                    refine l_nil ?_
                    refine kt_norm ?_
                    refine v_sel [4] [] rfl rfl ?_
                    refine v_ret ?_
                    refine ⟨[_], .cons (.tmp rfl) (ResAll.nil), ?_⟩
                    exact congrArg Value.bool (by first | exact (decide_eq_true (by omega)).symm | exact (decide_eq_false (by omega)).symm)))
        · first
          | (exfalso; omega; done)
          | (
              refine l_val rfl (o_pickT rfl rfl) ?_
              refine l_val rfl (o_move rfl) ?_
              refine l_no rfl ?_
              refine l_no rfl ?_
              refine l_no rfl ?_
              refine l_no rfl ?_
              refine l_no rfl ?_
              refine l_val rfl (o_pickF rfl rfl) ?_
              refine l_val rfl (o_move rfl) ?_
              refine l_no rfl ?_
              refine l_no rfl ?_
              refine l_no rfl ?_
              refine l_no rfl ?_
              refine l_val rfl (o_pickF rfl rfl) ?_
              refine l_val rfl (o_assign rfl) ?_
              refine l_nil ?_
              refine kt_norm ?_
              refine v_sel [4] [] rfl rfl ?_
              refine v_ret ?_
              refine ⟨[_], .cons (.tmp rfl) (ResAll.nil), ?_⟩
              exact congrArg Value.bool (by first | exact (decide_eq_true (by omega)).symm | exact (decide_eq_false (by omega)).symm)))
  · first
    | (exfalso; omega; done)
    | (
        refine l_val rfl (o_move rfl) ?_
        refine l_no rfl ?_
        refine l_no rfl ?_
        refine l_no rfl ?_
        refine l_no rfl ?_
        refine l_val rfl (o_pickF rfl rfl) ?_
        refine l_val rfl (o_move rfl) ?_
        refine l_no rfl ?_
        refine l_no rfl ?_
        refine l_no rfl ?_
        refine l_no rfl ?_
        refine l_no rfl ?_
        refine l_val rfl (o_pickF rfl rfl) ?_
        refine l_val rfl (o_move rfl) ?_
        refine l_no rfl ?_
        refine l_no rfl ?_
        refine l_no rfl ?_
        refine l_no rfl ?_
        refine l_val rfl (o_pickF rfl rfl) ?_
        refine l_val rfl (o_assign rfl) ?_
        refine l_nil ?_
        refine kt_norm ?_
        refine v_sel [4] [] rfl rfl ?_
        refine v_ret ?_
        refine ⟨[_], .cons (.tmp rfl) (ResAll.nil), ?_⟩
        exact congrArg Value.bool (by first | exact (decide_eq_true (by omega)).symm | exact (decide_eq_false (by omega)).symm))
def GoodK (p u : PtT) (h : Int) : Prop := ((-536870912 ≤ p.x ∧ p.x ≤ 536870912) ∧ (-536870912 ≤ p.y ∧ p.y ≤ 536870912)) ∧ ((-1073741824 ≤ u.x ∧ u.x ≤ 1073741824) ∧ (-1073741824 ≤ u.y ∧ u.y ≤ 1073741824)) ∧ 1 ≤ h ∧ h ≤ 131072
instance (p u : PtT) (h : Int) : Decidable (GoodK p u h) := by unfold GoodK; infer_instance
theorem a_goodK (p u : PtT) (h : Int) : Ans Try.prog 31 [.agg #[.int .i64 p.x, .int .i64 p.y], .agg #[.int .i64 u.x, .int .i64 u.y], .int .i64 h] (.bool (decide (GoodK p u h))) := by
  refine ans_of Try.func31 rfl Try.ntmps31 Try.results31 rfl rfl fun w => ?_
  refine v_seq ?_
  refine v_region ?_
  refine l_new rfl (o_box (cs := [_, _]) rfl rfl) fun b3 => ?_
  refine l_new rfl (o_box (cs := [_, _]) rfl rfl) fun b4 => ?_
  refine l_val rfl (o_assign rfl) ?_
  refine l_nil ?_
  refine kt_norm ?_
  refine v_seq ?_
  refine v_region ?_
  refine l_val rfl (o_loadW (key := 3) rfl rfl rfl) ?_
  refine l_ans (vs := [_, _]) rfl rfl (a_withinK p 536870912 (by omega)) ?_
  refine lz_bool (fun q1 => ?_) (fun q1 => ?_)
  · skip
    refine l_val rfl (o_move rfl) ?_
    refine l_val rfl (o_loadW (key := 4) rfl rfl rfl) ?_
    refine l_ans (vs := [_, _]) rfl rfl (a_withinK u 1073741824 (by omega)) ?_
    refine lz_bool (fun q2 => ?_) (fun q2 => ?_)
    · skip
      refine l_val rfl (o_pickT rfl rfl) ?_
      refine l_val rfl (o_move rfl) ?_
      refine l_val rfl (o_move rfl) ?_
      refine l_split rfl (o_geq rfl rfl) (fun q3 => ?_) (fun q3 => ?_)
      · skip
        refine l_val rfl (o_pickT rfl rfl) ?_
        refine l_val rfl (o_move rfl) ?_
        refine l_val rfl (o_move rfl) ?_
        refine l_split rfl (o_leq rfl rfl) (fun q4 => ?_) (fun q4 => ?_)
        · skip
          refine l_val rfl (o_pickT rfl rfl) ?_
          refine l_val rfl (o_assign rfl) ?_
          refine l_nil ?_
          refine kt_norm ?_
          refine v_sel [6] [] rfl rfl ?_
          refine v_ret ?_
          refine ⟨[_], .cons (.tmp rfl) (ResAll.nil), ?_⟩
          first
            | exact congrArg Value.bool (decide_eq_true (show GoodK p u h by unfold GoodK; omega)).symm
            | exact congrArg Value.bool (decide_eq_false (fun e : GoodK p u h => by unfold GoodK at e; omega)).symm
        · skip
          refine l_val rfl (o_pickT rfl rfl) ?_
          refine l_val rfl (o_assign rfl) ?_
          refine l_nil ?_
          refine kt_norm ?_
          refine v_sel [6] [] rfl rfl ?_
          refine v_ret ?_
          refine ⟨[_], .cons (.tmp rfl) (ResAll.nil), ?_⟩
          first
            | exact congrArg Value.bool (decide_eq_true (show GoodK p u h by unfold GoodK; omega)).symm
            | exact congrArg Value.bool (decide_eq_false (fun e : GoodK p u h => by unfold GoodK at e; omega)).symm
      · skip
        refine l_val rfl (o_pickT rfl rfl) ?_
        refine l_val rfl (o_move rfl) ?_
        refine l_no rfl ?_
        refine l_no rfl ?_
        refine l_val rfl (o_pickF rfl rfl) ?_
        refine l_val rfl (o_assign rfl) ?_
        refine l_nil ?_
        refine kt_norm ?_
        refine v_sel [6] [] rfl rfl ?_
        refine v_ret ?_
        refine ⟨[_], .cons (.tmp rfl) (ResAll.nil), ?_⟩
        first
          | exact congrArg Value.bool (decide_eq_true (show GoodK p u h by unfold GoodK; omega)).symm
          | exact congrArg Value.bool (decide_eq_false (fun e : GoodK p u h => by unfold GoodK at e; omega)).symm
    · skip
      refine l_val rfl (o_pickT rfl rfl) ?_
      refine l_val rfl (o_move rfl) ?_
      refine l_no rfl ?_
      refine l_no rfl ?_
      refine l_val rfl (o_pickF rfl rfl) ?_
      refine l_val rfl (o_move rfl) ?_
      refine l_no rfl ?_
      refine l_no rfl ?_
      refine l_val rfl (o_pickF rfl rfl) ?_
      refine l_val rfl (o_assign rfl) ?_
      refine l_nil ?_
      refine kt_norm ?_
      refine v_sel [6] [] rfl rfl ?_
      refine v_ret ?_
      refine ⟨[_], .cons (.tmp rfl) (ResAll.nil), ?_⟩
      first
        | exact congrArg Value.bool (decide_eq_true (show GoodK p u h by unfold GoodK; omega)).symm
        | exact congrArg Value.bool (decide_eq_false (fun e : GoodK p u h => by unfold GoodK at e; omega)).symm
  · skip
    refine l_val rfl (o_move rfl) ?_
    refine l_no rfl ?_
    refine l_no rfl ?_
    refine l_val rfl (o_pickF rfl rfl) ?_
    refine l_val rfl (o_move rfl) ?_
    refine l_no rfl ?_
    refine l_no rfl ?_
    refine l_val rfl (o_pickF rfl rfl) ?_
    refine l_val rfl (o_move rfl) ?_
    refine l_no rfl ?_
    refine l_no rfl ?_
    refine l_val rfl (o_pickF rfl rfl) ?_
    refine l_val rfl (o_assign rfl) ?_
    refine l_nil ?_
    refine kt_norm ?_
    refine v_sel [6] [] rfl rfl ?_
    refine v_ret ?_
    refine ⟨[_], .cons (.tmp rfl) (ResAll.nil), ?_⟩
    first
      | exact congrArg Value.bool (decide_eq_true (show GoodK p u h by unfold GoodK; omega)).symm
      | exact congrArg Value.bool (decide_eq_false (fun e : GoodK p u h => by unfold GoodK at e; omega)).symm
set_option maxHeartbeats 4000000 in
theorem a_shownK (w : World) : Calls Try.prog 32 #[] w fun e w' => e = .returned (.bool true) ∧ Below w.heap.size w w' := by
  obtain ⟨Q3, hQ3⟩ : ∃ Q, capK 2 ⟨0, 0⟩ ⟨5, 0⟩ 2 [] = Q := ⟨_, rfl⟩
  have hQ3l : Q3.length = 2 := hQ3 ▸ cap_s3
  have hQ4 : dotK 0 ⟨0, 0⟩ 2 [] = [] := rfl
  have hA1 : areaT ([⟨9, -2⟩, ⟨11, -2⟩, ⟨11, 2⟩, ⟨9, 2⟩] : List PtT) = 16 := by decide
  have hA2 : areaT ([⟨-2, -2⟩, ⟨2, -2⟩, ⟨2, 2⟩, ⟨-2, 2⟩] : List PtT) = 32 := by decide
  have hC1 : convexB ([⟨9, -2⟩, ⟨11, -2⟩, ⟨11, 2⟩, ⟨9, 2⟩] : List PtT) = true := by decide +kernel
  have hL1 : leftB ([⟨9, -2⟩, ⟨11, -2⟩, ⟨11, 2⟩, ⟨9, 2⟩] : List PtT) ⟨11, 1⟩ = true := by decide +kernel
  have hN1 : ∀ x ∈ ([⟨9, -2⟩, ⟨11, -2⟩, ⟨11, 2⟩, ⟨9, 2⟩] : List PtT), NearT x := by decide +kernel
  have hN2 : ∀ x ∈ ([⟨-2, -2⟩, ⟨2, -2⟩, ⟨2, 2⟩, ⟨-2, 2⟩] : List PtT), NearT x := by decide +kernel
  refine calls_of (args := []) Try.func32 rfl Try.ntmps32 Try.results32 rfl ?_
  refine v_seq ?_
  refine v_region ?_
  refine l_val rfl (o_assign rfl) ?_
  refine l_nil ?_
  refine kt_norm ?_
  refine v_seq ?_
  refine v_region ?_
  refine l_val rfl (o_build (vs := [_]) (cs := [_, _]) rfl rfl) ?_
  refine l_val rfl (o_build (vs := [_]) (cs := [_, _]) rfl rfl) ?_
  refine l_gsaid (ks := []) (caps := #[]) (vs := [_, _, _, _, _]) (α := PutsY (.slice none 0 0) [] [] ([([⟨9, -2⟩, ⟨11, -2⟩, ⟨11, 2⟩, ⟨9, 2⟩] : List PtT)])) (fun x => x.1.1) (fun x w' => SaidOk w' x.1.2.2.1 x.1.2.2.2) (fun x b => x.1.2.2.2 b) rfl rfl (ent_of Try.func35 rfl rfl) rfl (fun x w1 w2 h hb => h.keep hb) (fun x w1 b h hb => h.lt hb) (fun w' hg hh => a_CapQ w' _ [] [] ⟨9, 0⟩ 2 pcsW_nil capd_nil (pcsAt_nil w') (by show 0 ≤ 2000; omega) (by dsimp only; omega) (by omega) ⟨5, 0⟩ (by dsimp only; omega) (by dsimp only; omega) 1 cap_s1) fun xa => ?_
  have hVxa : RowV xa.1.1 (1) := xa.2.1.V
  have hlxa : xa.1.2.1.length = (1) := xa.2.1.lenv
  refine l_val rfl (o_assign rfl) ?_
  refine l_nil ?_
  refine kt_norm ?_
  refine v_seq ?_
  refine v_region ?_
  refine l_val rfl (o_build (vs := []) (cs := [_, _]) rfl rfl) ?_
  refine l_gsaid (ks := []) (caps := #[]) (vs := [_, _, _, _]) (α := PutsY (.slice none 0 0) [] [] ([([⟨-2, -2⟩, ⟨2, -2⟩, ⟨2, 2⟩, ⟨-2, 2⟩] : List PtT)])) (fun x => x.1.1) (fun x w' => SaidOk w' x.1.2.2.1 x.1.2.2.2) (fun x b => x.1.2.2.2 b) rfl rfl (ent_of Try.func37 rfl rfl) rfl (fun x w1 w2 h hb => h.keep hb) (fun x w1 b h hb => h.lt hb) (fun w' hg hh => a_DotQ w' _ [] [] ⟨0, 0⟩ 2 pcsW_nil capd_nil (pcsAt_nil w') (by show 0 ≤ 2000; omega) (by dsimp only; omega) (by omega) 1 cap_s2) fun xb => ?_
  have hVxb : RowV xb.1.1 (1) := xb.2.1.V
  have hlxb : xb.1.2.1.length = (1) := xb.2.1.lenv
  refine l_val rfl (o_assign rfl) ?_
  refine l_nil ?_
  refine kt_norm ?_
  refine v_sel [1, 2] [] rfl rfl ?_
  refine v_seq ?_
  refine v_region ?_
  have hVa0 : RowV (xa.1.2.1.getD 0 undef) 4 := xa.2.1.pV 0 (by show 0 < 1; omega)
  have hVb0 : RowV (xb.1.2.1.getD 0 undef) 4 := xb.2.1.pV 0 (by show 0 < 1; omega)
  refine l_val rfl (o_move rfl) ?_
  refine l_val rfl (o_len rfl hVxa) ?_
  refine l_split rfl (o_eql rfl rfl) (fun q1 => ?_) (fun q1 => absurd (show _ by omega) q1)
  refine l_val rfl (o_move rfl) ?_
  refine l_val rfl (o_move rfl) ?_
  refine l_val rfl (o_idx (0) rfl hVxa rfl (by first | rfl | omega) (by omega)) ?_
  refine l_val rfl (o_loadR1 rfl (row_imm (fun w2 hg => by exact (xa.2.2.2 w2 (pcsAt_nil w2) hg.1.2.1).row)) (el_one (by rw [hlxa]; omega))) ?_
  refine l_val rfl (o_len rfl hVa0) ?_
  refine l_split rfl (o_eql rfl rfl) (fun q2 => ?_) (fun q2 => absurd (show _ by omega) q2)
  refine l_val rfl (o_pickT rfl rfl) ?_
  refine l_val rfl (o_move rfl) ?_
  refine l_val rfl (o_move rfl) ?_
  refine l_val rfl (o_idx (0) rfl hVxa rfl (by first | rfl | omega) (by omega)) ?_
  refine l_val rfl (o_loadR1 rfl (row_imm (fun w2 hg => by exact (xa.2.2.2 w2 (pcsAt_nil w2) hg.1.2.1).row)) (el_one (by rw [hlxa]; omega))) ?_
  refine l_call (ks := []) rfl (o_callC (vs := [_]) (r := .int .i64 (areaT ([⟨9, -2⟩, ⟨11, -2⟩, ⟨11, 2⟩, ⟨9, 2⟩] : List PtT))) (ent_of Try.func40 rfl rfl) rfl (fun w' hg hh => a_Area w' _ ([⟨9, -2⟩, ⟨11, -2⟩, ⟨11, 2⟩, ⟨9, 2⟩] : List PtT) (by show 4 ≤ 1000000; omega) hVa0 (by exact (xa.2.2.2 w' (pcsAt_nil w') hg.1.2.1).pc 0 (by show 0 < 1; omega)) hN1)) ?_
  refine l_split rfl (o_eql rfl rfl) (fun q3 => ?_) (fun q3 => absurd (show _ by omega) q3)
  refine l_val rfl (o_pickT rfl rfl) ?_
  refine l_val rfl (o_move rfl) ?_
  refine l_val rfl (o_move rfl) ?_
  refine l_val rfl (o_idx (0) rfl hVxa rfl (by first | rfl | omega) (by omega)) ?_
  refine l_val rfl (o_loadR1 rfl (row_imm (fun w2 hg => by exact (xa.2.2.2 w2 (pcsAt_nil w2) hg.1.2.1).row)) (el_one (by rw [hlxa]; omega))) ?_
  refine l_val rfl (o_build (vs := [_, _]) (cs := [_, _]) rfl rfl) ?_
  refine l_call (ks := []) rfl (o_callC (vs := [_, _]) (r := .bool true) (ent_of Try.func18 rfl rfl) rfl (fun w' hg hh => a_HasC w' _ ([⟨9, -2⟩, ⟨11, -2⟩, ⟨11, 2⟩, ⟨9, 2⟩] : List PtT) ⟨11, 1⟩ (by show 4 ≤ 1000000; omega) hVa0 (by exact (xa.2.2.2 w' (pcsAt_nil w') hg.1.2.1).pc 0 (by show 0 < 1; omega)) hN1 (by unfold NearT; decide) hC1 hL1)) ?_
  refine l_val rfl (o_pickT rfl rfl) ?_
  refine l_val rfl (o_move rfl) ?_
  refine l_val rfl (o_move rfl) ?_
  refine l_val rfl (o_len rfl hVxb) ?_
  refine l_split rfl (o_eql rfl rfl) (fun q4 => ?_) (fun q4 => absurd (show _ by omega) q4)
  refine l_val rfl (o_pickT rfl rfl) ?_
  refine l_val rfl (o_move rfl) ?_
  refine l_val rfl (o_move rfl) ?_
  refine l_val rfl (o_idx (0) rfl hVxb rfl (by first | rfl | omega) (by omega)) ?_
  refine l_val rfl (o_loadR1 rfl (row_imm (fun w2 hg => by exact (xb.2.2.2 w2 (pcsAt_nil w2) hg.2.1).row)) (el_one (by rw [hlxb]; omega))) ?_
  refine l_call (ks := []) rfl (o_callC (vs := [_]) (r := .int .i64 (areaT ([⟨-2, -2⟩, ⟨2, -2⟩, ⟨2, 2⟩, ⟨-2, 2⟩] : List PtT))) (ent_of Try.func40 rfl rfl) rfl (fun w' hg hh => a_Area w' _ ([⟨-2, -2⟩, ⟨2, -2⟩, ⟨2, 2⟩, ⟨-2, 2⟩] : List PtT) (by show 4 ≤ 1000000; omega) hVb0 (by exact (xb.2.2.2 w' (pcsAt_nil w') hg.2.1).pc 0 (by show 0 < 1; omega)) hN2)) ?_
  refine l_split rfl (o_eql rfl rfl) (fun q5 => ?_) (fun q5 => absurd (show _ by omega) q5)
  refine l_val rfl (o_pickT rfl rfl) ?_
  refine l_val rfl (o_move rfl) ?_
  refine l_val rfl (o_build (vs := []) (cs := [_, _]) rfl rfl) ?_
  refine l_val rfl (o_build (vs := [_]) (cs := [_, _]) rfl rfl) ?_
  refine l_gsaid (ks := []) (caps := #[]) (vs := [_, _, _, _, _]) (α := PutsY (.slice none 0 0) [] [] (Q3)) (fun x => x.1.1) (fun x w' => SaidOk w' x.1.2.2.1 x.1.2.2.2) (fun x b => x.1.2.2.2 b) rfl rfl (ent_of Try.func35 rfl rfl) rfl (fun x w1 w2 h hb => h.keep hb) (fun x w1 b h hb => h.lt hb) (fun w' hg hh => a_CapQ w' _ [] [] ⟨0, 0⟩ 2 pcsW_nil capd_nil (pcsAt_nil w') (by show 0 ≤ 2000; omega) (by dsimp only; omega) (by omega) ⟨5, 0⟩ (by dsimp only; omega) (by dsimp only; omega) 2 hQ3) fun xc => ?_
  have hVxc : RowV xc.1.1 (Q3.length) := xc.2.1.V
  have hlxc : xc.1.2.1.length = (Q3.length) := xc.2.1.lenv
  refine l_val rfl (o_len rfl hVxc) ?_
  refine l_split rfl (o_eql rfl rfl) (fun q6 => ?_) (fun q6 => absurd (show _ by omega) q6)
  refine l_val rfl (o_pickT rfl rfl) ?_
  refine l_val rfl (o_move rfl) ?_
  refine l_val rfl (o_build (vs := []) (cs := [_, _]) rfl rfl) ?_
  refine l_gsaid (ks := []) (caps := #[]) (vs := [_, _, _, _]) (α := PutsY (.slice none 0 0) [] [] ([])) (fun x => x.1.1) (fun x w' => SaidOk w' x.1.2.2.1 x.1.2.2.2) (fun x b => x.1.2.2.2 b) rfl rfl (ent_of Try.func37 rfl rfl) rfl (fun x w1 w2 h hb => h.keep hb) (fun x w1 b h hb => h.lt hb) (fun w' hg hh => a_DotQ w' _ [] [] ⟨0, 0⟩ 2 pcsW_nil capd_nil (pcsAt_nil w') (by show 0 ≤ 2000; omega) (by dsimp only; omega) (by omega) 0 hQ4) fun xd => ?_
  have hVxd : RowV xd.1.1 (0) := xd.2.1.V
  have hlxd : xd.1.2.1.length = (0) := xd.2.1.lenv
  refine l_val rfl (o_len rfl hVxd) ?_
  refine l_split rfl (o_eql rfl rfl) (fun q7 => ?_) (fun q7 => absurd (show _ by omega) q7)
  refine l_val rfl (o_pickT rfl rfl) ?_
  refine l_val rfl (o_assign rfl) ?_
  refine l_nil ?_
  refine kt_norm ?_
  refine v_sel [0] [] rfl rfl ?_
  refine v_ret ?_
  refine ⟨[_], .cons (.tmp rfl) (ResAll.nil), ?_⟩
  rfl
set_option maxHeartbeats 4000000 in
theorem a_CapsSquare (w : World) (p q : PtT) (h : Int) : Calls Try.prog 11 #[.agg #[.int .i64 p.x, .int .i64 p.y], .agg #[.int .i64 q.x, .int .i64 q.y], .int .i64 h] w fun e w' => e = .returned (.bool true) ∧ Below w.heap.size w w' := by
  refine calls_of (args := [.agg #[.int .i64 p.x, .int .i64 p.y], .agg #[.int .i64 q.x, .int .i64 q.y], .int .i64 h]) Try.func11 rfl Try.ntmps11 Try.results11 rfl ?_
  refine v_seq ?_
  refine v_region ?_
  refine l_new rfl (o_box (cs := [_, _]) rfl rfl) fun b3 => ?_
  refine l_new rfl (o_box (cs := [_, _]) rfl rfl) fun b4 => ?_
  refine l_val rfl (o_assign rfl) ?_
  refine l_nil ?_
  refine kt_norm ?_
  refine v_seq ?_
  refine v_seq ?_
  refine v_region ?_
  refine l_val rfl (o_loadW (key := 3) rfl rfl rfl) ?_
  refine l_val rfl (o_loadW (key := 4) rfl rfl rfl) ?_
  refine l_val rfl (o_move rfl) ?_
  refine l_ans (vs := [_, _, _]) rfl rfl (a_goodK p q h) ?_
  refine lz_bool (fun hgd => ?_) (fun hgd => ?_)
  · skip
    refine l_val rfl (o_not rfl rfl) ?_
    refine l_val rfl (o_move rfl) ?_
    refine l_val rfl (o_loadW (key := 4) rfl rfl rfl) ?_
    refine l_ans (vs := [_, _]) rfl rfl (a_withinK _ _ (by omega)) ?_
    refine lz_bool (fun hwq => ?_) (fun hwq => ?_)
    · skip
      refine l_val rfl (o_not rfl rfl) ?_
      refine l_val rfl (o_pickF rfl rfl) ?_
      refine l_val rfl (o_move rfl) ?_
      refine l_call (ks := []) rfl (o_callC (vs := []) (r := .bool true) (ent_of Try.func32 rfl rfl) rfl (fun w' hg hh => a_shownK w')) ?_
      refine l_val rfl (o_not rfl rfl) ?_
      refine l_val rfl (o_pickF rfl rfl) ?_
      refine l_nil ?_
      refine kt_norm ?_
      refine v_sel [2, 3, 4, 21] [3, 4] rfl rfl ?_
      refine v_condF rfl ?_
      refine v_skip ?_
      refine kt_norm ?_
      refine v_seq ?_
      refine v_region ?_
      have hgp : ((-536870912 ≤ p.x ∧ p.x ≤ 536870912) ∧ (-536870912 ≤ p.y ∧ p.y ≤ 536870912)) := by unfold GoodK at hgd; omega
      have hgr : 1 ≤ h ∧ h ≤ 131072 := by unfold GoodK at hgd; omega
      have hbx : dotK 1 p h [] = [(quadT ⟨p.x + -h, p.y + -h⟩ ⟨2 * h, 0⟩ ⟨0, 2 * h⟩)] := box_put hgr p []
      have hba := box_area hgr p
      have hbn := box_near hgr hgp
      have hbc := (box_cap hgr hgp).cx
      have hbl := box_left hgr p q
      have hq0 : NearT q := by unfold NearT; omega
      have m1 := mul_bound (A := 131072) (B := 131072) (x := h) (y := h) (by omega) (by omega) (by omega) (by omega)
      have e8 : 8 * h * h = 8 * (h * h) := Int.mul_assoc _ _ _
      obtain ⟨B, hB⟩ : ∃ B, (quadT ⟨p.x + -h, p.y + -h⟩ ⟨2 * h, 0⟩ ⟨0, 2 * h⟩) = B := ⟨_, rfl⟩
      have hB4 : B.length = 4 := by rw [← hB]; rfl
      rw [hB] at hbx hba hbn hbc hbl
      refine l_val rfl (o_loadW (key := 3) rfl rfl rfl) ?_
      refine l_val rfl (o_move rfl) ?_
      refine l_gsaid (ks := []) (caps := #[]) (vs := [_, _, _, _]) (α := PutsY (.slice none 0 0) [] [] ([B])) (fun x => x.1.1) (fun x w' => SaidOk w' x.1.2.2.1 x.1.2.2.2) (fun x b => x.1.2.2.2 b) rfl rfl (ent_of Try.func37 rfl rfl) rfl (fun x w1 w2 h hb => h.keep hb) (fun x w1 b h hb => h.lt hb) (fun w' hg hh => a_DotQ w' _ [] [] p h pcsW_nil capd_nil (pcsAt_nil w') (by show 0 ≤ 2000; omega) hgp hgr 1 hbx) fun xa => ?_
      have hVxa : RowV xa.1.1 (1) := xa.2.1.V
      have hlxa : xa.1.2.1.length = (1) := xa.2.1.lenv
      refine l_val rfl (o_assign rfl) ?_
      refine l_nil ?_
      refine kt_norm ?_
      refine v_seq ?_
      refine v_drawZ [[], [], [], [], [], [], [], [4], [], [], [4], [], [3], [], [], [4], [], [3], [], [], [], [], [], [], [], [], [], [], [], [], [], [], [], [], [], []] mixed ?_ (by kernel_rfl) (by kernel_rfl)
      have hVa0 : RowV (xa.1.2.1.getD 0 undef) B.length := xa.2.1.pV 0 (by show 0 < 1; omega)
      refine d_val (fun _ => rfl) rfl rfl (fun _ => o_move rfl) ?_
      refine d_val (fun _ => rfl) rfl rfl (fun _ => o_len rfl hVxa) ?_
      refine d_eql (fun _ => rfl) (fun _ => rfl) (fun _ => rfl) (fun q1 => ?_) (fun q1 => absurd (show _ by omega) q1)
      refine d_val (fun _ => rfl) rfl rfl (fun _ => o_move rfl) ?_
      refine d_val (fun _ => rfl) rfl rfl (fun _ => o_move rfl) ?_
      refine d_val (fun _ => rfl) rfl rfl (fun _ => o_idx (0) rfl hVxa rfl (by first | rfl | omega) (by omega)) ?_
      refine d_val (fun _ => rfl) rfl rfl (fun _ => o_loadR1 rfl (row_imm (fun w2 hg => by exact (xa.2.2.2 w2 (pcsAt_nil w2) hg.2.1).row)) (el_one (by rw [hlxa]; omega))) ?_
      refine d_val (fun _ => rfl) rfl rfl (fun _ => o_loadW (key := 4) rfl rfl rfl) ?_
      refine d_gcall (y := .bool (decide ((-h ≤ q.x - p.x ∧ q.x - p.x ≤ h) ∧ (-h ≤ q.y - p.y ∧ q.y - p.y ≤ h)))) (caps := #[]) (fun _ => rfl) (fun _ => rfl) (ent_of Try.func18 rfl rfl) (vs := fun _ => [_, _]) (fun _ => rfl) (fun _ w' hg hh => a_HasC w' _ B q (by omega) hVa0 (by exact (xa.2.2.2 w' (pcsAt_nil w') hg.2.1).pc 0 (by show 0 < 1; omega)) hbn hq0 hbc hbl) ?_
      refine d_val (fun _ => rfl) rfl rfl (fun _ => o_fld rfl) ?_
      refine d_val (fun _ => rfl) rfl rfl (fun _ => o_load1 (key := 4) rfl rfl rfl) ?_
      refine d_val (fun _ => rfl) rfl rfl (fun _ => o_fld rfl) ?_
      refine d_val (fun _ => rfl) rfl rfl (fun _ => o_load1 (key := 3) rfl rfl rfl) ?_
      refine d_val (fun _ => rfl) rfl rfl (fun _ => o_subi rfl rfl ?_) ?_
      · omega
      refine d_val (fun _ => rfl) rfl rfl (fun _ => o_fld rfl) ?_
      refine d_val (fun _ => rfl) rfl rfl (fun _ => o_load1 (key := 4) rfl rfl rfl) ?_
      refine d_val (fun _ => rfl) rfl rfl (fun _ => o_fld rfl) ?_
      refine d_val (fun _ => rfl) rfl rfl (fun _ => o_load1 (key := 3) rfl rfl rfl) ?_
      refine d_val (fun _ => rfl) rfl rfl (fun _ => o_subi rfl rfl ?_) ?_
      · omega
      refine d_val (fun _ => rfl) rfl rfl (fun _ => o_build (vs := [_, _]) (cs := [_, _]) rfl rfl) ?_
      refine d_val (fun _ => rfl) rfl rfl (fun _ => o_move rfl) ?_
      refine d_ans (vs := [_, _]) (fun _ => rfl) (fun _ => rfl) (a_withinK ⟨q.x - p.x, q.y - p.y⟩ h (by omega)) ?_
      refine d_val (fun _ => rfl) rfl rfl (fun _ => o_eqlb (r := true) rfl rfl (beq_self_eq_true _)) ?_
      refine d_val (fun _ => rfl) rfl rfl (fun _ => o_pickT rfl rfl) ?_
      refine d_val (fun _ => rfl) rfl rfl (fun _ => o_move rfl) ?_
      refine d_val (fun _ => rfl) rfl rfl (fun _ => o_move rfl) ?_
      refine d_val (fun _ => rfl) rfl rfl (fun _ => o_idx (0) rfl hVxa rfl (by first | rfl | omega) (by omega)) ?_
      refine d_val (fun _ => rfl) rfl rfl (fun _ => o_loadR1 rfl (row_imm (fun w2 hg => by exact (xa.2.2.2 w2 (pcsAt_nil w2) hg.2.1).row)) (el_one (by rw [hlxa]; omega))) ?_
      refine d_gcall (y := .int .i64 (areaT B)) (caps := #[]) (fun _ => rfl) (fun _ => rfl) (ent_of Try.func40 rfl rfl) (vs := fun _ => [_]) (fun _ => rfl) (fun _ w' hg hh => a_Area w' _ B (by omega) hVa0 (by exact (xa.2.2.2 w' (pcsAt_nil w') hg.2.1).pc 0 (by show 0 < 1; omega)) hbn) ?_
      refine d_val (fun _ => rfl) rfl rfl (fun _ => o_move rfl) ?_
      refine d_val (fun _ => rfl) rfl rfl (fun _ => o_muli rfl rfl ?_) ?_
      · omega
      refine d_val (fun _ => rfl) rfl rfl (fun _ => o_move rfl) ?_
      refine d_val (fun _ => rfl) rfl rfl (fun _ => o_muli rfl rfl ?_) ?_
      · omega
      refine d_eql (fun _ => rfl) (fun _ => rfl) (fun _ => rfl) (fun q2 => ?_) (fun q2 => absurd (show _ by omega) q2)
      refine d_val (fun _ => rfl) rfl rfl (fun _ => o_pickT rfl rfl) ?_
      refine d_val (fun _ => rfl) rfl rfl (fun _ => o_assign rfl) ?_
      refine d_nil (fun σ => ?_)
      refine l_nil ?_
      refine kt_norm ?_
      refine v_sel [6] [] rfl rfl ?_
      refine v_ret ?_
      refine ⟨[_], .cons (.tmp rfl) (ResAll.nil), ?_⟩
      rfl
    · skip
      refine l_val rfl (o_not rfl rfl) ?_
      refine l_val rfl (o_pickF rfl rfl) ?_
      refine l_val rfl (o_move rfl) ?_
      refine l_no rfl ?_
      refine l_no rfl ?_
      refine l_val rfl (o_pickT rfl rfl) ?_
      refine l_nil ?_
      refine kt_norm ?_
      refine v_sel [2, 3, 4, 21] [3, 4] rfl rfl ?_
      refine v_condT rfl ?_
      refine v_seq ?_
      refine v_region ?_
      refine l_call (ks := []) rfl (o_callC (vs := []) (r := .bool true) (ent_of Try.func32 rfl rfl) rfl (fun w' hg hh => a_shownK w')) ?_
      refine l_val rfl (o_assign rfl) ?_
      refine l_nil ?_
      refine kt_norm ?_
      refine v_ret ?_
      refine kt_ret ?_
      refine ⟨[_], .cons (.tmp rfl) (ResAll.nil), ?_⟩
      rfl
  · skip
    refine l_val rfl (o_not rfl rfl) ?_
    refine l_val rfl (o_move rfl) ?_
    refine l_no rfl ?_
    refine l_no rfl ?_
    refine l_no rfl ?_
    refine l_val rfl (o_pickT rfl rfl) ?_
    refine l_val rfl (o_move rfl) ?_
    refine l_no rfl ?_
    refine l_no rfl ?_
    refine l_val rfl (o_pickT rfl rfl) ?_
    refine l_nil ?_
    refine kt_norm ?_
    refine v_sel [2, 3, 4, 21] [3, 4] rfl rfl ?_
    refine v_condT rfl ?_
    refine v_seq ?_
    refine v_region ?_
    refine l_call (ks := []) rfl (o_callC (vs := []) (r := .bool true) (ent_of Try.func32 rfl rfl) rfl (fun w' hg hh => a_shownK w')) ?_
    refine l_val rfl (o_assign rfl) ?_
    refine l_nil ?_
    refine kt_norm ?_
    refine v_ret ?_
    refine kt_ret ?_
    refine ⟨[_], .cons (.tmp rfl) (ResAll.nil), ?_⟩
    rfl
end Go.Proofs.Ytpgjbalnipinoaa

/- What caps and dots put. Conditions: none. -/
namespace Go.Proofs.Ytpgjbalnipinoaa
open Go.Proofs Go.RowKit Go.Shelf

theorem vec_in {u f : PtT} {h : Int} (hh : 1 ≤ h) (hx : -1073741824 ≤ u.x ∧ u.x ≤ 1073741824) (hy : -1073741824 ≤ u.y ∧ u.y ≤ 1073741824) (h0 : ¬ (u.x = 0 ∧ u.y = 0)) (hf : normT u h = f) : InR h f ∧ (h - 1) * (h - 1) ≤ dotT f f ∧ 1 ≤ dotT f f := by
  obtain ⟨hR, h1, -⟩ := vec_ok hh hx hy h0 rfl hf
  exact ⟨hf ▸ norm_bound hx hy (by omega), hR.low hh, h1⟩
theorem norm_zero {u : PtT} {h : Int} (h0 : u.x = 0 ∧ u.y = 0) : normT u h = ⟨0, 0⟩ := by
  unfold normT
  rw [if_pos]
  have hu : u = ⟨0, 0⟩ := pt_ext h0
  rw [hu]; unfold lenT
  show ((isq (0 * 0 + 0 * 0 : Int).toNat : Nat) : Int) = 0
  rw [show ((0 : Int) * 0 + 0 * 0).toNat = 0 from rfl, isq_zero]; rfl
theorem half_all1 {r : Int} {f : PtT} (hr : 1 ≤ r ∧ r ≤ 131072) (hi : InR r f) (hn : (r - 1) * (r - 1) ≤ dotT f f) (h1 : 1 ≤ dotT f f) : ∀ c ∈ halfL r f, HalfC r f c.1 c.2 := by
  have hi1 := hi.1
  have hi2 := hi.2
  have ea : dotT (⟨-(-f.y), -f.x⟩ : PtT) ⟨-(-f.y), -f.x⟩ = dotT f f := by unfold dotT; grind
  have eb : dotT (⟨-f.y, f.x⟩ : PtT) ⟨-f.y, f.x⟩ = dotT f f := by unfold dotT; grind
  have ed1 : dotT (⟨-(-f.y), -f.x⟩ : PtT) f = 0 := by unfold dotT; grind
  have ed2 : dotT f (⟨-f.y, f.x⟩ : PtT) = 0 := by unfold dotT; grind
  have ed3 : dotT f (⟨-(-f.y), -f.x⟩ : PtT) = 0 := by unfold dotT; grind
  have ex1 : crossT (⟨-(-f.y), -f.x⟩ : PtT) f = dotT f f := by unfold crossT dotT; grind
  have ex2 : crossT f (⟨-f.y, f.x⟩ : PtT) = dotT f f := by unfold crossT dotT; grind
  intro c hc
  rcases List.mem_append.1 hc with hc | hc
  · exact half_chords (f := dotT f f) hr ⟨⟨by dsimp only; omega, by dsimp only; omega⟩, hi, by rw [ea]; exact hn, hn, by omega, by omega, by omega, by omega⟩ ea rfl ed1 ex1 c hc
  · exact half_chords (f := dotT f f) hr ⟨hi, ⟨by dsimp only; omega, by dsimp only; omega⟩, hn, by rw [eb]; exact hn, by omega, by omega, by omega, by omega⟩ rfl eb ed2 ex2 c hc
theorem half_put {p u f : PtT} {r : Int} (hr : 1 ≤ r ∧ r ≤ 131072) (hf : normT u r = f) (hi : InR r f) (hn : (r - 1) * (r - 1) ≤ dotT f f) (h1 : 1 ≤ dotT f f) (qs : List (List PtT)) : halfT p u r qs = qs ++ (halfL r f).map (triP p) := by
  have hne : ¬ (f.x = 0 ∧ f.y = 0) := fun ⟨e1, e2⟩ => by
    unfold dotT at h1
    rw [e1, e2] at h1
    omega
  rw [halfT_yes hf hne]
  show (([] ++ chordsT r 6 ⟨-(-f.y), -f.x⟩ f) ++ chordsT r 6 f ⟨-f.y, f.x⟩).foldl (pieT p) qs = _
  rw [List.nil_append]
  have hall := half_all1 hr hi hn h1
  refine pie_all p (halfL r f) qs fun c hc => ?_
  have h := hall c hc
  have i1 := h.iu
  have i2 := h.iv
  unfold InR at i1 i2
  exact ⟨⟨by unfold BdT; omega, by unfold BdT; omega⟩, h.x⟩
theorem halfL_len (r : Int) (f : PtT) : 1 ≤ (halfL r f).length ∧ (halfL r f).length ≤ 128 := by
  have h1 := chords6 r ⟨-(-f.y), -f.x⟩ f
  have h2 := chords6 r f ⟨-f.y, f.x⟩
  unfold halfL
  rw [List.length_append]; omega
theorem disc_put {p : PtT} {r : Int} (hr : 1 ≤ r ∧ r ≤ 131072) (qs : List (List PtT)) : piesT p r (discC r) qs = qs ++ (arcsK r (discC r) 4).map (triP p) :=
  pie_all p (arcsK r (discC r) 4) qs (fun c hc => ⟨arcs_bd hr (disc_bd hr) 4 (by show 4 < 5; omega) c hc, (disc_fin hr c hc).x⟩)
theorem disc_cnt (r : Int) : 1 ≤ (arcsK r (discC r) 4).length ∧ (arcsK r (discC r) 4).length ≤ 256 := by
  have h1 := chords6 r ⟨r, 0⟩ ⟨0, r⟩
  have h2 := arcs_len r (discC r) 4
  refine ⟨?_, h2⟩
  rw [disc_arcs, List.length_append, List.length_append, List.length_append]; omega
/-- what a cap puts behind others -/
theorem cap_ex {k h : Int} {p u : PtT} (hh : 1 ≤ h ∧ h ≤ 131072) (hp : (-536870912 ≤ p.x ∧ p.x ≤ 536870912) ∧ (-536870912 ≤ p.y ∧ p.y ≤ 536870912)) (hx : -1073741824 ≤ u.x ∧ u.x ≤ 1073741824) (hy : -1073741824 ≤ u.y ∧ u.y ≤ 1073741824) (qs : List (List PtT)) :
    ∃ rest, capK k p u h qs = qs ++ rest ∧ rest.length ≤ 128 ∧ (∀ q ∈ rest, CapP p q) ∧ (0 < rest.length ↔ (k = 1 ∨ k = 2) ∧ ¬ (u.x = 0 ∧ u.y = 0)) := by
  have none : ∀ {Z : List (List PtT)}, Z = qs → ¬ ((k = 1 ∨ k = 2) ∧ ¬ (u.x = 0 ∧ u.y = 0)) → ∃ rest, Z = qs ++ rest ∧ rest.length ≤ 128 ∧ (∀ q ∈ rest, CapP p q) ∧ (0 < rest.length ↔ (k = 1 ∨ k = 2) ∧ ¬ (u.x = 0 ∧ u.y = 0)) := fun e hn =>
    ⟨[], by rw [List.append_nil]; exact e, Nat.zero_le _, (fun q h => by cases h), ⟨fun h => absurd h (Nat.lt_irrefl 0), fun h => absurd h hn⟩⟩
  by_cases h1 : k = 1
  · have e1 : capK k p u h qs = sqT p u h qs := if_pos h1
    rw [e1]
    by_cases h0 : u.x = 0 ∧ u.y = 0
    · exact none (sq_none h0 qs) (fun h => h.2 h0)
    · obtain ⟨s, hs⟩ : ∃ s, normT ⟨-u.y, u.x⟩ h = s := ⟨_, rfl⟩
      obtain ⟨f, hf⟩ : ∃ f, normT u h = f := ⟨_, rfl⟩
      obtain ⟨e, k1, k2, _⟩ := sq_put (p := p) hh hx hy h0 hs hf qs
      have hbs := hs ▸ norm_bound (p := ⟨-u.y, u.x⟩) (r := h) (by dsimp only; omega) (by dsimp only; omega) (by omega)
      have hbf := hf ▸ norm_bound (p := u) (r := h) hx hy (by omega)
      refine ⟨_, e, ?_, fun q hq => ?_, ⟨fun _ => ⟨.inl h1, h0⟩, fun _ => ?_⟩⟩
      · rw [List.length_singleton]; omega
      · rw [List.mem_singleton.1 hq]; exact (sq_cap hh hp hbs hbf ⟨k1, k2⟩).1
      · rw [List.length_singleton]; omega
  · by_cases h2 : k = 2
    · have e1 : capK k p u h qs = halfT p u h qs := by unfold capK; rw [if_neg h1, if_pos h2]
      rw [e1]
      by_cases h0 : u.x = 0 ∧ u.y = 0
      · exact none (halfT_no (norm_zero h0) ⟨rfl, rfl⟩) (fun h => h.2 h0)
      · obtain ⟨f, hf⟩ : ∃ f, normT u h = f := ⟨_, rfl⟩
        obtain ⟨i1, i2, i3⟩ := vec_in hh.1 hx hy h0 hf
        have hl := halfL_len h f
        have hT := tri_half hp hh hx hy (qs := []) (fun x h => by cases h)
        rw [half_put hh hf i1 i2 i3 [], List.nil_append] at hT
        refine ⟨_, half_put hh hf i1 i2 i3 qs, by rw [List.length_map]; omega, fun q hq => (hT q hq).cap, ⟨fun _ => ⟨.inr h2, h0⟩, fun _ => by rw [List.length_map]; omega⟩⟩
    · exact none (by unfold capK; rw [if_neg h1, if_neg h2]) (fun h => by omega)
theorem dot_ex {k h : Int} {p : PtT} (hh : 1 ≤ h ∧ h ≤ 131072) (hp : (-536870912 ≤ p.x ∧ p.x ≤ 536870912) ∧ (-536870912 ≤ p.y ∧ p.y ≤ 536870912)) (qs : List (List PtT)) :
    ∃ rest, dotK k p h qs = qs ++ rest ∧ rest.length ≤ 256 ∧ (∀ q ∈ rest, CapP p q) ∧ (0 < rest.length ↔ (k = 1 ∨ k = 2)) := by
  by_cases h1 : k = 1
  · subst h1
    refine ⟨_, box_put hh p qs, ?_, fun q hq => ?_, ⟨fun _ => .inl rfl, fun _ => ?_⟩⟩
    · rw [List.length_singleton]; omega
    · rw [List.mem_singleton.1 hq]; exact box_cap hh hp
    · rw [List.length_singleton]; omega
  · by_cases h2 : k = 2
    · have e1 : dotK k p h qs = piesT p h (discC h) qs := by unfold dotK; rw [if_neg h1, if_pos h2]
      rw [e1]
      have hl := disc_cnt h
      have hT : ∀ x ∈ piesT p h (discC h) [], TriT p x := tri_app hp (arcs_bd hh (disc_bd hh) 4 (by show 4 < 5; omega)) (fun x h => by cases h)
      rw [disc_put hh [], List.nil_append] at hT
      exact ⟨_, disc_put hh qs, by rw [List.length_map]; omega, fun q hq => (hT q hq).cap, ⟨fun _ => .inr h2, fun _ => by rw [List.length_map]; omega⟩⟩
    · exact ⟨[], by unfold dotK; rw [if_neg h1, if_neg h2, List.append_nil], Nat.zero_le _, (fun q h => by cases h), ⟨fun h => absurd h (Nat.lt_irrefl 0), fun h => by omega⟩⟩
/-! ### shifted caps -/
theorem add_sh (dx dy : Int) (p : PtT) (cs : List PtT) : cs.map (addP (shP dx dy p)) = (cs.map (addP p)).map (shP dx dy) := by
  rw [List.map_map]
  refine List.map_congr_left fun c _ => ?_
  show addP (shP dx dy p) c = shP dx dy (addP p c)
  unfold addP shP
  exact pt_ext ⟨by dsimp only; omega, by dsimp only; omega⟩
theorem cap_sh (dx dy : Int) (k : Int) (p u : PtT) (h : Int) (qs : List (List PtT)) : capK k (shP dx dy p) u h (shQ dx dy qs) = shQ dx dy (capK k p u h qs) := by
  unfold capK
  split
  · unfold sqT
    split
    · rfl
    · rw [add_sh, put_sh]
  · split
    · exact half_sh dx dy p u h qs
    · rfl
theorem dot_sh (dx dy : Int) (k : Int) (p : PtT) (h : Int) (qs : List (List PtT)) : dotK k (shP dx dy p) h (shQ dx dy qs) = shQ dx dy (dotK k p h qs) := by
  unfold dotK
  split
  · rw [add_sh, put_sh]
  · split
    · exact pies_sh dx dy p _ qs
    · rfl
end Go.Proofs.Ytpgjbalnipinoaa

/- All pieces of caps and dots. Conditions: none. -/
namespace Go.Proofs.Ytpgjbalnipinoaa
open Go.Proofs Go.RowKit Go.Shelf

set_option maxHeartbeats 8000000 in
theorem a_CapsPieces (w : World) (k : Int) (p u : PtT) (h : Int) : Calls Try.prog 10 #[.int .i64 k, .agg #[.int .i64 p.x, .int .i64 p.y], .agg #[.int .i64 u.x, .int .i64 u.y], .int .i64 h] w fun e w' => e = .returned (.bool true) ∧ Below w.heap.size w w' := by
  refine calls_of (args := [.int .i64 k, .agg #[.int .i64 p.x, .int .i64 p.y], .agg #[.int .i64 u.x, .int .i64 u.y], .int .i64 h]) Try.func10 rfl Try.ntmps10 Try.results10 rfl ?_
  refine v_seq ?_
  refine v_region ?_
  refine l_new rfl (o_box (cs := [_, _]) rfl rfl) fun b5 => ?_
  refine l_new rfl (o_box (cs := [_, _]) rfl rfl) fun b6 => ?_
  refine l_val rfl (o_assign rfl) ?_
  refine l_nil ?_
  refine kt_norm ?_
  refine v_seq ?_
  refine v_seq ?_
  refine v_region ?_
  refine l_val rfl (o_loadW (key := 5) rfl rfl rfl) ?_
  refine l_val rfl (o_loadW (key := 6) rfl rfl rfl) ?_
  refine l_val rfl (o_move rfl) ?_
  refine l_ans (vs := [_, _, _]) rfl rfl (a_goodK p u h) ?_
  refine lz_bool (fun hgd => ?_) (fun hgd => ?_)
  · skip
    refine l_val rfl (o_not rfl rfl) ?_
    refine l_val rfl (o_move rfl) ?_
    refine l_call (ks := []) rfl (o_callC (vs := []) (r := .bool true) (ent_of Try.func32 rfl rfl) rfl (fun w' hg hh => a_shownK w')) ?_
    refine l_val rfl (o_not rfl rfl) ?_
    refine l_val rfl (o_pickF rfl rfl) ?_
    refine l_nil ?_
    refine kt_norm ?_
    refine v_sel [0, 3, 5, 6, 22] [5, 6] rfl rfl ?_
    refine v_condF rfl ?_
    refine v_skip ?_
    refine kt_norm ?_
    refine v_seq ?_
    refine v_region ?_
    have hgp : ((-536870912 ≤ p.x ∧ p.x ≤ 536870912) ∧ (-536870912 ≤ p.y ∧ p.y ≤ 536870912)) := by unfold GoodK at hgd; omega
    have hgr : 1 ≤ h ∧ h ≤ 131072 := by unfold GoodK at hgd; omega
    have hux : -1073741824 ≤ u.x ∧ u.x ≤ 1073741824 := by unfold GoodK at hgd; omega
    have huy : -1073741824 ≤ u.y ∧ u.y ≤ 1073741824 := by unfold GoodK at hgd; omega
    obtain ⟨r1, he1, hn1, hc1, hi1⟩ := cap_ex (k := k) hgr hgp hux huy [([⟨0, 0⟩, ⟨1, 0⟩, ⟨0, 1⟩] : List PtT)]
    obtain ⟨Q1, hQ1⟩ : ∃ Q, capK k p u h [([⟨0, 0⟩, ⟨1, 0⟩, ⟨0, 1⟩] : List PtT)] = Q := ⟨_, rfl⟩
    rw [hQ1] at he1
    obtain ⟨r2, he2, hn2, hc2, hi2⟩ := dot_ex (k := k) hgr hgp Q1
    obtain ⟨Q, hQ⟩ : ∃ Q, dotK k p h Q1 = Q := ⟨_, rfl⟩
    rw [hQ] at he2
    have hl1 : Q1.length = r1.length + 1 := by rw [he1]; rfl
    have hl2 : Q.length = Q1.length + r2.length := by rw [he2]; exact List.length_append
    have hQ00 : Q1.getD 0 [] = ([⟨0, 0⟩, ⟨1, 0⟩, ⟨0, 1⟩] : List PtT) := by rw [he1]; rfl
    have hnp : NearT p := by unfold NearT; omega
    have hcap : ∀ i, 1 ≤ i → i < Q.length → CapP p (Q.getD i []) := fun i h1 h2 => by
      have hm : Q.getD i [] ∈ r1 ++ r2 := by
        obtain ⟨j, rfl⟩ : ∃ j, i = j + 1 := ⟨i - 1, by omega⟩
        have e : Q = ([⟨0, 0⟩, ⟨1, 0⟩, ⟨0, 1⟩] : List PtT) :: (r1 ++ r2) := by rw [he2, he1]; rfl
        rw [e, List.getD_cons_succ, List.getD_eq_getElem?_getD, List.getElem?_eq_getElem (by rw [List.length_append]; omega)]
        exact List.getElem_mem _
      exact (List.mem_append.1 hm).elim (hc1 _) (hc2 _)
    refine l_val rfl (o_build (vs := []) (cs := [_, _]) rfl rfl) ?_
    refine l_val rfl (o_build (vs := [_]) (cs := [_, _]) rfl rfl) ?_
    refine l_val rfl (o_build (vs := [_]) (cs := [_, _]) rfl rfl) ?_
    refine l_buildSlice (vs := [_, _, _]) (cs := [_, _, _, _, _, _]) rfl rfl rfl rfl rfl rfl fun v27 hv27 => ?_
    refine l_val rfl (o_assign rfl) ?_
    refine l_nil ?_
    refine kt_norm ?_
    refine v_seq ?_
    refine v_region ?_
    refine l_val rfl (o_move rfl) ?_
    obtain ⟨a27, c27, rfl⟩ := hv27.sl
    refine l_buildSlice (vs := [_]) (cs := [_]) rfl rfl rfl rfl rfl rfl fun v29 hv29 => ?_
    refine l_capd 29 rfl fun hcap29 => ?_
    refine l_freeze 27 [5, 6, 29] rfl rfl rfl ?_
    refine l_freeze 29 [5, 6] rfl rfl rfl ?_
    refine l_val rfl (o_move rfl) ?_
    refine l_val rfl (o_loadW (key := 5) rfl rfl rfl) ?_
    refine l_val rfl (o_loadW (key := 6) rfl rfl rfl) ?_
    refine l_val rfl (o_move rfl) ?_
    have hw0 : PcsW v29 [.slice a27 3 c27] [([⟨0, 0⟩, ⟨1, 0⟩, ⟨0, 1⟩] : List PtT)] := pcsW_of hv29 (by show 1 ≤ 1000000; omega) (.one hv27)
    have hat0 : ∀ w2, ((Chg (fun _ => False) w w2 ∧ (Hp.own (.slice a27 3 c27) 23 2 3 (([⟨0, 0⟩, ⟨1, 0⟩, ⟨0, 1⟩] : List PtT).flatMap eP)).ok w2) ∧ (Hp.own v29 32 1 1 [.slice a27 3 c27]).ok w2) → PcsAt w2 v29 [.slice a27 3 c27] [([⟨0, 0⟩, ⟨1, 0⟩, ⟨0, 1⟩] : List PtT)] := fun w2 hg => pcsAt_of (rowAt_own hg.2) (.one (rowAt_own hg.1.2))
    refine l_gsaid (ks := []) (caps := #[]) (vs := [_, _, _, _, _]) (α := PutsY v29 [.slice a27 3 c27] [([⟨0, 0⟩, ⟨1, 0⟩, ⟨0, 1⟩] : List PtT)] (Q1)) (fun x => x.1.1) (fun x w' => SaidOk w' x.1.2.2.1 x.1.2.2.2) (fun x b => x.1.2.2.2 b) rfl rfl (ent_of Try.func35 rfl rfl) rfl (fun x w1 w2 h hb => h.keep hb) (fun x w1 b h hb => h.lt hb) (fun w' hg hh => a_CapQ w' v29 _ _ p h hw0 hcap29 (hat0 w' hg) (by show 1 ≤ 2000; omega) hgp hgr u hux huy k hQ1) fun xp => ?_
    have hVxp : RowV xp.1.1 (Q1).length := xp.2.1.V
    have hlxp : xp.1.2.1.length = (Q1).length := xp.2.1.lenv
    refine l_val rfl (o_assign rfl) ?_
    refine l_nil ?_
    refine kt_norm ?_
    refine v_sel [0, 3, 5, 6, 9, 10] [5, 6] rfl rfl ?_
    refine v_seq ?_
    refine v_region ?_
    refine l_val rfl (o_move rfl) ?_
    refine l_val rfl (o_move rfl) ?_
    refine l_val rfl (o_loadW (key := 5) rfl rfl rfl) ?_
    refine l_val rfl (o_move rfl) ?_
    refine l_gsaid (ks := []) (caps := #[]) (vs := [_, _, _, _]) (α := PutsY xp.1.1 xp.1.2.1 Q1 (Q)) (fun x => x.1.1) (fun x w' => SaidOk w' x.1.2.2.1 x.1.2.2.2) (fun x b => x.1.2.2.2 b) rfl rfl (ent_of Try.func37 rfl rfl) rfl (fun x w1 w2 h hb => h.keep hb) (fun x w1 b h hb => h.lt hb) (fun w' hg hh => a_DotQ w' _ _ _ p h xp.2.1 xp.2.2.1 (xp.2.2.2 w' (hat0 w' hg.1) hg.2.1) (by omega) hgp hgr k hQ) fun xm => ?_
    have hVxm : RowV xm.1.1 (Q).length := xm.2.1.V
    have hlxm : xm.1.2.1.length = (Q).length := xm.2.1.lenv
    refine l_val rfl (o_assign rfl) ?_
    refine l_nil ?_
    refine kt_norm ?_
    refine v_sel [0, 5, 6, 9, 10, 11] [5, 6] rfl rfl ?_
    refine v_seq ?_
    refine v_seq ?_
    refine v_region ?_
    have hpl : ∀ w2, ((((Chg (fun _ => False) w w2 ∧ (Hp.own (.slice a27 3 c27) 23 2 3 (([⟨0, 0⟩, ⟨1, 0⟩, ⟨0, 1⟩] : List PtT).flatMap eP)).ok w2) ∧ (Hp.own v29 32 1 1 [.slice a27 3 c27]).ok w2) ∧ SaidOk w2 xp.1.2.2.1 xp.1.2.2.2) ∧ SaidOk w2 xm.1.2.2.1 xm.1.2.2.2) → PcsAt w2 xp.1.1 xp.1.2.1 Q1 := fun w2 hg => xp.2.2.2 w2 (hat0 w2 hg.1.1) hg.1.2.1
    have hpm : ∀ w2, ((((Chg (fun _ => False) w w2 ∧ (Hp.own (.slice a27 3 c27) 23 2 3 (([⟨0, 0⟩, ⟨1, 0⟩, ⟨0, 1⟩] : List PtT).flatMap eP)).ok w2) ∧ (Hp.own v29 32 1 1 [.slice a27 3 c27]).ok w2) ∧ SaidOk w2 xp.1.2.2.1 xp.1.2.2.2) ∧ SaidOk w2 xm.1.2.2.1 xm.1.2.2.2) → PcsAt w2 xm.1.1 xm.1.2.1 Q := fun w2 hg => xm.2.2.2 w2 (hpl w2 hg) hg.2.1
    have hV0 : RowV (xp.1.2.1.getD 0 undef) 3 := by have := xp.2.1.pV 0 (by omega); rw [hQ00] at this; exact this
    have hr0 : ∀ w2, ((((Chg (fun _ => False) w w2 ∧ (Hp.own (.slice a27 3 c27) 23 2 3 (([⟨0, 0⟩, ⟨1, 0⟩, ⟨0, 1⟩] : List PtT).flatMap eP)).ok w2) ∧ (Hp.own v29 32 1 1 [.slice a27 3 c27]).ok w2) ∧ SaidOk w2 xp.1.2.2.1 xp.1.2.2.2) ∧ SaidOk w2 xm.1.2.2.1 xm.1.2.2.2) → RowAt w2 (xp.1.2.1.getD 0 undef) 2 3 (([⟨0, 0⟩, ⟨1, 0⟩, ⟨0, 1⟩] : List PtT).flatMap eP) := fun w2 hg => by have := (hpl w2 hg).pc 0 (by omega); rw [hQ00] at this; exact this
    have hr27 : ∀ w2, ((((Chg (fun _ => False) w w2 ∧ (Hp.own (.slice a27 3 c27) 23 2 3 (([⟨0, 0⟩, ⟨1, 0⟩, ⟨0, 1⟩] : List PtT).flatMap eP)).ok w2) ∧ (Hp.own v29 32 1 1 [.slice a27 3 c27]).ok w2) ∧ SaidOk w2 xp.1.2.2.1 xp.1.2.2.2) ∧ SaidOk w2 xm.1.2.2.1 xm.1.2.2.2) → RowAt w2 (.slice a27 3 c27) 2 3 (([⟨0, 0⟩, ⟨1, 0⟩, ⟨0, 1⟩] : List PtT).flatMap eP) := fun w2 hg => rowAt_own hg.1.1.1.2
    refine l_val rfl (o_move rfl) ?_
    refine l_val rfl (o_len rfl hVxp) ?_
    refine l_split rfl (o_eql rfl rfl) (fun q1 => absurd q1 (by omega)) (fun q1 => ?_)
    refine l_val rfl (o_move rfl) ?_
    refine l_val rfl (o_move rfl) ?_
    refine l_val rfl (o_len rfl hVxm) ?_
    refine l_val rfl (o_move rfl) ?_
    refine l_val rfl (o_len rfl hVxp) ?_
    refine l_split rfl (o_lss rfl rfl) (fun q2 => absurd q2 (by omega)) (fun q2 => ?_)
    refine l_val rfl (o_pickF rfl rfl) ?_
    refine l_val rfl (o_move rfl) ?_
    refine l_val rfl (o_move rfl) ?_
    refine l_val rfl (o_idx (0) rfl hVxp rfl (by first | rfl | omega) (by omega)) ?_
    refine l_val rfl (o_loadR1 rfl (row_imm (fun w2 hg => (hpl w2 hg).row)) (el_one (by rw [hlxp]; omega))) ?_
    refine l_val rfl (o_move rfl) ?_
    refine l_call (ks := []) rfl (o_callC (vs := [_, _]) (r := .bool true) (ent_of Try.func21 rfl rfl) rfl (fun w' hg hh => r_SameOneT w' _ _ ([⟨0, 0⟩, ⟨1, 0⟩, ⟨0, 1⟩] : List PtT) (by show 3 ≤ 1000000; omega) hV0 (hr0 w' hg) hv27 (hr27 w' hg))) ?_
    refine l_val rfl (o_not rfl rfl) ?_
    refine l_val rfl (o_pickF rfl rfl) ?_
    refine l_nil ?_
    refine kt_norm ?_
    refine v_sel [0, 5, 6, 10, 11, 57] [5, 6] rfl rfl ?_
    refine v_condF rfl ?_
    refine v_skip ?_
    refine kt_norm ?_
    refine v_seq ?_
    refine v_seq ?_
    refine v_region ?_
    refine l_val rfl (o_assign rfl) ?_
    refine l_nil ?_
    refine kt_norm ?_
    refine v_block ?_
    refine v_loopS (α := Nat) (fun i => [(12, .int .i64 (i : Int))]) (fun i => [])  (fun i => 1 ≤ i ∧ i ≤ Q.length) (fun i => Q.length - i) 1 [0, 5, 6, 10, 11] [5, 6] ⟨Nat.le_refl _, by omega⟩  (And.intro rfl (True.intro)) rfl (True.intro) rfl ?_
    rintro i ⟨hi1', hi'⟩
    refine v_seq ?_
    refine v_seq ?_
    refine v_region ?_
    refine l_val rfl (o_move rfl) ?_
    refine l_val rfl (o_move rfl) ?_
    refine l_val rfl (o_len rfl hVxm) ?_
    refine l_split rfl (o_lss rfl rfl) (fun q3 => ?_) (fun q3 => ?_)
    · have hil : i < Q.length := by omega
      have htri := hcap i hi1' hil
      have hVq := xm.2.1.pV i hil
      have hrq : ∀ w2, ((((Chg (fun _ => False) w w2 ∧ (Hp.own (.slice a27 3 c27) 23 2 3 (([⟨0, 0⟩, ⟨1, 0⟩, ⟨0, 1⟩] : List PtT).flatMap eP)).ok w2) ∧ (Hp.own v29 32 1 1 [.slice a27 3 c27]).ok w2) ∧ SaidOk w2 xp.1.2.2.1 xp.1.2.2.2) ∧ SaidOk w2 xm.1.2.2.1 xm.1.2.2.2) → RowAt w2 (xm.1.2.1.getD i undef) 2 (Q.getD i []).length ((Q.getD i []).flatMap eP) := fun w2 hg => (hpm w2 hg).pc i hil
      generalize Q.getD i [] = q at htri hVq hrq
      obtain ⟨hq4, hqc, hqh, hqn⟩ := htri
      refine l_nil ?_
      refine kt_norm ?_
      refine v_condT rfl ?_
      refine v_skip ?_
      refine kt_norm ?_
      refine v_seq ?_
      refine v_block ?_
      refine v_seq ?_
      refine v_drawW [] [[], [], [], [], [], [], [], [], [], [], [], [5], [], [], []] mixed ?_ (by kernel_rfl) (by kernel_rfl)
      refine d_val (fun _ => rfl) rfl rfl (fun σ11 => o_move rfl) ?_
      refine d_val (fun _ => rfl) rfl rfl (fun σ11 => o_move rfl) ?_
      refine d_val (fun _ => rfl) rfl rfl (fun σ11 => o_idx (i) rfl hVxm rfl (by first | rfl | omega) (by omega)) ?_
      refine d_val (fun _ => rfl) rfl rfl (fun σ11 => o_loadR1 rfl (row_imm (fun w2 hg => (hpm w2 hg).row)) (el_one (by rw [hlxm]; omega))) ?_
      refine d_gcall (y := .bool true) (caps := #[]) (fun _ => rfl) (fun _ => rfl) (ent_of Try.func22 rfl rfl) (vs := fun _ => [_]) (fun _ => rfl) (fun σ11 w' hg hh => hqc ▸ a_Convex w' _ q (by omega) hVq (hrq w' hg) hqn) ?_
      refine d_val (fun _ => rfl) rfl rfl (fun σ11 => o_not rfl rfl) ?_
      refine d_val (fun _ => rfl) rfl rfl (fun σ11 => o_move rfl) ?_
      refine d_val (fun _ => rfl) rfl rfl (fun σ11 => o_move rfl) ?_
      refine d_val (fun _ => rfl) rfl rfl (fun σ11 => o_move rfl) ?_
      refine d_val (fun _ => rfl) rfl rfl (fun σ11 => o_idx (i) rfl hVxm rfl (by first | rfl | omega) (by omega)) ?_
      refine d_val (fun _ => rfl) rfl rfl (fun σ11 => o_loadR1 rfl (row_imm (fun w2 hg => (hpm w2 hg).row)) (el_one (by rw [hlxm]; omega))) ?_
      refine d_val (fun _ => rfl) rfl rfl (fun σ11 => o_loadW (key := 5) rfl rfl rfl) ?_
      refine d_gcall (y := .bool true) (caps := #[]) (fun _ => rfl) (fun _ => rfl) (ent_of Try.func18 rfl rfl) (vs := fun _ => [_, _]) (fun _ => rfl) (fun σ11 w' hg hh => a_HasC w' _ q p (by omega) hVq (hrq w' hg) hqn hnp hqc hqh) ?_
      refine d_val (fun _ => rfl) rfl rfl (fun σ11 => o_not rfl rfl) ?_
      refine d_val (fun _ => rfl) rfl rfl (fun σ11 => o_pickF rfl rfl) ?_
      refine d_nil (fun σ11 => ?_)
      refine l_nil ?_
      refine kt_norm ?_
      refine v_sel [12, 0, 5, 6, 10, 11, 71, 72, 73, 74, 75, 76, 77, 78] [5, 6] rfl rfl ?_
      refine v_condF rfl ?_
      refine v_skip ?_
      refine kb_norm ?_
      refine kt_norm ?_
      refine v_region ?_
      refine l_val rfl (o_move rfl) ?_
      refine l_val rfl (o_addi rfl rfl ?_) ?_
      · omega
      refine l_val rfl (o_assign rfl) ?_
      refine l_nil ?_
      refine kt_norm ?_
      refine ⟨i + 1, ⟨by omega, hil⟩, (by show Q.length - (i + 1) < Q.length - i; omega), le_app (And.intro rfl (True.intro)) [0, 5, 6, 10, 11] rfl (True.intro) [5, 6] rfl⟩
    · skip
      refine l_nil ?_
      refine kt_norm ?_
      refine v_condF rfl ?_
      refine v_exit ?_
      refine kt_exit ?_
      refine kt_exit ?_
      refine kb_eq ?_
      refine kt_norm ?_
      refine v_sel [0, 6, 10, 11] [6] rfl rfl ?_
      refine v_seq ?_
      refine v_region ?_
      refine l_val rfl (o_move rfl) ?_
      refine l_split rfl (o_eql rfl rfl) (fun q4 => ?_) (fun q4 => ?_)
      · skip
        refine l_val rfl (o_move rfl) ?_
        refine l_no rfl ?_
        refine l_no rfl ?_
        refine l_val rfl (o_pickT rfl rfl) ?_
        refine l_val rfl (o_assign rfl) ?_
        refine l_nil ?_
        refine kt_norm ?_
        refine v_sel [6, 10, 11, 13] [6] rfl rfl ?_
        refine v_seq ?_
        refine v_region ?_
        refine l_val rfl (o_move rfl) ?_
        refine l_val rfl (o_len rfl hVxm) ?_
        refine l_val rfl (o_move rfl) ?_
        refine l_val rfl (o_len rfl hVxp) ?_
        refine l_split rfl (o_gtr rfl rfl) (fun q5 => ?_) (fun q5 => absurd (show _ by omega) q5)
        refine l_val rfl (o_move rfl) ?_
        refine l_val rfl (o_eqlb rfl rfl rfl) ?_
        refine l_val rfl (o_move rfl) ?_
        refine l_val rfl (o_move rfl) ?_
        refine l_val rfl (o_len rfl hVxp) ?_
        refine l_split rfl (o_gtr rfl rfl) (fun hlg => ?_) (fun hlg => ?_)
        · skip
          refine l_val rfl (o_move rfl) ?_
          refine l_val rfl (o_move rfl) ?_
          refine l_val rfl (o_loadW (key := 6) rfl rfl rfl) ?_
          refine l_val rfl (o_build (vs := []) (cs := [_, _]) rfl rfl) ?_
          refine l_split rfl (o_neqs (xl := [_, _]) (yl := [_, _]) (az := [_, _]) (bz := [_, _]) rfl rfl rfl rfl rfl rfl) (fun hue => ?_) (fun hue => ?_)
          · simp only [List.map_cons, List.map_nil, List.cons.injEq, and_true, Decidable.not_not] at hue
            refine l_val rfl (o_pickT rfl rfl) ?_
            refine l_val rfl (o_eqlb rfl rfl rfl) ?_
            refine l_val rfl (o_pickT rfl rfl) ?_
            refine l_val rfl (o_assign rfl) ?_
            refine l_nil ?_
            refine kt_norm ?_
            refine v_sel [8] [] rfl rfl ?_
            refine v_ret ?_
            refine ⟨[_], .cons (.tmp rfl) (ResAll.nil), ?_⟩
            rfl
          · exfalso; simp only [List.map_cons, List.map_nil, List.cons.injEq, and_true, Decidable.not_not] at hue; omega
        · skip
          refine l_val rfl (o_move rfl) ?_
          refine l_val rfl (o_move rfl) ?_
          refine l_val rfl (o_loadW (key := 6) rfl rfl rfl) ?_
          refine l_val rfl (o_build (vs := []) (cs := [_, _]) rfl rfl) ?_
          refine l_split rfl (o_neqs (xl := [_, _]) (yl := [_, _]) (az := [_, _]) (bz := [_, _]) rfl rfl rfl rfl rfl rfl) (fun hue => ?_) (fun hue => ?_)
          · exfalso; simp only [List.map_cons, List.map_nil, List.cons.injEq, and_true, Decidable.not_not] at hue; omega
          · simp only [List.map_cons, List.map_nil, List.cons.injEq, and_true, Decidable.not_not] at hue
            refine l_val rfl (o_pickT rfl rfl) ?_
            refine l_val rfl (o_eqlb rfl rfl rfl) ?_
            refine l_val rfl (o_pickT rfl rfl) ?_
            refine l_val rfl (o_assign rfl) ?_
            refine l_nil ?_
            refine kt_norm ?_
            refine v_sel [8] [] rfl rfl ?_
            refine v_ret ?_
            refine ⟨[_], .cons (.tmp rfl) (ResAll.nil), ?_⟩
            rfl
      · skip
        refine l_val rfl (o_move rfl) ?_
        refine l_val rfl (o_move rfl) ?_
        refine l_split rfl (o_eql rfl rfl) (fun q6 => ?_) (fun q6 => ?_)
        · skip
          refine l_val rfl (o_pickF rfl rfl) ?_
          refine l_val rfl (o_assign rfl) ?_
          refine l_nil ?_
          refine kt_norm ?_
          refine v_sel [6, 10, 11, 13] [6] rfl rfl ?_
          refine v_seq ?_
          refine v_region ?_
          refine l_val rfl (o_move rfl) ?_
          refine l_val rfl (o_len rfl hVxm) ?_
          refine l_val rfl (o_move rfl) ?_
          refine l_val rfl (o_len rfl hVxp) ?_
          refine l_split rfl (o_gtr rfl rfl) (fun q7 => ?_) (fun q7 => absurd (show _ by omega) q7)
          refine l_val rfl (o_move rfl) ?_
          refine l_val rfl (o_eqlb rfl rfl rfl) ?_
          refine l_val rfl (o_move rfl) ?_
          refine l_val rfl (o_move rfl) ?_
          refine l_val rfl (o_len rfl hVxp) ?_
          refine l_split rfl (o_gtr rfl rfl) (fun hlg => ?_) (fun hlg => ?_)
          · skip
            refine l_val rfl (o_move rfl) ?_
            refine l_val rfl (o_move rfl) ?_
            refine l_val rfl (o_loadW (key := 6) rfl rfl rfl) ?_
            refine l_val rfl (o_build (vs := []) (cs := [_, _]) rfl rfl) ?_
            refine l_split rfl (o_neqs (xl := [_, _]) (yl := [_, _]) (az := [_, _]) (bz := [_, _]) rfl rfl rfl rfl rfl rfl) (fun hue => ?_) (fun hue => ?_)
            · simp only [List.map_cons, List.map_nil, List.cons.injEq, and_true, Decidable.not_not] at hue
              refine l_val rfl (o_pickT rfl rfl) ?_
              refine l_val rfl (o_eqlb rfl rfl rfl) ?_
              refine l_val rfl (o_pickT rfl rfl) ?_
              refine l_val rfl (o_assign rfl) ?_
              refine l_nil ?_
              refine kt_norm ?_
              refine v_sel [8] [] rfl rfl ?_
              refine v_ret ?_
              refine ⟨[_], .cons (.tmp rfl) (ResAll.nil), ?_⟩
              rfl
            · exfalso; simp only [List.map_cons, List.map_nil, List.cons.injEq, and_true, Decidable.not_not] at hue; omega
          · skip
            refine l_val rfl (o_move rfl) ?_
            refine l_val rfl (o_move rfl) ?_
            refine l_val rfl (o_loadW (key := 6) rfl rfl rfl) ?_
            refine l_val rfl (o_build (vs := []) (cs := [_, _]) rfl rfl) ?_
            refine l_split rfl (o_neqs (xl := [_, _]) (yl := [_, _]) (az := [_, _]) (bz := [_, _]) rfl rfl rfl rfl rfl rfl) (fun hue => ?_) (fun hue => ?_)
            · exfalso; simp only [List.map_cons, List.map_nil, List.cons.injEq, and_true, Decidable.not_not] at hue; omega
            · simp only [List.map_cons, List.map_nil, List.cons.injEq, and_true, Decidable.not_not] at hue
              refine l_val rfl (o_pickT rfl rfl) ?_
              refine l_val rfl (o_eqlb rfl rfl rfl) ?_
              refine l_val rfl (o_pickT rfl rfl) ?_
              refine l_val rfl (o_assign rfl) ?_
              refine l_nil ?_
              refine kt_norm ?_
              refine v_sel [8] [] rfl rfl ?_
              refine v_ret ?_
              refine ⟨[_], .cons (.tmp rfl) (ResAll.nil), ?_⟩
              rfl
        · skip
          refine l_val rfl (o_pickF rfl rfl) ?_
          refine l_val rfl (o_assign rfl) ?_
          refine l_nil ?_
          refine kt_norm ?_
          refine v_sel [6, 10, 11, 13] [6] rfl rfl ?_
          refine v_seq ?_
          refine v_region ?_
          refine l_val rfl (o_move rfl) ?_
          refine l_val rfl (o_len rfl hVxm) ?_
          refine l_val rfl (o_move rfl) ?_
          refine l_val rfl (o_len rfl hVxp) ?_
          refine l_split rfl (o_gtr rfl rfl) (fun q8 => absurd q8 (by omega)) (fun q8 => ?_)
          refine l_val rfl (o_move rfl) ?_
          refine l_val rfl (o_eqlb rfl rfl rfl) ?_
          refine l_val rfl (o_move rfl) ?_
          refine l_val rfl (o_move rfl) ?_
          refine l_val rfl (o_len rfl hVxp) ?_
          refine l_split rfl (o_gtr rfl rfl) (fun hlg => absurd hlg (by omega)) (fun hlg => ?_)
          refine l_val rfl (o_move rfl) ?_
          refine l_val rfl (o_move rfl) ?_
          refine l_no rfl ?_
          refine l_no rfl ?_
          refine l_no rfl ?_
          refine l_val rfl (o_pickF rfl rfl) ?_
          refine l_val rfl (o_eqlb rfl rfl rfl) ?_
          refine l_val rfl (o_pickT rfl rfl) ?_
          refine l_val rfl (o_assign rfl) ?_
          refine l_nil ?_
          refine kt_norm ?_
          refine v_sel [8] [] rfl rfl ?_
          refine v_ret ?_
          refine ⟨[_], .cons (.tmp rfl) (ResAll.nil), ?_⟩
          rfl
  · skip
    refine l_val rfl (o_not rfl rfl) ?_
    refine l_val rfl (o_move rfl) ?_
    refine l_no rfl ?_
    refine l_no rfl ?_
    refine l_val rfl (o_pickT rfl rfl) ?_
    refine l_nil ?_
    refine kt_norm ?_
    refine v_sel [0, 3, 5, 6, 22] [5, 6] rfl rfl ?_
    refine v_condT rfl ?_
    refine v_seq ?_
    refine v_region ?_
    refine l_call (ks := []) rfl (o_callC (vs := []) (r := .bool true) (ent_of Try.func32 rfl rfl) rfl (fun w' hg hh => a_shownK w')) ?_
    refine l_val rfl (o_assign rfl) ?_
    refine l_nil ?_
    refine kt_norm ?_
    refine v_sel [8] [] rfl rfl ?_
    refine v_ret ?_
    refine kt_ret ?_
    refine ⟨[_], .cons (.tmp rfl) (ResAll.nil), ?_⟩
    rfl
end Go.Proofs.Ytpgjbalnipinoaa

/- Shifted caps and dots; how far a square cap reaches. Conditions: none. -/
namespace Go.Proofs.Ytpgjbalnipinoaa
open Go.Proofs Go.RowKit Go.Shelf

set_option maxHeartbeats 8000000 in
theorem a_CapsReach (w : World) (k : Int) (p u b : PtT) (h : Int) : Calls Try.prog 12 #[.int .i64 k, .agg #[.int .i64 p.x, .int .i64 p.y], .agg #[.int .i64 u.x, .int .i64 u.y], .agg #[.int .i64 b.x, .int .i64 b.y], .int .i64 h] w fun e w' => e = .returned (.bool true) ∧ Below w.heap.size w w' := by
  obtain ⟨q, hq0⟩ : ∃ q : PtT, q = ⟨wr (p.x + b.x), wr (p.y + b.y)⟩ := ⟨_, rfl⟩
  have hqx : IntKind.wrap .i64 (p.x + b.x) = q.x := by rw [hq0]; exact wrap_i64m _
  have hqy : IntKind.wrap .i64 (p.y + b.y) = q.y := by rw [hq0]; exact wrap_i64m _
  refine calls_of (args := [.int .i64 k, .agg #[.int .i64 p.x, .int .i64 p.y], .agg #[.int .i64 u.x, .int .i64 u.y], .agg #[.int .i64 b.x, .int .i64 b.y], .int .i64 h]) Try.func12 rfl Try.ntmps12 Try.results12 rfl ?_
  refine v_seq ?_
  refine v_region ?_
  refine l_new rfl (o_box (cs := [_, _]) rfl rfl) fun b6 => ?_
  refine l_new rfl (o_box (cs := [_, _]) rfl rfl) fun b7 => ?_
  refine l_new rfl (o_box (cs := [_, _]) rfl rfl) fun b8 => ?_
  refine l_val rfl (o_assign rfl) ?_
  refine l_nil ?_
  refine kt_norm ?_
  refine v_seq ?_
  refine v_region ?_
  refine l_val rfl (o_fld rfl) ?_
  refine l_val rfl (o_load1 (key := 6) rfl rfl rfl) ?_
  refine l_val rfl (o_fld rfl) ?_
  refine l_val rfl (o_load1 (key := 8) rfl rfl rfl) ?_
  refine l_val rfl (o_add rfl rfl hqx) ?_
  refine l_val rfl (o_fld rfl) ?_
  refine l_val rfl (o_load1 (key := 6) rfl rfl rfl) ?_
  refine l_val rfl (o_fld rfl) ?_
  refine l_val rfl (o_load1 (key := 8) rfl rfl rfl) ?_
  refine l_val rfl (o_add rfl rfl hqy) ?_
  refine l_val rfl (o_build (vs := [_, _]) (cs := [_, _]) rfl rfl) ?_
  refine l_new rfl o_alloc fun b11 => ?_
  refine l_store rfl (o_storeW (key := 11) (xs := [_, _]) rfl rfl rfl rfl rfl rfl rfl) ?_
  refine l_nil ?_
  refine kt_norm ?_
  refine v_sel [0, 4, 6, 7, 8, 11] [6, 7, 8, 11] rfl rfl ?_
  refine v_seq ?_
  refine v_seq ?_
  refine v_region ?_
  refine l_val rfl (o_loadW (key := 6) rfl rfl rfl) ?_
  refine l_val rfl (o_loadW (key := 7) rfl rfl rfl) ?_
  refine l_val rfl (o_move rfl) ?_
  refine l_ans (vs := [_, _, _]) rfl rfl (a_goodK p u h) ?_
  refine lz_bool (fun hgd => ?_) (fun hgd => ?_)
  · skip
    refine l_val rfl (o_not rfl rfl) ?_
    refine l_val rfl (o_move rfl) ?_
    refine l_val rfl (o_loadW (key := 8) rfl rfl rfl) ?_
    refine l_ans (vs := [_, _]) rfl rfl (a_withinK _ _ (by omega)) ?_
    refine lz_bool (fun hwb => ?_) (fun hwb => ?_)
    · skip
      refine l_val rfl (o_not rfl rfl) ?_
      refine l_val rfl (o_pickF rfl rfl) ?_
      refine l_val rfl (o_move rfl) ?_
      refine l_val rfl (o_loadW (key := 11) rfl rfl rfl) ?_
      refine l_ans (vs := [_, _]) rfl rfl (a_withinK _ _ (by omega)) ?_
      refine lz_bool (fun hwq => ?_) (fun hwq => ?_)
      · skip
        refine l_val rfl (o_not rfl rfl) ?_
        refine l_val rfl (o_pickF rfl rfl) ?_
        refine l_val rfl (o_move rfl) ?_
        refine l_call (ks := []) rfl (o_callC (vs := []) (r := .bool true) (ent_of Try.func32 rfl rfl) rfl (fun w' hg hh => a_shownK w')) ?_
        refine l_val rfl (o_not rfl rfl) ?_
        refine l_val rfl (o_pickF rfl rfl) ?_
        refine l_nil ?_
        refine kt_norm ?_
        refine v_sel [0, 4, 6, 7, 8, 11, 46] [6, 7, 8, 11] rfl rfl ?_
        refine v_condF rfl ?_
        refine v_skip ?_
        refine kt_norm ?_
        refine v_seq ?_
        have hgp : ((-536870912 ≤ p.x ∧ p.x ≤ 536870912) ∧ (-536870912 ≤ p.y ∧ p.y ≤ 536870912)) := by unfold GoodK at hgd; omega
        have hgr : 1 ≤ h ∧ h ≤ 131072 := by unfold GoodK at hgd; omega
        have hux : -1073741824 ≤ u.x ∧ u.x ≤ 1073741824 := by unfold GoodK at hgd; omega
        have huy : -1073741824 ≤ u.y ∧ u.y ≤ 1073741824 := by unfold GoodK at hgd; omega
        have hgq : ((-536870912 ≤ q.x ∧ q.x ≤ 536870912) ∧ (-536870912 ≤ q.y ∧ q.y ≤ 536870912)) := hwq
        have hqs : q = shP b.x b.y p := by
          rw [hq0, wr_small (by omega), wr_small (by omega)]; rfl
        obtain ⟨f, hf⟩ : ∃ f, normT u h = f := ⟨_, rfl⟩
        have hbf := hf ▸ norm_bound (p := u) (r := h) hux huy (by omega)
        obtain ⟨r1, he1, hn1, hc1, hi1⟩ := cap_ex (k := k) hgr hgp hux huy []
        obtain ⟨QA1, hQA1⟩ : ∃ Q, capK k p u h [] = Q := ⟨_, rfl⟩
        rw [hQA1, List.nil_append] at he1
        obtain ⟨r2, he2, hn2, hc2, hi2⟩ := dot_ex (k := k) hgr hgp QA1
        obtain ⟨QA, hQA⟩ : ∃ Q, dotK k p h QA1 = Q := ⟨_, rfl⟩
        rw [hQA] at he2
        obtain ⟨QB1, hQB1⟩ : ∃ Q, capK k q u h [] = Q := ⟨_, rfl⟩
        obtain ⟨QB, hQB⟩ : ∃ Q, dotK k q h QB1 = Q := ⟨_, rfl⟩
        have hS1 : QB1 = shQ b.x b.y QA1 := by rw [← hQB1, ← hQA1, hqs]; exact cap_sh b.x b.y k p u h []
        have hS : QB = shQ b.x b.y QA := by rw [← hQB, ← hQA, hqs, hS1]; exact dot_sh b.x b.y k p h QA1
        have hT : ∀ x ∈ QA, CapP p x := fun x hx => by
          rw [he2, he1] at hx
          exact (List.mem_append.1 hx).elim (hc1 _) (hc2 _)
        have hl1 : QA1.length ≤ 128 := by rw [he1]; exact hn1
        have hl3 : QA.length ≤ 384 := by rw [he2, List.length_append]; omega
        have hm1 : QB1.length = QA1.length := by rw [hS1]; exact List.length_map _
        have hm3 : QB.length = QA.length := by rw [hS]; exact List.length_map _
        have hTB : ∀ i, QB.getD i [] = (QA.getD i []).map (shP b.x b.y) := fun i => by
          rw [hS]; unfold shQ
          rw [List.getD_eq_getElem?_getD, List.getD_eq_getElem?_getD, List.getElem?_map]
          cases QA[i]? <;> rfl
        obtain ⟨QC, hQC⟩ : ∃ Q, capK 1 p u h [] = Q := ⟨_, rfl⟩
        have hcq : ¬ (u.x = 0 ∧ u.y = 0) → ∃ B, QC = [B] ∧ CapP p B ∧ leftB B ⟨p.x + f.x, p.y + f.y⟩ = true := fun h0 => by
          obtain ⟨e, k1, k2, _⟩ := sq_put (p := p) hgr hux huy h0 rfl hf []
          have hs := sq_cap hgr hgp (norm_bound (p := ⟨-u.y, u.x⟩) (r := h) (by dsimp only; omega) (by dsimp only; omega) (by omega)) hbf ⟨k1, k2⟩
          have e1 : capK 1 p u h [] = sqT p u h [] := if_pos rfl
          exact ⟨_, by rw [← hQC, e1, e]; rfl, hs.1, hs.2⟩
        clear hqs
        refine v_drawP [(52, ⟨CodW QA1, codW_ex QA1 (by omega)⟩)] [[], [6], [7], [], [], [], [6], []] mixed ?_ (by kernel_rfl) (by kernel_rfl)
        refine d_val (fun _ => rfl) rfl rfl (fun σ4 => o_move rfl) ?_
        refine d_val (fun _ => rfl) rfl rfl (fun σ4 => o_loadW (key := 6) rfl rfl rfl) ?_
        refine d_val (fun _ => rfl) rfl rfl (fun σ4 => o_loadW (key := 7) rfl rfl rfl) ?_
        refine d_val (fun _ => rfl) rfl rfl (fun σ4 => o_move rfl) ?_
        refine d_puts (v0 := .slice none 0 0) (vs0 := []) (qs0 := []) (Q := QA1) (caps := #[]) (fun _ => rfl) (fun _ => rfl) (ent_of Try.func35 rfl rfl) (vs := fun _ => [_, _, _, _, _]) (fun _ => rfl) (fun _ h => h) (fun σ w' hg hh => a_CapQ w' _ [] [] p h pcsW_nil capd_nil (pcsAt_nil w') (by show 0 ≤ 2000; omega) hgp hgr u hux huy k hQA1) ?_
        refine d_val (fun _ => rfl) rfl rfl (fun σ4 => o_move rfl) ?_
        refine d_val (fun _ => rfl) rfl rfl (fun σ4 => o_loadW (key := 6) rfl rfl rfl) ?_
        refine d_val (fun _ => rfl) rfl rfl (fun σ4 => o_move rfl) ?_
        refine d_nil (fun σ4 => ?_)
        refine l_gsaid (ks := [52]) (caps := #[]) (vs := [_, _, _, _]) (α := PutsY (fstV (σ4.v 52)) (lstV (σ4.v 52)) QA1 QA) (fun x => x.1.1) (fun x w' => SaidOk w' x.1.2.2.1 x.1.2.2.2) (fun x b => x.1.2.2.2 b) rfl rfl (ent_of Try.func37 rfl rfl) rfl (fun x w1 w2 h hb => h.keep hb) (fun x w1 b h hb => h.lt hb) (fun w' hg hh => a_DotQ w' _ _ _ p h (σ4.ok 52).1 (σ4.ok 52).2 (gq_at (pcsAt_nil w') (hh 52 (by simp) _ rfl)) (by omega) hgp hgr k hQA) fun xa => ?_
        refine l_freeze 52 [6, 7, 8, 11] rfl rfl rfl ?_
        refine l_val rfl (o_assign rfl) ?_
        refine l_nil ?_
        refine kt_norm ?_
        refine v_sel [0, 4, 6, 7, 8, 11, 12] [6, 7, 8, 11] rfl rfl ?_
        refine v_seq ?_
        refine v_drawP [(61, ⟨CodW QB1, codW_ex QB1 (by omega)⟩)] [[], [11], [7], [], [], [], [11], []] mixed ?_ (by kernel_rfl) (by kernel_rfl)
        refine d_val (fun _ => rfl) rfl rfl (fun σ5 => o_move rfl) ?_
        refine d_val (fun _ => rfl) rfl rfl (fun σ5 => o_loadW (key := 11) rfl rfl rfl) ?_
        refine d_val (fun _ => rfl) rfl rfl (fun σ5 => o_loadW (key := 7) rfl rfl rfl) ?_
        refine d_val (fun _ => rfl) rfl rfl (fun σ5 => o_move rfl) ?_
        refine d_puts (v0 := .slice none 0 0) (vs0 := []) (qs0 := []) (Q := QB1) (caps := #[]) (fun _ => rfl) (fun _ => rfl) (ent_of Try.func35 rfl rfl) (vs := fun _ => [_, _, _, _, _]) (fun _ => rfl) (fun _ h => h) (fun σ w' hg hh => a_CapQ w' _ [] [] q h pcsW_nil capd_nil (pcsAt_nil w') (by show 0 ≤ 2000; omega) hgq hgr u hux huy k hQB1) ?_
        refine d_val (fun _ => rfl) rfl rfl (fun σ5 => o_move rfl) ?_
        refine d_val (fun _ => rfl) rfl rfl (fun σ5 => o_loadW (key := 11) rfl rfl rfl) ?_
        refine d_val (fun _ => rfl) rfl rfl (fun σ5 => o_move rfl) ?_
        refine d_nil (fun σ5 => ?_)
        refine l_gsaid (ks := [61]) (caps := #[]) (vs := [_, _, _, _]) (α := PutsY (fstV (σ5.v 61)) (lstV (σ5.v 61)) QB1 QB) (fun x => x.1.1) (fun x w' => SaidOk w' x.1.2.2.1 x.1.2.2.2) (fun x b => x.1.2.2.2 b) rfl rfl (ent_of Try.func37 rfl rfl) rfl (fun x w1 w2 h hb => h.keep hb) (fun x w1 b h hb => h.lt hb) (fun w' hg hh => a_DotQ w' _ _ _ q h (σ5.ok 61).1 (σ5.ok 61).2 (gq_at (pcsAt_nil w') (hh 61 (by simp) _ rfl)) (by omega) hgq hgr k hQB) fun xb => ?_
        refine l_freeze 61 [6, 7, 8, 11] rfl rfl rfl ?_
        refine l_val rfl (o_assign rfl) ?_
        refine l_nil ?_
        refine kt_norm ?_
        refine v_sel [4, 6, 7, 8, 12, 13] [6, 7, 8] rfl rfl ?_
        refine v_seq ?_
        refine v_seq ?_
        refine v_region ?_
        have hVa : RowV xa.1.1 QA.length := xa.2.1.V
        have hVb : RowV xb.1.1 QB.length := xb.2.1.V
        have hla : xa.1.2.1.length = QA.length := xa.2.1.lenv
        have hlb : xb.1.2.1.length = QB.length := xb.2.1.lenv
        refine l_val rfl (o_move rfl) ?_
        refine l_val rfl (o_len rfl hVa) ?_
        refine l_val rfl (o_move rfl) ?_
        refine l_val rfl (o_len rfl hVb) ?_
        refine l_split rfl (o_neq rfl rfl) (fun q1 => absurd q1 (by omega)) (fun q1 => ?_)
        refine l_nil ?_
        refine kt_norm ?_
        refine v_condF rfl ?_
        refine v_skip ?_
        refine kt_norm ?_
        refine v_seq ?_
        refine v_seq ?_
        refine v_region ?_
        refine l_val rfl (o_assign rfl) ?_
        refine l_nil ?_
        refine kt_norm ?_
        refine v_block ?_
        refine v_loopS (α := Nat) (fun i => [(14, .int .i64 (i : Int))]) (fun i => [])  (fun i => i ≤ QA.length) (fun i => QA.length - i) 0 [4, 6, 7, 8, 12, 13] [6, 7, 8] (Nat.zero_le _)  (And.intro rfl (True.intro)) rfl (True.intro) rfl ?_
        rintro i hi
        refine v_seq ?_
        refine v_seq ?_
        refine v_region ?_
        refine l_val rfl (o_move rfl) ?_
        refine l_val rfl (o_move rfl) ?_
        refine l_val rfl (o_len rfl hVa) ?_
        refine l_split rfl (o_lss rfl rfl) (fun q2 => ?_) (fun q2 => ?_)
        · have hil : i < QA.length := by omega
          have hil2 : i < QB.length := by omega
          have hTi := hT _ (show QA.getD i [] ∈ QA by rw [List.getD_eq_getElem?_getD, List.getElem?_eq_getElem hil]; exact List.getElem_mem hil)
          have hVa1 := xa.2.1.pV i hil
          have hVb1 := xb.2.1.pV i hil2
          have hsl : ((QA.getD i []).map (shP b.x b.y)).length = (QA.getD i []).length := List.length_map _
          have hq3 := hTi.len
          have hqn := hTi.near
          refine l_nil ?_
          refine kt_norm ?_
          refine v_condT rfl ?_
          refine v_skip ?_
          refine kt_norm ?_
          refine v_seq ?_
          refine v_block ?_
          refine v_seq ?_
          refine v_drawW [(82, (QA.getD i []).length)] [[], [], [], [], [8], [], [], [], [], []] mixed ?_ (by kernel_rfl) (by kernel_rfl)
          refine d_val (fun _ => rfl) rfl rfl (fun σ11 => o_move rfl) ?_
          refine d_val (fun _ => rfl) rfl rfl (fun σ11 => o_move rfl) ?_
          refine d_val (fun _ => rfl) rfl rfl (fun σ11 => o_idx (i) rfl hVa rfl (by first | rfl | omega) (by omega)) ?_
          refine d_val (fun _ => rfl) rfl rfl (fun σ11 => o_loadR1 rfl (row_imm (fun w2 hg => by exact (xa.2.2.2 w2 (gq_at (pcsAt_nil w2) hg.1.1.2) hg.1.1.1.2.1).row)) (el_one (by rw [hla]; exact hil))) ?_
          refine d_val (fun _ => rfl) rfl rfl (fun σ11 => o_loadW (key := 8) rfl rfl rfl) ?_
          refine d_gown (caps := #[]) (fun _ => rfl) (fun _ => rfl) (ent_of Try.func30 rfl rfl) (vs := fun _ => [_, _]) (fun _ => rfl) (fun _ h => h) (fun σ11 w' hg hh => r_Shift w' _ (QA.getD i []) b.x b.y (by omega) (by omega) (by omega) hVa1 (by exact (xa.2.2.2 w' (gq_at (pcsAt_nil w') hg.1.1.2) hg.1.1.1.2.1).pc i hil) hqn) ?_
          refine d_val (fun _ => rfl) rfl rfl (fun σ11 => o_move rfl) ?_
          refine d_val (fun _ => rfl) rfl rfl (fun σ11 => o_move rfl) ?_
          refine d_val (fun _ => rfl) rfl rfl (fun σ11 => o_idx (i) rfl hVb rfl (by first | rfl | omega) (by omega)) ?_
          refine d_val (fun _ => rfl) rfl rfl (fun σ11 => o_loadR1 rfl (row_imm (fun w2 hg => by exact (xb.2.2.2 w2 (gq_at (pcsAt_nil w2) hg.2) hg.1.2.1).row)) (el_one (by rw [hlb]; exact hil2))) ?_
          refine d_nil (fun σ11 => ?_)
          refine l_call (ks := [82]) rfl (o_callC (vs := [_, _]) (r := .bool true) (ent_of Try.func21 rfl rfl) rfl (fun w' hg hh => r_SameOneT w' (σ11.v 82) _ ((QA.getD i []).map (shP b.x b.y)) (by omega) (by rw [hsl]; exact σ11.ok 82) (by rw [hsl]; exact rowAt_own (hh 82 (by simp) _ rfl)) (by rw [← hTB]; exact hVb1) (by rw [← hTB]; exact (by exact (xb.2.2.2 w' (gq_at (pcsAt_nil w') hg.2) hg.1.2.1).pc i hil2)))) ?_
          refine l_val rfl (o_not rfl rfl) ?_
          refine l_nil ?_
          refine kt_norm ?_
          refine v_sel [14, 4, 6, 7, 8, 12, 13, 88] [6, 7, 8] rfl rfl ?_
          refine v_condF rfl ?_
          refine v_skip ?_
          refine kb_norm ?_
          refine kt_norm ?_
          refine v_region ?_
          refine l_val rfl (o_move rfl) ?_
          refine l_val rfl (o_addi rfl rfl ?_) ?_
          · omega
          refine l_val rfl (o_assign rfl) ?_
          refine l_nil ?_
          refine kt_norm ?_
          refine ⟨i + 1, hil, (by show QA.length - (i + 1) < QA.length - i; omega), le_app (And.intro rfl (True.intro)) [4, 6, 7, 8, 12, 13] rfl (True.intro) [6, 7, 8] rfl⟩
        · skip
          refine l_nil ?_
          refine kt_norm ?_
          refine v_condF rfl ?_
          refine v_exit ?_
          refine kt_exit ?_
          refine kt_exit ?_
          refine kb_eq ?_
          refine kt_norm ?_
          refine v_sel [4, 6, 7] [6, 7] rfl rfl ?_
          refine v_seq ?_
          refine v_region ?_
          refine l_val rfl (o_loadW (key := 6) rfl rfl rfl) ?_
          refine l_val rfl (o_loadW (key := 7) rfl rfl rfl) ?_
          refine l_val rfl (o_move rfl) ?_
          refine l_gsaid (ks := []) (caps := #[]) (vs := [_, _, _, _, _]) (α := PutsY (.slice none 0 0) [] [] (QC)) (fun x => x.1.1) (fun x w' => SaidOk w' x.1.2.2.1 x.1.2.2.2) (fun x b => x.1.2.2.2 b) rfl rfl (ent_of Try.func35 rfl rfl) rfl (fun x w1 w2 h hb => h.keep hb) (fun x w1 b h hb => h.lt hb) (fun w' hg hh => a_CapQ w' _ [] [] p h pcsW_nil capd_nil (pcsAt_nil w') (by show 0 ≤ 2000; omega) hgp hgr u hux huy 1 hQC) fun xc => ?_
          have hVxc : RowV xc.1.1 (QC.length) := xc.2.1.V
          have hlxc : xc.1.2.1.length = (QC.length) := xc.2.1.lenv
          refine l_val rfl (o_assign rfl) ?_
          refine l_nil ?_
          refine kt_norm ?_
          refine v_seq ?_
          refine v_region ?_
          refine l_val rfl (o_loadW (key := 7) rfl rfl rfl) ?_
          refine l_val rfl (o_move rfl) ?_
          refine l_ans (vs := [_, _]) rfl rfl (r_nrm (by omega) hux huy hf) ?_
          refine l_new rfl o_alloc fun b16 => ?_
          refine l_store rfl (o_storeW (key := 16) (xs := [_, _]) rfl rfl rfl rfl rfl rfl rfl) ?_
          refine l_nil ?_
          refine kt_norm ?_
          refine v_sel [6, 7, 15, 16] [6, 7, 16] rfl rfl ?_
          refine v_seq ?_
          refine v_drawW [] [[7], [], [], [], [], [], [], [], [], [], [], [], [6], [], [16], [], [], [6], [], [16], [], [], [], [], [], []] mixed ?_ (by kernel_rfl) (by kernel_rfl)
          refine d_val (fun _ => rfl) rfl rfl (fun σ15 => o_loadW (key := 7) rfl rfl rfl) ?_
          refine d_val (fun _ => rfl) rfl rfl (fun σ15 => o_build (vs := []) (cs := [_, _]) rfl rfl) ?_
          refine d_eqs (xl := [_, _]) (yl := [_, _]) (az := [_, _]) (bz := [_, _]) (fun _ => rfl) (fun _ => rfl) (fun _ => rfl) rfl rfl rfl rfl (fun hu0 => ?_) (fun hu0 => ?_)
          · simp only [List.map_cons, List.map_nil, List.cons.injEq, and_true] at hu0
            refine d_val (fun _ => rfl) rfl rfl (fun σ15 => o_move rfl) ?_
            skip
            refine d_no (fun _ => rfl) ?_
            refine d_no (fun _ => rfl) ?_
            refine d_no (fun _ => rfl) ?_
            refine d_no (fun _ => rfl) ?_
            refine d_no (fun _ => rfl) ?_
            refine d_no (fun _ => rfl) ?_
            refine d_no (fun _ => rfl) ?_
            refine d_no (fun _ => rfl) ?_
            refine d_no (fun _ => rfl) ?_
            refine d_no (fun _ => rfl) ?_
            refine d_no (fun _ => rfl) ?_
            refine d_no (fun _ => rfl) ?_
            refine d_no (fun _ => rfl) ?_
            refine d_no (fun _ => rfl) ?_
            refine d_no (fun _ => rfl) ?_
            refine d_no (fun _ => rfl) ?_
            refine d_no (fun _ => rfl) ?_
            refine d_no (fun _ => rfl) ?_
            refine d_no (fun _ => rfl) ?_
            refine d_no (fun _ => rfl) ?_
            refine d_val (fun _ => rfl) rfl rfl (fun σ15 => o_pickT rfl rfl) ?_
            refine d_val (fun _ => rfl) rfl rfl (fun σ15 => o_assign rfl) ?_
            refine d_nil (fun σ15 => ?_)
            refine l_nil ?_
            refine kt_norm ?_
            refine v_sel [10] [] rfl rfl ?_
            refine v_ret ?_
            refine ⟨[_], .cons (.tmp rfl) (ResAll.nil), ?_⟩
            rfl
          · simp only [List.map_cons, List.map_nil, List.cons.injEq, and_true] at hu0
            refine d_val (fun _ => rfl) rfl rfl (fun σ15 => o_move rfl) ?_
            obtain ⟨B, hB, hBc, hBl⟩ := hcq hu0
            have hC1 : QC.length = 1 := by rw [hB]; rfl
            have hB0 : QC.getD 0 [] = B := by rw [hB]; rfl
            have hVc0 : RowV (xc.1.2.1.getD 0 undef) B.length := by have := xc.2.1.pV 0 (by omega); rw [hB0] at this; exact this
            have hB4 := hBc.len
            refine d_val (fun _ => rfl) rfl rfl (fun σ15 => o_move rfl) ?_
            refine d_val (fun _ => rfl) rfl rfl (fun σ15 => o_len rfl hVxc) ?_
            refine d_eql (fun _ => rfl) (fun _ => rfl) (fun _ => rfl) (fun q3 => ?_) (fun q3 => absurd (show _ by omega) q3)
            refine d_val (fun _ => rfl) rfl rfl (fun σ15 => o_move rfl) ?_
            refine d_val (fun _ => rfl) rfl rfl (fun σ15 => o_move rfl) ?_
            refine d_val (fun _ => rfl) rfl rfl (fun σ15 => o_idx (0) rfl hVxc rfl (by first | rfl | omega) (by omega)) ?_
            refine d_val (fun _ => rfl) rfl rfl (fun σ15 => o_loadR1 rfl (row_imm (fun w2 hg => by exact (xc.2.2.2 w2 (pcsAt_nil w2) hg.2.1).row)) (el_one (by rw [hlxc]; omega))) ?_
            refine d_val (fun _ => rfl) rfl rfl (fun σ15 => o_fld rfl) ?_
            refine d_val (fun _ => rfl) rfl rfl (fun σ15 => o_load1 (key := 6) rfl rfl rfl) ?_
            refine d_val (fun _ => rfl) rfl rfl (fun σ15 => o_fld rfl) ?_
            refine d_val (fun _ => rfl) rfl rfl (fun σ15 => o_load1 (key := 16) rfl rfl rfl) ?_
            refine d_val (fun _ => rfl) rfl rfl (fun σ15 => o_addi rfl rfl ?_) ?_
            · omega
            refine d_val (fun _ => rfl) rfl rfl (fun σ15 => o_fld rfl) ?_
            refine d_val (fun _ => rfl) rfl rfl (fun σ15 => o_load1 (key := 6) rfl rfl rfl) ?_
            refine d_val (fun _ => rfl) rfl rfl (fun σ15 => o_fld rfl) ?_
            refine d_val (fun _ => rfl) rfl rfl (fun σ15 => o_load1 (key := 16) rfl rfl rfl) ?_
            refine d_val (fun _ => rfl) rfl rfl (fun σ15 => o_addi rfl rfl ?_) ?_
            · omega
            refine d_val (fun _ => rfl) rfl rfl (fun σ15 => o_build (vs := [_, _]) (cs := [_, _]) rfl rfl) ?_
            refine d_gcall (y := .bool true) (caps := #[]) (fun _ => rfl) (fun _ => rfl) (ent_of Try.func18 rfl rfl) (vs := fun _ => [_, _]) (fun _ => rfl) (fun σ15 w' hg hh => a_HasC w' _ B ⟨p.x + f.x, p.y + f.y⟩ (by omega) hVc0 (by have := (xc.2.2.2 w' (pcsAt_nil w') hg.2.1).pc 0 (by omega); rw [hB0] at this; exact this) hBc.near (by unfold NearT; dsimp only; omega) hBc.cx hBl) ?_
            refine d_val (fun _ => rfl) rfl rfl (fun σ15 => o_pickT rfl rfl) ?_
            refine d_val (fun _ => rfl) rfl rfl (fun σ15 => o_pickF rfl rfl) ?_
            refine d_val (fun _ => rfl) rfl rfl (fun σ15 => o_assign rfl) ?_
            refine d_nil (fun σ15 => ?_)
            refine l_nil ?_
            refine kt_norm ?_
            refine v_sel [10] [] rfl rfl ?_
            refine v_ret ?_
            refine ⟨[_], .cons (.tmp rfl) (ResAll.nil), ?_⟩
            rfl
      · skip
        refine l_val rfl (o_not rfl rfl) ?_
        refine l_val rfl (o_pickF rfl rfl) ?_
        refine l_val rfl (o_move rfl) ?_
        refine l_no rfl ?_
        refine l_no rfl ?_
        refine l_val rfl (o_pickT rfl rfl) ?_
        refine l_nil ?_
        refine kt_norm ?_
        refine v_sel [0, 4, 6, 7, 8, 11, 46] [6, 7, 8, 11] rfl rfl ?_
        refine v_condT rfl ?_
        refine v_seq ?_
        refine v_region ?_
        refine l_call (ks := []) rfl (o_callC (vs := []) (r := .bool true) (ent_of Try.func32 rfl rfl) rfl (fun w' hg hh => a_shownK w')) ?_
        refine l_val rfl (o_assign rfl) ?_
        refine l_nil ?_
        refine kt_norm ?_
        refine v_sel [10] [] rfl rfl ?_
        refine v_ret ?_
        refine kt_ret ?_
        refine ⟨[_], .cons (.tmp rfl) (ResAll.nil), ?_⟩
        rfl
    · skip
      refine l_val rfl (o_not rfl rfl) ?_
      refine l_val rfl (o_pickF rfl rfl) ?_
      refine l_val rfl (o_move rfl) ?_
      refine l_no rfl ?_
      refine l_no rfl ?_
      refine l_no rfl ?_
      refine l_val rfl (o_pickT rfl rfl) ?_
      refine l_val rfl (o_move rfl) ?_
      refine l_no rfl ?_
      refine l_no rfl ?_
      refine l_val rfl (o_pickT rfl rfl) ?_
      refine l_nil ?_
      refine kt_norm ?_
      refine v_sel [0, 4, 6, 7, 8, 11, 46] [6, 7, 8, 11] rfl rfl ?_
      refine v_condT rfl ?_
      refine v_seq ?_
      refine v_region ?_
      refine l_call (ks := []) rfl (o_callC (vs := []) (r := .bool true) (ent_of Try.func32 rfl rfl) rfl (fun w' hg hh => a_shownK w')) ?_
      refine l_val rfl (o_assign rfl) ?_
      refine l_nil ?_
      refine kt_norm ?_
      refine v_sel [10] [] rfl rfl ?_
      refine v_ret ?_
      refine kt_ret ?_
      refine ⟨[_], .cons (.tmp rfl) (ResAll.nil), ?_⟩
      rfl
  · skip
    refine l_val rfl (o_not rfl rfl) ?_
    refine l_val rfl (o_move rfl) ?_
    refine l_no rfl ?_
    refine l_no rfl ?_
    refine l_no rfl ?_
    refine l_val rfl (o_pickT rfl rfl) ?_
    refine l_val rfl (o_move rfl) ?_
    refine l_no rfl ?_
    refine l_no rfl ?_
    refine l_no rfl ?_
    refine l_val rfl (o_pickT rfl rfl) ?_
    refine l_val rfl (o_move rfl) ?_
    refine l_no rfl ?_
    refine l_no rfl ?_
    refine l_val rfl (o_pickT rfl rfl) ?_
    refine l_nil ?_
    refine kt_norm ?_
    refine v_sel [0, 4, 6, 7, 8, 11, 46] [6, 7, 8, 11] rfl rfl ?_
    refine v_condT rfl ?_
    refine v_seq ?_
    refine v_region ?_
    refine l_call (ks := []) rfl (o_callC (vs := []) (r := .bool true) (ent_of Try.func32 rfl rfl) rfl (fun w' hg hh => a_shownK w')) ?_
    refine l_val rfl (o_assign rfl) ?_
    refine l_nil ?_
    refine kt_norm ?_
    refine v_sel [10] [] rfl rfl ?_
    refine v_ret ?_
    refine kt_ret ?_
    refine ⟨[_], .cons (.tmp rfl) (ResAll.nil), ?_⟩
    rfl
end Go.Proofs.Ytpgjbalnipinoaa
