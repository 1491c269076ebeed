import Derived.Test.YtpgjbalnipinoaaM1
import Derived.Test.YtpgjbalnipinoaaM2
import Derived.Test.YtpgjbalnipinoaaM3
import Derived.Test.YtpgjbalnipinoaaM4
import Derived.Test.YtpgjbalnipinoaaM5
/- Caps and dots. Conditions: none. -/
namespace Go.Proofs.Ytpgjbalnipinoaa
open Go.Proofs Go.RowKit Go.Shelf

instance : TOne Try.prog 42 := .of (by kernel_rfl) (by kernel_rfl)
instance : TZero Try.prog 70 [.nilFunc, .nilFunc, .nilFunc] := .of (by kernel_rfl)
instance : TAgg Try.prog 70 3 := .of (by kernel_rfl) (by kernel_rfl)
instance : TArr Try.prog 70 42 1 3 [.nilFunc, .nilFunc, .nilFunc] := .of (by kernel_rfl) (by kernel_rfl) (by kernel_rfl) (by decide)
/-- the corners of a square cap, around its end -/
def sqC (s f : PtT) : List PtT := [s, ⟨s.x + f.x, s.y + f.y⟩, ⟨f.x - s.x, f.y - s.y⟩, ⟨-s.x, -s.y⟩]
def sqT (p u : PtT) (h : Int) (qs : List (List PtT)) : List (List PtT) := if normT ⟨-u.y, u.x⟩ h = ⟨0, 0⟩ ∨ normT u h = ⟨0, 0⟩ then qs else putT qs ((sqC (normT ⟨-u.y, u.x⟩ h) (normT u h)).map (addP p))
theorem sqT_no {p u s f : PtT} {h : Int} {qs : List (List PtT)} (hs : normT ⟨-u.y, u.x⟩ h = s) (hf : normT u h = f) (h0 : (s.x = 0 ∧ s.y = 0) ∨ (f.x = 0 ∧ f.y = 0)) : sqT p u h qs = qs := by
  unfold sqT; rw [hs, hf, if_pos (h0.imp pt_ext pt_ext)]
theorem sqT_yes {p u s f : PtT} {h : Int} {qs : List (List PtT)} (hs : normT ⟨-u.y, u.x⟩ h = s) (hf : normT u h = f) (h1 : ¬ (s.x = 0 ∧ s.y = 0)) (h2 : ¬ (f.x = 0 ∧ f.y = 0)) : sqT p u h qs = putT qs ((sqC s f).map (addP p)) := by
  unfold sqT; rw [hs, hf, if_neg (fun e => e.elim (fun e => h1 (by rw [e]; exact ⟨rfl, rfl⟩)) (fun e => h2 (by rw [e]; exact ⟨rfl, rfl⟩)))]
theorem sq_bd {s f : PtT} {h : Int} (hh : h ≤ 131072) (hs : (-h ≤ s.x ∧ s.x ≤ h) ∧ (-h ≤ s.y ∧ s.y ≤ h)) (hf : (-h ≤ f.x ∧ f.x ≤ h) ∧ (-h ≤ f.y ∧ f.y ≤ h)) : ∀ j, j < (sqC s f).length → BdT ((sqC s f).getD j dP) := fun j hj => by
  have := pt_mem hj
  generalize (sqC s f).getD j dP = q at this
  unfold sqC at this
  simp only [List.mem_cons, List.not_mem_nil, or_false] at this
  rcases this with rfl | rfl | rfl | rfl <;> (unfold BdT; first | omega | (dsimp only; omega))
def boxC (h : Int) : List PtT := [⟨-h, -h⟩, ⟨h, -h⟩, ⟨h, h⟩, ⟨-h, h⟩]
theorem box_bd {h : Int} (hh : 1 ≤ h ∧ h ≤ 131072) : ∀ j, j < (boxC h).length → BdT ((boxC h).getD j dP) := fun j hj => by
  have := pt_mem hj
  generalize (boxC h).getD j dP = q at this
  unfold boxC at this
  simp only [List.mem_cons, List.not_mem_nil, or_false] at this
  rcases this with rfl | rfl | rfl | rfl <;> (unfold BdT; dsimp only; omega)
/-- what a cap of a kind comes to, and a dot -/
def capK (k : Int) (p u : PtT) (h : Int) (qs : List (List PtT)) : List (List PtT) := if k = 1 then sqT p u h qs else if k = 2 then halfT p u h qs else qs
def dotK (k : Int) (p : PtT) (h : Int) (qs : List (List PtT)) : List (List PtT) := if k = 1 then putT qs ((boxC h).map (addP p)) else if k = 2 then piesT p h (discC h) qs else qs
set_option maxHeartbeats 2000000 in
theorem a_square1 (w : World) (v : Value) (pvs : List Value) (qs : List (List PtT)) (p : PtT) (h : Int) (hv : PcsW v pvs qs) (hcp : Capd v) (hat : PcsAt w v pvs qs) (hql : qs.length ≤ 2000) (hp : (-536870912 ≤ p.x ∧ p.x ≤ 536870912) ∧ (-536870912 ≤ p.y ∧ p.y ≤ 536870912)) (hr : 1 ≤ h ∧ h ≤ 131072) (u : PtT) (hx : -1073741824 ≤ u.x ∧ u.x ≤ 1073741824) (hy : -1073741824 ≤ u.y ∧ u.y ≤ 1073741824) : Calls Try.prog 52 #[v, .agg #[.int .i64 p.x, .int .i64 p.y], .agg #[.int .i64 u.x, .int .i64 u.y], .int .i64 h] w fun e w' => ∃ x : PutsY v pvs qs (sqT p u h qs), e = .returned x.1.1 ∧ Below w.heap.size w w' ∧ SaidOk w' x.1.2.2.1 x.1.2.2.2 ∧ ∀ b, x.1.2.2.2 b → w.heap.size ≤ b := by
  obtain ⟨s, hs⟩ : ∃ s, normT ⟨-u.y, u.x⟩ h = s := ⟨_, rfl⟩
  obtain ⟨f, hf⟩ : ∃ f, normT u h = f := ⟨_, rfl⟩
  have hbs := hs ▸ norm_bound (p := ⟨-u.y, u.x⟩) (r := h) (by dsimp only; omega) (by dsimp only; omega) (by omega)
  have hbf := hf ▸ norm_bound (p := u) (r := h) (by omega) (by omega) (by omega)
  have hno := fun h0 => sqT_no (p := p) (qs := qs) hs hf h0
  have hyes := fun h1 h2 => sqT_yes (p := p) (qs := qs) hs hf h1 h2
  obtain ⟨Z, hZ⟩ : ∃ Z, sqT p u h qs = Z := ⟨_, rfl⟩
  rw [hZ] at hno hyes ⊢
  refine calls_said (args := [v, .agg #[.int .i64 p.x, .int .i64 p.y], .agg #[.int .i64 u.x, .int .i64 u.y], .int .i64 h]) (fun x : PutsY v pvs qs (Z) => x.1.1) (fun x w' => SaidOk w' x.1.2.2.1 x.1.2.2.2) (fun x b => x.1.2.2.2 b) Try.func52 rfl Try.ntmps52 Try.results52 rfl ?_
  refine v_seq ?_
  refine v_region ?_
  refine l_new rfl (o_box (cs := [_, _]) rfl rfl) fun b5 => ?_
  refine l_new rfl (o_box (cs := [_, _]) rfl rfl) fun b6 => ?_
  refine l_val rfl (o_assign rfl) ?_
  refine l_nil ?_
  refine kt_norm ?_
  refine v_seq ?_
  refine v_drawZ [[6], [], [], [], [6], [], [], [], [], [9], [10]] mixed ?_ (by kernel_rfl) (by kernel_rfl)
  refine d_val (fun _ => rfl) rfl rfl (fun _ => o_loadW (key := 6) rfl rfl rfl) ?_
  refine d_ans (vs := [_]) (fun _ => rfl) (fun _ => rfl) (a_Left _ _ ?_ ?_) ?_
  · omega
  · omega
  refine d_val (fun _ => rfl) rfl rfl (fun _ => o_move rfl) ?_
  refine d_ans (vs := [_, _]) (fun _ => rfl) (fun _ => rfl) (a_nrm (u := ⟨-u.y, u.x⟩) hr (by dsimp only; omega) (by dsimp only; omega) hs) ?_
  refine d_val (fun _ => rfl) rfl rfl (fun _ => o_loadW (key := 6) rfl rfl rfl) ?_
  refine d_val (fun _ => rfl) rfl rfl (fun _ => o_move rfl) ?_
  refine d_ans (vs := [_, _]) (fun _ => rfl) (fun _ => rfl) (a_nrm hr hx hy hf) ?_
  refine d_new (fun _ => rfl) rfl rfl (fun _ => o_alloc) ?_
  refine d_new (fun _ => rfl) rfl rfl (fun _ => o_alloc) ?_
  refine d_store (fun _ => rfl) rfl rfl (fun _ => o_storeW (key := 9) (xs := [_, _]) rfl rfl rfl rfl rfl rfl rfl) ?_
  refine d_store (fun _ => rfl) rfl rfl (fun _ => o_storeW (key := 10) (xs := [_, _]) rfl rfl rfl rfl rfl rfl rfl) ?_
  refine d_nil (fun σ => ?_)
  refine l_nil ?_
  refine kt_norm ?_
  refine v_sel [0, 5, 9, 10] [5, 9, 10] rfl rfl ?_
  refine v_seq ?_
  refine v_seq ?_
  refine v_region ?_
  refine l_val rfl (o_loadW (key := 9) rfl rfl rfl) ?_
  refine l_val rfl (o_build (vs := []) (cs := [_, _]) rfl rfl) ?_
  refine l_split rfl (o_eqs (xl := [_, _]) (yl := [_, _]) (az := [_, _]) (bz := [_, _]) rfl rfl rfl rfl rfl rfl) (fun hs0 => ?_) (fun hs0 => ?_)
  · simp only [List.map_cons, List.map_nil, List.cons.injEq, and_true] at hs0
    refine l_val rfl (o_move rfl) ?_
    refine l_no rfl ?_
    refine l_no rfl ?_
    refine l_no rfl ?_
    refine l_val rfl (o_pickT rfl rfl) ?_
    refine l_nil ?_
    refine kt_norm ?_
    refine v_sel [0, 5, 9, 10, 25] [5, 9, 10] rfl rfl ?_
    refine v_condT rfl ?_
    refine v_seq ?_
    refine v_region ?_
    refine l_val rfl (o_move rfl) ?_
    refine l_val rfl (o_assign rfl) ?_
    refine l_nil ?_
    refine kt_norm ?_
    refine v_sel [8] [] rfl rfl ?_
    refine v_ret ?_
    refine kt_ret ?_
    refine ⟨[_], .cons (.tmp rfl) (ResAll.nil), ?_⟩
    first
      | exact ⟨⟨(v, pvs, fun _ => True, fun _ => False), (hno (.inl hs0)).symm ▸ hv, hcp, fun w2 h _ => (hno (.inl hs0)).symm ▸ h⟩, rfl, fun w' ho => ⟨⟨trivial, fun b hb => hb.elim, fun _ _ _ _ => trivial⟩, fun b hb => hb.elim⟩⟩
      | exact ⟨⟨(v, pvs, fun _ => True, fun _ => False), (hno (.inr hf0)).symm ▸ hv, hcp, fun w2 h _ => (hno (.inr hf0)).symm ▸ h⟩, rfl, fun w' ho => ⟨⟨trivial, fun b hb => hb.elim, fun _ _ _ _ => trivial⟩, fun b hb => hb.elim⟩⟩
      | exact ⟨⟨xr.1, (hyes hs0 hf0).symm ▸ xr.2⟩, rfl, fun w' ho => ⟨(ho.mo 39 _ rfl).1.1, fun b hb => ((ho.mo 39 _ rfl).2 b hb).elim id False.elim⟩⟩
  · simp only [List.map_cons, List.map_nil, List.cons.injEq, and_true] at hs0
    refine l_val rfl (o_move rfl) ?_
    refine l_val rfl (o_loadW (key := 10) rfl rfl rfl) ?_
    refine l_val rfl (o_build (vs := []) (cs := [_, _]) rfl rfl) ?_
    refine l_split rfl (o_eqs (xl := [_, _]) (yl := [_, _]) (az := [_, _]) (bz := [_, _]) rfl rfl rfl rfl rfl rfl) (fun hf0 => ?_) (fun hf0 => ?_)
    · simp only [List.map_cons, List.map_nil, List.cons.injEq, and_true] at hf0
      refine l_val rfl (o_pickF rfl rfl) ?_
      refine l_nil ?_
      refine kt_norm ?_
      refine v_sel [0, 5, 9, 10, 25] [5, 9, 10] rfl rfl ?_
      refine v_condT rfl ?_
      refine v_seq ?_
      refine v_region ?_
      refine l_val rfl (o_move rfl) ?_
      refine l_val rfl (o_assign rfl) ?_
      refine l_nil ?_
      refine kt_norm ?_
      refine v_sel [8] [] rfl rfl ?_
      refine v_ret ?_
      refine kt_ret ?_
      refine ⟨[_], .cons (.tmp rfl) (ResAll.nil), ?_⟩
      first
        | exact ⟨⟨(v, pvs, fun _ => True, fun _ => False), (hno (.inl hs0)).symm ▸ hv, hcp, fun w2 h _ => (hno (.inl hs0)).symm ▸ h⟩, rfl, fun w' ho => ⟨⟨trivial, fun b hb => hb.elim, fun _ _ _ _ => trivial⟩, fun b hb => hb.elim⟩⟩
        | exact ⟨⟨(v, pvs, fun _ => True, fun _ => False), (hno (.inr hf0)).symm ▸ hv, hcp, fun w2 h _ => (hno (.inr hf0)).symm ▸ h⟩, rfl, fun w' ho => ⟨⟨trivial, fun b hb => hb.elim, fun _ _ _ _ => trivial⟩, fun b hb => hb.elim⟩⟩
        | exact ⟨⟨xr.1, (hyes hs0 hf0).symm ▸ xr.2⟩, rfl, fun w' ho => ⟨(ho.mo 39 _ rfl).1.1, fun b hb => ((ho.mo 39 _ rfl).2 b hb).elim id False.elim⟩⟩
    · simp only [List.map_cons, List.map_nil, List.cons.injEq, and_true] at hf0
      refine l_val rfl (o_pickF rfl rfl) ?_
      refine l_nil ?_
      refine kt_norm ?_
      refine v_sel [0, 5, 9, 10, 25] [5, 9, 10] rfl rfl ?_
      refine v_condF rfl ?_
      refine v_skip ?_
      refine kt_norm ?_
      refine v_seq ?_
      refine v_drawW [(38, 4)] [[], [5], [9], [9], [10], [], [10], [9], [], [9], [], []] mixed ?_ (by kernel_rfl) (by kernel_rfl)
      refine d_val (fun _ => rfl) rfl rfl (fun σ4 => o_move rfl) ?_
      refine d_val (fun _ => rfl) rfl rfl (fun σ4 => o_loadW (key := 5) rfl rfl rfl) ?_
      refine d_val (fun _ => rfl) rfl rfl (fun σ4 => o_loadW (key := 9) rfl rfl rfl) ?_
      refine d_val (fun _ => rfl) rfl rfl (fun σ4 => o_loadW (key := 9) rfl rfl rfl) ?_
      refine d_val (fun _ => rfl) rfl rfl (fun σ4 => o_loadW (key := 10) rfl rfl rfl) ?_
      refine d_ans (vs := [_, _]) (fun _ => rfl) (fun _ => rfl) (a_PAdd _ _ _ _ ?_ ?_ ?_ ?_) ?_
      · omega
      · omega
      · omega
      · omega
      refine d_val (fun _ => rfl) rfl rfl (fun σ4 => o_loadW (key := 10) rfl rfl rfl) ?_
      refine d_val (fun _ => rfl) rfl rfl (fun σ4 => o_loadW (key := 9) rfl rfl rfl) ?_
      refine d_ans (vs := [_, _]) (fun _ => rfl) (fun _ => rfl) (a_PSub _ _ _ _ ?_ ?_ ?_ ?_) ?_
      · omega
      · omega
      · omega
      · omega
      refine d_val (fun _ => rfl) rfl rfl (fun σ4 => o_loadW (key := 9) rfl rfl rfl) ?_
      refine d_ans (vs := [_]) (fun _ => rfl) (fun _ => rfl) (a_Neg _ _ ?_ ?_) ?_
      · omega
      · omega
      refine d_bsO (n := 4) (vs := fun _ => [_, _, _, _]) (cs := fun _ => [_, _, _, _, _, _, _, _]) (fun _ => rfl) (fun _ => rfl) (fun _ => rfl) rfl rfl (fun _ => rfl) (fun _ => rfl) ?_
      refine d_nil (fun σ4 => ?_)
      refine l_hsaid (ks := [38]) (caps := #[]) (vs := [_, _, _]) (α := PutsY v pvs qs (putT qs ((sqC s f).map (addP p)))) (fun x => x.1.1) (fun x w' => SaidOk w' x.1.2.2.1 x.1.2.2.2) (fun x b => x.1.2.2.2 b) rfl rfl (ent_of Try.func55 rfl rfl) rfl (fun x w1 w2 h hb => h.keep hb) (fun x w1 b h hb => h.2.1 b hb) (fun w' hg hh => a_around w' _ pvs qs p hv hcp (hat.keep hg) hql hp _ (sqC s f) rfl (.inl ⟨_, _, _, rfl⟩) (rowAt_own (hh 38 (by simp) _ rfl)) (sq_bd hr.2 hbs hbf)) fun xr => ?_
      refine l_val rfl (o_assign rfl) ?_
      refine l_nil ?_
      refine kt_norm ?_
      refine v_sel [8] [39] rfl rfl ?_
      refine v_ret ?_
      refine ⟨[_], .cons (.tmp rfl) (ResAll.nil), ?_⟩
      first
        | exact ⟨⟨(v, pvs, fun _ => True, fun _ => False), (hno (.inl hs0)).symm ▸ hv, hcp, fun w2 h _ => (hno (.inl hs0)).symm ▸ h⟩, rfl, fun w' ho => ⟨⟨trivial, fun b hb => hb.elim, fun _ _ _ _ => trivial⟩, fun b hb => hb.elim⟩⟩
        | exact ⟨⟨(v, pvs, fun _ => True, fun _ => False), (hno (.inr hf0)).symm ▸ hv, hcp, fun w2 h _ => (hno (.inr hf0)).symm ▸ h⟩, rfl, fun w' ho => ⟨⟨trivial, fun b hb => hb.elim, fun _ _ _ _ => trivial⟩, fun b hb => hb.elim⟩⟩
        | exact ⟨⟨xr.1, (hyes hs0 hf0).symm ▸ xr.2⟩, rfl, fun w' ho => ⟨(ho.mo 39 _ rfl).1.1, fun b hb => ((ho.mo 39 _ rfl).2 b hb).elim id False.elim⟩⟩
theorem a_none (w : World) (v : Value) (p u : PtT) (h : Int) : Calls Try.prog 51 #[v, .agg #[.int .i64 p.x, .int .i64 p.y], .agg #[.int .i64 u.x, .int .i64 u.y], .int .i64 h] w fun e w' => e = .returned v ∧ Below w.heap.size w w' := by
  refine calls_of (args := [v, .agg #[.int .i64 p.x, .int .i64 p.y], .agg #[.int .i64 u.x, .int .i64 u.y], .int .i64 h]) Try.func51 rfl Try.ntmps51 Try.results51 rfl ?_
  refine v_seq ?_
  refine v_region ?_
  refine l_new rfl (o_box (cs := [_, _]) rfl rfl) fun b5 => ?_
  refine l_new rfl (o_box (cs := [_, _]) rfl rfl) fun b6 => ?_
  refine l_val rfl (o_assign rfl) ?_
  refine l_nil ?_
  refine kt_norm ?_
  refine v_sel [0] [] rfl rfl ?_
  refine v_seq ?_
  refine v_region ?_
  refine l_val rfl (o_move rfl) ?_
  refine l_val rfl (o_assign rfl) ?_
  refine l_nil ?_
  refine kt_norm ?_
  refine v_ret ?_
  refine ⟨[_], .cons (.tmp rfl) (ResAll.nil), ?_⟩
  rfl
theorem a_PutK0 (w : World) (v : Value) (pvs : List Value) (qs : List (List PtT)) (p : PtT) (h : Int) (hv : PcsW v pvs qs) (hcp : Capd v) (hat : PcsAt w v pvs qs) (hql : qs.length ≤ 2000) (hp : (-536870912 ≤ p.x ∧ p.x ≤ 536870912) ∧ (-536870912 ≤ p.y ∧ p.y ≤ 536870912)) (hr : 1 ≤ h ∧ h ≤ 131072) (u : PtT) (hx : -1073741824 ≤ u.x ∧ u.x ≤ 1073741824) (hy : -1073741824 ≤ u.y ∧ u.y ≤ 1073741824) {Z : List (List PtT)} (hZ : Z = qs) : Calls Try.prog 35 #[v, .int .i64 0, .agg #[.int .i64 p.x, .int .i64 p.y], .agg #[.int .i64 u.x, .int .i64 u.y], .int .i64 h] w fun e w' => ∃ x : PutsY v pvs qs (Z), e = .returned x.1.1 ∧ Below w.heap.size w w' ∧ SaidOk w' x.1.2.2.1 x.1.2.2.2 ∧ ∀ b, x.1.2.2.2 b → w.heap.size ≤ b := by
  refine calls_said (args := [v, .int .i64 0, .agg #[.int .i64 p.x, .int .i64 p.y], .agg #[.int .i64 u.x, .int .i64 u.y], .int .i64 h]) (fun x : PutsY v pvs qs (Z) => x.1.1) (fun x w' => SaidOk w' x.1.2.2.1 x.1.2.2.2) (fun x b => x.1.2.2.2 b) Try.func35 rfl Try.ntmps35 Try.results35 rfl ?_
  refine v_seq ?_
  refine v_region ?_
  refine l_new rfl (o_box (cs := [_, _]) rfl rfl) fun b7 => ?_
  refine l_new rfl (o_box (cs := [_, _]) rfl rfl) fun b8 => ?_
  refine l_val rfl (o_assign rfl) ?_
  refine l_nil ?_
  refine kt_norm ?_
  refine v_seq ?_
  refine v_region ?_
  refine l_val rfl (o_buildA (vs := [_, _, _]) (cs := [_, _, _]) rfl rfl) ?_
  refine l_new rfl o_alloc fun b11 => ?_
  refine l_store rfl (o_storeW (key := 11) (xs := [_, _, _]) rfl rfl rfl rfl rfl rfl rfl) ?_
  refine l_nil ?_
  refine kt_norm ?_
  refine v_seq ?_
  refine v_seq ?_
  refine v_region ?_
  refine l_val rfl (o_move rfl) ?_
  refine l_split rfl (o_lss rfl rfl) (fun q1 => absurd q1 (by omega)) (fun q1 => ?_)
  refine l_val rfl (o_move rfl) ?_
  refine l_val rfl (o_move rfl) ?_
  refine l_split rfl (o_geq rfl rfl) (fun q2 => absurd q2 (by omega)) (fun q2 => ?_)
  refine l_val rfl (o_pickF rfl rfl) ?_
  refine l_nil ?_
  refine kt_norm ?_
  refine v_sel [0, 1, 4, 7, 8, 11, 18] [7, 8, 11] rfl rfl ?_
  refine v_condF rfl ?_
  refine v_skip ?_
  refine kt_norm ?_
  refine v_seq ?_
  refine v_drawW [] [[], [], [11], [], [7], [8], []] mixed ?_ (by kernel_rfl) (by kernel_rfl)
  refine d_val (fun _ => rfl) rfl rfl (fun σ4 => o_move rfl) ?_
  refine d_val (fun _ => rfl) rfl rfl (fun σ4 => o_idxA 0 rfl rfl rfl (by decide)) ?_
  refine d_val (fun _ => rfl) rfl rfl (fun σ4 => o_load1 (key := 11) rfl rfl rfl) ?_
  refine d_val (fun _ => rfl) rfl rfl (fun σ4 => o_move rfl) ?_
  refine d_val (fun _ => rfl) rfl rfl (fun σ4 => o_loadW (key := 7) rfl rfl rfl) ?_
  refine d_val (fun _ => rfl) rfl rfl (fun σ4 => o_loadW (key := 8) rfl rfl rfl) ?_
  refine d_val (fun _ => rfl) rfl rfl (fun σ4 => o_move rfl) ?_
  refine d_nil (fun σ4 => ?_)
  refine l_call (ks := []) rfl (o_callF (caps := #[]) (vs := [_, _, _, _]) (r := v) rfl (ent_of Try.func51 rfl rfl) rfl (fun w' hg _ => a_none w' v p u h)) ?_
  refine l_val rfl (o_assign rfl) ?_
  refine l_nil ?_
  refine kt_norm ?_
  refine v_sel [10] [] rfl rfl ?_
  refine v_ret ?_
  refine ⟨[_], .cons (.tmp rfl) (ResAll.nil), ?_⟩
  exact ⟨⟨(v, pvs, fun _ => True, fun _ => False), (hZ).symm ▸ hv, hcp, fun w2 h _ => (hZ).symm ▸ h⟩, rfl, fun w' ho => ⟨⟨trivial, fun b hb => hb.elim, fun _ _ _ _ => trivial⟩, fun b hb => hb.elim⟩⟩
theorem a_PutK1 (w : World) (v : Value) (pvs : List Value) (qs : List (List PtT)) (p : PtT) (h : Int) (hv : PcsW v pvs qs) (hcp : Capd v) (hat : PcsAt w v pvs qs) (hql : qs.length ≤ 2000) (hp : (-536870912 ≤ p.x ∧ p.x ≤ 536870912) ∧ (-536870912 ≤ p.y ∧ p.y ≤ 536870912)) (hr : 1 ≤ h ∧ h ≤ 131072) (u : PtT) (hx : -1073741824 ≤ u.x ∧ u.x ≤ 1073741824) (hy : -1073741824 ≤ u.y ∧ u.y ≤ 1073741824) {Z : List (List PtT)} (hZ : Z = sqT p u h qs) : Calls Try.prog 35 #[v, .int .i64 1, .agg #[.int .i64 p.x, .int .i64 p.y], .agg #[.int .i64 u.x, .int .i64 u.y], .int .i64 h] w fun e w' => ∃ x : PutsY v pvs qs (Z), e = .returned x.1.1 ∧ Below w.heap.size w w' ∧ SaidOk w' x.1.2.2.1 x.1.2.2.2 ∧ ∀ b, x.1.2.2.2 b → w.heap.size ≤ b := by
  refine calls_said (args := [v, .int .i64 1, .agg #[.int .i64 p.x, .int .i64 p.y], .agg #[.int .i64 u.x, .int .i64 u.y], .int .i64 h]) (fun x : PutsY v pvs qs (Z) => x.1.1) (fun x w' => SaidOk w' x.1.2.2.1 x.1.2.2.2) (fun x b => x.1.2.2.2 b) Try.func35 rfl Try.ntmps35 Try.results35 rfl ?_
  refine v_seq ?_
  refine v_region ?_
  refine l_new rfl (o_box (cs := [_, _]) rfl rfl) fun b7 => ?_
  refine l_new rfl (o_box (cs := [_, _]) rfl rfl) fun b8 => ?_
  refine l_val rfl (o_assign rfl) ?_
  refine l_nil ?_
  refine kt_norm ?_
  refine v_seq ?_
  refine v_region ?_
  refine l_val rfl (o_buildA (vs := [_, _, _]) (cs := [_, _, _]) rfl rfl) ?_
  refine l_new rfl o_alloc fun b11 => ?_
  refine l_store rfl (o_storeW (key := 11) (xs := [_, _, _]) rfl rfl rfl rfl rfl rfl rfl) ?_
  refine l_nil ?_
  refine kt_norm ?_
  refine v_seq ?_
  refine v_seq ?_
  refine v_region ?_
  refine l_val rfl (o_move rfl) ?_
  refine l_split rfl (o_lss rfl rfl) (fun q1 => absurd q1 (by omega)) (fun q1 => ?_)
  refine l_val rfl (o_move rfl) ?_
  refine l_val rfl (o_move rfl) ?_
  refine l_split rfl (o_geq rfl rfl) (fun q2 => absurd q2 (by omega)) (fun q2 => ?_)
  refine l_val rfl (o_pickF rfl rfl) ?_
  refine l_nil ?_
  refine kt_norm ?_
  refine v_sel [0, 1, 4, 7, 8, 11, 18] [7, 8, 11] rfl rfl ?_
  refine v_condF rfl ?_
  refine v_skip ?_
  refine kt_norm ?_
  refine v_seq ?_
  refine v_drawW [] [[], [], [11], [], [7], [8], []] mixed ?_ (by kernel_rfl) (by kernel_rfl)
  refine d_val (fun _ => rfl) rfl rfl (fun σ4 => o_move rfl) ?_
  refine d_val (fun _ => rfl) rfl rfl (fun σ4 => o_idxA 1 rfl rfl rfl (by decide)) ?_
  refine d_val (fun _ => rfl) rfl rfl (fun σ4 => o_load1 (key := 11) rfl rfl rfl) ?_
  refine d_val (fun _ => rfl) rfl rfl (fun σ4 => o_move rfl) ?_
  refine d_val (fun _ => rfl) rfl rfl (fun σ4 => o_loadW (key := 7) rfl rfl rfl) ?_
  refine d_val (fun _ => rfl) rfl rfl (fun σ4 => o_loadW (key := 8) rfl rfl rfl) ?_
  refine d_val (fun _ => rfl) rfl rfl (fun σ4 => o_move rfl) ?_
  refine d_nil (fun σ4 => ?_)
  refine l_hsaid (ks := []) (caps := #[]) (vs := [_, _, _, _]) (α := PutsY v pvs qs (sqT p u h qs)) (fun x => x.1.1) (fun x w' => SaidOk w' x.1.2.2.1 x.1.2.2.2) (fun x b => x.1.2.2.2 b) rfl rfl (ent_of Try.func52 rfl rfl) rfl (fun x w1 w2 h hb => h.keep hb) (fun x w1 b h hb => h.2.1 b hb) (fun w' hg hh => a_square1 w' _ pvs qs p h hv hcp (hat.keep hg) hql hp hr u hx hy) fun xr => ?_
  refine l_val rfl (o_assign rfl) ?_
  refine l_nil ?_
  refine kt_norm ?_
  refine v_sel [10] [27] rfl rfl ?_
  refine v_ret ?_
  refine ⟨[_], .cons (.tmp rfl) (ResAll.nil), ?_⟩
  exact ⟨⟨xr.1, (hZ).symm ▸ xr.2⟩, rfl, fun w' ho => ⟨(ho.mo 27 _ rfl).1.1, fun b hb => ((ho.mo 27 _ rfl).2 b hb).elim id False.elim⟩⟩
theorem a_PutK2 (w : World) (v : Value) (pvs : List Value) (qs : List (List PtT)) (p : PtT) (h : Int) (hv : PcsW v pvs qs) (hcp : Capd v) (hat : PcsAt w v pvs qs) (hql : qs.length ≤ 2000) (hp : (-536870912 ≤ p.x ∧ p.x ≤ 536870912) ∧ (-536870912 ≤ p.y ∧ p.y ≤ 536870912)) (hr : 1 ≤ h ∧ h ≤ 131072) (u : PtT) (hx : -1073741824 ≤ u.x ∧ u.x ≤ 1073741824) (hy : -1073741824 ≤ u.y ∧ u.y ≤ 1073741824) {Z : List (List PtT)} (hZ : Z = halfT p u h qs) : Calls Try.prog 35 #[v, .int .i64 2, .agg #[.int .i64 p.x, .int .i64 p.y], .agg #[.int .i64 u.x, .int .i64 u.y], .int .i64 h] w fun e w' => ∃ x : PutsY v pvs qs (Z), e = .returned x.1.1 ∧ Below w.heap.size w w' ∧ SaidOk w' x.1.2.2.1 x.1.2.2.2 ∧ ∀ b, x.1.2.2.2 b → w.heap.size ≤ b := by
  refine calls_said (args := [v, .int .i64 2, .agg #[.int .i64 p.x, .int .i64 p.y], .agg #[.int .i64 u.x, .int .i64 u.y], .int .i64 h]) (fun x : PutsY v pvs qs (Z) => x.1.1) (fun x w' => SaidOk w' x.1.2.2.1 x.1.2.2.2) (fun x b => x.1.2.2.2 b) Try.func35 rfl Try.ntmps35 Try.results35 rfl ?_
  refine v_seq ?_
  refine v_region ?_
  refine l_new rfl (o_box (cs := [_, _]) rfl rfl) fun b7 => ?_
  refine l_new rfl (o_box (cs := [_, _]) rfl rfl) fun b8 => ?_
  refine l_val rfl (o_assign rfl) ?_
  refine l_nil ?_
  refine kt_norm ?_
  refine v_seq ?_
  refine v_region ?_
  refine l_val rfl (o_buildA (vs := [_, _, _]) (cs := [_, _, _]) rfl rfl) ?_
  refine l_new rfl o_alloc fun b11 => ?_
  refine l_store rfl (o_storeW (key := 11) (xs := [_, _, _]) rfl rfl rfl rfl rfl rfl rfl) ?_
  refine l_nil ?_
  refine kt_norm ?_
  refine v_seq ?_
  refine v_seq ?_
  refine v_region ?_
  refine l_val rfl (o_move rfl) ?_
  refine l_split rfl (o_lss rfl rfl) (fun q1 => absurd q1 (by omega)) (fun q1 => ?_)
  refine l_val rfl (o_move rfl) ?_
  refine l_val rfl (o_move rfl) ?_
  refine l_split rfl (o_geq rfl rfl) (fun q2 => absurd q2 (by omega)) (fun q2 => ?_)
  refine l_val rfl (o_pickF rfl rfl) ?_
  refine l_nil ?_
  refine kt_norm ?_
  refine v_sel [0, 1, 4, 7, 8, 11, 18] [7, 8, 11] rfl rfl ?_
  refine v_condF rfl ?_
  refine v_skip ?_
  refine kt_norm ?_
  refine v_seq ?_
  refine v_drawW [] [[], [], [11], [], [7], [8], []] mixed ?_ (by kernel_rfl) (by kernel_rfl)
  refine d_val (fun _ => rfl) rfl rfl (fun σ4 => o_move rfl) ?_
  refine d_val (fun _ => rfl) rfl rfl (fun σ4 => o_idxA 2 rfl rfl rfl (by decide)) ?_
  refine d_val (fun _ => rfl) rfl rfl (fun σ4 => o_load1 (key := 11) rfl rfl rfl) ?_
  refine d_val (fun _ => rfl) rfl rfl (fun σ4 => o_move rfl) ?_
  refine d_val (fun _ => rfl) rfl rfl (fun σ4 => o_loadW (key := 7) rfl rfl rfl) ?_
  refine d_val (fun _ => rfl) rfl rfl (fun σ4 => o_loadW (key := 8) rfl rfl rfl) ?_
  refine d_val (fun _ => rfl) rfl rfl (fun σ4 => o_move rfl) ?_
  refine d_nil (fun σ4 => ?_)
  refine l_hsaid (ks := []) (caps := #[]) (vs := [_, _, _, _]) (α := PutsY v pvs qs (halfT p u h qs)) (fun x => x.1.1) (fun x w' => SaidOk w' x.1.2.2.1 x.1.2.2.2) (fun x b => x.1.2.2.2 b) rfl rfl (ent_of Try.func24 rfl rfl) rfl (fun x w1 w2 h hb => h.keep hb) (fun x w1 b h hb => h.2.1 b hb) (fun w' hg hh => a_Half w' _ pvs qs p h hv hcp (hat.keep hg) hql hp hr u hx hy) fun xr => ?_
  refine l_val rfl (o_assign rfl) ?_
  refine l_nil ?_
  refine kt_norm ?_
  refine v_sel [10] [27] rfl rfl ?_
  refine v_ret ?_
  refine ⟨[_], .cons (.tmp rfl) (ResAll.nil), ?_⟩
  exact ⟨⟨xr.1, (hZ).symm ▸ xr.2⟩, rfl, fun w' ho => ⟨(ho.mo 27 _ rfl).1.1, fun b hb => ((ho.mo 27 _ rfl).2 b hb).elim id False.elim⟩⟩
theorem a_PutKx (w : World) (v : Value) (pvs : List Value) (qs : List (List PtT)) (p : PtT) (h : Int) (hv : PcsW v pvs qs) (hcp : Capd v) (hat : PcsAt w v pvs qs) (hql : qs.length ≤ 2000) (hp : (-536870912 ≤ p.x ∧ p.x ≤ 536870912) ∧ (-536870912 ≤ p.y ∧ p.y ≤ 536870912)) (hr : 1 ≤ h ∧ h ≤ 131072) (u : PtT) (hx : -1073741824 ≤ u.x ∧ u.x ≤ 1073741824) (hy : -1073741824 ≤ u.y ∧ u.y ≤ 1073741824) (k : Int) (hk : k < 0 ∨ 3 ≤ k) {Z : List (List PtT)} (hZ : Z = qs) : Calls Try.prog 35 #[v, .int .i64 k, .agg #[.int .i64 p.x, .int .i64 p.y], .agg #[.int .i64 u.x, .int .i64 u.y], .int .i64 h] w fun e w' => ∃ x : PutsY v pvs qs (Z), e = .returned x.1.1 ∧ Below w.heap.size w w' ∧ SaidOk w' x.1.2.2.1 x.1.2.2.2 ∧ ∀ b, x.1.2.2.2 b → w.heap.size ≤ b := by
  refine calls_said (args := [v, .int .i64 k, .agg #[.int .i64 p.x, .int .i64 p.y], .agg #[.int .i64 u.x, .int .i64 u.y], .int .i64 h]) (fun x : PutsY v pvs qs (Z) => x.1.1) (fun x w' => SaidOk w' x.1.2.2.1 x.1.2.2.2) (fun x b => x.1.2.2.2 b) Try.func35 rfl Try.ntmps35 Try.results35 rfl ?_
  refine v_seq ?_
  refine v_region ?_
  refine l_new rfl (o_box (cs := [_, _]) rfl rfl) fun b7 => ?_
  refine l_new rfl (o_box (cs := [_, _]) rfl rfl) fun b8 => ?_
  refine l_val rfl (o_assign rfl) ?_
  refine l_nil ?_
  refine kt_norm ?_
  refine v_seq ?_
  refine v_region ?_
  refine l_val rfl (o_buildA (vs := [_, _, _]) (cs := [_, _, _]) rfl rfl) ?_
  refine l_new rfl o_alloc fun b11 => ?_
  refine l_store rfl (o_storeW (key := 11) (xs := [_, _, _]) rfl rfl rfl rfl rfl rfl rfl) ?_
  refine l_nil ?_
  refine kt_norm ?_
  refine v_seq ?_
  refine v_seq ?_
  refine v_region ?_
  refine l_val rfl (o_move rfl) ?_
  refine l_split rfl (o_lss rfl rfl) (fun q1 => ?_) (fun q1 => ?_)
  · skip
    refine l_val rfl (o_move rfl) ?_
    refine l_no rfl ?_
    refine l_no rfl ?_
    refine l_val rfl (o_pickT rfl rfl) ?_
    refine l_nil ?_
    refine kt_norm ?_
    refine v_sel [0, 1, 4, 7, 8, 11, 18] [7, 8, 11] rfl rfl ?_
    refine v_condT rfl ?_
    refine v_seq ?_
    refine v_region ?_
    refine l_val rfl (o_move rfl) ?_
    refine l_val rfl (o_assign rfl) ?_
    refine l_nil ?_
    refine kt_norm ?_
    refine v_sel [10] [] rfl rfl ?_
    refine v_ret ?_
    refine kt_ret ?_
    refine ⟨[_], .cons (.tmp rfl) (ResAll.nil), ?_⟩
    exact ⟨⟨(v, pvs, fun _ => True, fun _ => False), (hZ).symm ▸ hv, hcp, fun w2 h _ => (hZ).symm ▸ h⟩, rfl, fun w' ho => ⟨⟨trivial, fun b hb => hb.elim, fun _ _ _ _ => trivial⟩, fun b hb => hb.elim⟩⟩
  · skip
    refine l_val rfl (o_move rfl) ?_
    refine l_val rfl (o_move rfl) ?_
    refine l_split rfl (o_geq rfl rfl) (fun q2 => ?_) (fun q2 => absurd (show _ by omega) q2)
    refine l_val rfl (o_pickF rfl rfl) ?_
    refine l_nil ?_
    refine kt_norm ?_
    refine v_sel [0, 1, 4, 7, 8, 11, 18] [7, 8, 11] rfl rfl ?_
    refine v_condT rfl ?_
    refine v_seq ?_
    refine v_region ?_
    refine l_val rfl (o_move rfl) ?_
    refine l_val rfl (o_assign rfl) ?_
    refine l_nil ?_
    refine kt_norm ?_
    refine v_sel [10] [] rfl rfl ?_
    refine v_ret ?_
    refine kt_ret ?_
    refine ⟨[_], .cons (.tmp rfl) (ResAll.nil), ?_⟩
    exact ⟨⟨(v, pvs, fun _ => True, fun _ => False), (hZ).symm ▸ hv, hcp, fun w2 h _ => (hZ).symm ▸ h⟩, rfl, fun w' ho => ⟨⟨trivial, fun b hb => hb.elim, fun _ _ _ _ => trivial⟩, fun b hb => hb.elim⟩⟩
theorem a_CapQ (w : World) (v : Value) (pvs : List Value) (qs : List (List PtT)) (p : PtT) (h : Int) (hv : PcsW v pvs qs) (hcp : Capd v) (hat : PcsAt w v pvs qs) (hql : qs.length ≤ 2000) (hp : (-536870912 ≤ p.x ∧ p.x ≤ 536870912) ∧ (-536870912 ≤ p.y ∧ p.y ≤ 536870912)) (hr : 1 ≤ h ∧ h ≤ 131072) (u : PtT) (hx : -1073741824 ≤ u.x ∧ u.x ≤ 1073741824) (hy : -1073741824 ≤ u.y ∧ u.y ≤ 1073741824) (k : Int) {Q : List (List PtT)} (hQ : capK k p u h qs = Q) : Calls Try.prog 35 #[v, .int .i64 k, .agg #[.int .i64 p.x, .int .i64 p.y], .agg #[.int .i64 u.x, .int .i64 u.y], .int .i64 h] w fun e w' => ∃ x : PutsY v pvs qs (Q), e = .returned x.1.1 ∧ Below w.heap.size w w' ∧ SaidOk w' x.1.2.2.1 x.1.2.2.2 ∧ ∀ b, x.1.2.2.2 b → w.heap.size ≤ b := by
  have e1 : k = 1 → Q = sqT p u h qs := fun e => by rw [← hQ]; exact if_pos e
  have e2 : k = 2 → Q = halfT p u h qs := fun e => by rw [← hQ]; unfold capK; rw [if_neg (by omega)]; exact if_pos e
  have e0 : k ≠ 1 → k ≠ 2 → Q = qs := fun e1 e2 => by rw [← hQ]; unfold capK; rw [if_neg e1, if_neg e2]
  clear hQ
  by_cases h1 : k = 1
  · have e := e1 h1
    rw [h1]; exact a_PutK1 w v pvs qs p h hv hcp hat hql hp hr u hx hy e
  · by_cases h2 : k = 2
    · have e := e2 h2
      rw [h2]; exact a_PutK2 w v pvs qs p h hv hcp hat hql hp hr u hx hy e
    · have e := e0 h1 h2
      by_cases h0 : k = 0
      · rw [h0]; exact a_PutK0 w v pvs qs p h hv hcp hat hql hp hr u hx hy e
      · exact a_PutKx w v pvs qs p h hv hcp hat hql hp hr u hx hy k (by omega) e
set_option maxHeartbeats 2000000 in
theorem a_DotQ (w : World) (v : Value) (pvs : List Value) (qs : List (List PtT)) (p : PtT) (h : Int) (hv : PcsW v pvs qs) (hcp : Capd v) (hat : PcsAt w v pvs qs) (hql : qs.length ≤ 2000) (hp : (-536870912 ≤ p.x ∧ p.x ≤ 536870912) ∧ (-536870912 ≤ p.y ∧ p.y ≤ 536870912)) (hr : 1 ≤ h ∧ h ≤ 131072) (k : Int) {Q : List (List PtT)} (hQ : dotK k p h qs = Q) : Calls Try.prog 37 #[v, .int .i64 k, .agg #[.int .i64 p.x, .int .i64 p.y], .int .i64 h] w fun e w' => ∃ x : PutsY v pvs qs (Q), e = .returned x.1.1 ∧ Below w.heap.size w w' ∧ SaidOk w' x.1.2.2.1 x.1.2.2.2 ∧ ∀ b, x.1.2.2.2 b → w.heap.size ≤ b := by
  have hk1 : k = 1 → Q = putT qs ((boxC h).map (addP p)) := fun e => by rw [← hQ]; exact if_pos e
  have hk2 : k = 2 → Q = piesT p h (discC h) qs := fun e => by rw [← hQ]; unfold dotK; rw [if_neg (by omega)]; exact if_pos e
  have hk0 : k ≠ 1 → k ≠ 2 → Q = qs := fun e1 e2 => by rw [← hQ]; unfold dotK; rw [if_neg e1, if_neg e2]
  refine calls_said (args := [v, .int .i64 k, .agg #[.int .i64 p.x, .int .i64 p.y], .int .i64 h]) (fun x : PutsY v pvs qs (Q) => x.1.1) (fun x w' => SaidOk w' x.1.2.2.1 x.1.2.2.2) (fun x b => x.1.2.2.2 b) Try.func37 rfl Try.ntmps37 Try.results37 rfl ?_
  refine v_seq ?_
  refine v_region ?_
  refine l_new rfl (o_box (cs := [_, _]) rfl rfl) fun b6 => ?_
  refine l_val rfl (o_assign rfl) ?_
  refine l_nil ?_
  refine kt_norm ?_
  refine v_seq ?_
  refine v_seq ?_
  refine v_region ?_
  refine l_val rfl (o_move rfl) ?_
  refine l_nil ?_
  refine kt_norm ?_
  refine v_block ?_
  refine v_seq ?_
  refine v_region ?_
  refine l_split rfl (o_eql rfl rfl) (fun he2 => ?_) (fun he2 => ?_)
  · skip
    refine l_val rfl (o_assign rfl) ?_
    refine l_nil ?_
    refine kt_norm ?_
    refine v_condT rfl ?_
    refine v_seq ?_
    refine v_region ?_
    refine l_val rfl (o_move rfl) ?_
    refine l_val rfl (o_loadW (key := 6) rfl rfl rfl) ?_
    refine l_val rfl (o_move rfl) ?_
    refine l_hsaid (ks := []) (caps := #[]) (vs := [_, _, _]) (α := PutsY v pvs qs (piesT p h (discC h) qs)) (fun x => x.1.1) (fun x w' => SaidOk w' x.1.2.2.1 x.1.2.2.2) (fun x b => x.1.2.2.2 b) rfl rfl (ent_of Try.func15 rfl rfl) rfl (fun x w1 w2 h hb => h.keep hb) (fun x w1 b h hb => h.2.1 b hb) (fun w' hg hh => a_Disc w' _ pvs qs p h hv hcp (hat.keep hg) hql hp hr) fun xr => ?_
    refine l_val rfl (o_assign rfl) ?_
    refine l_nil ?_
    refine kt_norm ?_
    refine v_sel [8] [15] rfl rfl ?_
    refine v_ret ?_
    refine kb_ret ?_
    refine kt_ret ?_
    refine ⟨[_], .cons (.tmp rfl) (ResAll.nil), ?_⟩
    first
      | exact ⟨⟨xr.1, (hk2 he2).symm ▸ xr.2⟩, rfl, fun w' ho => ⟨(ho.mo 15 _ rfl).1.1, fun b hb => ((ho.mo 15 _ rfl).2 b hb).elim id False.elim⟩⟩
      | exact ⟨⟨xr.1, (hk1 he1).symm ▸ xr.2⟩, rfl, fun w' ho => ⟨(ho.mo 37 _ rfl).1.1, fun b hb => ((ho.mo 37 _ rfl).2 b hb).elim id False.elim⟩⟩
      | exact ⟨⟨(v, pvs, fun _ => True, fun _ => False), (hk0 he1 he2).symm ▸ hv, hcp, fun w2 h _ => (hk0 he1 he2).symm ▸ h⟩, rfl, fun w' ho => ⟨⟨trivial, fun b hb => hb.elim, fun _ _ _ _ => trivial⟩, fun b hb => hb.elim⟩⟩
  · skip
    refine l_val rfl (o_assign rfl) ?_
    refine l_nil ?_
    refine kt_norm ?_
    refine v_condF rfl ?_
    refine v_seq ?_
    refine v_region ?_
    refine l_split rfl (o_eql rfl rfl) (fun he1 => ?_) (fun he1 => ?_)
    · skip
      refine l_val rfl (o_assign rfl) ?_
      refine l_nil ?_
      refine kt_norm ?_
      refine v_sel [0, 3, 6, 16] [6] rfl rfl ?_
      refine v_condT rfl ?_
      refine v_seq ?_
      refine v_region ?_
      refine l_val rfl (o_move rfl) ?_
      refine l_val rfl (o_loadW (key := 6) rfl rfl rfl) ?_
      refine l_val rfl (o_move rfl) ?_
      refine l_val rfl (o_negi rfl ?_) ?_
      · omega
      refine l_val rfl (o_move rfl) ?_
      refine l_val rfl (o_negi rfl ?_) ?_
      · omega
      refine l_val rfl (o_build (vs := [_, _]) (cs := [_, _]) rfl rfl) ?_
      refine l_val rfl (o_move rfl) ?_
      refine l_val rfl (o_move rfl) ?_
      refine l_val rfl (o_negi rfl ?_) ?_
      · omega
      refine l_val rfl (o_build (vs := [_, _]) (cs := [_, _]) rfl rfl) ?_
      refine l_val rfl (o_move rfl) ?_
      refine l_val rfl (o_move rfl) ?_
      refine l_val rfl (o_build (vs := [_, _]) (cs := [_, _]) rfl rfl) ?_
      refine l_val rfl (o_move rfl) ?_
      refine l_val rfl (o_negi rfl ?_) ?_
      · omega
      refine l_val rfl (o_move rfl) ?_
      refine l_val rfl (o_build (vs := [_, _]) (cs := [_, _]) rfl rfl) ?_
      refine l_buildSlice (vs := [_, _, _, _]) (cs := [_, _, _, _, _, _, _, _]) rfl rfl rfl rfl rfl rfl fun v36 hv36 => ?_
      refine l_hsaid (ks := [36]) (caps := #[]) (vs := [_, _, _]) (α := PutsY v pvs qs (putT qs ((boxC h).map (addP p)))) (fun x => x.1.1) (fun x w' => SaidOk w' x.1.2.2.1 x.1.2.2.2) (fun x b => x.1.2.2.2 b) rfl rfl (ent_of Try.func55 rfl rfl) rfl (fun x w1 w2 h hb => h.keep hb) (fun x w1 b h hb => h.2.1 b hb) (fun w' hg hh => a_around w' _ pvs qs p hv hcp (hat.keep hg) hql hp _ (boxC h) rfl hv36 (rowAt_own (hh 36 (by simp) _ rfl)) (box_bd hr)) fun xr => ?_
      refine l_val rfl (o_assign rfl) ?_
      refine l_nil ?_
      refine kt_norm ?_
      refine v_sel [8] [36, 37] rfl rfl ?_
      refine v_ret ?_
      refine kb_ret ?_
      refine kt_ret ?_
      refine ⟨[_], .cons (.tmp rfl) (ResAll.nil), ?_⟩
      first
        | exact ⟨⟨xr.1, (hk2 he2).symm ▸ xr.2⟩, rfl, fun w' ho => ⟨(ho.mo 15 _ rfl).1.1, fun b hb => ((ho.mo 15 _ rfl).2 b hb).elim id False.elim⟩⟩
        | exact ⟨⟨xr.1, (hk1 he1).symm ▸ xr.2⟩, rfl, fun w' ho => ⟨(ho.mo 37 _ rfl).1.1, fun b hb => ((ho.mo 37 _ rfl).2 b hb).elim id False.elim⟩⟩
        | exact ⟨⟨(v, pvs, fun _ => True, fun _ => False), (hk0 he1 he2).symm ▸ hv, hcp, fun w2 h _ => (hk0 he1 he2).symm ▸ h⟩, rfl, fun w' ho => ⟨⟨trivial, fun b hb => hb.elim, fun _ _ _ _ => trivial⟩, fun b hb => hb.elim⟩⟩
    · skip
      refine l_val rfl (o_assign rfl) ?_
      refine l_nil ?_
      refine kt_norm ?_
      refine v_sel [0, 3, 6, 16] [6] rfl rfl ?_
      refine v_condF rfl ?_
      refine v_skip ?_
      refine kb_norm ?_
      refine kt_norm ?_
      refine v_seq ?_
      refine v_region ?_
      refine l_val rfl (o_move rfl) ?_
      refine l_val rfl (o_assign rfl) ?_
      refine l_nil ?_
      refine kt_norm ?_
      refine v_ret ?_
      refine ⟨[_], .cons (.tmp rfl) (ResAll.nil), ?_⟩
      first
        | exact ⟨⟨xr.1, (hk2 he2).symm ▸ xr.2⟩, rfl, fun w' ho => ⟨(ho.mo 15 _ rfl).1.1, fun b hb => ((ho.mo 15 _ rfl).2 b hb).elim id False.elim⟩⟩
        | exact ⟨⟨xr.1, (hk1 he1).symm ▸ xr.2⟩, rfl, fun w' ho => ⟨(ho.mo 37 _ rfl).1.1, fun b hb => ((ho.mo 37 _ rfl).2 b hb).elim id False.elim⟩⟩
        | exact ⟨⟨(v, pvs, fun _ => True, fun _ => False), (hk0 he1 he2).symm ▸ hv, hcp, fun w2 h _ => (hk0 he1 he2).symm ▸ h⟩, rfl, fun w' ho => ⟨⟨trivial, fun b hb => hb.elim, fun _ _ _ _ => trivial⟩, fun b hb => hb.elim⟩⟩
end Go.Proofs.Ytpgjbalnipinoaa

/- Pieces with four sides. Conditions: none. -/
namespace Go.Proofs.Ytpgjbalnipinoaa
open Go.Proofs Go.RowKit Go.Shelf

/-! ### pieces with four sides -/
def quadT (o a b : PtT) : List PtT := [o, ⟨o.x + a.x, o.y + a.y⟩, ⟨o.x + a.x + b.x, o.y + a.y + b.y⟩, ⟨o.x + b.x, o.y + b.y⟩]
theorem crossS4 (a b c d : PtT) : crossS [a, b, c, d] [a, b, c, d].length = 0 + crossT a b + crossT b c + crossT c d + crossT d a := by
  have e : [a, b, c, d].length = 4 := rfl
  show crossS [a, b, c, d] (0 + 1 + 1 + 1 + 1) = _
  rw [crossS, crossS, crossS, crossS, crossS, e]; rfl
theorem sides4 (a b c d : PtT) : sidesT [a, b, c, d] = [(a, b), (b, c), (c, d), (d, a)] := by
  have e : [a, b, c, d].length = 4 := rfl
  unfold sidesT; rw [e]; rfl
theorem area_quad (o a b : PtT) (h : -1152921504606846976 ≤ crossT a b ∧ crossT a b ≤ 1152921504606846976) : areaT (quadT o a b) = 2 * crossT a b := by
  unfold areaT
  rw [areaTo_S]
  have e : crossS (quadT o a b) (quadT o a b).length = 2 * crossT a b := by
    unfold quadT
    rw [crossS4]
    unfold crossT; grind
  rw [e, wr_small (by omega)]
theorem left_quad (o a b q : PtT) : leftB (quadT o a b) q = true ↔ 0 ≤ crossT a ⟨q.x - o.x, q.y - o.y⟩ ∧ 0 ≤ crossT b ⟨q.x - o.x, q.y - o.y⟩ + crossT a b ∧ 0 ≤ crossT a b - crossT a ⟨q.x - o.x, q.y - o.y⟩ ∧ 0 ≤ -crossT b ⟨q.x - o.x, q.y - o.y⟩ := by
  unfold leftB quadT
  rw [sides4]
  have e1 : crossT ⟨o.x + a.x - o.x, o.y + a.y - o.y⟩ ⟨q.x - o.x, q.y - o.y⟩ = crossT a ⟨q.x - o.x, q.y - o.y⟩ := by unfold crossT; grind
  have e2 : crossT ⟨o.x + a.x + b.x - (o.x + a.x), o.y + a.y + b.y - (o.y + a.y)⟩ ⟨q.x - (o.x + a.x), q.y - (o.y + a.y)⟩ = crossT b ⟨q.x - o.x, q.y - o.y⟩ + crossT a b := by unfold crossT; grind
  have e3 : crossT ⟨o.x + b.x - (o.x + a.x + b.x), o.y + b.y - (o.y + a.y + b.y)⟩ ⟨q.x - (o.x + a.x + b.x), q.y - (o.y + a.y + b.y)⟩ = crossT a b - crossT a ⟨q.x - o.x, q.y - o.y⟩ := by unfold crossT; grind
  have e4 : crossT ⟨o.x - (o.x + b.x), o.y - (o.y + b.y)⟩ ⟨q.x - (o.x + b.x), q.y - (o.y + b.y)⟩ = -crossT b ⟨q.x - o.x, q.y - o.y⟩ := by unfold crossT; grind
  simp only [List.all_cons, List.all_nil, Bool.and_true, Bool.and_eq_true, Bool.not_eq_true', decide_eq_false_iff_not, sideT, sg_neg, e1, e2, e3, e4]
  omega
theorem quad_convex {o a b : PtT} (h : 0 < crossT a b ∧ crossT a b ≤ 1152921504606846976) : oriT (quadT o a b) = quadT o a b ∧ convexB (quadT o a b) = true := by
  have ha := area_quad o a b (by omega)
  refine ⟨by unfold oriT; rw [ha, if_neg (by omega)], ?_⟩
  unfold convexB
  rw [ha, decide_eq_true (show 3 ≤ (quadT o a b).length by show 3 ≤ 4; omega), decide_eq_true (show 0 < 2 * crossT a b by omega), Bool.true_and, Bool.true_and, Bool.not_eq_true', List.any_eq_false]
  intro q hq
  rw [Bool.not_eq_true', Bool.not_eq_false]
  refine (left_quad o a b q).2 ?_
  have h0 := h.1
  unfold quadT at hq
  simp only [List.mem_cons, List.not_mem_nil, or_false] at hq
  unfold crossT at h0 ⊢
  rcases hq with rfl | rfl | rfl | rfl <;> dsimp only <;> grind
theorem quad_put {o a b : PtT} (h : 0 < crossT a b ∧ crossT a b ≤ 1152921504606846976) (qs : List (List PtT)) : putT qs (quadT o a b) = qs ++ [quadT o a b] := by
  obtain ⟨h1, h2⟩ := quad_convex (o := o) h
  exact (putT_yes (by rw [h1]; exact h2)).trans (by rw [h1])
/-! ### square dots -/
theorem box_list (p : PtT) (h : Int) : (boxC h).map (addP p) = quadT ⟨p.x + -h, p.y + -h⟩ ⟨2 * h, 0⟩ ⟨0, 2 * h⟩ := by
  simp only [boxC, quadT, addP, List.map_cons, List.map_nil, List.cons.injEq, PtT.mk.injEq, and_true, true_and]
  omega
theorem box_cross (h : Int) : crossT (⟨2 * h, 0⟩ : PtT) ⟨0, 2 * h⟩ = 4 * (h * h) := by unfold crossT; grind
theorem box_pos {h : Int} (hh : 1 ≤ h ∧ h ≤ 131072) : 0 < crossT (⟨2 * h, 0⟩ : PtT) ⟨0, 2 * h⟩ ∧ crossT (⟨2 * h, 0⟩ : PtT) ⟨0, 2 * h⟩ ≤ 1152921504606846976 := by
  rw [box_cross]
  have := sq_mono (x := h) (y := 131072) (by omega)
  have := Int.mul_pos (show 0 < h by omega) (show 0 < h by omega)
  omega
theorem box_put {h : Int} (hh : 1 ≤ h ∧ h ≤ 131072) (p : PtT) (qs : List (List PtT)) : dotK 1 p h qs = qs ++ [quadT ⟨p.x + -h, p.y + -h⟩ ⟨2 * h, 0⟩ ⟨0, 2 * h⟩] := by
  show putT qs ((boxC h).map (addP p)) = _
  rw [box_list]; exact quad_put (box_pos hh) qs
theorem box_area {h : Int} (hh : 1 ≤ h ∧ h ≤ 131072) (p : PtT) : areaT (quadT ⟨p.x + -h, p.y + -h⟩ ⟨2 * h, 0⟩ ⟨0, 2 * h⟩) = 8 * (h * h) := by
  have := box_pos hh
  rw [area_quad _ _ _ (by omega), box_cross]; omega
theorem box_left {h : Int} (hh : 1 ≤ h ∧ h ≤ 131072) (p q : PtT) : leftB (quadT ⟨p.x + -h, p.y + -h⟩ ⟨2 * h, 0⟩ ⟨0, 2 * h⟩) q = decide ((-h ≤ q.x - p.x ∧ q.x - p.x ≤ h) ∧ (-h ≤ q.y - p.y ∧ q.y - p.y ≤ h)) := by
  have hk : ∀ z : Int, (0 ≤ 2 * h * z ↔ 0 ≤ z) := fun z => by
    constructor
    · intro h0
      rcases Int.lt_or_le z 0 with hlt | hle
      · have := Int.mul_pos (show 0 < 2 * h by omega) (show 0 < -z by omega)
        rw [Int.mul_neg] at this; omega
      · exact hle
    · intro h0; exact Int.mul_nonneg (by omega) h0
  rw [Bool.eq_iff_iff, left_quad, decide_eq_true_eq, box_cross]
  have e1 : crossT (⟨2 * h, 0⟩ : PtT) ⟨q.x - (p.x + -h), q.y - (p.y + -h)⟩ = 2 * h * (q.y - p.y + h) := by unfold crossT; grind
  have e2 : crossT (⟨0, 2 * h⟩ : PtT) ⟨q.x - (p.x + -h), q.y - (p.y + -h)⟩ = -(2 * h * (q.x - p.x + h)) := by unfold crossT; grind
  have e3 : 4 * (h * h) - 2 * h * (q.y - p.y + h) = 2 * h * (h - (q.y - p.y)) := by grind
  have e4 : -(2 * h * (q.x - p.x + h)) + 4 * (h * h) = 2 * h * (h - (q.x - p.x)) := by grind
  dsimp only
  rw [e1, e2, e3, e4, Int.neg_neg, hk, hk, hk, hk]
  omega
theorem quad_near {o a b : PtT} (h1 : NearT o) (h2 : NearT ⟨o.x + a.x, o.y + a.y⟩) (h3 : NearT ⟨o.x + a.x + b.x, o.y + a.y + b.y⟩) (h4 : NearT ⟨o.x + b.x, o.y + b.y⟩) : ∀ x ∈ quadT o a b, NearT x := by
  intro x hx
  unfold quadT at hx
  simp only [List.mem_cons, List.not_mem_nil, or_false] at hx
  rcases hx with rfl | rfl | rfl | rfl <;> assumption
theorem box_near {h : Int} (hh : 1 ≤ h ∧ h ≤ 131072) {p : PtT} (hp : (-536870912 ≤ p.x ∧ p.x ≤ 536870912) ∧ (-536870912 ≤ p.y ∧ p.y ≤ 536870912)) : ∀ x ∈ quadT ⟨p.x + -h, p.y + -h⟩ ⟨2 * h, 0⟩ ⟨0, 2 * h⟩, NearT x :=
  quad_near (by unfold NearT; dsimp only; omega) (by unfold NearT; dsimp only; omega) (by unfold NearT; dsimp only; omega) (by unfold NearT; dsimp only; omega)
/-! ### square caps -/
theorem len_left (u : PtT) : lenT ⟨-u.y, u.x⟩ = lenT u := by
  unfold lenT; dsimp only; rw [Int.neg_mul_neg, Int.add_comm]
theorem len_pos {u : PtT} (hx : -1073741824 ≤ u.x ∧ u.x ≤ 1073741824) (hy : -1073741824 ≤ u.y ∧ u.y ≤ 1073741824) (h0 : ¬ (u.x = 0 ∧ u.y = 0)) : 1 ≤ lenT u ∧ lenT u * lenT u ≤ dotT u u ∧ dotT u u ≤ lenT u * lenT u + 2 * lenT u := by
  have s1 := sq_mono hx
  have s2 := sq_mono hy
  have p1 := sq_nn u.x
  have p2 := sq_nn u.y
  have hs : u.x * u.x + u.y * u.y < 18446744073709551616 := by omega
  have h1 : 1 ≤ u.x * u.x + u.y * u.y := by
    rcases Int.lt_or_le (u.x * u.x + u.y * u.y) 1 with hlt | hle
    · exfalso
      have e1 : u.x * u.x = 0 := by omega
      have e2 : u.y * u.y = 0 := by omega
      exact h0 ⟨by rcases Int.mul_eq_zero.1 e1 with e | e <;> exact e, by rcases Int.mul_eq_zero.1 e2 with e | e <;> exact e⟩
    · exact hle
  exact ⟨le_lenT (by omega) (by omega) hs, lenT_sq hs, lenT_lt hs⟩
/-- the vectors of a cap: its front, and its side -/
theorem vec_ok {u s f : PtT} {h : Int} (hh : 1 ≤ h) (hx : -1073741824 ≤ u.x ∧ u.x ≤ 1073741824) (hy : -1073741824 ≤ u.y ∧ u.y ≤ 1073741824) (h0 : ¬ (u.x = 0 ∧ u.y = 0)) (hs : normT ⟨-u.y, u.x⟩ h = s) (hf : normT u h = f) : Rnd h (lenT u) u f ∧ 1 ≤ dotT f f ∧ 1 ≤ crossT f s := by
  obtain ⟨l1, l2, l3⟩ := len_pos hx hy h0
  have nf : f = ⟨nearQ (u.x * h) (lenT u), nearQ (u.y * h) (lenT u)⟩ := by rw [← hf]; unfold normT; rw [if_neg (by omega)]
  have ns : s = ⟨nearQ (-u.y * h) (lenT u), nearQ (u.x * h) (lenT u)⟩ := by rw [← hs]; unfold normT; rw [len_left, if_neg (by omega)]
  obtain ⟨c, hc⟩ : ∃ c, lenT u = c := ⟨_, rfl⟩
  rw [hc] at l1 l2 l3 nf ns ⊢
  have ex := nearQ_err (p := u.x * h) (c := c) (by omega)
  have ey := nearQ_err (p := u.y * h) (c := c) (by omega)
  have ez := nearQ_err (p := -u.y * h) (c := c) (by omega)
  have fx : f.x = nearQ (u.x * h) c := by rw [nf]
  have fy : f.y = nearQ (u.y * h) c := by rw [nf]
  have sx : s.x = nearQ (-u.y * h) c := by rw [ns]
  have sy : s.y = f.x := by rw [ns, nf]
  rw [← fx] at ex
  rw [← fy] at ey
  rw [← sx, Int.neg_mul] at ez
  have hw : -1 ≤ f.y + s.x ∧ f.y + s.x ≤ 1 := by
    have e : c * (f.y + s.x) = c * f.y + c * s.x := Int.mul_add _ _ _
    constructor
    · rcases Int.lt_or_le (f.y + s.x) (-1) with hlt | hle
      · have := Int.mul_le_mul_of_nonneg_left (show f.y + s.x ≤ -2 by omega) (show 0 ≤ c by omega)
        omega
      · exact hle
    · rcases Int.lt_or_le 1 (f.y + s.x) with hlt | hle
      · have := Int.mul_le_mul_of_nonneg_left (show 2 ≤ f.y + s.x by omega) (show 0 ≤ c by omega)
        omega
      · exact hle
  have nz : ¬ (f.x = 0 ∧ (f.y = 0 ∨ s.x = 0)) := fun ⟨e1, e2⟩ => by
    rw [e1, Int.mul_zero] at ex
    have ey2 : -c ≤ 2 * (u.y * h) ∧ 2 * (u.y * h) ≤ c := by
      rcases e2 with e2 | e2
      · rw [e2, Int.mul_zero] at ey; omega
      · rw [e2, Int.mul_zero] at ez; omega
    have q1 := sq_mono (x := 2 * (u.x * h)) (y := c) (by omega)
    have q2 := sq_mono ey2
    have e3 : 2 * (u.x * h) * (2 * (u.x * h)) + 2 * (u.y * h) * (2 * (u.y * h)) = 4 * (h * h * dotT u u) := by unfold dotT; grind
    have hh2 : 1 ≤ h * h := Int.mul_le_mul hh hh (by omega) (by omega)
    have q3 := Int.mul_le_mul_of_nonneg_right hh2 (dot_self u)
    have cc := Int.mul_pos (show 0 < c by omega) (show 0 < c by omega)
    omega
  have sf := sq_nn f.x
  have sg := sq_nn f.y
  have hfx : f.x ≠ 0 → 1 ≤ f.x * f.x := fun hne => by
    rcases Int.lt_or_le 0 f.x with hp | hp
    · exact Int.mul_le_mul (show 1 ≤ f.x by omega) (show 1 ≤ f.x by omega) (by omega) (by omega)
    · have := Int.mul_pos (show 0 < -f.x by omega) (show 0 < -f.x by omega)
      rw [Int.neg_mul_neg] at this; omega
  have hfy : ∀ w : Int, -1 ≤ f.y - w ∧ f.y - w ≤ 1 → 0 ≤ f.y * w ∧ (f.y ≠ 0 → w ≠ 0 → 1 ≤ f.y * w) := fun w hw => by
    rcases Int.lt_or_le 0 f.y with hp | hp
    · have : 0 ≤ w := by omega
      refine ⟨Int.mul_nonneg (by omega) this, fun _ hne => ?_⟩
      exact Int.mul_le_mul (show 1 ≤ f.y by omega) (show 1 ≤ w by omega) (by omega) (by omega)
    · rcases Int.lt_or_le f.y 0 with hn | hn
      · have h1 : w ≤ 0 := by omega
        have := Int.mul_nonneg (show 0 ≤ -f.y by omega) (show 0 ≤ -w by omega)
        rw [Int.neg_mul_neg] at this
        refine ⟨this, fun _ hne => ?_⟩
        have := Int.mul_le_mul (show 1 ≤ -f.y by omega) (show 1 ≤ -w by omega) (by omega) (by omega)
        rw [Int.neg_mul_neg] at this; omega
      · have e : f.y = 0 := by omega
        rw [e, Int.zero_mul]
        exact ⟨Int.le_refl _, fun h => absurd rfl h⟩
  obtain ⟨w1, w2⟩ := hfy (-s.x) (by omega)
  obtain ⟨v1, v2⟩ := hfy f.y (by omega)
  refine ⟨⟨l2, l3, by omega, ex, ey⟩, ?_, ?_⟩
  · unfold dotT
    by_cases e : f.x = 0
    · have : f.y ≠ 0 := fun e2 => nz ⟨e, .inl e2⟩
      have := v2 this this
      omega
    · have := hfx e; omega
  · unfold crossT
    rw [sy]
    have e0 : f.y * -s.x = -(f.y * s.x) := Int.mul_neg _ _
    by_cases e : f.x = 0
    · have := w2 (fun e2 => nz ⟨e, .inl e2⟩) (fun e2 => nz ⟨e, .inr (by omega)⟩)
      omega
    · have := hfx e; omega
theorem sq_list (p s f : PtT) : (sqC s f).map (addP p) = quadT ⟨p.x + s.x, p.y + s.y⟩ f ⟨-(2 * s.x), -(2 * s.y)⟩ := by
  simp only [sqC, quadT, addP, List.map_cons, List.map_nil, List.cons.injEq, PtT.mk.injEq, and_true, true_and]
  omega
theorem sq_rev (p s f : PtT) : (quadT ⟨p.x + s.x, p.y + s.y⟩ f ⟨-(2 * s.x), -(2 * s.y)⟩).reverse = quadT ⟨p.x - s.x, p.y - s.y⟩ f ⟨2 * s.x, 2 * s.y⟩ := by
  simp only [quadT, List.reverse_cons, List.reverse_nil, List.nil_append, List.cons_append, List.cons.injEq, PtT.mk.injEq, and_true, true_and]
  omega
theorem sq_put {p u s f : PtT} {h : Int} (hh : 1 ≤ h ∧ h ≤ 131072) (hx : -1073741824 ≤ u.x ∧ u.x ≤ 1073741824) (hy : -1073741824 ≤ u.y ∧ u.y ≤ 1073741824) (h0 : ¬ (u.x = 0 ∧ u.y = 0)) (hs : normT ⟨-u.y, u.x⟩ h = s) (hf : normT u h = f) (qs : List (List PtT)) : sqT p u h qs = qs ++ [quadT ⟨p.x - s.x, p.y - s.y⟩ f ⟨2 * s.x, 2 * s.y⟩] ∧ 0 < crossT f ⟨2 * s.x, 2 * s.y⟩ ∧ crossT f ⟨2 * s.x, 2 * s.y⟩ ≤ 1152921504606846976 ∧ crossT f ⟨2 * s.x, 2 * s.y⟩ = 2 * crossT f s := by
  obtain ⟨-, d1, x1⟩ := vec_ok hh.1 hx hy h0 hs hf
  have hbs := hs ▸ norm_bound (p := ⟨-u.y, u.x⟩) (r := h) (by dsimp only; omega) (by dsimp only; omega) (by omega)
  have hbf := hf ▸ norm_bound (p := u) (r := h) (by omega) (by omega) (by omega)
  have hcr := cross_bd (f := f) (t := s) (by unfold BdT; omega) (by unfold BdT; omega)
  have e1 : crossT f ⟨2 * s.x, 2 * s.y⟩ = 2 * crossT f s := by unfold crossT; grind
  have e2 : crossT f ⟨-(2 * s.x), -(2 * s.y)⟩ = -(2 * crossT f s) := by unfold crossT; grind
  have hk : 0 < crossT f ⟨2 * s.x, 2 * s.y⟩ ∧ crossT f ⟨2 * s.x, 2 * s.y⟩ ≤ 1152921504606846976 := by rw [e1]; omega
  have nf : ¬ (f.x = 0 ∧ f.y = 0) := fun ⟨a, b⟩ => by unfold dotT at d1; rw [a, b] at d1; omega
  have ns : ¬ (s.x = 0 ∧ s.y = 0) := fun ⟨a, b⟩ => by unfold crossT at x1; rw [a, b] at x1; omega
  refine ⟨?_, hk.1, hk.2, e1⟩
  rw [sqT_yes hs hf ns nf, sq_list]
  have ho : oriT (quadT ⟨p.x + s.x, p.y + s.y⟩ f ⟨-(2 * s.x), -(2 * s.y)⟩) = quadT ⟨p.x - s.x, p.y - s.y⟩ f ⟨2 * s.x, 2 * s.y⟩ := by
    unfold oriT
    rw [area_quad _ _ _ (by omega), if_pos (by omega), sq_rev]
  exact (putT_yes (by rw [ho]; exact (quad_convex hk).2)).trans (by rw [ho])
theorem sq_none {p u : PtT} {h : Int} (h0 : u.x = 0 ∧ u.y = 0) (qs : List (List PtT)) : sqT p u h qs = qs := by
  have e : normT u h = ⟨0, 0⟩ := by
    unfold normT
    rw [if_pos]
    have hu : u = ⟨0, 0⟩ := pt_ext h0
    rw [hu]; unfold lenT
    show ((isq (0 * 0 + 0 * 0 : Int).toNat : Nat) : Int) = 0
    rw [show ((0 : Int) * 0 + 0 * 0).toNat = 0 from rfl, isq_zero]; rfl
  exact sqT_no rfl e (.inr ⟨rfl, rfl⟩)
/-- what a piece of a cap is -/
structure CapP (p : PtT) (q : List PtT) : Prop where
  len : q.length ≤ 4
  cx : convexB q = true
  has : leftB q p = true
  near : ∀ x ∈ q, NearT x
theorem TriT.cap {p : PtT} {q : List PtT} (h : TriT p q) : CapP p q := ⟨by have := h.1; omega, h.2.1, tri_has h, h.2.2.2⟩
theorem sq_cap {p s f : PtT} {h : Int} (hh : 1 ≤ h ∧ h ≤ 131072) (hp : (-536870912 ≤ p.x ∧ p.x ≤ 536870912) ∧ (-536870912 ≤ p.y ∧ p.y ≤ 536870912)) (hbs : (-h ≤ s.x ∧ s.x ≤ h) ∧ (-h ≤ s.y ∧ s.y ≤ h)) (hbf : (-h ≤ f.x ∧ f.x ≤ h) ∧ (-h ≤ f.y ∧ f.y ≤ h)) (hk : 0 < crossT f ⟨2 * s.x, 2 * s.y⟩ ∧ crossT f ⟨2 * s.x, 2 * s.y⟩ ≤ 1152921504606846976) : CapP p (quadT ⟨p.x - s.x, p.y - s.y⟩ f ⟨2 * s.x, 2 * s.y⟩) ∧ leftB (quadT ⟨p.x - s.x, p.y - s.y⟩ f ⟨2 * s.x, 2 * s.y⟩) ⟨p.x + f.x, p.y + f.y⟩ = true := by
  have k0 := hk.1
  refine ⟨⟨Nat.le_refl _, (quad_convex hk).2, (left_quad _ _ _ _).2 ?_, quad_near (by unfold NearT; dsimp only; omega) (by unfold NearT; dsimp only; omega) (by unfold NearT; dsimp only; omega) (by unfold NearT; dsimp only; omega)⟩, (left_quad _ _ _ _).2 ?_⟩
  · unfold crossT at k0 ⊢; dsimp only at k0 ⊢; grind
  · unfold crossT at k0 ⊢; dsimp only at k0 ⊢; grind
theorem box_cap {p : PtT} {h : Int} (hh : 1 ≤ h ∧ h ≤ 131072) (hp : (-536870912 ≤ p.x ∧ p.x ≤ 536870912) ∧ (-536870912 ≤ p.y ∧ p.y ≤ 536870912)) : CapP p (quadT ⟨p.x + -h, p.y + -h⟩ ⟨2 * h, 0⟩ ⟨0, 2 * h⟩) :=
  ⟨Nat.le_refl _, (quad_convex (box_pos hh)).2, by rw [box_left hh]; exact decide_eq_true (by omega), box_near hh hp⟩
end Go.Proofs.Ytpgjbalnipinoaa

/- What is shown of caps; square dots. Conditions: none. -/
namespace Go.Proofs.Ytpgjbalnipinoaa
open Go.Proofs Go.RowKit Go.Shelf

theorem normT_num {p q : PtT} {r : Int} (k : Nat) (h0 : (k : Int) * k ≤ p.x * p.x + p.y * p.y) (h1 : p.x * p.x + p.y * p.y < ((k : Int) + 1) * (k + 1)) (h2 : p.x * p.x + p.y * p.y < 18446744073709551616) (hk : 0 < k) (hx : nearQ (p.x * r) k = q.x) (hy : nearQ (p.y * r) k = q.y) : normT p r = q := by
  unfold normT
  rw [lenT_num k h0 h1 h2, if_neg (by omega)]
  exact pt_ext ⟨hx, hy⟩
theorem cap_s1 : capK 1 ⟨9, 0⟩ ⟨5, 0⟩ 2 [] = [[⟨9, -2⟩, ⟨11, -2⟩, ⟨11, 2⟩, ⟨9, 2⟩]] := by
  have hs : normT ⟨-(⟨5, 0⟩ : PtT).y, (⟨5, 0⟩ : PtT).x⟩ 2 = ⟨0, 2⟩ := normT_num 5 (by decide) (by decide) (by decide) (by decide) (by decide) (by decide)
  have hf : normT ⟨5, 0⟩ 2 = ⟨2, 0⟩ := normT_num 5 (by decide) (by decide) (by decide) (by decide) (by decide) (by decide)
  have e : capK 1 ⟨9, 0⟩ ⟨5, 0⟩ 2 [] = sqT ⟨9, 0⟩ ⟨5, 0⟩ 2 [] := if_pos rfl
  rw [e, sqT_yes hs hf (by decide) (by decide)]
  decide +kernel
theorem cap_s2 : dotK 1 ⟨0, 0⟩ 2 [] = [[⟨-2, -2⟩, ⟨2, -2⟩, ⟨2, 2⟩, ⟨-2, 2⟩]] := by decide +kernel
theorem cap_s3 : (capK 2 ⟨0, 0⟩ ⟨5, 0⟩ 2 []).length = 2 := by
  have hf : normT ⟨5, 0⟩ 2 = ⟨2, 0⟩ := normT_num 5 (by decide) (by decide) (by decide) (by decide) (by decide) (by decide)
  have e : capK 2 ⟨0, 0⟩ ⟨5, 0⟩ 2 [] = halfT ⟨0, 0⟩ ⟨5, 0⟩ 2 [] := by unfold capK; rw [if_neg (by decide), if_pos rfl]
  rw [e, halfT_yes hf (by decide)]
  show ((([] ++ chordsT 2 6 ⟨-(-(⟨2, 0⟩ : PtT).y), -(⟨2, 0⟩ : PtT).x⟩ ⟨2, 0⟩) ++ chordsT 2 6 ⟨2, 0⟩ ⟨-(⟨2, 0⟩ : PtT).y, (⟨2, 0⟩ : PtT).x⟩).foldl (pieT ⟨0, 0⟩) []).length = 2
  rw [chords_stop (.inl (by decide)), chords_stop (.inl (by decide))]
  decide +kernel
theorem a_withinK (p : PtT) (n : Int) (hn : 0 ≤ n ∧ n ≤ 1099511627776) : Ans Try.prog 39 [.agg #[.int .i64 p.x, .int .i64 p.y], .int .i64 n] (.bool (decide ((-n ≤ p.x ∧ p.x ≤ n) ∧ (-n ≤ p.y ∧ p.y ≤ n)))) := by
  refine ans_of Try.func39 rfl Try.ntmps39 Try.results39 rfl rfl fun w => ?_
  refine v_seq ?_
  refine v_region ?_
  refine l_new rfl (o_box (cs := [_, _]) rfl rfl) fun b2 => ?_
  refine l_val rfl (o_assign rfl) ?_
  refine l_nil ?_
  refine kt_norm ?_
  refine v_seq ?_
  refine v_region ?_
  refine l_val rfl (o_fld rfl) ?_
  refine l_val rfl (o_load1 (key := 2) rfl rfl rfl) ?_
  refine l_val rfl (o_move rfl) ?_
  refine l_val rfl (o_negi rfl ?_) ?_
  · omega
  refine l_split rfl (o_geq rfl rfl) (fun q1 => ?_) (fun q1 => ?_)
  · first
    | (exfalso; omega; done)
    | (
        refine l_val rfl (o_move rfl) ?_
        refine l_val rfl (o_fld rfl) ?_
        refine l_val rfl (o_load1 (key := 2) rfl rfl rfl) ?_
        refine l_val rfl (o_move rfl) ?_
        refine l_split rfl (o_leq rfl rfl) (fun q2 => ?_) (fun q2 => ?_)
        · first
          | (exfalso; omega; done)
          | (
              refine l_val rfl (o_pickT rfl rfl) ?_
              refine l_val rfl (o_move rfl) ?_
              refine l_val rfl (o_fld rfl) ?_
              refine l_val rfl (o_load1 (key := 2) rfl rfl rfl) ?_
              refine l_val rfl (o_move rfl) ?_
              refine l_val rfl (o_negi rfl ?_) ?_
              · omega
              refine l_split rfl (o_geq rfl rfl) (fun q3 => ?_) (fun q3 => ?_)
              · first
                | (exfalso; omega; done)
                | (
                    refine l_val rfl (o_pickT rfl rfl) ?_
                    refine l_val rfl (o_move rfl) ?_
                    refine l_val rfl (o_fld rfl) ?_
                    refine l_val rfl (o_load1 (key := 2) rfl rfl rfl) ?_
                    refine l_val rfl (o_move rfl) ?_
                    refine l_split rfl (o_leq rfl rfl) (fun q4 => ?_) (fun q4 => ?_)
                    · first
                      | (exfalso; omega; done)
                      | (
                          refine l_val rfl (o_pickT rfl rfl) ?_
                          refine l_val rfl (o_assign rfl) ?_
                          refine l_nil ?_
                          refine kt_norm ?_
                          refine v_sel [4] [] rfl rfl ?_
                          refine v_ret ?_
                          refine ⟨[_], .cons (.tmp rfl) (ResAll.nil), ?_⟩
                          exact congrArg Value.bool (by first | exact (decide_eq_true (by omega)).symm | exact (decide_eq_false (by omega)).symm))
                    · first
                      | (exfalso; omega; done)
                      | (
                          refine l_val rfl (o_pickT rfl rfl) ?_
                          refine l_val rfl (o_assign rfl) ?_
                          refine l_nil ?_
                          refine kt_norm ?_
                          refine v_sel [4] [] rfl rfl ?_
                          refine v_ret ?_
                          refine ⟨[_], .cons (.tmp rfl) (ResAll.nil), ?_⟩
                          exact congrArg Value.bool (by first | exact (decide_eq_true (by omega)).symm | exact (decide_eq_false (by omega)).symm)))
              · first
                | (exfalso; omega; done)
                | (
                    refine l_val rfl (o_pickT rfl rfl) ?_
                    refine l_val rfl (o_move rfl) ?_
                    refine l_no rfl ?_
                    refine l_no rfl ?_
                    refine l_no rfl ?_
                    refine l_no rfl ?_
                    refine l_val rfl (o_pickF rfl rfl) ?_
                    refine l_val rfl (o_assign rfl) ?_
                    refine l_nil ?_
                    refine kt_norm ?_
                    refine v_sel [4] [] rfl rfl ?_
                    refine v_ret ?_
                    refine ⟨[_], .cons (.tmp rfl) (ResAll.nil), ?_⟩
                    exact congrArg Value.bool (by first | exact (decide_eq_true (by omega)).symm | exact (decide_eq_false (by omega)).symm)))
        · first
          | (exfalso; omega; done)
          | (
              refine l_val rfl (o_pickT rfl rfl) ?_
              refine l_val rfl (o_move rfl) ?_
              refine l_no rfl ?_
              refine l_no rfl ?_
              refine l_no rfl ?_
              refine l_no rfl ?_
              refine l_no rfl ?_
              refine l_val rfl (o_pickF rfl rfl) ?_
              refine l_val rfl (o_move rfl) ?_
              refine l_no rfl ?_
              refine l_no rfl ?_
              refine l_no rfl ?_
              refine l_no rfl ?_
              refine l_val rfl (o_pickF rfl rfl) ?_
              refine l_val rfl (o_assign rfl) ?_
              refine l_nil ?_
              refine kt_norm ?_
              refine v_sel [4] [] rfl rfl ?_
              refine v_ret ?_
              refine ⟨[_], .cons (.tmp rfl) (ResAll.nil), ?_⟩
              exact congrArg Value.bool (by first | exact (decide_eq_true (by omega)).symm | exact (decide_eq_false (by omega)).symm)))
  · first
    | (exfalso; omega; done)
    | (
        refine l_val rfl (o_move rfl) ?_
        refine l_no rfl ?_
        refine l_no rfl ?_
        refine l_no rfl ?_
        refine l_no rfl ?_
        refine l_val rfl (o_pickF rfl rfl) ?_
        refine l_val rfl (o_move rfl) ?_
        refine l_no rfl ?_
        refine l_no rfl ?_
        refine l_no rfl ?_
        refine l_no rfl ?_
        refine l_no rfl ?_
        refine l_val rfl (o_pickF rfl rfl) ?_
        refine l_val rfl (o_move rfl) ?_
        refine l_no rfl ?_
        refine l_no rfl ?_
        refine l_no rfl ?_
        refine l_no rfl ?_
        refine l_val rfl (o_pickF rfl rfl) ?_
        refine l_val rfl (o_assign rfl) ?_
        refine l_nil ?_
        refine kt_norm ?_
        refine v_sel [4] [] rfl rfl ?_
        refine v_ret ?_
        refine ⟨[_], .cons (.tmp rfl) (ResAll.nil), ?_⟩
        exact congrArg Value.bool (by first | exact (decide_eq_true (by omega)).symm | exact (decide_eq_false (by omega)).symm))
def GoodK (p u : PtT) (h : Int) : Prop := ((-536870912 ≤ p.x ∧ p.x ≤ 536870912) ∧ (-536870912 ≤ p.y ∧ p.y ≤ 536870912)) ∧ ((-1073741824 ≤ u.x ∧ u.x ≤ 1073741824) ∧ (-1073741824 ≤ u.y ∧ u.y ≤ 1073741824)) ∧ 1 ≤ h ∧ h ≤ 131072
instance (p u : PtT) (h : Int) : Decidable (GoodK p u h) := by unfold GoodK; infer_instance
theorem a_goodK (p u : PtT) (h : Int) : Ans Try.prog 31 [.agg #[.int .i64 p.x, .int .i64 p.y], .agg #[.int .i64 u.x, .int .i64 u.y], .int .i64 h] (.bool (decide (GoodK p u h))) := by
  refine ans_of Try.func31 rfl Try.ntmps31 Try.results31 rfl rfl fun w => ?_
  refine v_seq ?_
  refine v_region ?_
  refine l_new rfl (o_box (cs := [_, _]) rfl rfl) fun b3 => ?_
  refine l_new rfl (o_box (cs := [_, _]) rfl rfl) fun b4 => ?_
  refine l_val rfl (o_assign rfl) ?_
  refine l_nil ?_
  refine kt_norm ?_
  refine v_seq ?_
  refine v_region ?_
  refine l_val rfl (o_loadW (key := 3) rfl rfl rfl) ?_
  refine l_ans (vs := [_, _]) rfl rfl (a_withinK p 536870912 (by omega)) ?_
  refine lz_bool (fun q1 => ?_) (fun q1 => ?_)
  · skip
    refine l_val rfl (o_move rfl) ?_
    refine l_val rfl (o_loadW (key := 4) rfl rfl rfl) ?_
    refine l_ans (vs := [_, _]) rfl rfl (a_withinK u 1073741824 (by omega)) ?_
    refine lz_bool (fun q2 => ?_) (fun q2 => ?_)
    · skip
      refine l_val rfl (o_pickT rfl rfl) ?_
      refine l_val rfl (o_move rfl) ?_
      refine l_val rfl (o_move rfl) ?_
      refine l_split rfl (o_geq rfl rfl) (fun q3 => ?_) (fun q3 => ?_)
      · skip
        refine l_val rfl (o_pickT rfl rfl) ?_
        refine l_val rfl (o_move rfl) ?_
        refine l_val rfl (o_move rfl) ?_
        refine l_split rfl (o_leq rfl rfl) (fun q4 => ?_) (fun q4 => ?_)
        · skip
          refine l_val rfl (o_pickT rfl rfl) ?_
          refine l_val rfl (o_assign rfl) ?_
          refine l_nil ?_
          refine kt_norm ?_
          refine v_sel [6] [] rfl rfl ?_
          refine v_ret ?_
          refine ⟨[_], .cons (.tmp rfl) (ResAll.nil), ?_⟩
          first
            | exact congrArg Value.bool (decide_eq_true (show GoodK p u h by unfold GoodK; omega)).symm
            | exact congrArg Value.bool (decide_eq_false (fun e : GoodK p u h => by unfold GoodK at e; omega)).symm
        · skip
          refine l_val rfl (o_pickT rfl rfl) ?_
          refine l_val rfl (o_assign rfl) ?_
          refine l_nil ?_
          refine kt_norm ?_
          refine v_sel [6] [] rfl rfl ?_
          refine v_ret ?_
          refine ⟨[_], .cons (.tmp rfl) (ResAll.nil), ?_⟩
          first
            | exact congrArg Value.bool (decide_eq_true (show GoodK p u h by unfold GoodK; omega)).symm
            | exact congrArg Value.bool (decide_eq_false (fun e : GoodK p u h => by unfold GoodK at e; omega)).symm
      · skip
        refine l_val rfl (o_pickT rfl rfl) ?_
        refine l_val rfl (o_move rfl) ?_
        refine l_no rfl ?_
        refine l_no rfl ?_
        refine l_val rfl (o_pickF rfl rfl) ?_
        refine l_val rfl (o_assign rfl) ?_
        refine l_nil ?_
        refine kt_norm ?_
        refine v_sel [6] [] rfl rfl ?_
        refine v_ret ?_
        refine ⟨[_], .cons (.tmp rfl) (ResAll.nil), ?_⟩
        first
          | exact congrArg Value.bool (decide_eq_true (show GoodK p u h by unfold GoodK; omega)).symm
          | exact congrArg Value.bool (decide_eq_false (fun e : GoodK p u h => by unfold GoodK at e; omega)).symm
    · skip
      refine l_val rfl (o_pickT rfl rfl) ?_
      refine l_val rfl (o_move rfl) ?_
      refine l_no rfl ?_
      refine l_no rfl ?_
      refine l_val rfl (o_pickF rfl rfl) ?_
      refine l_val rfl (o_move rfl) ?_
      refine l_no rfl ?_
      refine l_no rfl ?_
      refine l_val rfl (o_pickF rfl rfl) ?_
      refine l_val rfl (o_assign rfl) ?_
      refine l_nil ?_
      refine kt_norm ?_
      refine v_sel [6] [] rfl rfl ?_
      refine v_ret ?_
      refine ⟨[_], .cons (.tmp rfl) (ResAll.nil), ?_⟩
      first
        | exact congrArg Value.bool (decide_eq_true (show GoodK p u h by unfold GoodK; omega)).symm
        | exact congrArg Value.bool (decide_eq_false (fun e : GoodK p u h => by unfold GoodK at e; omega)).symm
  · skip
    refine l_val rfl (o_move rfl) ?_
    refine l_no rfl ?_
    refine l_no rfl ?_
    refine l_val rfl (o_pickF rfl rfl) ?_
    refine l_val rfl (o_move rfl) ?_
    refine l_no rfl ?_
    refine l_no rfl ?_
    refine l_val rfl (o_pickF rfl rfl) ?_
    refine l_val rfl (o_move rfl) ?_
    refine l_no rfl ?_
    refine l_no rfl ?_
    refine l_val rfl (o_pickF rfl rfl) ?_
    refine l_val rfl (o_assign rfl) ?_
    refine l_nil ?_
    refine kt_norm ?_
    refine v_sel [6] [] rfl rfl ?_
    refine v_ret ?_
    refine ⟨[_], .cons (.tmp rfl) (ResAll.nil), ?_⟩
    first
      | exact congrArg Value.bool (decide_eq_true (show GoodK p u h by unfold GoodK; omega)).symm
      | exact congrArg Value.bool (decide_eq_false (fun e : GoodK p u h => by unfold GoodK at e; omega)).symm
set_option maxHeartbeats 4000000 in
theorem a_shownK (w : World) : Calls Try.prog 32 #[] w fun e w' => e = .returned (.bool true) ∧ Below w.heap.size w w' := by
  obtain ⟨Q3, hQ3⟩ : ∃ Q, capK 2 ⟨0, 0⟩ ⟨5, 0⟩ 2 [] = Q := ⟨_, rfl⟩
  have hQ3l : Q3.length = 2 := hQ3 ▸ cap_s3
  have hQ4 : dotK 0 ⟨0, 0⟩ 2 [] = [] := rfl
  have hA1 : areaT ([⟨9, -2⟩, ⟨11, -2⟩, ⟨11, 2⟩, ⟨9, 2⟩] : List PtT) = 16 := by decide
  have hA2 : areaT ([⟨-2, -2⟩, ⟨2, -2⟩, ⟨2, 2⟩, ⟨-2, 2⟩] : List PtT) = 32 := by decide
  have hC1 : convexB ([⟨9, -2⟩, ⟨11, -2⟩, ⟨11, 2⟩, ⟨9, 2⟩] : List PtT) = true := by decide +kernel
  have hL1 : leftB ([⟨9, -2⟩, ⟨11, -2⟩, ⟨11, 2⟩, ⟨9, 2⟩] : List PtT) ⟨11, 1⟩ = true := by decide +kernel
  have hN1 : ∀ x ∈ ([⟨9, -2⟩, ⟨11, -2⟩, ⟨11, 2⟩, ⟨9, 2⟩] : List PtT), NearT x := by decide +kernel
  have hN2 : ∀ x ∈ ([⟨-2, -2⟩, ⟨2, -2⟩, ⟨2, 2⟩, ⟨-2, 2⟩] : List PtT), NearT x := by decide +kernel
  refine calls_of (args := []) Try.func32 rfl Try.ntmps32 Try.results32 rfl ?_
  refine v_seq ?_
  refine v_region ?_
  refine l_val rfl (o_assign rfl) ?_
  refine l_nil ?_
  refine kt_norm ?_
  refine v_seq ?_
  refine v_region ?_
  refine l_val rfl (o_build (vs := [_]) (cs := [_, _]) rfl rfl) ?_
  refine l_val rfl (o_build (vs := [_]) (cs := [_, _]) rfl rfl) ?_
  refine l_gsaid (ks := []) (caps := #[]) (vs := [_, _, _, _, _]) (α := PutsY (.slice none 0 0) [] [] ([([⟨9, -2⟩, ⟨11, -2⟩, ⟨11, 2⟩, ⟨9, 2⟩] : List PtT)])) (fun x => x.1.1) (fun x w' => SaidOk w' x.1.2.2.1 x.1.2.2.2) (fun x b => x.1.2.2.2 b) rfl rfl (ent_of Try.func35 rfl rfl) rfl (fun x w1 w2 h hb => h.keep hb) (fun x w1 b h hb => h.lt hb) (fun w' hg hh => a_CapQ w' _ [] [] ⟨9, 0⟩ 2 pcsW_nil capd_nil (pcsAt_nil w') (by show 0 ≤ 2000; omega) (by dsimp only; omega) (by omega) ⟨5, 0⟩ (by dsimp only; omega) (by dsimp only; omega) 1 cap_s1) fun xa => ?_
  have hVxa : RowV xa.1.1 (1) := xa.2.1.V
  have hlxa : xa.1.2.1.length = (1) := xa.2.1.lenv
  refine l_val rfl (o_assign rfl) ?_
  refine l_nil ?_
  refine kt_norm ?_
  refine v_seq ?_
  refine v_region ?_
  refine l_val rfl (o_build (vs := []) (cs := [_, _]) rfl rfl) ?_
  refine l_gsaid (ks := []) (caps := #[]) (vs := [_, _, _, _]) (α := PutsY (.slice none 0 0) [] [] ([([⟨-2, -2⟩, ⟨2, -2⟩, ⟨2, 2⟩, ⟨-2, 2⟩] : List PtT)])) (fun x => x.1.1) (fun x w' => SaidOk w' x.1.2.2.1 x.1.2.2.2) (fun x b => x.1.2.2.2 b) rfl rfl (ent_of Try.func37 rfl rfl) rfl (fun x w1 w2 h hb => h.keep hb) (fun x w1 b h hb => h.lt hb) (fun w' hg hh => a_DotQ w' _ [] [] ⟨0, 0⟩ 2 pcsW_nil capd_nil (pcsAt_nil w') (by show 0 ≤ 2000; omega) (by dsimp only; omega) (by omega) 1 cap_s2) fun xb => ?_
  have hVxb : RowV xb.1.1 (1) := xb.2.1.V
  have hlxb : xb.1.2.1.length = (1) := xb.2.1.lenv
  refine l_val rfl (o_assign rfl) ?_
  refine l_nil ?_
  refine kt_norm ?_
  refine v_sel [1, 2] [] rfl rfl ?_
  refine v_seq ?_
  refine v_region ?_
  have hVa0 : RowV (xa.1.2.1.getD 0 undef) 4 := xa.2.1.pV 0 (by show 0 < 1; omega)
  have hVb0 : RowV (xb.1.2.1.getD 0 undef) 4 := xb.2.1.pV 0 (by show 0 < 1; omega)
  refine l_val rfl (o_move rfl) ?_
  refine l_val rfl (o_len rfl hVxa) ?_
  refine l_split rfl (o_eql rfl rfl) (fun q1 => ?_) (fun q1 => absurd (show _ by omega) q1)
  refine l_val rfl (o_move rfl) ?_
  refine l_val rfl (o_move rfl) ?_
  refine l_val rfl (o_idx (0) rfl hVxa rfl (by first | rfl | omega) (by omega)) ?_
  refine l_val rfl (o_loadR1 rfl (row_imm (fun w2 hg => by exact (xa.2.2.2 w2 (pcsAt_nil w2) hg.1.2.1).row)) (el_one (by rw [hlxa]; omega))) ?_
  refine l_val rfl (o_len rfl hVa0) ?_
  refine l_split rfl (o_eql rfl rfl) (fun q2 => ?_) (fun q2 => absurd (show _ by omega) q2)
  refine l_val rfl (o_pickT rfl rfl) ?_
  refine l_val rfl (o_move rfl) ?_
  refine l_val rfl (o_move rfl) ?_
  refine l_val rfl (o_idx (0) rfl hVxa rfl (by first | rfl | omega) (by omega)) ?_
  refine l_val rfl (o_loadR1 rfl (row_imm (fun w2 hg => by exact (xa.2.2.2 w2 (pcsAt_nil w2) hg.1.2.1).row)) (el_one (by rw [hlxa]; omega))) ?_
  refine l_call (ks := []) rfl (o_callC (vs := [_]) (r := .int .i64 (areaT ([⟨9, -2⟩, ⟨11, -2⟩, ⟨11, 2⟩, ⟨9, 2⟩] : List PtT))) (ent_of Try.func40 rfl rfl) rfl (fun w' hg hh => a_Area w' _ ([⟨9, -2⟩, ⟨11, -2⟩, ⟨11, 2⟩, ⟨9, 2⟩] : List PtT) (by show 4 ≤ 1000000; omega) hVa0 (by exact (xa.2.2.2 w' (pcsAt_nil w') hg.1.2.1).pc 0 (by show 0 < 1; omega)) hN1)) ?_
  refine l_split rfl (o_eql rfl rfl) (fun q3 => ?_) (fun q3 => absurd (show _ by omega) q3)
  refine l_val rfl (o_pickT rfl rfl) ?_
  refine l_val rfl (o_move rfl) ?_
  refine l_val rfl (o_move rfl) ?_
  refine l_val rfl (o_idx (0) rfl hVxa rfl (by first | rfl | omega) (by omega)) ?_
  refine l_val rfl (o_loadR1 rfl (row_imm (fun w2 hg => by exact (xa.2.2.2 w2 (pcsAt_nil w2) hg.1.2.1).row)) (el_one (by rw [hlxa]; omega))) ?_
  refine l_val rfl (o_build (vs := [_, _]) (cs := [_, _]) rfl rfl) ?_
  refine l_call (ks := []) rfl (o_callC (vs := [_, _]) (r := .bool true) (ent_of Try.func18 rfl rfl) rfl (fun w' hg hh => a_HasC w' _ ([⟨9, -2⟩, ⟨11, -2⟩, ⟨11, 2⟩, ⟨9, 2⟩] : List PtT) ⟨11, 1⟩ (by show 4 ≤ 1000000; omega) hVa0 (by exact (xa.2.2.2 w' (pcsAt_nil w') hg.1.2.1).pc 0 (by show 0 < 1; omega)) hN1 (by unfold NearT; decide) hC1 hL1)) ?_
  refine l_val rfl (o_pickT rfl rfl) ?_
  refine l_val rfl (o_move rfl) ?_
  refine l_val rfl (o_move rfl) ?_
  refine l_val rfl (o_len rfl hVxb) ?_
  refine l_split rfl (o_eql rfl rfl) (fun q4 => ?_) (fun q4 => absurd (show _ by omega) q4)
  refine l_val rfl (o_pickT rfl rfl) ?_
  refine l_val rfl (o_move rfl) ?_
  refine l_val rfl (o_move rfl) ?_
  refine l_val rfl (o_idx (0) rfl hVxb rfl (by first | rfl | omega) (by omega)) ?_
  refine l_val rfl (o_loadR1 rfl (row_imm (fun w2 hg => by exact (xb.2.2.2 w2 (pcsAt_nil w2) hg.2.1).row)) (el_one (by rw [hlxb]; omega))) ?_
  refine l_call (ks := []) rfl (o_callC (vs := [_]) (r := .int .i64 (areaT ([⟨-2, -2⟩, ⟨2, -2⟩, ⟨2, 2⟩, ⟨-2, 2⟩] : List PtT))) (ent_of Try.func40 rfl rfl) rfl (fun w' hg hh => a_Area w' _ ([⟨-2, -2⟩, ⟨2, -2⟩, ⟨2, 2⟩, ⟨-2, 2⟩] : List PtT) (by show 4 ≤ 1000000; omega) hVb0 (by exact (xb.2.2.2 w' (pcsAt_nil w') hg.2.1).pc 0 (by show 0 < 1; omega)) hN2)) ?_
  refine l_split rfl (o_eql rfl rfl) (fun q5 => ?_) (fun q5 => absurd (show _ by omega) q5)
  refine l_val rfl (o_pickT rfl rfl) ?_
  refine l_val rfl (o_move rfl) ?_
  refine l_val rfl (o_build (vs := []) (cs := [_, _]) rfl rfl) ?_
  refine l_val rfl (o_build (vs := [_]) (cs := [_, _]) rfl rfl) ?_
  refine l_gsaid (ks := []) (caps := #[]) (vs := [_, _, _, _, _]) (α := PutsY (.slice none 0 0) [] [] (Q3)) (fun x => x.1.1) (fun x w' => SaidOk w' x.1.2.2.1 x.1.2.2.2) (fun x b => x.1.2.2.2 b) rfl rfl (ent_of Try.func35 rfl rfl) rfl (fun x w1 w2 h hb => h.keep hb) (fun x w1 b h hb => h.lt hb) (fun w' hg hh => a_CapQ w' _ [] [] ⟨0, 0⟩ 2 pcsW_nil capd_nil (pcsAt_nil w') (by show 0 ≤ 2000; omega) (by dsimp only; omega) (by omega) ⟨5, 0⟩ (by dsimp only; omega) (by dsimp only; omega) 2 hQ3) fun xc => ?_
  have hVxc : RowV xc.1.1 (Q3.length) := xc.2.1.V
  have hlxc : xc.1.2.1.length = (Q3.length) := xc.2.1.lenv
  refine l_val rfl (o_len rfl hVxc) ?_
  refine l_split rfl (o_eql rfl rfl) (fun q6 => ?_) (fun q6 => absurd (show _ by omega) q6)
  refine l_val rfl (o_pickT rfl rfl) ?_
  refine l_val rfl (o_move rfl) ?_
  refine l_val rfl (o_build (vs := []) (cs := [_, _]) rfl rfl) ?_
  refine l_gsaid (ks := []) (caps := #[]) (vs := [_, _, _, _]) (α := PutsY (.slice none 0 0) [] [] ([])) (fun x => x.1.1) (fun x w' => SaidOk w' x.1.2.2.1 x.1.2.2.2) (fun x b => x.1.2.2.2 b) rfl rfl (ent_of Try.func37 rfl rfl) rfl (fun x w1 w2 h hb => h.keep hb) (fun x w1 b h hb => h.lt hb) (fun w' hg hh => a_DotQ w' _ [] [] ⟨0, 0⟩ 2 pcsW_nil capd_nil (pcsAt_nil w') (by show 0 ≤ 2000; omega) (by dsimp only; omega) (by omega) 0 hQ4) fun xd => ?_
  have hVxd : RowV xd.1.1 (0) := xd.2.1.V
  have hlxd : xd.1.2.1.length = (0) := xd.2.1.lenv
  refine l_val rfl (o_len rfl hVxd) ?_
  refine l_split rfl (o_eql rfl rfl) (fun q7 => ?_) (fun q7 => absurd (show _ by omega) q7)
  refine l_val rfl (o_pickT rfl rfl) ?_
  refine l_val rfl (o_assign rfl) ?_
  refine l_nil ?_
  refine kt_norm ?_
  refine v_sel [0] [] rfl rfl ?_
  refine v_ret ?_
  refine ⟨[_], .cons (.tmp rfl) (ResAll.nil), ?_⟩
  rfl
set_option maxHeartbeats 4000000 in
theorem a_CapsSquare (w : World) (p q : PtT) (h : Int) : Calls Try.prog 11 #[.agg #[.int .i64 p.x, .int .i64 p.y], .agg #[.int .i64 q.x, .int .i64 q.y], .int .i64 h] w fun e w' => e = .returned (.bool true) ∧ Below w.heap.size w w' := by
  refine calls_of (args := [.agg #[.int .i64 p.x, .int .i64 p.y], .agg #[.int .i64 q.x, .int .i64 q.y], .int .i64 h]) Try.func11 rfl Try.ntmps11 Try.results11 rfl ?_
  refine v_seq ?_
  refine v_region ?_
  refine l_new rfl (o_box (cs := [_, _]) rfl rfl) fun b3 => ?_
  refine l_new rfl (o_box (cs := [_, _]) rfl rfl) fun b4 => ?_
  refine l_val rfl (o_assign rfl) ?_
  refine l_nil ?_
  refine kt_norm ?_
  refine v_seq ?_
  refine v_seq ?_
  refine v_region ?_
  refine l_val rfl (o_loadW (key := 3) rfl rfl rfl) ?_
  refine l_val rfl (o_loadW (key := 4) rfl rfl rfl) ?_
  refine l_val rfl (o_move rfl) ?_
  refine l_ans (vs := [_, _, _]) rfl rfl (a_goodK p q h) ?_
  refine lz_bool (fun hgd => ?_) (fun hgd => ?_)
  · skip
    refine l_val rfl (o_not rfl rfl) ?_
    refine l_val rfl (o_move rfl) ?_
    refine l_val rfl (o_loadW (key := 4) rfl rfl rfl) ?_
    refine l_ans (vs := [_, _]) rfl rfl (a_withinK _ _ (by omega)) ?_
    refine lz_bool (fun hwq => ?_) (fun hwq => ?_)
    · skip
      refine l_val rfl (o_not rfl rfl) ?_
      refine l_val rfl (o_pickF rfl rfl) ?_
      refine l_val rfl (o_move rfl) ?_
      refine l_call (ks := []) rfl (o_callC (vs := []) (r := .bool true) (ent_of Try.func32 rfl rfl) rfl (fun w' hg hh => a_shownK w')) ?_
      refine l_val rfl (o_not rfl rfl) ?_
      refine l_val rfl (o_pickF rfl rfl) ?_
      refine l_nil ?_
      refine kt_norm ?_
      refine v_sel [2, 3, 4, 21] [3, 4] rfl rfl ?_
      refine v_condF rfl ?_
      refine v_skip ?_
      refine kt_norm ?_
      refine v_seq ?_
      refine v_region ?_
      have hgp : ((-536870912 ≤ p.x ∧ p.x ≤ 536870912) ∧ (-536870912 ≤ p.y ∧ p.y ≤ 536870912)) := by unfold GoodK at hgd; omega
      have hgr : 1 ≤ h ∧ h ≤ 131072 := by unfold GoodK at hgd; omega
      have hbx : dotK 1 p h [] = [(quadT ⟨p.x + -h, p.y + -h⟩ ⟨2 * h, 0⟩ ⟨0, 2 * h⟩)] := box_put hgr p []
      have hba := box_area hgr p
      have hbn := box_near hgr hgp
      have hbc := (box_cap hgr hgp).cx
      have hbl := box_left hgr p q
      have hq0 : NearT q := by unfold NearT; omega
      have m1 := mul_bound (A := 131072) (B := 131072) (x := h) (y := h) (by omega) (by omega) (by omega) (by omega)
      have e8 : 8 * h * h = 8 * (h * h) := Int.mul_assoc _ _ _
      obtain ⟨B, hB⟩ : ∃ B, (quadT ⟨p.x + -h, p.y + -h⟩ ⟨2 * h, 0⟩ ⟨0, 2 * h⟩) = B := ⟨_, rfl⟩
      have hB4 : B.length = 4 := by rw [← hB]; rfl
      rw [hB] at hbx hba hbn hbc hbl
      refine l_val rfl (o_loadW (key := 3) rfl rfl rfl) ?_
      refine l_val rfl (o_move rfl) ?_
      refine l_gsaid (ks := []) (caps := #[]) (vs := [_, _, _, _]) (α := PutsY (.slice none 0 0) [] [] ([B])) (fun x => x.1.1) (fun x w' => SaidOk w' x.1.2.2.1 x.1.2.2.2) (fun x b => x.1.2.2.2 b) rfl rfl (ent_of Try.func37 rfl rfl) rfl (fun x w1 w2 h hb => h.keep hb) (fun x w1 b h hb => h.lt hb) (fun w' hg hh => a_DotQ w' _ [] [] p h pcsW_nil capd_nil (pcsAt_nil w') (by show 0 ≤ 2000; omega) hgp hgr 1 hbx) fun xa => ?_
      have hVxa : RowV xa.1.1 (1) := xa.2.1.V
      have hlxa : xa.1.2.1.length = (1) := xa.2.1.lenv
      refine l_val rfl (o_assign rfl) ?_
      refine l_nil ?_
      refine kt_norm ?_
      refine v_seq ?_
      refine v_drawZ [[], [], [], [], [], [], [], [4], [], [], [4], [], [3], [], [], [4], [], [3], [], [], [], [], [], [], [], [], [], [], [], [], [], [], [], [], [], []] mixed ?_ (by kernel_rfl) (by kernel_rfl)
      have hVa0 : RowV (xa.1.2.1.getD 0 undef) B.length := xa.2.1.pV 0 (by show 0 < 1; omega)
      refine d_val (fun _ => rfl) rfl rfl (fun _ => o_move rfl) ?_
      refine d_val (fun _ => rfl) rfl rfl (fun _ => o_len rfl hVxa) ?_
      refine d_eql (fun _ => rfl) (fun _ => rfl) (fun _ => rfl) (fun q1 => ?_) (fun q1 => absurd (show _ by omega) q1)
      refine d_val (fun _ => rfl) rfl rfl (fun _ => o_move rfl) ?_
      refine d_val (fun _ => rfl) rfl rfl (fun _ => o_move rfl) ?_
      refine d_val (fun _ => rfl) rfl rfl (fun _ => o_idx (0) rfl hVxa rfl (by first | rfl | omega) (by omega)) ?_
      refine d_val (fun _ => rfl) rfl rfl (fun _ => o_loadR1 rfl (row_imm (fun w2 hg => by exact (xa.2.2.2 w2 (pcsAt_nil w2) hg.2.1).row)) (el_one (by rw [hlxa]; omega))) ?_
      refine d_val (fun _ => rfl) rfl rfl (fun _ => o_loadW (key := 4) rfl rfl rfl) ?_
      refine d_gcall (y := .bool (decide ((-h ≤ q.x - p.x ∧ q.x - p.x ≤ h) ∧ (-h ≤ q.y - p.y ∧ q.y - p.y ≤ h)))) (caps := #[]) (fun _ => rfl) (fun _ => rfl) (ent_of Try.func18 rfl rfl) (vs := fun _ => [_, _]) (fun _ => rfl) (fun _ w' hg hh => a_HasC w' _ B q (by omega) hVa0 (by exact (xa.2.2.2 w' (pcsAt_nil w') hg.2.1).pc 0 (by show 0 < 1; omega)) hbn hq0 hbc hbl) ?_
      refine d_val (fun _ => rfl) rfl rfl (fun _ => o_fld rfl) ?_
      refine d_val (fun _ => rfl) rfl rfl (fun _ => o_load1 (key := 4) rfl rfl rfl) ?_
      refine d_val (fun _ => rfl) rfl rfl (fun _ => o_fld rfl) ?_
      refine d_val (fun _ => rfl) rfl rfl (fun _ => o_load1 (key := 3) rfl rfl rfl) ?_
      refine d_val (fun _ => rfl) rfl rfl (fun _ => o_subi rfl rfl ?_) ?_
      · omega
      refine d_val (fun _ => rfl) rfl rfl (fun _ => o_fld rfl) ?_
      refine d_val (fun _ => rfl) rfl rfl (fun _ => o_load1 (key := 4) rfl rfl rfl) ?_
      refine d_val (fun _ => rfl) rfl rfl (fun _ => o_fld rfl) ?_
      refine d_val (fun _ => rfl) rfl rfl (fun _ => o_load1 (key := 3) rfl rfl rfl) ?_
      refine d_val (fun _ => rfl) rfl rfl (fun _ => o_subi rfl rfl ?_) ?_
      · omega
      refine d_val (fun _ => rfl) rfl rfl (fun _ => o_build (vs := [_, _]) (cs := [_, _]) rfl rfl) ?_
      refine d_val (fun _ => rfl) rfl rfl (fun _ => o_move rfl) ?_
      refine d_ans (vs := [_, _]) (fun _ => rfl) (fun _ => rfl) (a_withinK ⟨q.x - p.x, q.y - p.y⟩ h (by omega)) ?_
      refine d_val (fun _ => rfl) rfl rfl (fun _ => o_eqlb (r := true) rfl rfl (beq_self_eq_true _)) ?_
      refine d_val (fun _ => rfl) rfl rfl (fun _ => o_pickT rfl rfl) ?_
      refine d_val (fun _ => rfl) rfl rfl (fun _ => o_move rfl) ?_
      refine d_val (fun _ => rfl) rfl rfl (fun _ => o_move rfl) ?_
      refine d_val (fun _ => rfl) rfl rfl (fun _ => o_idx (0) rfl hVxa rfl (by first | rfl | omega) (by omega)) ?_
      refine d_val (fun _ => rfl) rfl rfl (fun _ => o_loadR1 rfl (row_imm (fun w2 hg => by exact (xa.2.2.2 w2 (pcsAt_nil w2) hg.2.1).row)) (el_one (by rw [hlxa]; omega))) ?_
      refine d_gcall (y := .int .i64 (areaT B)) (caps := #[]) (fun _ => rfl) (fun _ => rfl) (ent_of Try.func40 rfl rfl) (vs := fun _ => [_]) (fun _ => rfl) (fun _ w' hg hh => a_Area w' _ B (by omega) hVa0 (by exact (xa.2.2.2 w' (pcsAt_nil w') hg.2.1).pc 0 (by show 0 < 1; omega)) hbn) ?_
      refine d_val (fun _ => rfl) rfl rfl (fun _ => o_move rfl) ?_
      refine d_val (fun _ => rfl) rfl rfl (fun _ => o_muli rfl rfl ?_) ?_
      · omega
      refine d_val (fun _ => rfl) rfl rfl (fun _ => o_move rfl) ?_
      refine d_val (fun _ => rfl) rfl rfl (fun _ => o_muli rfl rfl ?_) ?_
      · omega
      refine d_eql (fun _ => rfl) (fun _ => rfl) (fun _ => rfl) (fun q2 => ?_) (fun q2 => absurd (show _ by omega) q2)
      refine d_val (fun _ => rfl) rfl rfl (fun _ => o_pickT rfl rfl) ?_
      refine d_val (fun _ => rfl) rfl rfl (fun _ => o_assign rfl) ?_
      refine d_nil (fun σ => ?_)
      refine l_nil ?_
      refine kt_norm ?_
      refine v_sel [6] [] rfl rfl ?_
      refine v_ret ?_
      refine ⟨[_], .cons (.tmp rfl) (ResAll.nil), ?_⟩
      rfl
    · skip
      refine l_val rfl (o_not rfl rfl) ?_
      refine l_val rfl (o_pickF rfl rfl) ?_
      refine l_val rfl (o_move rfl) ?_
      refine l_no rfl ?_
      refine l_no rfl ?_
      refine l_val rfl (o_pickT rfl rfl) ?_
      refine l_nil ?_
      refine kt_norm ?_
      refine v_sel [2, 3, 4, 21] [3, 4] rfl rfl ?_
      refine v_condT rfl ?_
      refine v_seq ?_
      refine v_region ?_
      refine l_call (ks := []) rfl (o_callC (vs := []) (r := .bool true) (ent_of Try.func32 rfl rfl) rfl (fun w' hg hh => a_shownK w')) ?_
      refine l_val rfl (o_assign rfl) ?_
      refine l_nil ?_
      refine kt_norm ?_
      refine v_ret ?_
      refine kt_ret ?_
      refine ⟨[_], .cons (.tmp rfl) (ResAll.nil), ?_⟩
      rfl
  · skip
    refine l_val rfl (o_not rfl rfl) ?_
    refine l_val rfl (o_move rfl) ?_
    refine l_no rfl ?_
    refine l_no rfl ?_
    refine l_no rfl ?_
    refine l_val rfl (o_pickT rfl rfl) ?_
    refine l_val rfl (o_move rfl) ?_
    refine l_no rfl ?_
    refine l_no rfl ?_
    refine l_val rfl (o_pickT rfl rfl) ?_
    refine l_nil ?_
    refine kt_norm ?_
    refine v_sel [2, 3, 4, 21] [3, 4] rfl rfl ?_
    refine v_condT rfl ?_
    refine v_seq ?_
    refine v_region ?_
    refine l_call (ks := []) rfl (o_callC (vs := []) (r := .bool true) (ent_of Try.func32 rfl rfl) rfl (fun w' hg hh => a_shownK w')) ?_
    refine l_val rfl (o_assign rfl) ?_
    refine l_nil ?_
    refine kt_norm ?_
    refine v_ret ?_
    refine kt_ret ?_
    refine ⟨[_], .cons (.tmp rfl) (ResAll.nil), ?_⟩
    rfl
end Go.Proofs.Ytpgjbalnipinoaa

/- What caps and dots put. Conditions: none. -/
namespace Go.Proofs.Ytpgjbalnipinoaa
open Go.Proofs Go.RowKit Go.Shelf

theorem vec_in {u f : PtT} {h : Int} (hh : 1 ≤ h) (hx : -1073741824 ≤ u.x ∧ u.x ≤ 1073741824) (hy : -1073741824 ≤ u.y ∧ u.y ≤ 1073741824) (h0 : ¬ (u.x = 0 ∧ u.y = 0)) (hf : normT u h = f) : InR h f ∧ (h - 1) * (h - 1) ≤ dotT f f ∧ 1 ≤ dotT f f := by
  obtain ⟨hR, h1, -⟩ := vec_ok hh hx hy h0 rfl hf
  exact ⟨hf ▸ norm_bound hx hy (by omega), hR.low hh, h1⟩
theorem norm_zero {u : PtT} {h : Int} (h0 : u.x = 0 ∧ u.y = 0) : normT u h = ⟨0, 0⟩ := by
  unfold normT
  rw [if_pos]
  have hu : u = ⟨0, 0⟩ := pt_ext h0
  rw [hu]; unfold lenT
  show ((isq (0 * 0 + 0 * 0 : Int).toNat : Nat) : Int) = 0
  rw [show ((0 : Int) * 0 + 0 * 0).toNat = 0 from rfl, isq_zero]; rfl
theorem half_all1 {r : Int} {f : PtT} (hr : 1 ≤ r ∧ r ≤ 131072) (hi : InR r f) (hn : (r - 1) * (r - 1) ≤ dotT f f) (h1 : 1 ≤ dotT f f) : ∀ c ∈ halfL r f, HalfC r f c.1 c.2 := by
  have hi1 := hi.1
  have hi2 := hi.2
  have ea : dotT (⟨-(-f.y), -f.x⟩ : PtT) ⟨-(-f.y), -f.x⟩ = dotT f f := by unfold dotT; grind
  have eb : dotT (⟨-f.y, f.x⟩ : PtT) ⟨-f.y, f.x⟩ = dotT f f := by unfold dotT; grind
  have ed1 : dotT (⟨-(-f.y), -f.x⟩ : PtT) f = 0 := by unfold dotT; grind
  have ed2 : dotT f (⟨-f.y, f.x⟩ : PtT) = 0 := by unfold dotT; grind
  have ed3 : dotT f (⟨-(-f.y), -f.x⟩ : PtT) = 0 := by unfold dotT; grind
  have ex1 : crossT (⟨-(-f.y), -f.x⟩ : PtT) f = dotT f f := by unfold crossT dotT; grind
  have ex2 : crossT f (⟨-f.y, f.x⟩ : PtT) = dotT f f := by unfold crossT dotT; grind
  intro c hc
  rcases List.mem_append.1 hc with hc | hc
  · exact half_chords (f := dotT f f) hr ⟨⟨by dsimp only; omega, by dsimp only; omega⟩, hi, by rw [ea]; exact hn, hn, by omega, by omega, by omega, by omega⟩ ea rfl ed1 ex1 c hc
  · exact half_chords (f := dotT f f) hr ⟨hi, ⟨by dsimp only; omega, by dsimp only; omega⟩, hn, by rw [eb]; exact hn, by omega, by omega, by omega, by omega⟩ rfl eb ed2 ex2 c hc
theorem half_put {p u f : PtT} {r : Int} (hr : 1 ≤ r ∧ r ≤ 131072) (hf : normT u r = f) (hi : InR r f) (hn : (r - 1) * (r - 1) ≤ dotT f f) (h1 : 1 ≤ dotT f f) (qs : List (List PtT)) : halfT p u r qs = qs ++ (halfL r f).map (triP p) := by
  have hne : ¬ (f.x = 0 ∧ f.y = 0) := fun ⟨e1, e2⟩ => by
    unfold dotT at h1
    rw [e1, e2] at h1
    omega
  rw [halfT_yes hf hne]
  show (([] ++ chordsT r 6 ⟨-(-f.y), -f.x⟩ f) ++ chordsT r 6 f ⟨-f.y, f.x⟩).foldl (pieT p) qs = _
  rw [List.nil_append]
  have hall := half_all1 hr hi hn h1
  refine pie_all p (halfL r f) qs fun c hc => ?_
  have h := hall c hc
  have i1 := h.iu
  have i2 := h.iv
  unfold InR at i1 i2
  exact ⟨⟨by unfold BdT; omega, by unfold BdT; omega⟩, h.x⟩
theorem halfL_len (r : Int) (f : PtT) : 1 ≤ (halfL r f).length ∧ (halfL r f).length ≤ 128 := by
  have h1 := chords6 r ⟨-(-f.y), -f.x⟩ f
  have h2 := chords6 r f ⟨-f.y, f.x⟩
  unfold halfL
  rw [List.length_append]; omega
theorem disc_put {p : PtT} {r : Int} (hr : 1 ≤ r ∧ r ≤ 131072) (qs : List (List PtT)) : piesT p r (discC r) qs = qs ++ (arcsK r (discC r) 4).map (triP p) :=
  pie_all p (arcsK r (discC r) 4) qs (fun c hc => ⟨arcs_bd hr (disc_bd hr) 4 (by show 4 < 5; omega) c hc, (disc_fin hr c hc).x⟩)
theorem disc_cnt (r : Int) : 1 ≤ (arcsK r (discC r) 4).length ∧ (arcsK r (discC r) 4).length ≤ 256 := by
  have h1 := chords6 r ⟨r, 0⟩ ⟨0, r⟩
  have h2 := arcs_len r (discC r) 4
  refine ⟨?_, h2⟩
  rw [disc_arcs, List.length_append, List.length_append, List.length_append]; omega
/-- what a cap puts behind others -/
theorem cap_ex {k h : Int} {p u : PtT} (hh : 1 ≤ h ∧ h ≤ 131072) (hp : (-536870912 ≤ p.x ∧ p.x ≤ 536870912) ∧ (-536870912 ≤ p.y ∧ p.y ≤ 536870912)) (hx : -1073741824 ≤ u.x ∧ u.x ≤ 1073741824) (hy : -1073741824 ≤ u.y ∧ u.y ≤ 1073741824) (qs : List (List PtT)) :
    ∃ rest, capK k p u h qs = qs ++ rest ∧ rest.length ≤ 128 ∧ (∀ q ∈ rest, CapP p q) ∧ (0 < rest.length ↔ (k = 1 ∨ k = 2) ∧ ¬ (u.x = 0 ∧ u.y = 0)) := by
  have none : ∀ {Z : List (List PtT)}, Z = qs → ¬ ((k = 1 ∨ k = 2) ∧ ¬ (u.x = 0 ∧ u.y = 0)) → ∃ rest, Z = qs ++ rest ∧ rest.length ≤ 128 ∧ (∀ q ∈ rest, CapP p q) ∧ (0 < rest.length ↔ (k = 1 ∨ k = 2) ∧ ¬ (u.x = 0 ∧ u.y = 0)) := fun e hn =>
    ⟨[], by rw [List.append_nil]; exact e, Nat.zero_le _, (fun q h => by cases h), ⟨fun h => absurd h (Nat.lt_irrefl 0), fun h => absurd h hn⟩⟩
  by_cases h1 : k = 1
  · have e1 : capK k p u h qs = sqT p u h qs := if_pos h1
    rw [e1]
    by_cases h0 : u.x = 0 ∧ u.y = 0
    · exact none (sq_none h0 qs) (fun h => h.2 h0)
    · obtain ⟨s, hs⟩ : ∃ s, normT ⟨-u.y, u.x⟩ h = s := ⟨_, rfl⟩
      obtain ⟨f, hf⟩ : ∃ f, normT u h = f := ⟨_, rfl⟩
      obtain ⟨e, k1, k2, _⟩ := sq_put (p := p) hh hx hy h0 hs hf qs
      have hbs := hs ▸ norm_bound (p := ⟨-u.y, u.x⟩) (r := h) (by dsimp only; omega) (by dsimp only; omega) (by omega)
      have hbf := hf ▸ norm_bound (p := u) (r := h) hx hy (by omega)
      refine ⟨_, e, ?_, fun q hq => ?_, ⟨fun _ => ⟨.inl h1, h0⟩, fun _ => ?_⟩⟩
      · rw [List.length_singleton]; omega
      · rw [List.mem_singleton.1 hq]; exact (sq_cap hh hp hbs hbf ⟨k1, k2⟩).1
      · rw [List.length_singleton]; omega
  · by_cases h2 : k = 2
    · have e1 : capK k p u h qs = halfT p u h qs := by unfold capK; rw [if_neg h1, if_pos h2]
      rw [e1]
      by_cases h0 : u.x = 0 ∧ u.y = 0
      · exact none (halfT_no (norm_zero h0) ⟨rfl, rfl⟩) (fun h => h.2 h0)
      · obtain ⟨f, hf⟩ : ∃ f, normT u h = f := ⟨_, rfl⟩
        obtain ⟨i1, i2, i3⟩ := vec_in hh.1 hx hy h0 hf
        have hl := halfL_len h f
        have hT := tri_half hp hh hx hy (qs := []) (fun x h => by cases h)
        rw [half_put hh hf i1 i2 i3 [], List.nil_append] at hT
        refine ⟨_, half_put hh hf i1 i2 i3 qs, by rw [List.length_map]; omega, fun q hq => (hT q hq).cap, ⟨fun _ => ⟨.inr h2, h0⟩, fun _ => by rw [List.length_map]; omega⟩⟩
    · exact none (by unfold capK; rw [if_neg h1, if_neg h2]) (fun h => by omega)
theorem dot_ex {k h : Int} {p : PtT} (hh : 1 ≤ h ∧ h ≤ 131072) (hp : (-536870912 ≤ p.x ∧ p.x ≤ 536870912) ∧ (-536870912 ≤ p.y ∧ p.y ≤ 536870912)) (qs : List (List PtT)) :
    ∃ rest, dotK k p h qs = qs ++ rest ∧ rest.length ≤ 256 ∧ (∀ q ∈ rest, CapP p q) ∧ (0 < rest.length ↔ (k = 1 ∨ k = 2)) := by
  by_cases h1 : k = 1
  · subst h1
    refine ⟨_, box_put hh p qs, ?_, fun q hq => ?_, ⟨fun _ => .inl rfl, fun _ => ?_⟩⟩
    · rw [List.length_singleton]; omega
    · rw [List.mem_singleton.1 hq]; exact box_cap hh hp
    · rw [List.length_singleton]; omega
  · by_cases h2 : k = 2
    · have e1 : dotK k p h qs = piesT p h (discC h) qs := by unfold dotK; rw [if_neg h1, if_pos h2]
      rw [e1]
      have hl := disc_cnt h
      have hT : ∀ x ∈ piesT p h (discC h) [], TriT p x := tri_app hp (arcs_bd hh (disc_bd hh) 4 (by show 4 < 5; omega)) (fun x h => by cases h)
      rw [disc_put hh [], List.nil_append] at hT
      exact ⟨_, disc_put hh qs, by rw [List.length_map]; omega, fun q hq => (hT q hq).cap, ⟨fun _ => .inr h2, fun _ => by rw [List.length_map]; omega⟩⟩
    · exact ⟨[], by unfold dotK; rw [if_neg h1, if_neg h2, List.append_nil], Nat.zero_le _, (fun q h => by cases h), ⟨fun h => absurd h (Nat.lt_irrefl 0), fun h => by omega⟩⟩
/-! ### shifted caps -/
theorem add_sh (dx dy : Int) (p : PtT) (cs : List PtT) : cs.map (addP (shP dx dy p)) = (cs.map (addP p)).map (shP dx dy) := by
  rw [List.map_map]
  refine List.map_congr_left fun c _ => ?_
  show addP (shP dx dy p) c = shP dx dy (addP p c)
  unfold addP shP
  exact pt_ext ⟨by dsimp only; omega, by dsimp only; omega⟩
theorem cap_sh (dx dy : Int) (k : Int) (p u : PtT) (h : Int) (qs : List (List PtT)) : capK k (shP dx dy p) u h (shQ dx dy qs) = shQ dx dy (capK k p u h qs) := by
  unfold capK
  split
  · unfold sqT
    split
    · rfl
    · rw [add_sh, put_sh]
  · split
    · exact half_sh dx dy p u h qs
    · rfl
theorem dot_sh (dx dy : Int) (k : Int) (p : PtT) (h : Int) (qs : List (List PtT)) : dotK k (shP dx dy p) h (shQ dx dy qs) = shQ dx dy (dotK k p h qs) := by
  unfold dotK
  split
  · rw [add_sh, put_sh]
  · split
    · exact pies_sh dx dy p _ qs
    · rfl
end Go.Proofs.Ytpgjbalnipinoaa

/- The pieces of the document: area, sides, convex ones. Conditions: none. -/
namespace Go.Proofs.Ytpgjbalnipinoaa
open Go.Proofs Go.RowKit Go.Shelf

theorem cmpI_sg (x y : Int) : cmpI x y = sg (x - y) := by
  unfold cmpI sg; (repeat' split) <;> omega
theorem conv_short {pc : List PtT} (h : pc.length < 3) : convexB pc = false := by
  unfold convexB; rw [decide_eq_false (by omega)]; rfl
theorem conv_area {pc : List PtT} (h : areaT pc ≤ 0) : convexB pc = false := by
  unfold convexB; rw [decide_eq_false (show ¬ 0 < areaT pc by omega), Bool.false_and, Bool.and_false]
theorem conv_side {pc : List PtT} {i k : Nat} (hi : i < pc.length) (hk : k < pc.length) (h : sideT (pc.getD i dP) (pc.getD ((i + 1) % pc.length) dP) (pc.getD k dP) < 0) : convexB pc = false := by
  have e := left_no hi h
  have ha : (pc.any fun p => !leftB pc p) = true := List.any_eq_true.2 ⟨_, pt_mem hk, by rw [e]; rfl⟩
  unfold convexB; rw [ha]; simp
theorem conv_all {pc : List PtT} (h3 : 3 ≤ pc.length) (ha : 0 < areaT pc) (h : ∀ i k, i < pc.length → k < pc.length → ¬ sideT (pc.getD i dP) (pc.getD ((i + 1) % pc.length) dP) (pc.getD k dP) < 0) : convexB pc = true := by
  have e : (pc.any fun p => !leftB pc p) = false := by
    rw [List.any_eq_false]
    intro p hp
    obtain ⟨k, hk, rfl⟩ := List.getElem_of_mem hp
    have := left_yes (pc := pc) (p := pc[k]) fun i hi => by
      have := h i k hi hk
      rwa [List.getD_eq_getElem?_getD (l := pc) (i := k), List.getElem?_eq_getElem hk] at this
    rw [this]; decide
  unfold convexB; rw [decide_eq_true h3, decide_eq_true ha, e]; rfl
theorem r_Cross (x y u v : Int) (hx : -1073741824 ≤ x ∧ x ≤ 1073741824) (hy : -1073741824 ≤ y ∧ y ≤ 1073741824) (hu : -1073741824 ≤ u ∧ u ≤ 1073741824) (hv : -1073741824 ≤ v ∧ v ≤ 1073741824) : Ans Try.prog 102 [.agg #[.int .i64 x, .int .i64 y], .agg #[.int .i64 u, .int .i64 v]] (.int .i64 (x * v - y * u)) := by
  have m1 := mul_bound (A := 1073741824) (B := 1073741824) (x := x) (y := v) (by omega) (by omega) (by omega) (by omega)
  have m2 := mul_bound (A := 1073741824) (B := 1073741824) (x := y) (y := u) (by omega) (by omega) (by omega) (by omega)
  refine ans_of Try.func102 rfl Try.ntmps102 Try.results102 rfl rfl fun w => ?_
  refine v_seq ?_
  refine v_region ?_
  refine l_new rfl (o_box (cs := [_, _]) rfl rfl) fun b2 => ?_
  refine l_new rfl (o_box (cs := [_, _]) rfl rfl) fun b3 => ?_
  refine l_val rfl (o_assign rfl) ?_
  refine l_nil ?_
  refine kt_norm ?_
  refine v_seq ?_
  refine v_region ?_
  refine l_val rfl (o_fld rfl) ?_
  refine l_val rfl (o_load1 (key := 2) rfl rfl rfl) ?_
  refine l_val rfl (o_fld rfl) ?_
  refine l_val rfl (o_load1 (key := 3) rfl rfl rfl) ?_
  refine l_val rfl (o_muli rfl rfl ?_) ?_
  · omega
  refine l_val rfl (o_fld rfl) ?_
  refine l_val rfl (o_load1 (key := 2) rfl rfl rfl) ?_
  refine l_val rfl (o_fld rfl) ?_
  refine l_val rfl (o_load1 (key := 3) rfl rfl rfl) ?_
  refine l_val rfl (o_muli rfl rfl ?_) ?_
  · omega
  refine l_val rfl (o_subi rfl rfl ?_) ?_
  · omega
  refine l_val rfl (o_assign rfl) ?_
  refine l_nil ?_
  refine kt_norm ?_
  refine v_sel [4] [] rfl rfl ?_
  refine v_ret ?_
  refine ⟨[_], .cons (.tmp rfl) (ResAll.nil), ?_⟩
  rfl
theorem r_Area (w : World) (v : Value) (pc : List PtT) (hs : pc.length ≤ 1000000) (hV : RowV v pc.length) (hrow : RowAt w v 2 pc.length (pc.flatMap eP)) (hnear : ∀ p ∈ pc, NearT p) : Calls Try.prog 93 #[v] w fun e w' => e = .returned (.int .i64 (areaT pc)) ∧ Below w.heap.size w w' := by
  have hr : ∀ w', Chg (fun _ => False) w w' → RowAt w' v 2 pc.length (pc.flatMap eP) := fun w' h => hrow.chg h (fun h => h)
  refine calls_of (args := [v]) Try.func93 rfl Try.ntmps93 Try.results93 rfl ?_
  refine v_seq ?_
  refine v_region ?_
  refine l_val rfl (o_assign rfl) ?_
  refine l_nil ?_
  refine kt_norm ?_
  refine v_seq ?_
  refine v_region ?_
  refine l_val rfl (o_assign rfl) ?_
  refine l_nil ?_
  refine kt_norm ?_
  refine v_seq ?_
  refine v_seq ?_
  refine v_region ?_
  refine l_val rfl (o_assign rfl) ?_
  refine l_nil ?_
  refine kt_norm ?_
  refine v_block ?_
  refine v_loopS (α := Nat) (fun i => [(4, .int .i64 (i : Int)), (3, .int .i64 (areaTo pc i))]) (fun i => [])  (fun i => i ≤ pc.length) (fun i => pc.length - i) 0 [0] [] (Nat.zero_le _)  (And.intro rfl (And.intro rfl (True.intro))) rfl (True.intro) rfl ?_
  rintro i hi
  refine v_seq ?_
  refine v_seq ?_
  refine v_region ?_
  refine l_val rfl (o_move rfl) ?_
  refine l_val rfl (o_move rfl) ?_
  refine l_val rfl (o_len rfl hV) ?_
  refine l_split rfl (o_lss rfl rfl) (fun q1 => ?_) (fun q1 => ?_)
  · have hil : i < pc.length := by omega
    have n1 := near_getD hnear hil
    have n2 := near_getD hnear (Nat.mod_lt (i + 1) (show 0 < pc.length by omega))
    unfold NearT at n1 n2
    refine l_nil ?_
    refine kt_norm ?_
    refine v_condT rfl ?_
    refine v_skip ?_
    refine kt_norm ?_
    refine v_seq ?_
    refine v_block ?_
    refine v_drawZ [[], [], [], [], [], [], [], [], [], [], [], [], [], [], [], []] mixed ?_ (by kernel_rfl) (by kernel_rfl)
    refine d_val (fun _ => rfl) rfl rfl (fun _ => o_move rfl) ?_
    refine d_val (fun _ => rfl) rfl rfl (fun _ => o_move rfl) ?_
    refine d_val (fun _ => rfl) rfl rfl (fun _ => o_move rfl) ?_
    refine d_val (fun _ => rfl) rfl rfl (fun _ => o_idx (i) rfl hV rfl (by first | rfl | omega) (by omega)) ?_
    refine d_val (fun _ => rfl) rfl rfl (fun _ => o_loadRE (c' := [_, _]) rfl (row_imm hr) (el_flat eP_len dP pc (i) (by omega)) rfl) ?_
    refine d_val (fun _ => rfl) rfl rfl (fun _ => o_move rfl) ?_
    refine d_val (fun _ => rfl) rfl rfl (fun _ => o_move rfl) ?_
    refine d_val (fun _ => rfl) rfl rfl (fun _ => o_addi rfl rfl ?_) ?_
    · omega
    refine d_val (fun _ => rfl) rfl rfl (fun _ => o_move rfl) ?_
    refine d_val (fun _ => rfl) rfl rfl (fun _ => o_len rfl hV) ?_
    refine d_val (fun _ => rfl) rfl rfl (fun _ => o_remn rfl rfl ?_) ?_
    · omega
    refine d_val (fun _ => rfl) rfl rfl (fun _ => o_idx ((i + 1) % pc.length) rfl hV rfl (by first | rfl | omega) (Nat.mod_lt _ (by omega))) ?_
    refine d_val (fun _ => rfl) rfl rfl (fun _ => o_loadRE (c' := [_, _]) rfl (row_imm hr) (el_flat eP_len dP pc ((i + 1) % pc.length) (Nat.mod_lt _ (by omega))) rfl) ?_
    refine d_ans (vs := [_, _]) (fun _ => rfl) (fun _ => rfl) (r_Cross _ _ _ _ ?_ ?_ ?_ ?_) ?_
    · omega
    · omega
    · omega
    · omega
    refine d_val (fun _ => rfl) rfl rfl (fun _ => o_add rfl rfl (wrap_i64m _)) ?_
    refine d_val (fun _ => rfl) rfl rfl (fun _ => o_assign rfl) ?_
    refine d_nil (fun σ => ?_)
    refine l_nil ?_
    refine kb_norm ?_
    refine kt_norm ?_
    refine v_sel [4, 3, 0] [] rfl rfl ?_
    refine v_region ?_
    refine l_val rfl (o_move rfl) ?_
    refine l_val rfl (o_addi rfl rfl ?_) ?_
    · omega
    refine l_val rfl (o_assign rfl) ?_
    refine l_nil ?_
    refine kt_norm ?_
    refine ⟨i + 1, hil, (by show pc.length - (i + 1) < pc.length - i; omega), le_app (And.intro rfl (And.intro rfl (True.intro))) [0] rfl (True.intro) [] rfl⟩
  · skip
    refine l_nil ?_
    refine kt_norm ?_
    refine v_condF rfl ?_
    refine v_exit ?_
    refine kt_exit ?_
    refine kt_exit ?_
    refine kb_eq ?_
    refine kt_norm ?_
    refine v_sel [3] [] rfl rfl ?_
    refine v_seq ?_
    refine v_region ?_
    obtain rfl : i = pc.length := by omega
    refine l_val rfl (o_move rfl) ?_
    refine l_val rfl (o_assign rfl) ?_
    refine l_nil ?_
    refine kt_norm ?_
    refine v_ret ?_
    refine ⟨[_], .cons (.tmp rfl) (ResAll.nil), ?_⟩
    rfl
theorem r_Side (a b c : PtT) (ha : NearT a) (hb : NearT b) (hc : NearT c) : Ans Try.prog 94 [.agg #[.int .i64 a.x, .int .i64 a.y], .agg #[.int .i64 b.x, .int .i64 b.y], .agg #[.int .i64 c.x, .int .i64 c.y]] (.int .i64 (sideT a b c)) := by
  unfold NearT at ha hb hc
  refine ans_of Try.func94 rfl Try.ntmps94 Try.results94 rfl rfl fun w => ?_
  refine v_seq ?_
  refine v_region ?_
  refine l_new rfl (o_box (cs := [_, _]) rfl rfl) fun b3 => ?_
  refine l_new rfl (o_box (cs := [_, _]) rfl rfl) fun b4 => ?_
  refine l_new rfl (o_box (cs := [_, _]) rfl rfl) fun b5 => ?_
  refine l_val rfl (o_assign rfl) ?_
  refine l_nil ?_
  refine kt_norm ?_
  refine v_seq ?_
  refine v_region ?_
  refine l_val rfl (o_loadW (key := 4) rfl rfl rfl) ?_
  refine l_val rfl (o_loadW (key := 3) rfl rfl rfl) ?_
  refine l_ans (vs := [_, _]) rfl rfl (r_PSub _ _ _ _ ?_ ?_ ?_ ?_) ?_
  · omega
  · omega
  · omega
  · omega
  refine l_new rfl o_alloc fun b7 => ?_
  refine l_store rfl (o_storeW (key := 7) (xs := [_, _]) rfl rfl rfl rfl rfl rfl rfl) ?_
  refine l_nil ?_
  refine kt_norm ?_
  refine v_sel [3, 5, 7] [3, 5, 7] rfl rfl ?_
  refine v_seq ?_
  refine v_region ?_
  refine l_val rfl (o_loadW (key := 5) rfl rfl rfl) ?_
  refine l_val rfl (o_loadW (key := 3) rfl rfl rfl) ?_
  refine l_ans (vs := [_, _]) rfl rfl (r_PSub _ _ _ _ ?_ ?_ ?_ ?_) ?_
  · omega
  · omega
  · omega
  · omega
  refine l_new rfl o_alloc fun b8 => ?_
  refine l_store rfl (o_storeW (key := 8) (xs := [_, _]) rfl rfl rfl rfl rfl rfl rfl) ?_
  refine l_nil ?_
  refine kt_norm ?_
  refine v_seq ?_
  refine v_drawZ [[], [7], [], [8], [], [], [7], [], [8], [], [], []] mixed ?_ (by kernel_rfl) (by kernel_rfl)
  refine d_val (fun _ => rfl) rfl rfl (fun _ => o_fld rfl) ?_
  refine d_val (fun _ => rfl) rfl rfl (fun _ => o_load1 (key := 7) rfl rfl rfl) ?_
  refine d_val (fun _ => rfl) rfl rfl (fun _ => o_fld rfl) ?_
  refine d_val (fun _ => rfl) rfl rfl (fun _ => o_load1 (key := 8) rfl rfl rfl) ?_
  refine d_ans (vs := [_, _]) (fun _ => rfl) (fun _ => rfl) (r_Mul _ _ ?_ ?_) ?_
  · omega
  · omega
  refine d_val (fun _ => rfl) rfl rfl (fun _ => o_fld rfl) ?_
  refine d_val (fun _ => rfl) rfl rfl (fun _ => o_load1 (key := 7) rfl rfl rfl) ?_
  refine d_val (fun _ => rfl) rfl rfl (fun _ => o_fld rfl) ?_
  refine d_val (fun _ => rfl) rfl rfl (fun _ => o_load1 (key := 8) rfl rfl rfl) ?_
  refine d_ans (vs := [_, _]) (fun _ => rfl) (fun _ => rfl) (r_Mul _ _ ?_ ?_) ?_
  · omega
  · omega
  refine d_ans (vs := [_, _]) (fun _ => rfl) (fun _ => rfl) (r_Cmp _ _) ?_
  refine d_val (fun _ => rfl) rfl rfl (fun _ => o_assign rfl) ?_
  refine d_nil (fun σ => ?_)
  refine l_nil ?_
  refine kt_norm ?_
  refine v_sel [6] [] rfl rfl ?_
  refine v_ret ?_
  refine ⟨[_], .cons (.tmp rfl) (ResAll.nil), ?_⟩
  exact congrArg (Value.int .i64) (cmpI_sg _ _)
theorem r_Convex (w : World) (v : Value) (pc : List PtT) (hs : pc.length ≤ 1000000) (hV : RowV v pc.length) (hrow : RowAt w v 2 pc.length (pc.flatMap eP)) (hnear : ∀ p ∈ pc, NearT p) : Calls Try.prog 76 #[v] w fun e w' => e = .returned (.bool (convexB pc)) ∧ Below w.heap.size w w' := by
  have hr : ∀ w', Chg (fun _ => False) w w' → RowAt w' v 2 pc.length (pc.flatMap eP) := fun w' h => hrow.chg h (fun h => h)
  refine calls_of (args := [v]) Try.func76 rfl Try.ntmps76 Try.results76 rfl ?_
  refine v_seq ?_
  refine v_region ?_
  refine l_val rfl (o_assign rfl) ?_
  refine l_nil ?_
  refine kt_norm ?_
  refine v_seq ?_
  refine v_seq ?_
  refine v_region ?_
  refine l_val rfl (o_move rfl) ?_
  refine l_val rfl (o_len rfl hV) ?_
  refine l_split rfl (o_lss rfl rfl) (fun hsh => ?_) (fun hsh => ?_)
  · skip
    refine l_val rfl (o_move rfl) ?_
    refine l_no rfl ?_
    refine l_no rfl ?_
    refine l_no rfl ?_
    refine l_val rfl (o_pickT rfl rfl) ?_
    refine l_nil ?_
    refine kt_norm ?_
    refine v_sel [0, 12] [] rfl rfl ?_
    refine v_condT rfl ?_
    refine v_seq ?_
    refine v_region ?_
    refine l_val rfl (o_assign rfl) ?_
    refine l_nil ?_
    refine kt_norm ?_
    refine v_ret ?_
    refine kt_ret ?_
    refine ⟨[_], .cons (.tmp rfl) (ResAll.nil), ?_⟩
    first
      | exact congrArg Value.bool (conv_short (by omega)).symm
      | exact congrArg Value.bool (conv_area (by omega)).symm
      | exact congrArg Value.bool (conv_side hil hkl hsd).symm
      | exact congrArg Value.bool (conv_all (by omega) (by omega) (fun a b ha hb => hQi a b (by omega) hb)).symm
  · skip
    refine l_val rfl (o_move rfl) ?_
    refine l_val rfl (o_move rfl) ?_
    refine l_call (ks := []) rfl (o_callC (vs := [_]) (r := .int .i64 (areaT pc)) (ent_of Try.func93 rfl rfl) rfl (fun w' hg hh => r_Area w' v pc hs hV (hr w' hg) hnear)) ?_
    refine l_split rfl (o_leq rfl rfl) (fun har => ?_) (fun har => ?_)
    · skip
      refine l_val rfl (o_pickF rfl rfl) ?_
      refine l_nil ?_
      refine kt_norm ?_
      refine v_sel [0, 12] [] rfl rfl ?_
      refine v_condT rfl ?_
      refine v_seq ?_
      refine v_region ?_
      refine l_val rfl (o_assign rfl) ?_
      refine l_nil ?_
      refine kt_norm ?_
      refine v_ret ?_
      refine kt_ret ?_
      refine ⟨[_], .cons (.tmp rfl) (ResAll.nil), ?_⟩
      first
        | exact congrArg Value.bool (conv_short (by omega)).symm
        | exact congrArg Value.bool (conv_area (by omega)).symm
        | exact congrArg Value.bool (conv_side hil hkl hsd).symm
        | exact congrArg Value.bool (conv_all (by omega) (by omega) (fun a b ha hb => hQi a b (by omega) hb)).symm
    · skip
      refine l_val rfl (o_pickF rfl rfl) ?_
      refine l_nil ?_
      refine kt_norm ?_
      refine v_sel [0, 12] [] rfl rfl ?_
      refine v_condF rfl ?_
      refine v_skip ?_
      refine kt_norm ?_
      refine v_seq ?_
      refine v_seq ?_
      refine v_region ?_
      refine l_val rfl (o_assign rfl) ?_
      refine l_nil ?_
      refine kt_norm ?_
      refine v_block ?_
      refine v_loopS (α := Nat) (fun i => [(3, .int .i64 (i : Int))]) (fun i => [])  (fun i => i ≤ pc.length ∧ ∀ a b, a < i → b < pc.length → ¬ sideT (pc.getD a dP) (pc.getD ((a + 1) % pc.length) dP) (pc.getD b dP) < 0) (fun i => pc.length - i) 0 [0] [] ⟨Nat.zero_le _, fun a b h => by omega⟩  (And.intro rfl (True.intro)) rfl (True.intro) rfl ?_
      rintro i ⟨hi, hQi⟩
      refine v_seq ?_
      refine v_seq ?_
      refine v_region ?_
      refine l_val rfl (o_move rfl) ?_
      refine l_val rfl (o_move rfl) ?_
      refine l_val rfl (o_len rfl hV) ?_
      refine l_split rfl (o_lss rfl rfl) (fun hia => ?_) (fun hia => ?_)
      · have hil : i < pc.length := by omega
        have hn1 := near_getD hnear hil
        have hn2 := near_getD hnear (Nat.mod_lt (i + 1) (show 0 < pc.length by omega))
        refine l_nil ?_
        refine kt_norm ?_
        refine v_condT rfl ?_
        refine v_skip ?_
        refine kt_norm ?_
        refine v_seq ?_
        refine v_block ?_
        refine v_seq ?_
        refine v_region ?_
        refine l_val rfl (o_assign rfl) ?_
        refine l_nil ?_
        refine kt_norm ?_
        refine v_block ?_
        refine v_loopS (α := Nat) (fun k => [(4, .int .i64 (k : Int))]) (fun k => [])  (fun k => k ≤ pc.length ∧ ∀ b, b < k → ¬ sideT (pc.getD i dP) (pc.getD ((i + 1) % pc.length) dP) (pc.getD b dP) < 0) (fun k => pc.length - k) 0 [3, 0] [] ⟨Nat.zero_le _, fun b h => by omega⟩  (And.intro rfl (True.intro)) rfl (True.intro) rfl ?_
        rintro k ⟨hk, hQk⟩
        refine v_seq ?_
        refine v_seq ?_
        refine v_region ?_
        refine l_val rfl (o_move rfl) ?_
        refine l_val rfl (o_move rfl) ?_
        refine l_val rfl (o_len rfl hV) ?_
        refine l_split rfl (o_lss rfl rfl) (fun hka => ?_) (fun hka => ?_)
        · have hkl : k < pc.length := by omega
          refine l_nil ?_
          refine kt_norm ?_
          refine v_condT rfl ?_
          refine v_skip ?_
          refine kt_norm ?_
          refine v_seq ?_
          refine v_block ?_
          refine v_seq ?_
          refine v_drawZ [[], [], [], [], [], [], [], [], [], [], [], [], [], [], [], [], [], []] mixed ?_ (by kernel_rfl) (by kernel_rfl)
          refine d_val (fun _ => rfl) rfl rfl (fun _ => o_move rfl) ?_
          refine d_val (fun _ => rfl) rfl rfl (fun _ => o_move rfl) ?_
          refine d_val (fun _ => rfl) rfl rfl (fun _ => o_idx (i) rfl hV rfl (by first | rfl | omega) (by omega)) ?_
          refine d_val (fun _ => rfl) rfl rfl (fun _ => o_loadRE (c' := [_, _]) rfl (row_imm hr) (el_flat eP_len dP pc (i) (by omega)) rfl) ?_
          refine d_val (fun _ => rfl) rfl rfl (fun _ => o_move rfl) ?_
          refine d_val (fun _ => rfl) rfl rfl (fun _ => o_move rfl) ?_
          refine d_val (fun _ => rfl) rfl rfl (fun _ => o_addi rfl rfl ?_) ?_
          · omega
          refine d_val (fun _ => rfl) rfl rfl (fun _ => o_move rfl) ?_
          refine d_val (fun _ => rfl) rfl rfl (fun _ => o_len rfl hV) ?_
          refine d_val (fun _ => rfl) rfl rfl (fun _ => o_remn rfl rfl ?_) ?_
          · omega
          refine d_val (fun _ => rfl) rfl rfl (fun _ => o_idx ((i + 1) % pc.length) rfl hV rfl (by first | rfl | omega) (Nat.mod_lt _ (by omega))) ?_
          refine d_val (fun _ => rfl) rfl rfl (fun _ => o_loadRE (c' := [_, _]) rfl (row_imm hr) (el_flat eP_len dP pc ((i + 1) % pc.length) (Nat.mod_lt _ (by omega))) rfl) ?_
          refine d_val (fun _ => rfl) rfl rfl (fun _ => o_move rfl) ?_
          refine d_val (fun _ => rfl) rfl rfl (fun _ => o_move rfl) ?_
          refine d_val (fun _ => rfl) rfl rfl (fun _ => o_idx (k) rfl hV rfl (by first | rfl | omega) (by omega)) ?_
          refine d_val (fun _ => rfl) rfl rfl (fun _ => o_loadRE (c' := [_, _]) rfl (row_imm hr) (el_flat eP_len dP pc (k) (by omega)) rfl) ?_
          refine d_ans (vs := [_, _, _]) (fun _ => rfl) (fun _ => rfl) (r_Side (pc.getD i dP) (pc.getD ((i + 1) % pc.length) dP) (pc.getD k dP) hn1 hn2 (near_getD hnear hkl)) ?_
          refine d_lss (fun _ => rfl) (fun _ => rfl) (fun _ => rfl) (fun hsd => ?_) (fun hsd => ?_)
          · skip
            refine d_nil (fun σ => ?_)
            refine l_nil ?_
            refine kt_norm ?_
            refine v_sel [4, 3, 0, 42] [] rfl rfl ?_
            refine v_condT rfl ?_
            refine v_seq ?_
            refine v_region ?_
            refine l_val rfl (o_assign rfl) ?_
            refine l_nil ?_
            refine kt_norm ?_
            refine v_ret ?_
            refine kb_ret ?_
            refine kt_ret ?_
            refine kt_ret ?_
            refine kb_ret ?_
            refine kb_ret ?_
            refine kt_ret ?_
            refine kt_ret ?_
            refine kb_ret ?_
            refine kt_ret ?_
            refine ⟨[_], .cons (.tmp rfl) (ResAll.nil), ?_⟩
            first
              | exact congrArg Value.bool (conv_short (by omega)).symm
              | exact congrArg Value.bool (conv_area (by omega)).symm
              | exact congrArg Value.bool (conv_side hil hkl hsd).symm
              | exact congrArg Value.bool (conv_all (by omega) (by omega) (fun a b ha hb => hQi a b (by omega) hb)).symm
          · skip
            refine d_nil (fun σ => ?_)
            refine l_nil ?_
            refine kt_norm ?_
            refine v_sel [4, 3, 0, 42] [] rfl rfl ?_
            refine v_condF rfl ?_
            refine v_skip ?_
            refine kb_norm ?_
            refine kt_norm ?_
            refine v_region ?_
            refine l_val rfl (o_move rfl) ?_
            refine l_val rfl (o_addi rfl rfl ?_) ?_
            · omega
            refine l_val rfl (o_assign rfl) ?_
            refine l_nil ?_
            refine kt_norm ?_
            refine ⟨k + 1, ⟨hkl, fun b hb => by rcases Nat.lt_or_eq_of_le (Nat.le_of_lt_succ hb) with h | h; exact hQk b h; subst h; exact hsd⟩, (by show pc.length - (k + 1) < pc.length - k; omega), le_app (And.intro rfl (True.intro)) [3, 0] rfl (True.intro) [] rfl⟩
        · skip
          refine l_nil ?_
          refine kt_norm ?_
          refine v_condF rfl ?_
          refine v_exit ?_
          refine kt_exit ?_
          refine kt_exit ?_
          refine kb_eq ?_
          refine kb_norm ?_
          refine kt_norm ?_
          refine v_region ?_
          refine l_val rfl (o_move rfl) ?_
          refine l_val rfl (o_addi rfl rfl ?_) ?_
          · omega
          refine l_val rfl (o_assign rfl) ?_
          refine l_nil ?_
          refine kt_norm ?_
          refine ⟨i + 1, ⟨hil, fun a b ha hb => by rcases Nat.lt_or_eq_of_le (Nat.le_of_lt_succ ha) with h | h; exact hQi a b h hb; subst h; exact hQk b (by omega)⟩, (by show pc.length - (i + 1) < pc.length - i; omega), le_app (And.intro rfl (True.intro)) [0] rfl (True.intro) [] rfl⟩
      · skip
        refine l_nil ?_
        refine kt_norm ?_
        refine v_condF rfl ?_
        refine v_exit ?_
        refine kt_exit ?_
        refine kt_exit ?_
        refine kb_eq ?_
        refine kt_norm ?_
        refine v_sel [] [] rfl rfl ?_
        refine v_seq ?_
        refine v_region ?_
        refine l_val rfl (o_assign rfl) ?_
        refine l_nil ?_
        refine kt_norm ?_
        refine v_ret ?_
        refine ⟨[_], .cons (.tmp rfl) (ResAll.nil), ?_⟩
        first
          | exact congrArg Value.bool (conv_short (by omega)).symm
          | exact congrArg Value.bool (conv_area (by omega)).symm
          | exact congrArg Value.bool (conv_side hil hkl hsd).symm
          | exact congrArg Value.bool (conv_all (by omega) (by omega) (fun a b ha hb => hQi a b (by omega) hb)).symm
end Go.Proofs.Ytpgjbalnipinoaa

/- A piece is put to others, by the document. Conditions: none. -/
namespace Go.Proofs.Ytpgjbalnipinoaa
open Go.Proofs Go.RowKit Go.Shelf

section
variable {C : Cx} {K : Exit → St → Prop} {ops : Array Oper} {rest : List Oper} {l : List (Nat × Value)} {m m' : List (Nat × Hp)} {g : World → Prop} {gb : Nat → Prop} {dd : List Nat} {i : Nat} {ty E E' : TypeId} {pos : String} {aft : Array Edge} {gd : Option (Nat × Bool)} {n esz esz' : Nat} {v u : Value} {xs : List Value} {ks : List Nat}
theorem append_ty {P : Program} {w : World} {ts ts' : TypeId} [ht : TSl P ts E esz] [ht' : TSl P ts' E' esz'] : (Builtin.append_ #[ts, ts'] ty #[v, u]).run P w = (Builtin.append_ #[ts, ts] ty #[v, u]).run P w := by
  unfold Builtin.append_
  cases v <;> simp [Sem.run_bind, run_underlying ht.h, run_underlying ht'.h, ht.sz, Result.andThen]
/-- append, where the types of both slices have names of their own -/
theorem l_append2 (key keep : _) {ts ts' by_ mm : Nat} {zv : Value} {ys : List Value} {X Y : Operand} [ht : TSl C.P ts E esz] [ht' : TSl C.P ts' E' esz'] [he : TElem C.P E zv esz by_] (hw : wantS C (mk l m g gb dd) ops ⟨some i, .call { callee := .builtin .append, args := #[X, Y], argTypes := #[ts, ts'] }, ty, pos, aft, gd⟩ = some true)
    (h : ev C (mk l m g gb dd) X = some v) (hk : lk m key = some (.own v E esz n xs)) (h2 : ev C (mk l m g gb dd) Y = some u) (hs : sel keep m = some m') (hkeep : keep.contains key = false) (hby : Nat.ble by_ 128 = true) (hu : RowV u mm) (hrow : RowIn (mk l m g gb dd) ks u esz mm ys)
    (hlen : n + mm ≤ 1099511627776)
    (next : ∀ v', RowV v' (n + mm) → VL C ops rest K (mk ((i, v') :: l) ((i, .own v' E esz (n + mm) (xs ++ ys)) :: m') g gb dd)) : VL C ops (⟨some i, .call { callee := .builtin .append, args := #[X, Y], argTypes := #[ts, ts'] }, ty, pos, aft, gd⟩ :: rest) K (mk l m g gb dd) :=
  vl_step hw fun a w hr => by
    have hX : a.eval X = v := ev_ok hr h
    have hY : a.eval Y = u := ev_ok hr h2
    have hok : (Hp.own v E esz n xs).ok w := (hr.mo key _ hk).1
    have hrw := hrow w hr.gh (held_of hr ks)
    obtain ⟨v', w', h3, h4, h5, h6⟩ := append_run (P := C.P) (ts := ts) (ty := ty) hok hu hrw hlen hby
    rw [← append_ty (ts' := ts')] at h3
    have hone : ∀ u' ∈ xs ++ ys, u'.oneCell' = true := fun u' hu' => by
      rcases List.mem_append.1 hu' with h | h
      · exact hok.2 u' h
      · exact hrw.one u' h
    refine wpIn_value (y := v') (w' := w') (by simp) ?_ ⟨mk ((i, v') :: l) ((i, .own v' E esz (n + mm) (xs ++ ys)) :: m') g gb dd, ?_, next v' (rowV_own (w := w') ⟨h4, hone⟩)⟩
    · simp [execOp, resolve, hX, hY, invoke, builtin, Sem.run_bind, Result.andThen, h3]
    · rw [← mk_put]
      exact rep_put (rep_ownL hr hk (h1 := .own v' E esz (n + mm) (xs ++ ys)) h5 ⟨h4, hone⟩ h6 i keep hs hkeep) (some i) v'
end
theorem take_rev (pc : List PtT) : pc.reverse.take pc.length = pc.reverse := by
  rw [← List.length_reverse, List.take_length]
theorem rev_snoc {pc : List PtT} {j : Nat} (h : j < pc.length) : (pc.reverse.take j).flatMap eP ++ [.int .i64 (pc.getD (pc.length - 1 - j) dP).x, .int .i64 (pc.getD (pc.length - 1 - j) dP).y] = (pc.reverse.take (j + 1)).flatMap eP := by
  have e : pc.reverse[j]? = some (pc.getD (pc.length - 1 - j) dP) := by
    rw [List.getElem?_reverse h, List.getD_eq_getElem?_getD, List.getElem?_eq_getElem (by omega)]; rfl
  rw [List.take_add_one, e, List.flatMap_append]; rfl
theorem rput_W {v y u : Value} {pvs : List Value} {qs : List (List PtT)} {pcx : List PtT} {m : Nat} (h : PcsW v pvs qs) (hl : qs.length ≤ 100000) (hy : RowV y (0 + qs.length + 1)) (hu : RowV u m) (hm : m = pcx.length) : PcsW y (pvs ++ [u]) (qs ++ [pcx]) := by
  subst hm
  rw [Nat.zero_add] at hy
  exact pcsW_of (by rw [List.length_append]; exact hy) (by rw [List.length_append, List.length_singleton]; omega) (h.all.append (.one (by unfold RV; exact hu)))
theorem rput_At {w : World} {v y u : Value} {pvs : List Value} {qs : List (List PtT)} {pcx : List PtT} {m T T' : Nat} {xs : List Value} (hW : PcsW v pvs qs) (h : PcsAt w v pvs qs) (hy : (Hp.own y T 1 (0 + qs.length + 1) ([] ++ pvs ++ [u])).ok w) (hu : (Hp.own u T' 2 m xs).ok w) (hm : m = pcx.length) (hx : xs = pcx.flatMap eP) : PcsAt w y (pvs ++ [u]) (qs ++ [pcx]) := by
  subst hm hx
  have hr := rowAt_own hy
  rw [Nat.zero_add, List.nil_append] at hr
  exact pcsAt_of (by rw [List.length_append]; exact hr) ((h.all hW).append (.one (by unfold RP; exact rowAt_own hu)))
set_option maxHeartbeats 4000000 in
theorem r_PutYes (w : World) (v : Value) (pvs : List Value) (qs : List (List PtT)) (hv : PcsW v pvs qs) (hat : PcsAt w v pvs qs) (hql : qs.length ≤ 2000) (u : Value) (pc : List PtT) (hs : pc.length ≤ 1000) (hU : RowV u pc.length) (hrowU : RowAt w u 2 pc.length (pc.flatMap eP)) (hnear : ∀ p ∈ pc, NearT p) (hcx : convexB pc = true) : Calls Try.prog 54 #[v, u] w fun e w' => ∃ x : PutsY v pvs qs (qs ++ [pc]), e = .returned x.1.1 ∧ Below w.heap.size w w' ∧ SaidOk w' x.1.2.2.1 x.1.2.2.2 ∧ ∀ b, x.1.2.2.2 b → w.heap.size ≤ b := by
  have hru : ∀ w', Chg (fun _ => False) w w' → RowAt w' u 2 pc.length (pc.flatMap eP) := fun w' h => hrowU.chg h (fun h => h)
  refine calls_said (args := [v, u]) (fun x : PutsY v pvs qs (qs ++ [pc]) => x.1.1) (fun x w' => SaidOk w' x.1.2.2.1 x.1.2.2.2) (fun x b => x.1.2.2.2 b) Try.func54 rfl Try.ntmps54 Try.results54 rfl ?_
  refine v_seq ?_
  refine v_region ?_
  refine l_val rfl (o_assign rfl) ?_
  refine l_nil ?_
  refine kt_norm ?_
  refine v_seq ?_
  refine v_region ?_
  refine l_buildSlice (vs := []) (cs := []) rfl rfl rfl rfl rfl rfl fun v8 hv8 => ?_
  refine l_val rfl (o_assign rfl) ?_
  refine l_nil ?_
  refine kt_norm ?_
  refine v_seq ?_
  refine v_seq ?_
  refine v_region ?_
  refine l_val rfl (o_move rfl) ?_
  refine l_val rfl (o_len rfl hU) ?_
  refine l_val rfl (o_subi rfl rfl ?_) ?_
  · omega
  refine l_val rfl (o_assign rfl) ?_
  refine l_nil ?_
  refine kt_norm ?_
  refine v_block ?_
  refine v_ren 8 22 [] rfl rfl rfl ?_
  refine v_loopS (α := Nat × Value) (fun ⟨j, v5⟩ => [(6, .int .i64 ((pc.length : Int) - 1 - (j : Int))), (5, v5)]) (fun ⟨j, v5⟩ => [(22, Hp.own v5 23 2 j ((pc.reverse.take j).flatMap eP))])  (fun ⟨j, v5⟩ => j ≤ pc.length ∧ RowV v5 j) (fun ⟨j, v5⟩ => pc.length - j) (0, v8) [0, 1] [] ⟨Nat.zero_le _, hv8⟩  (And.intro (congrArg (fun z => some (Value.int .i64 z)) (by omega)) (And.intro rfl (True.intro))) rfl (And.intro rfl (True.intro)) rfl ?_
  rintro ⟨j, v5⟩ ⟨hj, hv5⟩
  refine v_seq ?_
  refine v_seq ?_
  refine v_region ?_
  refine l_val rfl (o_move rfl) ?_
  refine l_split rfl (o_geq rfl rfl) (fun q1 => ?_) (fun q1 => ?_)
  · have hjl : j < pc.length := by omega
    refine l_nil ?_
    refine kt_norm ?_
    refine v_condT rfl ?_
    refine v_skip ?_
    refine kt_norm ?_
    refine v_seq ?_
    refine v_block ?_
    refine v_region ?_
    refine l_val rfl (o_move rfl) ?_
    refine l_val rfl (o_move rfl) ?_
    refine l_val rfl (o_move rfl) ?_
    refine l_val rfl (o_idx ((pc.length - 1 - j)) rfl hU rfl (by first | rfl | omega) (by omega)) ?_
    refine l_val rfl (o_loadRE (c' := [_, _]) rfl (row_imm hru) (el_flat eP_len dP pc ((pc.length - 1 - j)) (by omega)) rfl) ?_
    refine l_buildSlice (vs := [_]) (cs := [_, _]) rfl rfl rfl rfl rfl rfl fun v21 hv21 => ?_
    refine l_append 22 [21] rfl rfl rfl rfl rfl rfl rfl hv21 (row_own (key := 21) rfl) (by omega) fun v22 hv22 => ?_
    refine l_val rfl (o_assign rfl) ?_
    refine l_nil ?_
    refine kb_norm ?_
    refine kt_norm ?_
    refine v_sel [6, 5, 0, 1] [22] rfl rfl ?_
    refine v_region ?_
    refine l_val rfl (o_move rfl) ?_
    refine l_val rfl (o_subi rfl rfl ?_) ?_
    · omega
    refine l_val rfl (o_assign rfl) ?_
    refine l_nil ?_
    refine kt_norm ?_
    refine ⟨(j + 1, v22), ⟨hjl, hv22⟩, (by show pc.length - (j + 1) < pc.length - j; omega), le_app (And.intro (congrArg (fun z => some (Value.int .i64 z)) (by omega)) (And.intro rfl (True.intro))) [0, 1] rfl (And.intro (congrArg some (own_congr rfl (rev_snoc hjl))) (True.intro)) [] rfl⟩
  · skip
    refine l_nil ?_
    refine kt_norm ?_
    refine v_condF rfl ?_
    refine v_exit ?_
    refine kt_exit ?_
    refine kt_exit ?_
    refine kb_eq ?_
    refine kt_norm ?_
    refine v_seq ?_
    refine v_region ?_
    obtain rfl : j = pc.length := by omega
    have htr := take_rev pc
    obtain ⟨a5, c5, rfl⟩ := hv5.sl
    refine l_buildSlice (vs := []) (cs := []) rfl rfl rfl rfl rfl rfl fun v23 hv23 => ?_
    refine l_val rfl (o_move rfl) ?_
    refine l_append 23 [22] rfl rfl rfl rfl rfl rfl rfl hv.V (row_imm (fun w' h => (hat.keep h).row)) (by omega) fun v25 hv25 => ?_
    refine l_val rfl (o_assign rfl) ?_
    refine l_nil ?_
    refine kt_norm ?_
    refine v_sel [5, 1, 7] [22, 25] rfl rfl ?_
    refine v_seq ?_
    refine v_seq ?_
    refine v_region ?_
    refine l_val rfl (o_move rfl) ?_
    refine l_call (ks := []) rfl (o_callC (vs := [_]) (r := .bool true) (ent_of Try.func76 rfl rfl) rfl (fun w' hg hh => hcx ▸ r_Convex w' u pc (by omega) hU (hru w' hg) hnear)) ?_
    refine l_nil ?_
    refine kt_norm ?_
    refine v_condT rfl ?_
    refine v_seq ?_
    refine v_region ?_
    refine l_val rfl (o_move rfl) ?_
    refine l_buildSlice (vs := []) (cs := []) rfl rfl rfl rfl rfl rfl fun v29 hv29 => ?_
    refine l_val rfl (o_move rfl) ?_
    refine l_append2 29 [22, 25] rfl rfl rfl rfl rfl rfl rfl hU (row_imm hru) (by omega) fun v31 hv31 => ?_
    obtain ⟨a31, c31, rfl⟩ := hv31.sl
    refine l_buildSlice (vs := [_]) (cs := [_]) rfl rfl rfl rfl rfl rfl fun v32 hv32 => ?_
    refine l_append 25 [22, 31, 32] rfl rfl rfl rfl rfl rfl rfl hv32 (row_own (key := 32) rfl) (by omega) fun v33 hv33 => ?_
    refine l_capd 33 rfl fun hcap33 => ?_
    refine l_val rfl (o_assign rfl) ?_
    refine l_nil ?_
    refine kt_norm ?_
    refine v_sel [4] [22, 31, 33] rfl rfl ?_
    refine v_ret ?_
    refine kt_ret ?_
    refine ⟨[_], .cons (.tmp rfl) (ResAll.nil), ?_⟩
    exact ⟨⟨(v33, pvs ++ [Value.slice a31 (0 + pc.length) c31], fun w2 => (Hp.own v33 37 1 (0 + qs.length + 1) ([] ++ pvs ++ [Value.slice a31 (0 + pc.length) c31])).ok w2 ∧ (Hp.own (Value.slice a31 (0 + pc.length) c31) 23 2 (0 + pc.length) ([] ++ pc.flatMap eP)).ok w2, fun b => v33.ownBlock = some b ∨ (Value.slice a31 (0 + pc.length) c31).ownBlock = some b), rput_W hv (by omega) hv33 hv31 (Nat.zero_add _), hcap33, fun w2 h hg => rput_At hv h hg.1 hg.2 (Nat.zero_add _) (List.nil_append _)⟩, rfl, fun w' ho => ⟨⟨⟨(ho.mo 33 _ rfl).1, (ho.mo 31 _ rfl).1⟩, fun b hb => hb.elim (fun e => Hp.isCells (ho.mo 33 _ rfl).1 e) (fun e => Hp.isCells (ho.mo 31 _ rfl).1 e), fun w1 w2 hg hb => ⟨Hp.keep hg.1 (fun b e => hb b (.inl e)), Hp.keep hg.2 (fun b e => hb b (.inr e))⟩⟩, fun b hb => by rcases hb with hb | hb; exact ((ho.mo 33 _ rfl).2 b hb).elim id False.elim; exact ((ho.mo 31 _ rfl).2 b hb).elim id False.elim⟩⟩
set_option maxHeartbeats 4000000 in
theorem r_PutRev (w : World) (v : Value) (pvs : List Value) (qs : List (List PtT)) (hv : PcsW v pvs qs) (hat : PcsAt w v pvs qs) (hql : qs.length ≤ 2000) (u : Value) (pc : List PtT) (hs : pc.length ≤ 1000) (hU : RowV u pc.length) (hrowU : RowAt w u 2 pc.length (pc.flatMap eP)) (hnear : ∀ p ∈ pc, NearT p) (hcx : convexB pc = false) (hcr : convexB pc.reverse = true) : Calls Try.prog 54 #[v, u] w fun e w' => ∃ x : PutsY v pvs qs (qs ++ [pc.reverse]), e = .returned x.1.1 ∧ Below w.heap.size w w' ∧ SaidOk w' x.1.2.2.1 x.1.2.2.2 ∧ ∀ b, x.1.2.2.2 b → w.heap.size ≤ b := by
  have hru : ∀ w', Chg (fun _ => False) w w' → RowAt w' u 2 pc.length (pc.flatMap eP) := fun w' h => hrowU.chg h (fun h => h)
  refine calls_said (args := [v, u]) (fun x : PutsY v pvs qs (qs ++ [pc.reverse]) => x.1.1) (fun x w' => SaidOk w' x.1.2.2.1 x.1.2.2.2) (fun x b => x.1.2.2.2 b) Try.func54 rfl Try.ntmps54 Try.results54 rfl ?_
  refine v_seq ?_
  refine v_region ?_
  refine l_val rfl (o_assign rfl) ?_
  refine l_nil ?_
  refine kt_norm ?_
  refine v_seq ?_
  refine v_region ?_
  refine l_buildSlice (vs := []) (cs := []) rfl rfl rfl rfl rfl rfl fun v8 hv8 => ?_
  refine l_val rfl (o_assign rfl) ?_
  refine l_nil ?_
  refine kt_norm ?_
  refine v_seq ?_
  refine v_seq ?_
  refine v_region ?_
  refine l_val rfl (o_move rfl) ?_
  refine l_val rfl (o_len rfl hU) ?_
  refine l_val rfl (o_subi rfl rfl ?_) ?_
  · omega
  refine l_val rfl (o_assign rfl) ?_
  refine l_nil ?_
  refine kt_norm ?_
  refine v_block ?_
  refine v_ren 8 22 [] rfl rfl rfl ?_
  refine v_loopS (α := Nat × Value) (fun ⟨j, v5⟩ => [(6, .int .i64 ((pc.length : Int) - 1 - (j : Int))), (5, v5)]) (fun ⟨j, v5⟩ => [(22, Hp.own v5 23 2 j ((pc.reverse.take j).flatMap eP))])  (fun ⟨j, v5⟩ => j ≤ pc.length ∧ RowV v5 j) (fun ⟨j, v5⟩ => pc.length - j) (0, v8) [0, 1] [] ⟨Nat.zero_le _, hv8⟩  (And.intro (congrArg (fun z => some (Value.int .i64 z)) (by omega)) (And.intro rfl (True.intro))) rfl (And.intro rfl (True.intro)) rfl ?_
  rintro ⟨j, v5⟩ ⟨hj, hv5⟩
  refine v_seq ?_
  refine v_seq ?_
  refine v_region ?_
  refine l_val rfl (o_move rfl) ?_
  refine l_split rfl (o_geq rfl rfl) (fun q1 => ?_) (fun q1 => ?_)
  · have hjl : j < pc.length := by omega
    refine l_nil ?_
    refine kt_norm ?_
    refine v_condT rfl ?_
    refine v_skip ?_
    refine kt_norm ?_
    refine v_seq ?_
    refine v_block ?_
    refine v_region ?_
    refine l_val rfl (o_move rfl) ?_
    refine l_val rfl (o_move rfl) ?_
    refine l_val rfl (o_move rfl) ?_
    refine l_val rfl (o_idx ((pc.length - 1 - j)) rfl hU rfl (by first | rfl | omega) (by omega)) ?_
    refine l_val rfl (o_loadRE (c' := [_, _]) rfl (row_imm hru) (el_flat eP_len dP pc ((pc.length - 1 - j)) (by omega)) rfl) ?_
    refine l_buildSlice (vs := [_]) (cs := [_, _]) rfl rfl rfl rfl rfl rfl fun v21 hv21 => ?_
    refine l_append 22 [21] rfl rfl rfl rfl rfl rfl rfl hv21 (row_own (key := 21) rfl) (by omega) fun v22 hv22 => ?_
    refine l_val rfl (o_assign rfl) ?_
    refine l_nil ?_
    refine kb_norm ?_
    refine kt_norm ?_
    refine v_sel [6, 5, 0, 1] [22] rfl rfl ?_
    refine v_region ?_
    refine l_val rfl (o_move rfl) ?_
    refine l_val rfl (o_subi rfl rfl ?_) ?_
    · omega
    refine l_val rfl (o_assign rfl) ?_
    refine l_nil ?_
    refine kt_norm ?_
    refine ⟨(j + 1, v22), ⟨hjl, hv22⟩, (by show pc.length - (j + 1) < pc.length - j; omega), le_app (And.intro (congrArg (fun z => some (Value.int .i64 z)) (by omega)) (And.intro rfl (True.intro))) [0, 1] rfl (And.intro (congrArg some (own_congr rfl (rev_snoc hjl))) (True.intro)) [] rfl⟩
  · skip
    refine l_nil ?_
    refine kt_norm ?_
    refine v_condF rfl ?_
    refine v_exit ?_
    refine kt_exit ?_
    refine kt_exit ?_
    refine kb_eq ?_
    refine kt_norm ?_
    refine v_seq ?_
    refine v_region ?_
    obtain rfl : j = pc.length := by omega
    have htr := take_rev pc
    obtain ⟨a5, c5, rfl⟩ := hv5.sl
    refine l_buildSlice (vs := []) (cs := []) rfl rfl rfl rfl rfl rfl fun v23 hv23 => ?_
    refine l_val rfl (o_move rfl) ?_
    refine l_append 23 [22] rfl rfl rfl rfl rfl rfl rfl hv.V (row_imm (fun w' h => (hat.keep h).row)) (by omega) fun v25 hv25 => ?_
    refine l_val rfl (o_assign rfl) ?_
    refine l_nil ?_
    refine kt_norm ?_
    refine v_sel [5, 1, 7] [22, 25] rfl rfl ?_
    refine v_seq ?_
    refine v_seq ?_
    refine v_region ?_
    refine l_val rfl (o_move rfl) ?_
    refine l_call (ks := []) rfl (o_callC (vs := [_]) (r := .bool false) (ent_of Try.func76 rfl rfl) rfl (fun w' hg hh => hcx ▸ r_Convex w' u pc (by omega) hU (hru w' hg) hnear)) ?_
    refine l_nil ?_
    refine kt_norm ?_
    refine v_condF rfl ?_
    refine v_skip ?_
    refine kt_norm ?_
    refine v_seq ?_
    refine v_seq ?_
    refine v_region ?_
    refine l_val rfl (o_move rfl) ?_
    refine l_call (ks := [22]) rfl (o_callC (vs := [_]) (r := .bool true) (ent_of Try.func76 rfl rfl) rfl (fun w' hg hh => hcr ▸ r_Convex w' (.slice a5 pc.length c5) pc.reverse (by rw [List.length_reverse]; omega) (by rw [List.length_reverse]; exact hv5) (by rw [List.length_reverse, ← htr]; exact rowAt_own (hh 22 (by simp) _ rfl)) (fun x hx => hnear x (List.mem_reverse.1 hx)))) ?_
    refine l_nil ?_
    refine kt_norm ?_
    refine v_condT rfl ?_
    refine v_seq ?_
    refine v_region ?_
    refine l_val rfl (o_move rfl) ?_
    refine l_val rfl (o_move rfl) ?_
    refine l_buildSlice (vs := [_]) (cs := [_]) rfl rfl rfl rfl rfl rfl fun v38 hv38 => ?_
    refine l_append 25 [22, 38] rfl rfl rfl rfl rfl rfl rfl hv38 (row_own (key := 38) rfl) (by omega) fun v39 hv39 => ?_
    refine l_capd 39 rfl fun hcap39 => ?_
    refine l_val rfl (o_assign rfl) ?_
    refine l_nil ?_
    refine kt_norm ?_
    refine v_sel [4] [22, 39] rfl rfl ?_
    refine v_ret ?_
    refine kt_ret ?_
    refine ⟨[_], .cons (.tmp rfl) (ResAll.nil), ?_⟩
    exact ⟨⟨(v39, pvs ++ [Value.slice a5 pc.length c5], fun w2 => (Hp.own v39 37 1 (0 + qs.length + 1) ([] ++ pvs ++ [Value.slice a5 pc.length c5])).ok w2 ∧ (Hp.own (Value.slice a5 pc.length c5) 23 2 (pc.length) ((pc.reverse.take pc.length).flatMap eP)).ok w2, fun b => v39.ownBlock = some b ∨ (Value.slice a5 pc.length c5).ownBlock = some b), rput_W hv (by omega) hv39 hv5 (List.length_reverse).symm, hcap39, fun w2 h hg => rput_At hv h hg.1 hg.2 (List.length_reverse).symm (by rw [htr])⟩, rfl, fun w' ho => ⟨⟨⟨(ho.mo 39 _ rfl).1, (ho.mo 22 _ rfl).1⟩, fun b hb => hb.elim (fun e => Hp.isCells (ho.mo 39 _ rfl).1 e) (fun e => Hp.isCells (ho.mo 22 _ rfl).1 e), fun w1 w2 hg hb => ⟨Hp.keep hg.1 (fun b e => hb b (.inl e)), Hp.keep hg.2 (fun b e => hb b (.inr e))⟩⟩, fun b hb => by rcases hb with hb | hb; exact ((ho.mo 39 _ rfl).2 b hb).elim id False.elim; exact ((ho.mo 22 _ rfl).2 b hb).elim id False.elim⟩⟩
end Go.Proofs.Ytpgjbalnipinoaa

/- Arcs and pies, by the document. Conditions: none. -/
namespace Go.Proofs.Ytpgjbalnipinoaa
open Go.Proofs Go.RowKit Go.Shelf

theorem stop_d {r : Int} {u v : PtT} {d : Nat} (h : d = 0 ∨ (u.x - v.x) * (u.x - v.x) + (u.y - v.y) * (u.y - v.y) ≤ 128 * r ∨ ((midT r u v).x = 0 ∧ (midT r u v).y = 0) ∨ ((midT r u v).x = u.x ∧ (midT r u v).y = u.y) ∨ ((midT r u v).x = v.x ∧ (midT r u v).y = v.y)) : chordsT r d u v = [(u, v)] := by
  rcases h with h | h
  · subst h; rfl
  · refine chords_stop ?_ d
    rcases h with h | h | h | h
    · refine .inl ?_
      have e : (v.x - u.x) * (v.x - u.x) + (v.y - u.y) * (v.y - u.y) = (u.x - v.x) * (u.x - v.x) + (u.y - v.y) * (u.y - v.y) := by grind
      omega
    · exact .inr (.inl (pt_ext h))
    · exact .inr (.inr (.inl (pt_ext h)))
    · exact .inr (.inr (.inr (pt_ext h)))
theorem go_d {r : Int} {u v : PtT} {d : Nat} (h0 : d ≠ 0) (h1 : ¬ (u.x - v.x) * (u.x - v.x) + (u.y - v.y) * (u.y - v.y) ≤ 128 * r) (h2 : ¬ ((midT r u v).x = 0 ∧ (midT r u v).y = 0)) (h3 : ¬ ((midT r u v).x = u.x ∧ (midT r u v).y = u.y)) (h4 : ¬ ((midT r u v).x = v.x ∧ (midT r u v).y = v.y)) :
    ∃ k, d = k + 1 ∧ chordsT r d u v = chordsT r k u (midT r u v) ++ chordsT r k (midT r u v) v := by
  obtain ⟨k, rfl⟩ : ∃ k, d = k + 1 := ⟨d - 1, by omega⟩
  refine ⟨k, rfl, chords_go ?_ k⟩
  rintro (h | h | h | h)
  · have e : (v.x - u.x) * (v.x - u.x) + (v.y - u.y) * (v.y - u.y) = (u.x - v.x) * (u.x - v.x) + (u.y - v.y) * (u.y - v.y) := by grind
    omega
  · exact h2 (by rw [h]; exact ⟨rfl, rfl⟩)
  · exact h3 (by rw [h]; exact ⟨rfl, rfl⟩)
  · exact h4 (by rw [h]; exact ⟨rfl, rfl⟩)
abbrev sndF (l : List (PtT × PtT)) : List Value := (l.map Prod.snd).flatMap eP
set_option maxHeartbeats 4000000 in
theorem r_bendS {r : Int} (hr : 1 ≤ r ∧ r ≤ 131072) (d : Nat) (hd : d ≤ 6) (ih : ∀ k, k + 1 = d → ∀ (w : World) (u v : PtT), BdT u → BdT v → Calls Try.prog 101 #[.agg #[.int .i64 u.x, .int .i64 u.y], .agg #[.int .i64 v.x, .int .i64 v.y], .int .i64 r, .int .i64 (6 - (k : Int))] w fun e w' => ∃ y, e = .returned y ∧ Below w.heap.size w w' ∧ OwnAt w.heap.size w' y 23 2 (chordsT r k u v).length (sndF (chordsT r k u v))) (w : World) (u v : PtT) (hu : BdT u) (hv : BdT v) : Calls Try.prog 101 #[.agg #[.int .i64 u.x, .int .i64 u.y], .agg #[.int .i64 v.x, .int .i64 v.y], .int .i64 r, .int .i64 (6 - (d : Int))] w fun e w' => ∃ y, e = .returned y ∧ Below w.heap.size w w' ∧ OwnAt w.heap.size w' y 23 2 (chordsT r d u v).length (sndF (chordsT r d u v)) := by
  have hst := fun h => stop_d (r := r) (u := u) (v := v) (d := d) h
  have hgo := fun h0 h1 h2 h3 h4 => go_d (r := r) (u := u) (v := v) (d := d) h0 h1 h2 h3 h4
  have hmb := hu.mid hv hr
  have hm0 : normT ⟨u.x + v.x, u.y + v.y⟩ r = midT r u v := rfl
  obtain ⟨m, hm⟩ : ∃ m, midT r u v = m := ⟨_, rfl⟩
  rw [hm] at hst hgo hmb hm0
  have hu0 := hu
  have hv0 := hv
  unfold BdT at hu0 hv0
  have m1 := mul_bound (A := 524288) (B := 524288) (x := (u.x - v.x)) (y := (u.x - v.x)) (by omega) (by omega) (by omega) (by omega)
  have m2 := mul_bound (A := 524288) (B := 524288) (x := (u.y - v.y)) (y := (u.y - v.y)) (by omega) (by omega) (by omega) (by omega)
  refine calls_own (args := [.agg #[.int .i64 u.x, .int .i64 u.y], .agg #[.int .i64 v.x, .int .i64 v.y], .int .i64 r, .int .i64 (6 - (d : Int))]) Try.func101 rfl Try.ntmps101 Try.results101 rfl ?_
  refine v_seq ?_
  refine v_region ?_
  refine l_new rfl (o_box (cs := [_, _]) rfl rfl) fun b4 => ?_
  refine l_new rfl (o_box (cs := [_, _]) rfl rfl) fun b5 => ?_
  refine l_val rfl (o_assign rfl) ?_
  refine l_nil ?_
  refine kt_norm ?_
  refine v_seq ?_
  refine v_region ?_
  refine l_val rfl (o_loadW (key := 4) rfl rfl rfl) ?_
  refine l_val rfl (o_loadW (key := 5) rfl rfl rfl) ?_
  refine l_ans (vs := [_, _]) rfl rfl (r_PSub _ _ _ _ ?_ ?_ ?_ ?_) ?_
  · omega
  · omega
  · omega
  · omega
  refine l_new rfl o_alloc fun b9 => ?_
  refine l_store rfl (o_storeW (key := 9) (xs := [_, _]) rfl rfl rfl rfl rfl rfl rfl) ?_
  refine l_nil ?_
  refine kt_norm ?_
  refine v_sel [2, 3, 4, 5, 9] [4, 5, 9] rfl rfl ?_
  refine v_seq ?_
  refine v_region ?_
  refine l_val rfl (o_loadW (key := 4) rfl rfl rfl) ?_
  refine l_val rfl (o_loadW (key := 5) rfl rfl rfl) ?_
  refine l_ans (vs := [_, _]) rfl rfl (r_PAdd _ _ _ _ ?_ ?_ ?_ ?_) ?_
  · omega
  · omega
  · omega
  · omega
  refine l_val rfl (o_move rfl) ?_
  refine l_ans (vs := [_, _]) rfl rfl (r_nrm (u := ⟨u.x + v.x, u.y + v.y⟩) (by omega) (by dsimp only; omega) (by dsimp only; omega) hm0) ?_
  refine l_new rfl o_alloc fun b10 => ?_
  refine l_store rfl (o_storeW (key := 10) (xs := [_, _]) rfl rfl rfl rfl rfl rfl rfl) ?_
  refine l_nil ?_
  refine kt_norm ?_
  refine v_seq ?_
  refine v_seq ?_
  refine v_region ?_
  refine l_val rfl (o_move rfl) ?_
  refine l_split rfl (o_eql rfl rfl) (fun hz0 => ?_) (fun hz0 => ?_)
  · skip
    refine l_val rfl (o_move rfl) ?_
    refine l_no rfl ?_
    refine l_no rfl ?_
    refine l_no rfl ?_
    refine l_no rfl ?_
    refine l_no rfl ?_
    refine l_no rfl ?_
    refine l_val rfl (o_pickT rfl rfl) ?_
    refine l_val rfl (o_move rfl) ?_
    refine l_no rfl ?_
    refine l_no rfl ?_
    refine l_no rfl ?_
    refine l_val rfl (o_pickT rfl rfl) ?_
    refine l_val rfl (o_move rfl) ?_
    refine l_no rfl ?_
    refine l_no rfl ?_
    refine l_no rfl ?_
    refine l_val rfl (o_pickT rfl rfl) ?_
    refine l_val rfl (o_move rfl) ?_
    refine l_no rfl ?_
    refine l_no rfl ?_
    refine l_no rfl ?_
    refine l_val rfl (o_pickT rfl rfl) ?_
    refine l_nil ?_
    refine kt_norm ?_
    refine v_sel [2, 3, 4, 5, 10, 43] [4, 5, 10] rfl rfl ?_
    refine v_condT rfl ?_
    refine v_seq ?_
    refine v_region ?_
    refine l_val rfl (o_loadW (key := 5) rfl rfl rfl) ?_
    refine l_buildSlice (vs := [_]) (cs := [_, _]) rfl rfl rfl rfl rfl rfl fun v45 hv45 => ?_
    refine l_val rfl (o_assign rfl) ?_
    refine l_nil ?_
    refine kt_norm ?_
    refine v_sel [8] [45] rfl rfl ?_
    refine v_ret ?_
    refine kt_ret ?_
    refine ⟨[_], .cons (.tmp rfl) (ResAll.nil), ?_⟩
    first
      | exact ⟨45, congrArg some (own_congr (by rw [hst (.inl (by omega))]; rfl) (by rw [hst (.inl (by omega))]; rfl))⟩
      | exact ⟨45, congrArg some (own_congr (by rw [hst (.inr (.inl (by omega)))]; rfl) (by rw [hst (.inr (.inl (by omega)))]; rfl))⟩
      | exact ⟨45, congrArg some (own_congr (by rw [hst (.inr (.inr (.inl hz2)))]; rfl) (by rw [hst (.inr (.inr (.inl hz2)))]; rfl))⟩
      | exact ⟨45, congrArg some (own_congr (by rw [hst (.inr (.inr (.inr (.inl hz3))))]; rfl) (by rw [hst (.inr (.inr (.inr (.inl hz3))))]; rfl))⟩
      | exact ⟨45, congrArg some (own_congr (by rw [hst (.inr (.inr (.inr (.inr hz4))))]; rfl) (by rw [hst (.inr (.inr (.inr (.inr hz4))))]; rfl))⟩
      | exact ⟨58, congrArg some (own_congr (by rw [hXS, List.length_append]) (by rw [hXS]; show _ = ((chordsT r k u m ++ chordsT r k m v).map Prod.snd).flatMap eP; rw [List.map_append, List.flatMap_append]))⟩
  · skip
    refine l_val rfl (o_move rfl) ?_
    refine l_val rfl (o_loadW (key := 9) rfl rfl rfl) ?_
    refine l_val rfl (o_loadW (key := 9) rfl rfl rfl) ?_
    refine l_ans (vs := [_, _]) rfl rfl (r_Dot _ _ _ _ ?_ ?_ ?_ ?_) ?_
    · omega
    · omega
    · omega
    · omega
    refine l_val rfl (o_move rfl) ?_
    refine l_val rfl (o_muli rfl rfl ?_) ?_
    · omega
    refine l_split rfl (o_leq rfl rfl) (fun hz1 => ?_) (fun hz1 => ?_)
    · skip
      refine l_val rfl (o_pickF rfl rfl) ?_
      refine l_val rfl (o_move rfl) ?_
      refine l_no rfl ?_
      refine l_no rfl ?_
      refine l_no rfl ?_
      refine l_val rfl (o_pickT rfl rfl) ?_
      refine l_val rfl (o_move rfl) ?_
      refine l_no rfl ?_
      refine l_no rfl ?_
      refine l_no rfl ?_
      refine l_val rfl (o_pickT rfl rfl) ?_
      refine l_val rfl (o_move rfl) ?_
      refine l_no rfl ?_
      refine l_no rfl ?_
      refine l_no rfl ?_
      refine l_val rfl (o_pickT rfl rfl) ?_
      refine l_nil ?_
      refine kt_norm ?_
      refine v_sel [2, 3, 4, 5, 10, 43] [4, 5, 10] rfl rfl ?_
      refine v_condT rfl ?_
      refine v_seq ?_
      refine v_region ?_
      refine l_val rfl (o_loadW (key := 5) rfl rfl rfl) ?_
      refine l_buildSlice (vs := [_]) (cs := [_, _]) rfl rfl rfl rfl rfl rfl fun v45 hv45 => ?_
      refine l_val rfl (o_assign rfl) ?_
      refine l_nil ?_
      refine kt_norm ?_
      refine v_sel [8] [45] rfl rfl ?_
      refine v_ret ?_
      refine kt_ret ?_
      refine ⟨[_], .cons (.tmp rfl) (ResAll.nil), ?_⟩
      first
        | exact ⟨45, congrArg some (own_congr (by rw [hst (.inl (by omega))]; rfl) (by rw [hst (.inl (by omega))]; rfl))⟩
        | exact ⟨45, congrArg some (own_congr (by rw [hst (.inr (.inl (by omega)))]; rfl) (by rw [hst (.inr (.inl (by omega)))]; rfl))⟩
        | exact ⟨45, congrArg some (own_congr (by rw [hst (.inr (.inr (.inl hz2)))]; rfl) (by rw [hst (.inr (.inr (.inl hz2)))]; rfl))⟩
        | exact ⟨45, congrArg some (own_congr (by rw [hst (.inr (.inr (.inr (.inl hz3))))]; rfl) (by rw [hst (.inr (.inr (.inr (.inl hz3))))]; rfl))⟩
        | exact ⟨45, congrArg some (own_congr (by rw [hst (.inr (.inr (.inr (.inr hz4))))]; rfl) (by rw [hst (.inr (.inr (.inr (.inr hz4))))]; rfl))⟩
        | exact ⟨58, congrArg some (own_congr (by rw [hXS, List.length_append]) (by rw [hXS]; show _ = ((chordsT r k u m ++ chordsT r k m v).map Prod.snd).flatMap eP; rw [List.map_append, List.flatMap_append]))⟩
    · skip
      refine l_val rfl (o_pickF rfl rfl) ?_
      refine l_val rfl (o_move rfl) ?_
      refine l_val rfl (o_loadW (key := 10) rfl rfl rfl) ?_
      refine l_val rfl (o_build (vs := []) (cs := [_, _]) rfl rfl) ?_
      refine l_split rfl (o_eqs (xl := [_, _]) (yl := [_, _]) (az := [_, _]) (bz := [_, _]) rfl rfl rfl rfl rfl rfl) (fun hz2 => ?_) (fun hz2 => ?_)
      · simp only [List.map_cons, List.map_nil, List.cons.injEq, and_true] at hz2
        refine l_val rfl (o_pickF rfl rfl) ?_
        refine l_val rfl (o_move rfl) ?_
        refine l_no rfl ?_
        refine l_no rfl ?_
        refine l_no rfl ?_
        refine l_val rfl (o_pickT rfl rfl) ?_
        refine l_val rfl (o_move rfl) ?_
        refine l_no rfl ?_
        refine l_no rfl ?_
        refine l_no rfl ?_
        refine l_val rfl (o_pickT rfl rfl) ?_
        refine l_nil ?_
        refine kt_norm ?_
        refine v_sel [2, 3, 4, 5, 10, 43] [4, 5, 10] rfl rfl ?_
        refine v_condT rfl ?_
        refine v_seq ?_
        refine v_region ?_
        refine l_val rfl (o_loadW (key := 5) rfl rfl rfl) ?_
        refine l_buildSlice (vs := [_]) (cs := [_, _]) rfl rfl rfl rfl rfl rfl fun v45 hv45 => ?_
        refine l_val rfl (o_assign rfl) ?_
        refine l_nil ?_
        refine kt_norm ?_
        refine v_sel [8] [45] rfl rfl ?_
        refine v_ret ?_
        refine kt_ret ?_
        refine ⟨[_], .cons (.tmp rfl) (ResAll.nil), ?_⟩
        first
          | exact ⟨45, congrArg some (own_congr (by rw [hst (.inl (by omega))]; rfl) (by rw [hst (.inl (by omega))]; rfl))⟩
          | exact ⟨45, congrArg some (own_congr (by rw [hst (.inr (.inl (by omega)))]; rfl) (by rw [hst (.inr (.inl (by omega)))]; rfl))⟩
          | exact ⟨45, congrArg some (own_congr (by rw [hst (.inr (.inr (.inl hz2)))]; rfl) (by rw [hst (.inr (.inr (.inl hz2)))]; rfl))⟩
          | exact ⟨45, congrArg some (own_congr (by rw [hst (.inr (.inr (.inr (.inl hz3))))]; rfl) (by rw [hst (.inr (.inr (.inr (.inl hz3))))]; rfl))⟩
          | exact ⟨45, congrArg some (own_congr (by rw [hst (.inr (.inr (.inr (.inr hz4))))]; rfl) (by rw [hst (.inr (.inr (.inr (.inr hz4))))]; rfl))⟩
          | exact ⟨58, congrArg some (own_congr (by rw [hXS, List.length_append]) (by rw [hXS]; show _ = ((chordsT r k u m ++ chordsT r k m v).map Prod.snd).flatMap eP; rw [List.map_append, List.flatMap_append]))⟩
      · simp only [List.map_cons, List.map_nil, List.cons.injEq, and_true] at hz2
        refine l_val rfl (o_pickF rfl rfl) ?_
        refine l_val rfl (o_move rfl) ?_
        refine l_val rfl (o_loadW (key := 10) rfl rfl rfl) ?_
        refine l_val rfl (o_loadW (key := 4) rfl rfl rfl) ?_
        refine l_split rfl (o_eqs (xl := [_, _]) (yl := [_, _]) (az := [_, _]) (bz := [_, _]) rfl rfl rfl rfl rfl rfl) (fun hz3 => ?_) (fun hz3 => ?_)
        · simp only [List.map_cons, List.map_nil, List.cons.injEq, and_true] at hz3
          refine l_val rfl (o_pickF rfl rfl) ?_
          refine l_val rfl (o_move rfl) ?_
          refine l_no rfl ?_
          refine l_no rfl ?_
          refine l_no rfl ?_
          refine l_val rfl (o_pickT rfl rfl) ?_
          refine l_nil ?_
          refine kt_norm ?_
          refine v_sel [2, 3, 4, 5, 10, 43] [4, 5, 10] rfl rfl ?_
          refine v_condT rfl ?_
          refine v_seq ?_
          refine v_region ?_
          refine l_val rfl (o_loadW (key := 5) rfl rfl rfl) ?_
          refine l_buildSlice (vs := [_]) (cs := [_, _]) rfl rfl rfl rfl rfl rfl fun v45 hv45 => ?_
          refine l_val rfl (o_assign rfl) ?_
          refine l_nil ?_
          refine kt_norm ?_
          refine v_sel [8] [45] rfl rfl ?_
          refine v_ret ?_
          refine kt_ret ?_
          refine ⟨[_], .cons (.tmp rfl) (ResAll.nil), ?_⟩
          first
            | exact ⟨45, congrArg some (own_congr (by rw [hst (.inl (by omega))]; rfl) (by rw [hst (.inl (by omega))]; rfl))⟩
            | exact ⟨45, congrArg some (own_congr (by rw [hst (.inr (.inl (by omega)))]; rfl) (by rw [hst (.inr (.inl (by omega)))]; rfl))⟩
            | exact ⟨45, congrArg some (own_congr (by rw [hst (.inr (.inr (.inl hz2)))]; rfl) (by rw [hst (.inr (.inr (.inl hz2)))]; rfl))⟩
            | exact ⟨45, congrArg some (own_congr (by rw [hst (.inr (.inr (.inr (.inl hz3))))]; rfl) (by rw [hst (.inr (.inr (.inr (.inl hz3))))]; rfl))⟩
            | exact ⟨45, congrArg some (own_congr (by rw [hst (.inr (.inr (.inr (.inr hz4))))]; rfl) (by rw [hst (.inr (.inr (.inr (.inr hz4))))]; rfl))⟩
            | exact ⟨58, congrArg some (own_congr (by rw [hXS, List.length_append]) (by rw [hXS]; show _ = ((chordsT r k u m ++ chordsT r k m v).map Prod.snd).flatMap eP; rw [List.map_append, List.flatMap_append]))⟩
        · simp only [List.map_cons, List.map_nil, List.cons.injEq, and_true] at hz3
          refine l_val rfl (o_pickF rfl rfl) ?_
          refine l_val rfl (o_move rfl) ?_
          refine l_val rfl (o_loadW (key := 10) rfl rfl rfl) ?_
          refine l_val rfl (o_loadW (key := 5) rfl rfl rfl) ?_
          refine l_split rfl (o_eqs (xl := [_, _]) (yl := [_, _]) (az := [_, _]) (bz := [_, _]) rfl rfl rfl rfl rfl rfl) (fun hz4 => ?_) (fun hz4 => ?_)
          · simp only [List.map_cons, List.map_nil, List.cons.injEq, and_true] at hz4
            refine l_val rfl (o_pickF rfl rfl) ?_
            refine l_nil ?_
            refine kt_norm ?_
            refine v_sel [2, 3, 4, 5, 10, 43] [4, 5, 10] rfl rfl ?_
            refine v_condT rfl ?_
            refine v_seq ?_
            refine v_region ?_
            refine l_val rfl (o_loadW (key := 5) rfl rfl rfl) ?_
            refine l_buildSlice (vs := [_]) (cs := [_, _]) rfl rfl rfl rfl rfl rfl fun v45 hv45 => ?_
            refine l_val rfl (o_assign rfl) ?_
            refine l_nil ?_
            refine kt_norm ?_
            refine v_sel [8] [45] rfl rfl ?_
            refine v_ret ?_
            refine kt_ret ?_
            refine ⟨[_], .cons (.tmp rfl) (ResAll.nil), ?_⟩
            first
              | exact ⟨45, congrArg some (own_congr (by rw [hst (.inl (by omega))]; rfl) (by rw [hst (.inl (by omega))]; rfl))⟩
              | exact ⟨45, congrArg some (own_congr (by rw [hst (.inr (.inl (by omega)))]; rfl) (by rw [hst (.inr (.inl (by omega)))]; rfl))⟩
              | exact ⟨45, congrArg some (own_congr (by rw [hst (.inr (.inr (.inl hz2)))]; rfl) (by rw [hst (.inr (.inr (.inl hz2)))]; rfl))⟩
              | exact ⟨45, congrArg some (own_congr (by rw [hst (.inr (.inr (.inr (.inl hz3))))]; rfl) (by rw [hst (.inr (.inr (.inr (.inl hz3))))]; rfl))⟩
              | exact ⟨45, congrArg some (own_congr (by rw [hst (.inr (.inr (.inr (.inr hz4))))]; rfl) (by rw [hst (.inr (.inr (.inr (.inr hz4))))]; rfl))⟩
              | exact ⟨58, congrArg some (own_congr (by rw [hXS, List.length_append]) (by rw [hXS]; show _ = ((chordsT r k u m ++ chordsT r k m v).map Prod.snd).flatMap eP; rw [List.map_append, List.flatMap_append]))⟩
          · simp only [List.map_cons, List.map_nil, List.cons.injEq, and_true] at hz4
            refine l_val rfl (o_pickF rfl rfl) ?_
            refine l_nil ?_
            refine kt_norm ?_
            refine v_sel [2, 3, 4, 5, 10, 43] [4, 5, 10] rfl rfl ?_
            refine v_condF rfl ?_
            refine v_skip ?_
            refine kt_norm ?_
            refine v_seq ?_
            obtain ⟨k, rfl, hXS⟩ := hgo (by omega) (by omega) hz2 hz3 hz4
            refine v_drawW [(51, (chordsT r k u m).length), (57, (chordsT r k m v).length)] [[4], [10], [], [], [], [], [10], [5], [], [], [], []] mixed ?_ (by kernel_rfl) (by kernel_rfl)
            refine d_val (fun _ => rfl) rfl rfl (fun σ5 => o_loadW (key := 4) rfl rfl rfl) ?_
            refine d_val (fun _ => rfl) rfl rfl (fun σ5 => o_loadW (key := 10) rfl rfl rfl) ?_
            refine d_val (fun _ => rfl) rfl rfl (fun σ5 => o_move rfl) ?_
            refine d_val (fun _ => rfl) rfl rfl (fun σ5 => o_move rfl) ?_
            refine d_val (fun _ => rfl) rfl rfl (fun σ5 => o_add rfl rfl (show IntKind.wrap .i64 (6 - ((k + 1 : Nat) : Int) + 1) = 6 - (k : Int) by rw [wrap_i64 (by omega)]; omega)) ?_
            refine d_gown (caps := #[]) (fun _ => rfl) (fun _ => rfl) (ent_of Try.func101 rfl rfl) (vs := fun _ => [_, _, _, _]) (fun _ => rfl) (fun _ h => h) (fun σ5 w' hg hh => ih k rfl w' u m hu hmb) ?_
            refine d_val (fun _ => rfl) rfl rfl (fun σ5 => o_loadW (key := 10) rfl rfl rfl) ?_
            refine d_val (fun _ => rfl) rfl rfl (fun σ5 => o_loadW (key := 5) rfl rfl rfl) ?_
            refine d_val (fun _ => rfl) rfl rfl (fun σ5 => o_move rfl) ?_
            refine d_val (fun _ => rfl) rfl rfl (fun σ5 => o_move rfl) ?_
            refine d_val (fun _ => rfl) rfl rfl (fun σ5 => o_add rfl rfl (show IntKind.wrap .i64 (6 - ((k + 1 : Nat) : Int) + 1) = 6 - (k : Int) by rw [wrap_i64 (by omega)]; omega)) ?_
            refine d_gown (caps := #[]) (fun _ => rfl) (fun _ => rfl) (ent_of Try.func101 rfl rfl) (vs := fun _ => [_, _, _, _]) (fun _ => rfl) (fun _ h => h) (fun σ5 w' hg hh => ih k rfl w' m v hmb hv) ?_
            refine d_nil (fun σ5 => ?_)
            refine l_append 51 [4, 5, 10, 57] rfl rfl rfl rfl rfl rfl rfl (show RowV (σ5.v 57) (chordsT r k m v).length from σ5.ok 57) (row_own (key := 57) rfl) (by have h1 := chords_len r k u m; have h2 := chords_len r k m v; have h3 := Nat.pow_le_pow_right (n := 2) (by omega) (show k ≤ 6 by omega); omega) fun v58 hv58 => ?_
            refine l_val rfl (o_assign rfl) ?_
            refine l_nil ?_
            refine kt_norm ?_
            refine v_sel [8] [58] rfl rfl ?_
            refine v_ret ?_
            refine ⟨[_], .cons (.tmp rfl) (ResAll.nil), ?_⟩
            first
              | exact ⟨45, congrArg some (own_congr (by rw [hst (.inl (by omega))]; rfl) (by rw [hst (.inl (by omega))]; rfl))⟩
              | exact ⟨45, congrArg some (own_congr (by rw [hst (.inr (.inl (by omega)))]; rfl) (by rw [hst (.inr (.inl (by omega)))]; rfl))⟩
              | exact ⟨45, congrArg some (own_congr (by rw [hst (.inr (.inr (.inl hz2)))]; rfl) (by rw [hst (.inr (.inr (.inl hz2)))]; rfl))⟩
              | exact ⟨45, congrArg some (own_congr (by rw [hst (.inr (.inr (.inr (.inl hz3))))]; rfl) (by rw [hst (.inr (.inr (.inr (.inl hz3))))]; rfl))⟩
              | exact ⟨45, congrArg some (own_congr (by rw [hst (.inr (.inr (.inr (.inr hz4))))]; rfl) (by rw [hst (.inr (.inr (.inr (.inr hz4))))]; rfl))⟩
              | exact ⟨58, congrArg some (own_congr (by rw [hXS, List.length_append]) (by rw [hXS]; show _ = ((chordsT r k u m ++ chordsT r k m v).map Prod.snd).flatMap eP; rw [List.map_append, List.flatMap_append]))⟩
theorem r_bend {r : Int} (hr : 1 ≤ r ∧ r ≤ 131072) (d : Nat) : d ≤ 6 → ∀ (w : World) (u v : PtT), BdT u → BdT v → Calls Try.prog 101 #[.agg #[.int .i64 u.x, .int .i64 u.y], .agg #[.int .i64 v.x, .int .i64 v.y], .int .i64 r, .int .i64 (6 - (d : Int))] w fun e w' => ∃ y, e = .returned y ∧ Below w.heap.size w w' ∧ OwnAt w.heap.size w' y 23 2 (chordsT r d u v).length (sndF (chordsT r d u v)) := by
  induction d with
  | zero => exact fun hd w u v hu hv => r_bendS hr 0 hd (fun k hk => by omega) w u v hu hv
  | succ d ih =>
    refine fun hd w u v hu hv => r_bendS hr (d + 1) hd (fun k hk => ?_) w u v hu hv
    obtain rfl : k = d := by omega
    exact ih (by omega)
theorem r_Bend (w : World) (u v : PtT) (r : Int) (hr : 1 ≤ r ∧ r ≤ 131072) (hu : BdT u) (hv : BdT v) : Calls Try.prog 92 #[.agg #[.int .i64 u.x, .int .i64 u.y], .agg #[.int .i64 v.x, .int .i64 v.y], .int .i64 r] w fun e w' => ∃ y, e = .returned y ∧ Below w.heap.size w w' ∧ OwnAt w.heap.size w' y 23 2 (chordsT r 6 u v).length (sndF (chordsT r 6 u v)) := by
  refine calls_own (args := [.agg #[.int .i64 u.x, .int .i64 u.y], .agg #[.int .i64 v.x, .int .i64 v.y], .int .i64 r]) Try.func92 rfl Try.ntmps92 Try.results92 rfl ?_
  refine v_seq ?_
  refine v_region ?_
  refine l_new rfl (o_box (cs := [_, _]) rfl rfl) fun b3 => ?_
  refine l_new rfl (o_box (cs := [_, _]) rfl rfl) fun b4 => ?_
  refine l_val rfl (o_assign rfl) ?_
  refine l_nil ?_
  refine kt_norm ?_
  refine v_seq ?_
  refine v_region ?_
  refine l_val rfl (o_loadW (key := 3) rfl rfl rfl) ?_
  refine l_val rfl (o_loadW (key := 4) rfl rfl rfl) ?_
  refine l_val rfl (o_move rfl) ?_
  refine l_gown (ks := []) (caps := #[]) (vs := [_, _, _, _]) rfl rfl (ent_of Try.func101 rfl rfl) rfl (fun w' hg hh => r_bend hr 6 (Nat.le_refl _) w' u v hu hv) fun yb hyb => ?_
  refine l_val rfl (o_assign rfl) ?_
  refine l_nil ?_
  refine kt_norm ?_
  refine v_sel [6] [10] rfl rfl ?_
  refine v_ret ?_
  refine ⟨[_], .cons (.tmp rfl) (ResAll.nil), ?_⟩
  exact ⟨10, rfl⟩
end Go.Proofs.Ytpgjbalnipinoaa

/- Pies, by the document. Conditions: none. -/
namespace Go.Proofs.Ytpgjbalnipinoaa
open Go.Proofs Go.RowKit Go.Shelf

set_option maxHeartbeats 4000000 in
theorem r_Pie (w : World) (v : Value) (pvs : List Value) (qs : List (List PtT)) (p : PtT) (r : Int) (hv : PcsW v pvs qs) (hcp : Capd v) (hat : PcsAt w v pvs qs) (hql : qs.length ≤ 1000) (hp : (-536870912 ≤ p.x ∧ p.x ≤ 536870912) ∧ (-536870912 ≤ p.y ∧ p.y ≤ 536870912)) (hr : 1 ≤ r ∧ r ≤ 131072) (u z : PtT) (hu : BdT u) (hz : BdT z) (hpos : ∀ c ∈ chordsT r 6 u z, 0 < crossT c.1 c.2) : Calls Try.prog 75 #[v, .agg #[.int .i64 p.x, .int .i64 p.y], .agg #[.int .i64 u.x, .int .i64 u.y], .agg #[.int .i64 z.x, .int .i64 z.y], .int .i64 r] w fun e w' => ∃ x : PutsY v pvs qs (qs ++ (chordsT r 6 u z).map (triP p)), e = .returned x.1.1 ∧ Below w.heap.size w w' ∧ SaidOk w' x.1.2.2.1 x.1.2.2.2 ∧ ∀ b, x.1.2.2.2 b → w.heap.size ≤ b := by
  have hXl := chords6 r u z
  have hXb := chords_bd hr 6 u z hu hz
  have hch := chords_chain r 6 u z
  have hB : ∀ w', _ := fun w' => r_Bend w' u z r hr hu hz
  generalize chordsT r 6 u z = XS at *
  have hu0 := hu
  unfold BdT at hu0
  have hbl : (XS.map Prod.snd).length = XS.length := List.length_map _
  obtain ⟨a0, c0, rfl⟩ := hv.V.sl
  refine calls_said (args := [.slice a0 qs.length c0, .agg #[.int .i64 p.x, .int .i64 p.y], .agg #[.int .i64 u.x, .int .i64 u.y], .agg #[.int .i64 z.x, .int .i64 z.y], .int .i64 r]) (fun x : PutsY (.slice a0 qs.length c0) pvs qs (qs ++ XS.map (triP p)) => x.1.1) (fun x w' => SaidOk w' x.1.2.2.1 x.1.2.2.2) (fun x b => x.1.2.2.2 b) Try.func75 rfl Try.ntmps75 Try.results75 rfl ?_
  refine v_seq ?_
  refine v_region ?_
  refine l_new rfl (o_box (cs := [_, _]) rfl rfl) fun b6 => ?_
  refine l_new rfl (o_box (cs := [_, _]) rfl rfl) fun b7 => ?_
  refine l_new rfl (o_box (cs := [_, _]) rfl rfl) fun b8 => ?_
  refine l_val rfl (o_assign rfl) ?_
  refine l_nil ?_
  refine kt_norm ?_
  refine v_seq ?_
  refine v_region ?_
  refine l_said0 99 rfl ?_
  refine l_val rfl (o_loadW (key := 7) rfl rfl rfl) ?_
  refine l_val rfl (o_loadW (key := 8) rfl rfl rfl) ?_
  refine l_val rfl (o_move rfl) ?_
  refine l_gown (ks := []) (caps := #[]) (vs := [_, _, _]) rfl rfl (ent_of Try.func92 rfl rfl) rfl (fun w' hg hh => hB w') fun yb hyb => ?_
  refine l_val rfl (o_assign rfl) ?_
  refine l_nil ?_
  refine kt_norm ?_
  refine v_sel [0, 6, 7, 11] [6, 7, 16, 99] rfl rfl ?_
  refine v_seq ?_
  refine v_seq ?_
  refine v_region ?_
  refine l_val rfl (o_assign rfl) ?_
  refine l_nil ?_
  refine kt_norm ?_
  refine v_block ?_
  refine v_loopS (α := Nat × PtT × Value × List Value × (World → Prop) × (Nat → Prop)) (fun ⟨i, pa, tv, qvs, G, B⟩ => [(12, .int .i64 (i : Int)), (0, tv)]) (fun ⟨i, pa, tv, qvs, G, B⟩ => [(7, Hp.box b7 23 [.int .i64 pa.x, .int .i64 pa.y]), (99, Hp.said G B)])  (fun ⟨i, pa, tv, qvs, G, B⟩ => i ≤ XS.length ∧ BdT pa ∧ pa = (if i = 0 then u else (XS.map Prod.snd).getD (i - 1) dP) ∧ PcsW tv qvs (qs ++ (XS.take i).map (triP p)) ∧ Capd tv ∧ ∀ w2, PcsAt w2 (.slice a0 qs.length c0) pvs qs → G w2 → PcsAt w2 tv qvs (qs ++ (XS.take i).map (triP p))) (fun ⟨i, pa, tv, qvs, G, B⟩ => XS.length - i) (0, u, .slice a0 qs.length c0, pvs, fun _ => True, fun _ => False) [6, 7, 11] [6, 16] ⟨Nat.zero_le _, hu, rfl, by rw [List.take_zero, List.map_nil, List.append_nil]; exact hv, hcp, fun w2 h _ => by rw [List.take_zero, List.map_nil, List.append_nil]; exact h⟩  (And.intro rfl (And.intro rfl (True.intro))) rfl (And.intro rfl (And.intro rfl (True.intro))) rfl ?_
  rintro ⟨i, pa, tv, qvs, G, B⟩ ⟨hi, hba, hpa, hQ, hcp2, hG⟩
  refine v_seq ?_
  refine v_seq ?_
  refine v_region ?_
  refine l_val rfl (o_move rfl) ?_
  refine l_val rfl (o_move rfl) ?_
  refine l_val rfl (o_len rfl hyb) ?_
  refine l_split rfl (o_lss rfl rfl) (fun q1 => ?_) (fun q1 => ?_)
  · have hil : i < XS.length := by omega
    have hxc := List.getElem?_eq_getElem hil
    have hcu : XS[i].1 = pa := (hch.at_ hxc).trans hpa.symm
    have hcv : ((XS.map Prod.snd).getD i dP) = XS[i].2 := by rw [List.getD_eq_getElem?_getD, List.getElem?_map, hxc]; rfl
    have hxm : XS[i] ∈ XS := List.getElem_mem hil
    have hbb : BdT ((XS.map Prod.snd).getD i dP) := by rw [hcv]; exact (hXb _ hxm).2
    have hps : 0 < crossT pa ((XS.map Prod.snd).getD i dP) := by rw [← hcu, hcv]; exact hpos _ hxm
    have hcx : convexB (triP p (pa, ((XS.map Prod.snd).getD i dP))) = true := (tri_convex hba hbb hps).2
    have hnear : ∀ x ∈ (triP p (pa, ((XS.map Prod.snd).getD i dP))), NearT x := pie_near hp hba hbb
    have hnx : (XS.take (i + 1)).map (triP p) = (XS.take i).map (triP p) ++ [(triP p (pa, ((XS.map Prod.snd).getD i dP)))] := by
      rw [List.take_add_one, hxc, List.map_append, hcv, ← hcu]; rfl
    have hqi : (qs ++ (XS.take i).map (triP p)).length ≤ qs.length + 64 := by rw [List.length_append, List.length_map, List.length_take]; omega
    have hba0 := hba
    have hbb0 := hbb
    unfold BdT at hba0 hbb0
    refine l_nil ?_
    refine kt_norm ?_
    refine v_condT rfl ?_
    refine v_skip ?_
    refine kt_norm ?_
    refine v_seq ?_
    refine v_block ?_
    refine v_seq ?_
    refine v_drawW [(34, 3)] [[], [6], [6], [7], [], [6], [], [], [], [16], [], []] mixed ?_ (by kernel_rfl) (by kernel_rfl)
    refine d_val (fun _ => rfl) rfl rfl (fun σ5 => o_move rfl) ?_
    refine d_val (fun _ => rfl) rfl rfl (fun σ5 => o_loadW (key := 6) rfl rfl rfl) ?_
    refine d_val (fun _ => rfl) rfl rfl (fun σ5 => o_loadW (key := 6) rfl rfl rfl) ?_
    refine d_val (fun _ => rfl) rfl rfl (fun σ5 => o_loadW (key := 7) rfl rfl rfl) ?_
    refine d_ans (vs := [_, _]) (fun _ => rfl) (fun _ => rfl) (r_PAdd _ _ _ _ ?_ ?_ ?_ ?_) ?_
    · first | omega | (dsimp only; omega)
    · first | omega | (dsimp only; omega)
    · first | omega | (dsimp only; omega)
    · first | omega | (dsimp only; omega)
    refine d_val (fun _ => rfl) rfl rfl (fun σ5 => o_loadW (key := 6) rfl rfl rfl) ?_
    refine d_val (fun _ => rfl) rfl rfl (fun σ5 => o_move rfl) ?_
    refine d_val (fun _ => rfl) rfl rfl (fun σ5 => o_move rfl) ?_
    refine d_val (fun _ => rfl) rfl rfl (fun σ5 => o_idx (i) rfl hyb rfl (by first | rfl | omega) (by omega)) ?_
    refine d_val (fun _ => rfl) rfl rfl (fun σ5 => o_loadRE (c' := [_, _]) rfl (row_own (key := 16) rfl) (el_flat eP_len dP (XS.map Prod.snd) (i) (by rw [hbl]; exact hil)) rfl) ?_
    refine d_ans (vs := [_, _]) (fun _ => rfl) (fun _ => rfl) (r_PAdd _ _ _ _ ?_ ?_ ?_ ?_) ?_
    · first | omega | (dsimp only; omega)
    · first | omega | (dsimp only; omega)
    · first | omega | (dsimp only; omega)
    · first | omega | (dsimp only; omega)
    refine d_bsO (n := 3) (vs := fun _ => [_, _, _]) (cs := fun _ => [_, _, _, _, _, _]) (fun _ => rfl) (fun _ => rfl) (fun _ => rfl) rfl rfl (fun _ => rfl) (fun _ => rfl) ?_
    refine d_nil (fun σ5 => ?_)
    refine l_hsaid (ks := [34, 99]) (caps := #[]) (vs := [_, _]) (α := PutsY tv qvs (qs ++ (XS.take i).map (triP p)) ((qs ++ (XS.take i).map (triP p)) ++ [(triP p (pa, ((XS.map Prod.snd).getD i dP)))])) (fun x => x.1.1) (fun x w' => SaidOk w' x.1.2.2.1 x.1.2.2.2) (fun x b => x.1.2.2.2 b) rfl rfl (ent_of Try.func54 rfl rfl) rfl (fun x w1 w2 h hb => h.keep hb) (fun x w1 b h hb => h.2.1 b hb) (fun w' hg hh => r_PutYes w' tv qvs (qs ++ (XS.take i).map (triP p)) hQ (hG w' (hat.keep hg) (hh 99 (by simp) _ rfl).1) (by omega) _ (triP p (pa, ((XS.map Prod.snd).getD i dP))) (by show 3 ≤ 1000; omega) (.inl ⟨_, _, _, rfl⟩) (rowAt_own (hh 34 (by simp) _ rfl)) hnear hcx) fun xr => ?_
    refine l_join 99 35 rfl rfl [6, 7, 16] rfl rfl rfl ?_
    refine l_val rfl (o_assign rfl) ?_
    refine l_nil ?_
    refine kt_norm ?_
    refine v_sel [12, 0, 6, 7, 11] [6, 7, 16, 99] rfl rfl ?_
    refine v_region ?_
    refine l_val rfl (o_move rfl) ?_
    refine l_val rfl (o_move rfl) ?_
    refine l_val rfl (o_idx (i) rfl hyb rfl (by first | rfl | omega) (by omega)) ?_
    refine l_val rfl (o_loadRE (c' := [_, _]) rfl (row_own (key := 16) rfl) (el_flat eP_len dP (XS.map Prod.snd) (i) (by rw [hbl]; exact hil)) rfl) ?_
    refine l_store rfl (o_storeW (key := 7) (xs := [_, _]) rfl rfl rfl rfl rfl rfl rfl) ?_
    refine l_nil ?_
    refine kb_norm ?_
    refine kt_norm ?_
    refine v_region ?_
    refine l_val rfl (o_move rfl) ?_
    refine l_val rfl (o_addi rfl rfl ?_) ?_
    · first | omega | (dsimp only; omega)
    refine l_val rfl (o_assign rfl) ?_
    refine l_nil ?_
    refine kt_norm ?_
    refine ⟨(i + 1, ((XS.map Prod.snd).getD i dP), xr.1.1, xr.1.2.1, fun w2 => G w2 ∧ SaidOk w2 xr.1.2.2.1 xr.1.2.2.2, fun b => B b ∨ xr.1.2.2.2 b), ⟨hil, hbb, rfl, by rw [hnx, ← List.append_assoc]; exact xr.2.1, xr.2.2.1, fun w2 h hg => by rw [hnx, ← List.append_assoc]; exact xr.2.2.2 w2 (hG w2 h hg.1) hg.2.1⟩, (by show XS.length - (i + 1) < XS.length - i; omega), le_app (And.intro rfl (And.intro rfl (True.intro))) [6, 7, 11] rfl (And.intro rfl (And.intro rfl (True.intro))) [6, 16] rfl⟩
  · skip
    refine l_nil ?_
    refine kt_norm ?_
    refine v_condF rfl ?_
    refine v_exit ?_
    refine kt_exit ?_
    refine kt_exit ?_
    refine kb_eq ?_
    refine kt_norm ?_
    refine v_sel [0] [6, 7, 99] rfl rfl ?_
    refine v_seq ?_
    refine v_region ?_
    obtain rfl : i = XS.length := by omega
    rw [List.take_length] at hQ hG
    refine l_val rfl (o_move rfl) ?_
    refine l_val rfl (o_assign rfl) ?_
    refine l_nil ?_
    refine kt_norm ?_
    refine v_ret ?_
    refine ⟨[_], .cons (.tmp rfl) (ResAll.nil), ?_⟩
    exact ⟨⟨(tv, qvs, G, B), hQ, hcp2, hG⟩, rfl, fun w' ho => ⟨(ho.mo 99 _ rfl).1, fun b hb => ((ho.mo 99 _ rfl).2 b hb).elim id False.elim⟩⟩
end Go.Proofs.Ytpgjbalnipinoaa

/- Halves, discs, caps and dots, by the document. Conditions: none. -/
namespace Go.Proofs.Ytpgjbalnipinoaa
open Go.Proofs Go.RowKit Go.Shelf

theorem SaidOk.two {w : World} {G1 G2 : World → Prop} {B1 B2 : Nat → Prop} (a1 : SaidOk w G1 B1) (a2 : SaidOk w G2 B2) : SaidOk w (fun w => G1 w ∧ G2 w) (fun b => B1 b ∨ B2 b) :=
  ⟨⟨a1.1, a2.1⟩, fun b hb => hb.elim (a1.2.1 b) (a2.2.1 b), fun w1 w2 hg hb => ⟨a1.2.2 w1 w2 hg.1 fun b h => hb b (.inl h), a2.2.2 w1 w2 hg.2 fun b h => hb b (.inr h)⟩⟩
theorem arcs_sub {r : Int} {cs : List PtT} {i : Nat} {c : PtT × PtT} (hc : c ∈ chordsT r 6 (cs.getD i dP) (cs.getD (i + 1) dP)) : ∀ k, i < k → c ∈ arcsK r cs k
  | 0, h => by omega
  | k + 1, h => by
    by_cases e : i = k
    · subst e; exact List.mem_append_right _ hc
    · exact List.mem_append_left _ (arcs_sub hc k (by omega))
set_option maxHeartbeats 4000000 in
theorem r_Half (w : World) (v : Value) (pvs : List Value) (qs : List (List PtT)) (p : PtT) (r : Int) (hv : PcsW v pvs qs) (hcp : Capd v) (hat : PcsAt w v pvs qs) (hql : qs.length ≤ 100) (hp : (-536870912 ≤ p.x ∧ p.x ≤ 536870912) ∧ (-536870912 ≤ p.y ∧ p.y ≤ 536870912)) (hr : 1 ≤ r ∧ r ≤ 131072) (u : PtT) (hx : -1073741824 ≤ u.x ∧ u.x ≤ 1073741824) (hy : -1073741824 ≤ u.y ∧ u.y ≤ 1073741824) (Q : List (List PtT)) (f : PtT) (hf : normT u r = f) (hno : (f.x = 0 ∧ f.y = 0) → Q = qs) (hyes : ¬ (f.x = 0 ∧ f.y = 0) → Q = ((qs ++ (chordsT r 6 (⟨-(-f.y), -f.x⟩ : PtT) f).map (triP p)) ++ (chordsT r 6 f (⟨-f.y, f.x⟩ : PtT)).map (triP p))) (hpos : ¬ (f.x = 0 ∧ f.y = 0) → ∀ c ∈ halfL r f, 0 < crossT c.1 c.2) : Calls Try.prog 53 #[v, .agg #[.int .i64 p.x, .int .i64 p.y], .agg #[.int .i64 u.x, .int .i64 u.y], .int .i64 r] w fun e w' => ∃ x : PutsY v pvs qs (Q), e = .returned x.1.1 ∧ Below w.heap.size w w' ∧ SaidOk w' x.1.2.2.1 x.1.2.2.2 ∧ ∀ b, x.1.2.2.2 b → w.heap.size ≤ b := by
  have hbf : BdT f := hf ▸ norm_bd hr hx hy
  have hbf0 := hbf
  unfold BdT at hbf0
  have hnb : BdT (⟨-(-f.y), -f.x⟩ : PtT) := by unfold BdT; dsimp only; omega
  have hlb : BdT (⟨-f.y, f.x⟩ : PtT) := by unfold BdT; dsimp only; omega
  have hlen := chords6 r (⟨-(-f.y), -f.x⟩ : PtT) f
  refine calls_said (args := [v, .agg #[.int .i64 p.x, .int .i64 p.y], .agg #[.int .i64 u.x, .int .i64 u.y], .int .i64 r]) (fun x : PutsY v pvs qs (Q) => x.1.1) (fun x w' => SaidOk w' x.1.2.2.1 x.1.2.2.2) (fun x b => x.1.2.2.2 b) Try.func53 rfl Try.ntmps53 Try.results53 rfl ?_
  refine v_seq ?_
  refine v_region ?_
  refine l_new rfl (o_box (cs := [_, _]) rfl rfl) fun b5 => ?_
  refine l_new rfl (o_box (cs := [_, _]) rfl rfl) fun b6 => ?_
  refine l_val rfl (o_assign rfl) ?_
  refine l_nil ?_
  refine kt_norm ?_
  refine v_seq ?_
  refine v_region ?_
  refine l_val rfl (o_loadW (key := 6) rfl rfl rfl) ?_
  refine l_val rfl (o_move rfl) ?_
  refine l_ans (vs := [_, _]) rfl rfl (r_nrm (by omega) hx hy hf) ?_
  refine l_new rfl o_alloc fun b9 => ?_
  refine l_store rfl (o_storeW (key := 9) (xs := [_, _]) rfl rfl rfl rfl rfl rfl rfl) ?_
  refine l_nil ?_
  refine kt_norm ?_
  refine v_sel [0, 3, 5, 9] [5, 9] rfl rfl ?_
  refine v_seq ?_
  refine v_seq ?_
  refine v_region ?_
  refine l_val rfl (o_loadW (key := 9) rfl rfl rfl) ?_
  refine l_val rfl (o_build (vs := []) (cs := [_, _]) rfl rfl) ?_
  refine l_split rfl (o_eqs (xl := [_, _]) (yl := [_, _]) (az := [_, _]) (bz := [_, _]) rfl rfl rfl rfl rfl rfl) (fun hf0 => ?_) (fun hf0 => ?_)
  · simp only [List.map_cons, List.map_nil, List.cons.injEq, and_true] at hf0
    refine l_nil ?_
    refine kt_norm ?_
    refine v_condT rfl ?_
    refine v_seq ?_
    refine v_region ?_
    refine l_val rfl (o_move rfl) ?_
    refine l_val rfl (o_assign rfl) ?_
    refine l_nil ?_
    refine kt_norm ?_
    refine v_sel [8] [] rfl rfl ?_
    refine v_ret ?_
    refine kt_ret ?_
    refine ⟨[_], .cons (.tmp rfl) (ResAll.nil), ?_⟩
    first
      | exact ⟨⟨(v, pvs, fun _ => True, fun _ => False), (hno hf0).symm ▸ hv, hcp, fun w2 h _ => (hno hf0).symm ▸ h⟩, rfl, fun w' ho => ⟨⟨trivial, fun b hb => hb.elim, fun _ _ _ _ => trivial⟩, fun b hb => hb.elim⟩⟩
      | exact ⟨⟨(xb.1.1, xb.1.2.1, fun w2 => xa.1.2.2.1 w2 ∧ xb.1.2.2.1 w2, fun b => xa.1.2.2.2 b ∨ xb.1.2.2.2 b), (hyes hf0).symm ▸ xb.2.1, xb.2.2.1, fun w2 h hg => (hyes hf0).symm ▸ xb.2.2.2 w2 (xa.2.2.2 w2 h hg.1) hg.2⟩, rfl, fun w' ho => ⟨SaidOk.two (ho.mo 26 _ rfl).1.1 (ho.mo 32 _ rfl).1.1, fun b hb => by rcases hb with hb | hb; exact ((ho.mo 26 _ rfl).2 b hb).elim id False.elim; exact ((ho.mo 32 _ rfl).2 b hb).elim id False.elim⟩⟩
  · simp only [List.map_cons, List.map_nil, List.cons.injEq, and_true] at hf0
    refine l_nil ?_
    refine kt_norm ?_
    refine v_condF rfl ?_
    refine v_skip ?_
    refine kt_norm ?_
    refine v_seq ?_
    refine v_region ?_
    refine l_val rfl (o_loadW (key := 9) rfl rfl rfl) ?_
    refine l_ans (vs := [_]) rfl rfl (r_Left _ _ ?_ ?_) ?_
    · omega
    · omega
    refine l_new rfl o_alloc fun b10 => ?_
    refine l_store rfl (o_storeW (key := 10) (xs := [_, _]) rfl rfl rfl rfl rfl rfl rfl) ?_
    refine l_nil ?_
    refine kt_norm ?_
    refine v_seq ?_
    refine v_drawW [] [[], [5], [10], [], [9], []] mixed ?_ (by kernel_rfl) (by kernel_rfl)
    refine d_val (fun _ => rfl) rfl rfl (fun σ5 => o_move rfl) ?_
    refine d_val (fun _ => rfl) rfl rfl (fun σ5 => o_loadW (key := 5) rfl rfl rfl) ?_
    refine d_val (fun _ => rfl) rfl rfl (fun σ5 => o_loadW (key := 10) rfl rfl rfl) ?_
    refine d_ans (vs := [_]) (fun _ => rfl) (fun _ => rfl) (r_PNeg _ _ ?_ ?_) ?_
    · omega
    · omega
    refine d_val (fun _ => rfl) rfl rfl (fun σ5 => o_loadW (key := 9) rfl rfl rfl) ?_
    refine d_val (fun _ => rfl) rfl rfl (fun σ5 => o_move rfl) ?_
    refine d_nil (fun σ5 => ?_)
    refine l_hsaid (ks := []) (caps := #[]) (vs := [_, _, _, _, _]) (α := PutsY v pvs qs (qs ++ (chordsT r 6 (⟨-(-f.y), -f.x⟩ : PtT) f).map (triP p))) (fun x => x.1.1) (fun x w' => SaidOk w' x.1.2.2.1 x.1.2.2.2) (fun x b => x.1.2.2.2 b) rfl rfl (ent_of Try.func75 rfl rfl) rfl (fun x w1 w2 h hb => h.keep hb) (fun x w1 b h hb => h.2.1 b hb) (fun w' hg hh => r_Pie w' v pvs qs p r hv hcp (hat.keep hg) (by omega) hp hr (⟨-(-f.y), -f.x⟩ : PtT) f hnb hbf (fun c hc => hpos hf0 c (List.mem_append_left _ hc))) fun xa => ?_
    refine l_val rfl (o_assign rfl) ?_
    refine l_nil ?_
    refine kt_norm ?_
    refine v_sel [0, 3, 5, 9, 10] [5, 9, 10, 26] rfl rfl ?_
    refine v_seq ?_
    refine v_region ?_
    refine l_val rfl (o_move rfl) ?_
    refine l_val rfl (o_loadW (key := 5) rfl rfl rfl) ?_
    refine l_val rfl (o_loadW (key := 9) rfl rfl rfl) ?_
    refine l_val rfl (o_loadW (key := 10) rfl rfl rfl) ?_
    refine l_val rfl (o_move rfl) ?_
    refine l_hsaid (ks := [26]) (caps := #[]) (vs := [_, _, _, _, _]) (α := PutsY xa.1.1 xa.1.2.1 (qs ++ (chordsT r 6 (⟨-(-f.y), -f.x⟩ : PtT) f).map (triP p)) ((qs ++ (chordsT r 6 (⟨-(-f.y), -f.x⟩ : PtT) f).map (triP p)) ++ (chordsT r 6 f (⟨-f.y, f.x⟩ : PtT)).map (triP p))) (fun x => x.1.1) (fun x w' => SaidOk w' x.1.2.2.1 x.1.2.2.2) (fun x b => x.1.2.2.2 b) rfl rfl (ent_of Try.func75 rfl rfl) rfl (fun x w1 w2 h hb => h.keep hb) (fun x w1 b h hb => h.2.1 b hb) (fun w' hg hh => r_Pie w' _ _ _ p r xa.2.1 xa.2.2.1 (xa.2.2.2 w' (hat.keep hg) (hh 26 (by simp) _ rfl).1.1) (by rw [List.length_append, List.length_map]; omega) hp hr f (⟨-f.y, f.x⟩ : PtT) hbf hlb (fun c hc => hpos hf0 c (List.mem_append_right _ hc))) fun xb => ?_
    refine l_val rfl (o_assign rfl) ?_
    refine l_nil ?_
    refine kt_norm ?_
    refine v_sel [8] [26, 32] rfl rfl ?_
    refine v_ret ?_
    refine ⟨[_], .cons (.tmp rfl) (ResAll.nil), ?_⟩
    first
      | exact ⟨⟨(v, pvs, fun _ => True, fun _ => False), (hno hf0).symm ▸ hv, hcp, fun w2 h _ => (hno hf0).symm ▸ h⟩, rfl, fun w' ho => ⟨⟨trivial, fun b hb => hb.elim, fun _ _ _ _ => trivial⟩, fun b hb => hb.elim⟩⟩
      | exact ⟨⟨(xb.1.1, xb.1.2.1, fun w2 => xa.1.2.2.1 w2 ∧ xb.1.2.2.1 w2, fun b => xa.1.2.2.2 b ∨ xb.1.2.2.2 b), (hyes hf0).symm ▸ xb.2.1, xb.2.2.1, fun w2 h hg => (hyes hf0).symm ▸ xb.2.2.2 w2 (xa.2.2.2 w2 h hg.1) hg.2⟩, rfl, fun w' ho => ⟨SaidOk.two (ho.mo 26 _ rfl).1.1 (ho.mo 32 _ rfl).1.1, fun b hb => by rcases hb with hb | hb; exact ((ho.mo 26 _ rfl).2 b hb).elim id False.elim; exact ((ho.mo 32 _ rfl).2 b hb).elim id False.elim⟩⟩
set_option maxHeartbeats 4000000 in
theorem r_Disc (w : World) (v : Value) (pvs : List Value) (qs : List (List PtT)) (p : PtT) (r : Int) (hv : PcsW v pvs qs) (hcp : Capd v) (hat : PcsAt w v pvs qs) (hql : qs.length ≤ 100) (hp : (-536870912 ≤ p.x ∧ p.x ≤ 536870912) ∧ (-536870912 ≤ p.y ∧ p.y ≤ 536870912)) (hr : 1 ≤ r ∧ r ≤ 131072) (hpos : ∀ c ∈ arcsK r (discC r) 4, 0 < crossT c.1 c.2) : Calls Try.prog 56 #[v, .agg #[.int .i64 p.x, .int .i64 p.y], .int .i64 r] w fun e w' => ∃ x : PutsY v pvs qs ((qs ++ (arcsK r (discC r) 4).map (triP p))), e = .returned x.1.1 ∧ Below w.heap.size w w' ∧ SaidOk w' x.1.2.2.1 x.1.2.2.2 ∧ ∀ b, x.1.2.2.2 b → w.heap.size ≤ b := by
  obtain ⟨a0, c0, rfl⟩ := hv.V.sl
  refine calls_said (args := [.slice a0 qs.length c0, .agg #[.int .i64 p.x, .int .i64 p.y], .int .i64 r]) (fun x : PutsY (.slice a0 qs.length c0) pvs qs ((qs ++ (arcsK r (discC r) 4).map (triP p))) => x.1.1) (fun x w' => SaidOk w' x.1.2.2.1 x.1.2.2.2) (fun x b => x.1.2.2.2 b) Try.func56 rfl Try.ntmps56 Try.results56 rfl ?_
  refine v_seq ?_
  refine v_region ?_
  refine l_new rfl (o_box (cs := [_, _]) rfl rfl) fun b4 => ?_
  refine l_val rfl (o_assign rfl) ?_
  refine l_nil ?_
  refine kt_norm ?_
  refine v_seq ?_
  refine v_region ?_
  refine l_said0 99 rfl ?_
  refine l_val rfl (o_move rfl) ?_
  refine l_val rfl (o_build (vs := [_]) (cs := [_, _]) rfl rfl) ?_
  refine l_val rfl (o_move rfl) ?_
  refine l_val rfl (o_build (vs := [_]) (cs := [_, _]) rfl rfl) ?_
  refine l_val rfl (o_move rfl) ?_
  refine l_val rfl (o_negi rfl ?_) ?_
  · omega
  refine l_val rfl (o_build (vs := [_]) (cs := [_, _]) rfl rfl) ?_
  refine l_val rfl (o_move rfl) ?_
  refine l_val rfl (o_negi rfl ?_) ?_
  · omega
  refine l_val rfl (o_build (vs := [_]) (cs := [_, _]) rfl rfl) ?_
  refine l_val rfl (o_move rfl) ?_
  refine l_val rfl (o_build (vs := [_]) (cs := [_, _]) rfl rfl) ?_
  refine l_buildSlice (vs := [_, _, _, _, _]) (cs := [_, _, _, _, _, _, _, _, _, _]) rfl rfl rfl rfl rfl rfl fun v21 hv21 => ?_
  refine l_val rfl (o_assign rfl) ?_
  refine l_nil ?_
  refine kt_norm ?_
  refine v_sel [0, 2, 4, 7] [4, 21, 99] rfl rfl ?_
  refine v_seq ?_
  refine v_seq ?_
  refine v_region ?_
  refine l_val rfl (o_assign rfl) ?_
  refine l_nil ?_
  refine kt_norm ?_
  refine v_block ?_
  refine v_loopS (α := Nat × Value × List Value × (World → Prop) × (Nat → Prop)) (fun ⟨i, tv, qvs, G, B⟩ => [(8, .int .i64 (i : Int)), (0, tv)]) (fun ⟨i, tv, qvs, G, B⟩ => [(99, Hp.said G B)])  (fun ⟨i, tv, qvs, G, B⟩ => i ≤ 4 ∧ PcsW tv qvs (qs ++ (arcsK r (discC r) i).map (triP p)) ∧ Capd tv ∧ ∀ w2, PcsAt w2 (.slice a0 qs.length c0) pvs qs → G w2 → PcsAt w2 tv qvs (qs ++ (arcsK r (discC r) i).map (triP p))) (fun ⟨i, tv, qvs, G, B⟩ => 4 - i) (0, .slice a0 qs.length c0, pvs, fun _ => True, fun _ => False) [2, 4, 7] [4, 21] ⟨Nat.zero_le _, by rw [show (arcsK r (discC r) 0) = [] from rfl, List.map_nil, List.append_nil]; exact hv, hcp, fun w2 h _ => by rw [show (arcsK r (discC r) 0) = [] from rfl, List.map_nil, List.append_nil]; exact h⟩  (And.intro rfl (And.intro rfl (True.intro))) rfl (And.intro rfl (True.intro)) rfl ?_
  rintro ⟨i, tv, qvs, G, B⟩ ⟨hi, hQ, hcp2, hG⟩
  refine v_seq ?_
  refine v_seq ?_
  refine v_region ?_
  refine l_val rfl (o_move rfl) ?_
  refine l_split rfl (o_lss rfl rfl) (fun q1 => ?_) (fun q1 => ?_)
  · have hil : i < 4 := by omega
    have hb1 : BdT ((discC r).getD i dP) := disc_bd hr i (by show i < 5; omega)
    have hb2 : BdT ((discC r).getD (i + 1) dP) := disc_bd hr (i + 1) (by show i + 1 < 5; omega)
    have hal := arcs_len r (discC r) i
    have hps : ∀ c ∈ chordsT r 6 ((discC r).getD i dP) ((discC r).getD (i + 1) dP), 0 < crossT c.1 c.2 := fun c hc => hpos c (arcs_sub hc 4 hil)
    have hnx : (qs ++ (arcsK r (discC r) (i + 1)).map (triP p)) = (qs ++ (arcsK r (discC r) i).map (triP p)) ++ (chordsT r 6 ((discC r).getD i dP) ((discC r).getD (i + 1) dP)).map (triP p) := by
      rw [arcsK, List.map_append, List.append_assoc]
    refine l_nil ?_
    refine kt_norm ?_
    refine v_condT rfl ?_
    refine v_skip ?_
    refine kt_norm ?_
    refine v_seq ?_
    refine v_block ?_
    refine v_drawW [] [[], [4], [], [], [], [21], [], [], [], [], [21], []] mixed ?_ (by kernel_rfl) (by kernel_rfl)
    refine d_val (fun _ => rfl) rfl rfl (fun σ5 => o_move rfl) ?_
    refine d_val (fun _ => rfl) rfl rfl (fun σ5 => o_loadW (key := 4) rfl rfl rfl) ?_
    refine d_val (fun _ => rfl) rfl rfl (fun σ5 => o_move rfl) ?_
    refine d_val (fun _ => rfl) rfl rfl (fun σ5 => o_move rfl) ?_
    refine d_val (fun _ => rfl) rfl rfl (fun σ5 => o_idx (i) rfl hv21 rfl (by first | rfl | omega) (by omega)) ?_
    refine d_val (fun _ => rfl) rfl rfl (fun σ5 => o_loadRE (c' := [_, _]) rfl (row_own (key := 21) rfl) (el_flat eP_len dP (discC r) (i) (by show i < 5; omega)) rfl) ?_
    refine d_val (fun _ => rfl) rfl rfl (fun σ5 => o_move rfl) ?_
    refine d_val (fun _ => rfl) rfl rfl (fun σ5 => o_move rfl) ?_
    refine d_val (fun _ => rfl) rfl rfl (fun σ5 => o_addi rfl rfl ?_) ?_
    · omega
    refine d_val (fun _ => rfl) rfl rfl (fun σ5 => o_idx ((i + 1)) rfl hv21 rfl (by first | rfl | omega) (by omega)) ?_
    refine d_val (fun _ => rfl) rfl rfl (fun σ5 => o_loadRE (c' := [_, _]) rfl (row_own (key := 21) rfl) (el_flat eP_len dP (discC r) ((i + 1)) (by show (i + 1) < 5; omega)) rfl) ?_
    refine d_val (fun _ => rfl) rfl rfl (fun σ5 => o_move rfl) ?_
    refine d_nil (fun σ5 => ?_)
    refine l_hsaid (ks := [99]) (caps := #[]) (vs := [_, _, _, _, _]) (α := PutsY tv qvs (qs ++ (arcsK r (discC r) i).map (triP p)) ((qs ++ (arcsK r (discC r) i).map (triP p)) ++ (chordsT r 6 ((discC r).getD i dP) ((discC r).getD (i + 1) dP)).map (triP p))) (fun x => x.1.1) (fun x w' => SaidOk w' x.1.2.2.1 x.1.2.2.2) (fun x b => x.1.2.2.2 b) rfl rfl (ent_of Try.func75 rfl rfl) rfl (fun x w1 w2 h hb => h.keep hb) (fun x w1 b h hb => h.2.1 b hb) (fun w' hg hh => r_Pie w' tv qvs _ p r hQ hcp2 (hG w' (hat.keep hg) (hh 99 (by simp) _ rfl).1) (by rw [List.length_append, List.length_map]; omega) hp hr _ _ hb1 hb2 hps) fun xr => ?_
    refine l_join 99 38 rfl rfl [4, 21] rfl rfl rfl ?_
    refine l_val rfl (o_assign rfl) ?_
    refine l_nil ?_
    refine kb_norm ?_
    refine kt_norm ?_
    refine v_sel [8, 0, 2, 4, 7] [4, 21, 99] rfl rfl ?_
    refine v_region ?_
    refine l_val rfl (o_move rfl) ?_
    refine l_val rfl (o_addi rfl rfl ?_) ?_
    · omega
    refine l_val rfl (o_assign rfl) ?_
    refine l_nil ?_
    refine kt_norm ?_
    refine ⟨(i + 1, xr.1.1, xr.1.2.1, fun w2 => G w2 ∧ SaidOk w2 xr.1.2.2.1 xr.1.2.2.2, fun b => B b ∨ xr.1.2.2.2 b), ⟨hil, by rw [hnx]; exact xr.2.1, xr.2.2.1, fun w2 h hg => by rw [hnx]; exact xr.2.2.2 w2 (hG w2 h hg.1) hg.2.1⟩, (by show 4 - (i + 1) < 4 - i; omega), le_app (And.intro rfl (And.intro rfl (True.intro))) [2, 4, 7] rfl (And.intro rfl (True.intro)) [4, 21] rfl⟩
  · skip
    refine l_nil ?_
    refine kt_norm ?_
    refine v_condF rfl ?_
    refine v_exit ?_
    refine kt_exit ?_
    refine kt_exit ?_
    refine kb_eq ?_
    refine kt_norm ?_
    refine v_sel [0] [4, 21, 99] rfl rfl ?_
    refine v_seq ?_
    refine v_region ?_
    obtain rfl : i = 4 := by omega
    refine l_val rfl (o_move rfl) ?_
    refine l_val rfl (o_assign rfl) ?_
    refine l_nil ?_
    refine kt_norm ?_
    refine v_ret ?_
    refine ⟨[_], .cons (.tmp rfl) (ResAll.nil), ?_⟩
    exact ⟨⟨(tv, qvs, G, B), hQ, hcp2, hG⟩, rfl, fun w' ho => ⟨(ho.mo 99 _ rfl).1, fun b hb => ((ho.mo 99 _ rfl).2 b hb).elim id False.elim⟩⟩
end Go.Proofs.Ytpgjbalnipinoaa

/- Caps and dots, by the document. Conditions: none. -/
namespace Go.Proofs.Ytpgjbalnipinoaa
open Go.Proofs Go.RowKit Go.Shelf

def sqR (p s f : PtT) : List PtT := [⟨p.x + s.x, p.y + s.y⟩, ⟨p.x + s.x + f.x, p.y + s.y + f.y⟩, ⟨p.x - s.x + f.x, p.y - s.y + f.y⟩, ⟨p.x - s.x, p.y - s.y⟩]
theorem sqR_eq (p s f : PtT) : sqR p s f = quadT ⟨p.x + s.x, p.y + s.y⟩ f ⟨-(2 * s.x), -(2 * s.y)⟩ := by
  simp only [sqR, quadT, List.cons.injEq, PtT.mk.injEq, and_true, true_and]
  omega
def boxR (p : PtT) (h : Int) : List PtT := [⟨p.x - h, p.y - h⟩, ⟨p.x + h, p.y - h⟩, ⟨p.x + h, p.y + h⟩, ⟨p.x - h, p.y + h⟩]
theorem boxR_eq (p : PtT) (h : Int) : boxR p h = quadT ⟨p.x + -h, p.y + -h⟩ ⟨2 * h, 0⟩ ⟨0, 2 * h⟩ := by
  simp only [boxR, quadT, List.cons.injEq, PtT.mk.injEq, and_true, true_and]
  omega
theorem sqR_ok {p u s f : PtT} {h : Int} (hh : 1 ≤ h ∧ h ≤ 131072) (hp : (-536870912 ≤ p.x ∧ p.x ≤ 536870912) ∧ (-536870912 ≤ p.y ∧ p.y ≤ 536870912)) (hx : -1073741824 ≤ u.x ∧ u.x ≤ 1073741824) (hy : -1073741824 ≤ u.y ∧ u.y ≤ 1073741824) (hs : normT ⟨-u.y, u.x⟩ h = s) (hf : normT u h = f) (h1 : ¬ (s.x = 0 ∧ s.y = 0)) (h2 : ¬ (f.x = 0 ∧ f.y = 0)) (qs : List (List PtT)) :
    convexB (sqR p s f) = false ∧ convexB (sqR p s f).reverse = true ∧ sqT p u h qs = qs ++ [(sqR p s f).reverse] ∧ ∀ x ∈ sqR p s f, NearT x := by
  have h0 : ¬ (u.x = 0 ∧ u.y = 0) := fun h0 => h2 (by rw [← hf, norm_zero h0]; exact ⟨rfl, rfl⟩)
  obtain ⟨e, k1, k2, k3⟩ := sq_put (p := p) hh hx hy h0 hs hf qs
  have hbs := hs ▸ norm_bound (p := ⟨-u.y, u.x⟩) (r := h) (by dsimp only; omega) (by dsimp only; omega) (by omega)
  have hbf := hf ▸ norm_bound (p := u) (r := h) hx hy (by omega)
  have e2 : crossT f ⟨-(2 * s.x), -(2 * s.y)⟩ = -(2 * crossT f s) := by unfold crossT; grind
  have ha := area_quad ⟨p.x + s.x, p.y + s.y⟩ f ⟨-(2 * s.x), -(2 * s.y)⟩ (by omega)
  refine ⟨conv_area (by rw [sqR_eq, ha]; omega), ?_, ?_, ?_⟩
  · rw [sqR_eq, sq_rev]; exact (quad_convex ⟨k1, k2⟩).2
  · rw [sqR_eq, sq_rev]; exact e
  · rw [sqR_eq]
    exact quad_near (by unfold NearT; dsimp only; omega) (by unfold NearT; dsimp only; omega) (by unfold NearT; dsimp only; omega) (by unfold NearT; dsimp only; omega)
set_option maxHeartbeats 4000000 in
theorem r_CapQ (w : World) (v : Value) (pvs : List Value) (qs : List (List PtT)) (p : PtT) (h : Int) (hv : PcsW v pvs qs) (hcp : Capd v) (hat : PcsAt w v pvs qs) (hql : qs.length ≤ 100) (hp : (-536870912 ≤ p.x ∧ p.x ≤ 536870912) ∧ (-536870912 ≤ p.y ∧ p.y ≤ 536870912)) (hr : 1 ≤ h ∧ h ≤ 131072) (u : PtT) (hx : -1073741824 ≤ u.x ∧ u.x ≤ 1073741824) (hy : -1073741824 ≤ u.y ∧ u.y ≤ 1073741824) (k : Int) {Q : List (List PtT)} (hQ : capK k p u h qs = Q) : Calls Try.prog 36 #[v, .int .i64 k, .agg #[.int .i64 p.x, .int .i64 p.y], .agg #[.int .i64 u.x, .int .i64 u.y], .int .i64 h] w fun e w' => ∃ x : PutsY v pvs qs (Q), e = .returned x.1.1 ∧ Below w.heap.size w w' ∧ SaidOk w' x.1.2.2.1 x.1.2.2.2 ∧ ∀ b, x.1.2.2.2 b → w.heap.size ≤ b := by
  obtain ⟨s, hs⟩ : ∃ s, normT ⟨-u.y, u.x⟩ h = s := ⟨_, rfl⟩
  obtain ⟨f, hf⟩ : ∃ f, normT u h = f := ⟨_, rfl⟩
  have hbs := hs ▸ norm_bound (p := ⟨-u.y, u.x⟩) (r := h) (by dsimp only; omega) (by dsimp only; omega) (by omega)
  have hbf := hf ▸ norm_bound (p := u) (r := h) (by omega) (by omega) (by omega)
  have hk2 : k = 2 → Q = halfT p u h qs := fun e => by rw [← hQ]; unfold capK; rw [if_neg (by omega)]; exact if_pos e
  have hk0 : k ≠ 1 → k ≠ 2 → Q = qs := fun e1 e2 => by rw [← hQ]; unfold capK; rw [if_neg e1, if_neg e2]
  have hk1 : k = 1 → Q = sqT p u h qs := fun e => by rw [← hQ]; exact if_pos e
  have hsno := fun h0 => sqT_no (p := p) (qs := qs) hs hf h0
  have hsyes := fun h1 h2 => sqR_ok (p := p) hr hp hx hy hs hf h1 h2 qs
  have hhno := fun h0 => halfT_no (p := p) (qs := qs) hf h0
  have hin := fun h0 => vec_in hr.1 hx hy h0 hf
  have hu0 : ¬ (f.x = 0 ∧ f.y = 0) → ¬ (u.x = 0 ∧ u.y = 0) := fun h2 h0 => h2 (by rw [← hf, norm_zero h0]; exact ⟨rfl, rfl⟩)
  have hhyes : ¬ (f.x = 0 ∧ f.y = 0) → halfT p u h qs = (qs ++ (chordsT h 6 (⟨-(-f.y), -f.x⟩ : PtT) f).map (triP p)) ++ (chordsT h 6 f (⟨-f.y, f.x⟩ : PtT)).map (triP p) := fun h2 => by
    obtain ⟨i1, i2, i3⟩ := hin (hu0 h2)
    rw [half_put hr hf i1 i2 i3 qs]; unfold halfL; rw [List.map_append, List.append_assoc]
  have hhpos : ¬ (f.x = 0 ∧ f.y = 0) → ∀ c ∈ halfL h f, 0 < crossT c.1 c.2 := fun h2 c hc => by
    obtain ⟨i1, i2, i3⟩ := hin (hu0 h2)
    exact (half_all1 hr i1 i2 i3 c hc).x
  clear hQ hin
  refine calls_said (args := [v, .int .i64 k, .agg #[.int .i64 p.x, .int .i64 p.y], .agg #[.int .i64 u.x, .int .i64 u.y], .int .i64 h]) (fun x : PutsY v pvs qs (Q) => x.1.1) (fun x w' => SaidOk w' x.1.2.2.1 x.1.2.2.2) (fun x b => x.1.2.2.2 b) Try.func36 rfl Try.ntmps36 Try.results36 rfl ?_
  refine v_seq ?_
  refine v_region ?_
  refine l_new rfl (o_box (cs := [_, _]) rfl rfl) fun b7 => ?_
  refine l_new rfl (o_box (cs := [_, _]) rfl rfl) fun b8 => ?_
  refine l_val rfl (o_assign rfl) ?_
  refine l_nil ?_
  refine kt_norm ?_
  refine v_seq ?_
  refine v_seq ?_
  refine v_region ?_
  refine l_val rfl (o_move rfl) ?_
  refine l_split rfl (o_eql rfl rfl) (fun he2 => ?_) (fun he2 => ?_)
  · skip
    refine l_nil ?_
    refine kt_norm ?_
    refine v_condT rfl ?_
    refine v_seq ?_
    refine v_region ?_
    refine l_val rfl (o_move rfl) ?_
    refine l_val rfl (o_loadW (key := 7) rfl rfl rfl) ?_
    refine l_val rfl (o_loadW (key := 8) rfl rfl rfl) ?_
    refine l_val rfl (o_move rfl) ?_
    refine l_hsaid (ks := []) (caps := #[]) (vs := [_, _, _, _]) (α := PutsY v pvs qs Q) (fun x => x.1.1) (fun x w' => SaidOk w' x.1.2.2.1 x.1.2.2.2) (fun x b => x.1.2.2.2 b) rfl rfl (ent_of Try.func53 rfl rfl) rfl (fun x w1 w2 h hb => h.keep hb) (fun x w1 b h hb => h.2.1 b hb) (fun w' hg hh => r_Half w' v pvs qs p h hv hcp (hat.keep hg) hql hp hr u hx hy Q f hf (fun e => (hk2 he2).trans (hhno e)) (fun e => (hk2 he2).trans (hhyes e)) hhpos) fun xr => ?_
    refine l_val rfl (o_assign rfl) ?_
    refine l_nil ?_
    refine kt_norm ?_
    refine v_sel [10] [21] rfl rfl ?_
    refine v_ret ?_
    refine kt_ret ?_
    refine ⟨[_], .cons (.tmp rfl) (ResAll.nil), ?_⟩
    first
      | exact ⟨xr, rfl, fun w' ho => ⟨(ho.mo 21 _ rfl).1.1, fun b hb => ((ho.mo 21 _ rfl).2 b hb).elim id False.elim⟩⟩
      | exact ⟨⟨xr.1, ((hk1 (by omega)).trans hq3).symm ▸ xr.2⟩, rfl, fun w' ho => ⟨(ho.mo 58 _ rfl).1.1, fun b hb => ((ho.mo 58 _ rfl).2 b hb).elim id False.elim⟩⟩
      | exact ⟨⟨(v, pvs, fun _ => True, fun _ => False), (hk0 he1 he2).symm ▸ hv, hcp, fun w2 h _ => (hk0 he1 he2).symm ▸ h⟩, rfl, fun w' ho => ⟨⟨trivial, fun b hb => hb.elim, fun _ _ _ _ => trivial⟩, fun b hb => hb.elim⟩⟩
      | exact ⟨⟨(v, pvs, fun _ => True, fun _ => False), ((hk1 (by omega)).trans (hsno (.inl hs0))).symm ▸ hv, hcp, fun w2 h _ => ((hk1 (by omega)).trans (hsno (.inl hs0))).symm ▸ h⟩, rfl, fun w' ho => ⟨⟨trivial, fun b hb => hb.elim, fun _ _ _ _ => trivial⟩, fun b hb => hb.elim⟩⟩
      | exact ⟨⟨(v, pvs, fun _ => True, fun _ => False), ((hk1 (by omega)).trans (hsno (.inr hf0))).symm ▸ hv, hcp, fun w2 h _ => ((hk1 (by omega)).trans (hsno (.inr hf0))).symm ▸ h⟩, rfl, fun w' ho => ⟨⟨trivial, fun b hb => hb.elim, fun _ _ _ _ => trivial⟩, fun b hb => hb.elim⟩⟩
  · skip
    refine l_nil ?_
    refine kt_norm ?_
    refine v_condF rfl ?_
    refine v_skip ?_
    refine kt_norm ?_
    refine v_seq ?_
    refine v_region ?_
    refine l_val rfl (o_loadW (key := 8) rfl rfl rfl) ?_
    refine l_ans (vs := [_]) rfl rfl (r_Left _ _ ?_ ?_) ?_
    · first | omega | (dsimp only; omega)
    · first | omega | (dsimp only; omega)
    refine l_val rfl (o_move rfl) ?_
    refine l_ans (vs := [_, _]) rfl rfl (r_nrm (u := ⟨-u.y, u.x⟩) (by omega) (by dsimp only; omega) (by dsimp only; omega) hs) ?_
    refine l_new rfl o_alloc fun b11 => ?_
    refine l_store rfl (o_storeW (key := 11) (xs := [_, _]) rfl rfl rfl rfl rfl rfl rfl) ?_
    refine l_nil ?_
    refine kt_norm ?_
    refine v_sel [0, 1, 4, 7, 8, 11] [7, 8, 11] rfl rfl ?_
    refine v_seq ?_
    refine v_region ?_
    refine l_val rfl (o_loadW (key := 8) rfl rfl rfl) ?_
    refine l_val rfl (o_move rfl) ?_
    refine l_ans (vs := [_, _]) rfl rfl (r_nrm (by omega) hx hy hf) ?_
    refine l_new rfl o_alloc fun b12 => ?_
    refine l_store rfl (o_storeW (key := 12) (xs := [_, _]) rfl rfl rfl rfl rfl rfl rfl) ?_
    refine l_nil ?_
    refine kt_norm ?_
    refine v_seq ?_
    refine v_seq ?_
    refine v_region ?_
    refine l_val rfl (o_move rfl) ?_
    refine l_split rfl (o_neq rfl rfl) (fun he1 => ?_) (fun he1 => ?_)
    · skip
      refine l_val rfl (o_move rfl) ?_
      refine l_no rfl ?_
      refine l_no rfl ?_
      refine l_no rfl ?_
      refine l_val rfl (o_pickT rfl rfl) ?_
      refine l_val rfl (o_move rfl) ?_
      refine l_no rfl ?_
      refine l_no rfl ?_
      refine l_no rfl ?_
      refine l_val rfl (o_pickT rfl rfl) ?_
      refine l_nil ?_
      refine kt_norm ?_
      refine v_sel [0, 7, 11, 12, 40] [7, 11, 12] rfl rfl ?_
      refine v_condT rfl ?_
      refine v_seq ?_
      refine v_region ?_
      refine l_val rfl (o_move rfl) ?_
      refine l_val rfl (o_assign rfl) ?_
      refine l_nil ?_
      refine kt_norm ?_
      refine v_sel [10] [] rfl rfl ?_
      refine v_ret ?_
      refine kt_ret ?_
      refine ⟨[_], .cons (.tmp rfl) (ResAll.nil), ?_⟩
      first
        | exact ⟨xr, rfl, fun w' ho => ⟨(ho.mo 21 _ rfl).1.1, fun b hb => ((ho.mo 21 _ rfl).2 b hb).elim id False.elim⟩⟩
        | exact ⟨⟨xr.1, ((hk1 (by omega)).trans hq3).symm ▸ xr.2⟩, rfl, fun w' ho => ⟨(ho.mo 58 _ rfl).1.1, fun b hb => ((ho.mo 58 _ rfl).2 b hb).elim id False.elim⟩⟩
        | exact ⟨⟨(v, pvs, fun _ => True, fun _ => False), (hk0 he1 he2).symm ▸ hv, hcp, fun w2 h _ => (hk0 he1 he2).symm ▸ h⟩, rfl, fun w' ho => ⟨⟨trivial, fun b hb => hb.elim, fun _ _ _ _ => trivial⟩, fun b hb => hb.elim⟩⟩
        | exact ⟨⟨(v, pvs, fun _ => True, fun _ => False), ((hk1 (by omega)).trans (hsno (.inl hs0))).symm ▸ hv, hcp, fun w2 h _ => ((hk1 (by omega)).trans (hsno (.inl hs0))).symm ▸ h⟩, rfl, fun w' ho => ⟨⟨trivial, fun b hb => hb.elim, fun _ _ _ _ => trivial⟩, fun b hb => hb.elim⟩⟩
        | exact ⟨⟨(v, pvs, fun _ => True, fun _ => False), ((hk1 (by omega)).trans (hsno (.inr hf0))).symm ▸ hv, hcp, fun w2 h _ => ((hk1 (by omega)).trans (hsno (.inr hf0))).symm ▸ h⟩, rfl, fun w' ho => ⟨⟨trivial, fun b hb => hb.elim, fun _ _ _ _ => trivial⟩, fun b hb => hb.elim⟩⟩
    · skip
      refine l_val rfl (o_move rfl) ?_
      refine l_val rfl (o_loadW (key := 11) rfl rfl rfl) ?_
      refine l_val rfl (o_build (vs := []) (cs := [_, _]) rfl rfl) ?_
      refine l_split rfl (o_eqs (xl := [_, _]) (yl := [_, _]) (az := [_, _]) (bz := [_, _]) rfl rfl rfl rfl rfl rfl) (fun hs0 => ?_) (fun hs0 => ?_)
      · simp only [List.map_cons, List.map_nil, List.cons.injEq, and_true] at hs0
        refine l_val rfl (o_pickF rfl rfl) ?_
        refine l_val rfl (o_move rfl) ?_
        refine l_no rfl ?_
        refine l_no rfl ?_
        refine l_no rfl ?_
        refine l_val rfl (o_pickT rfl rfl) ?_
        refine l_nil ?_
        refine kt_norm ?_
        refine v_sel [0, 7, 11, 12, 40] [7, 11, 12] rfl rfl ?_
        refine v_condT rfl ?_
        refine v_seq ?_
        refine v_region ?_
        refine l_val rfl (o_move rfl) ?_
        refine l_val rfl (o_assign rfl) ?_
        refine l_nil ?_
        refine kt_norm ?_
        refine v_sel [10] [] rfl rfl ?_
        refine v_ret ?_
        refine kt_ret ?_
        refine ⟨[_], .cons (.tmp rfl) (ResAll.nil), ?_⟩
        first
          | exact ⟨xr, rfl, fun w' ho => ⟨(ho.mo 21 _ rfl).1.1, fun b hb => ((ho.mo 21 _ rfl).2 b hb).elim id False.elim⟩⟩
          | exact ⟨⟨xr.1, ((hk1 (by omega)).trans hq3).symm ▸ xr.2⟩, rfl, fun w' ho => ⟨(ho.mo 58 _ rfl).1.1, fun b hb => ((ho.mo 58 _ rfl).2 b hb).elim id False.elim⟩⟩
          | exact ⟨⟨(v, pvs, fun _ => True, fun _ => False), (hk0 he1 he2).symm ▸ hv, hcp, fun w2 h _ => (hk0 he1 he2).symm ▸ h⟩, rfl, fun w' ho => ⟨⟨trivial, fun b hb => hb.elim, fun _ _ _ _ => trivial⟩, fun b hb => hb.elim⟩⟩
          | exact ⟨⟨(v, pvs, fun _ => True, fun _ => False), ((hk1 (by omega)).trans (hsno (.inl hs0))).symm ▸ hv, hcp, fun w2 h _ => ((hk1 (by omega)).trans (hsno (.inl hs0))).symm ▸ h⟩, rfl, fun w' ho => ⟨⟨trivial, fun b hb => hb.elim, fun _ _ _ _ => trivial⟩, fun b hb => hb.elim⟩⟩
          | exact ⟨⟨(v, pvs, fun _ => True, fun _ => False), ((hk1 (by omega)).trans (hsno (.inr hf0))).symm ▸ hv, hcp, fun w2 h _ => ((hk1 (by omega)).trans (hsno (.inr hf0))).symm ▸ h⟩, rfl, fun w' ho => ⟨⟨trivial, fun b hb => hb.elim, fun _ _ _ _ => trivial⟩, fun b hb => hb.elim⟩⟩
      · simp only [List.map_cons, List.map_nil, List.cons.injEq, and_true] at hs0
        refine l_val rfl (o_pickF rfl rfl) ?_
        refine l_val rfl (o_move rfl) ?_
        refine l_val rfl (o_loadW (key := 12) rfl rfl rfl) ?_
        refine l_val rfl (o_build (vs := []) (cs := [_, _]) rfl rfl) ?_
        refine l_split rfl (o_eqs (xl := [_, _]) (yl := [_, _]) (az := [_, _]) (bz := [_, _]) rfl rfl rfl rfl rfl rfl) (fun hf0 => ?_) (fun hf0 => ?_)
        · simp only [List.map_cons, List.map_nil, List.cons.injEq, and_true] at hf0
          refine l_val rfl (o_pickF rfl rfl) ?_
          refine l_nil ?_
          refine kt_norm ?_
          refine v_sel [0, 7, 11, 12, 40] [7, 11, 12] rfl rfl ?_
          refine v_condT rfl ?_
          refine v_seq ?_
          refine v_region ?_
          refine l_val rfl (o_move rfl) ?_
          refine l_val rfl (o_assign rfl) ?_
          refine l_nil ?_
          refine kt_norm ?_
          refine v_sel [10] [] rfl rfl ?_
          refine v_ret ?_
          refine kt_ret ?_
          refine ⟨[_], .cons (.tmp rfl) (ResAll.nil), ?_⟩
          first
            | exact ⟨xr, rfl, fun w' ho => ⟨(ho.mo 21 _ rfl).1.1, fun b hb => ((ho.mo 21 _ rfl).2 b hb).elim id False.elim⟩⟩
            | exact ⟨⟨xr.1, ((hk1 (by omega)).trans hq3).symm ▸ xr.2⟩, rfl, fun w' ho => ⟨(ho.mo 58 _ rfl).1.1, fun b hb => ((ho.mo 58 _ rfl).2 b hb).elim id False.elim⟩⟩
            | exact ⟨⟨(v, pvs, fun _ => True, fun _ => False), (hk0 he1 he2).symm ▸ hv, hcp, fun w2 h _ => (hk0 he1 he2).symm ▸ h⟩, rfl, fun w' ho => ⟨⟨trivial, fun b hb => hb.elim, fun _ _ _ _ => trivial⟩, fun b hb => hb.elim⟩⟩
            | exact ⟨⟨(v, pvs, fun _ => True, fun _ => False), ((hk1 (by omega)).trans (hsno (.inl hs0))).symm ▸ hv, hcp, fun w2 h _ => ((hk1 (by omega)).trans (hsno (.inl hs0))).symm ▸ h⟩, rfl, fun w' ho => ⟨⟨trivial, fun b hb => hb.elim, fun _ _ _ _ => trivial⟩, fun b hb => hb.elim⟩⟩
            | exact ⟨⟨(v, pvs, fun _ => True, fun _ => False), ((hk1 (by omega)).trans (hsno (.inr hf0))).symm ▸ hv, hcp, fun w2 h _ => ((hk1 (by omega)).trans (hsno (.inr hf0))).symm ▸ h⟩, rfl, fun w' ho => ⟨⟨trivial, fun b hb => hb.elim, fun _ _ _ _ => trivial⟩, fun b hb => hb.elim⟩⟩
        · simp only [List.map_cons, List.map_nil, List.cons.injEq, and_true] at hf0
          refine l_val rfl (o_pickF rfl rfl) ?_
          refine l_nil ?_
          refine kt_norm ?_
          refine v_sel [0, 7, 11, 12, 40] [7, 11, 12] rfl rfl ?_
          refine v_condF rfl ?_
          refine v_skip ?_
          refine kt_norm ?_
          refine v_seq ?_
          refine v_region ?_
          refine l_val rfl (o_loadW (key := 7) rfl rfl rfl) ?_
          refine l_val rfl (o_loadW (key := 11) rfl rfl rfl) ?_
          refine l_ans (vs := [_, _]) rfl rfl (r_PAdd _ _ _ _ ?_ ?_ ?_ ?_) ?_
          · first | omega | (dsimp only; omega)
          · first | omega | (dsimp only; omega)
          · first | omega | (dsimp only; omega)
          · first | omega | (dsimp only; omega)
          refine l_new rfl o_alloc fun b13 => ?_
          refine l_store rfl (o_storeW (key := 13) (xs := [_, _]) rfl rfl rfl rfl rfl rfl rfl) ?_
          refine l_nil ?_
          refine kt_norm ?_
          refine v_seq ?_
          refine v_region ?_
          refine l_val rfl (o_loadW (key := 7) rfl rfl rfl) ?_
          refine l_val rfl (o_loadW (key := 11) rfl rfl rfl) ?_
          refine l_ans (vs := [_, _]) rfl rfl (r_PSub _ _ _ _ ?_ ?_ ?_ ?_) ?_
          · first | omega | (dsimp only; omega)
          · first | omega | (dsimp only; omega)
          · first | omega | (dsimp only; omega)
          · first | omega | (dsimp only; omega)
          refine l_new rfl o_alloc fun b14 => ?_
          refine l_store rfl (o_storeW (key := 14) (xs := [_, _]) rfl rfl rfl rfl rfl rfl rfl) ?_
          refine l_nil ?_
          refine kt_norm ?_
          refine v_sel [0, 12, 13, 14] [12, 13, 14] rfl rfl ?_
          refine v_seq ?_
          obtain ⟨hq1, hq2, hq3, hq4⟩ := hsyes hs0 hf0
          refine v_drawW [(57, 4)] [[], [13], [13], [12], [], [14], [12], [], [14], []] mixed ?_ (by kernel_rfl) (by kernel_rfl)
          refine d_val (fun _ => rfl) rfl rfl (fun σ9 => o_move rfl) ?_
          refine d_val (fun _ => rfl) rfl rfl (fun σ9 => o_loadW (key := 13) rfl rfl rfl) ?_
          refine d_val (fun _ => rfl) rfl rfl (fun σ9 => o_loadW (key := 13) rfl rfl rfl) ?_
          refine d_val (fun _ => rfl) rfl rfl (fun σ9 => o_loadW (key := 12) rfl rfl rfl) ?_
          refine d_ans (vs := [_, _]) (fun _ => rfl) (fun _ => rfl) (r_PAdd _ _ _ _ ?_ ?_ ?_ ?_) ?_
          · first | omega | (dsimp only; omega)
          · first | omega | (dsimp only; omega)
          · first | omega | (dsimp only; omega)
          · first | omega | (dsimp only; omega)
          refine d_val (fun _ => rfl) rfl rfl (fun σ9 => o_loadW (key := 14) rfl rfl rfl) ?_
          refine d_val (fun _ => rfl) rfl rfl (fun σ9 => o_loadW (key := 12) rfl rfl rfl) ?_
          refine d_ans (vs := [_, _]) (fun _ => rfl) (fun _ => rfl) (r_PAdd _ _ _ _ ?_ ?_ ?_ ?_) ?_
          · first | omega | (dsimp only; omega)
          · first | omega | (dsimp only; omega)
          · first | omega | (dsimp only; omega)
          · first | omega | (dsimp only; omega)
          refine d_val (fun _ => rfl) rfl rfl (fun σ9 => o_loadW (key := 14) rfl rfl rfl) ?_
          refine d_bsO (n := 4) (vs := fun _ => [_, _, _, _]) (cs := fun _ => [_, _, _, _, _, _, _, _]) (fun _ => rfl) (fun _ => rfl) (fun _ => rfl) rfl rfl (fun _ => rfl) (fun _ => rfl) ?_
          refine d_nil (fun σ9 => ?_)
          refine l_hsaid (ks := [57]) (caps := #[]) (vs := [_, _]) (α := PutsY v pvs qs (qs ++ [(sqR p s f).reverse])) (fun x => x.1.1) (fun x w' => SaidOk w' x.1.2.2.1 x.1.2.2.2) (fun x b => x.1.2.2.2 b) rfl rfl (ent_of Try.func54 rfl rfl) rfl (fun x w1 w2 h hb => h.keep hb) (fun x w1 b h hb => h.2.1 b hb) (fun w' hg hh => r_PutRev w' v pvs qs hv (hat.keep hg) (by omega) _ (sqR p s f) (by show 4 ≤ 1000; omega) (.inl ⟨_, _, _, rfl⟩) (rowAt_own (hh 57 (by simp) _ rfl)) hq4 hq1 hq2) fun xr => ?_
          refine l_val rfl (o_assign rfl) ?_
          refine l_nil ?_
          refine kt_norm ?_
          refine v_sel [10] [58] rfl rfl ?_
          refine v_ret ?_
          refine ⟨[_], .cons (.tmp rfl) (ResAll.nil), ?_⟩
          first
            | exact ⟨xr, rfl, fun w' ho => ⟨(ho.mo 21 _ rfl).1.1, fun b hb => ((ho.mo 21 _ rfl).2 b hb).elim id False.elim⟩⟩
            | exact ⟨⟨xr.1, ((hk1 (by omega)).trans hq3).symm ▸ xr.2⟩, rfl, fun w' ho => ⟨(ho.mo 58 _ rfl).1.1, fun b hb => ((ho.mo 58 _ rfl).2 b hb).elim id False.elim⟩⟩
            | exact ⟨⟨(v, pvs, fun _ => True, fun _ => False), (hk0 he1 he2).symm ▸ hv, hcp, fun w2 h _ => (hk0 he1 he2).symm ▸ h⟩, rfl, fun w' ho => ⟨⟨trivial, fun b hb => hb.elim, fun _ _ _ _ => trivial⟩, fun b hb => hb.elim⟩⟩
            | exact ⟨⟨(v, pvs, fun _ => True, fun _ => False), ((hk1 (by omega)).trans (hsno (.inl hs0))).symm ▸ hv, hcp, fun w2 h _ => ((hk1 (by omega)).trans (hsno (.inl hs0))).symm ▸ h⟩, rfl, fun w' ho => ⟨⟨trivial, fun b hb => hb.elim, fun _ _ _ _ => trivial⟩, fun b hb => hb.elim⟩⟩
            | exact ⟨⟨(v, pvs, fun _ => True, fun _ => False), ((hk1 (by omega)).trans (hsno (.inr hf0))).symm ▸ hv, hcp, fun w2 h _ => ((hk1 (by omega)).trans (hsno (.inr hf0))).symm ▸ h⟩, rfl, fun w' ho => ⟨⟨trivial, fun b hb => hb.elim, fun _ _ _ _ => trivial⟩, fun b hb => hb.elim⟩⟩
set_option maxHeartbeats 4000000 in
theorem r_DotQ (w : World) (v : Value) (pvs : List Value) (qs : List (List PtT)) (p : PtT) (h : Int) (hv : PcsW v pvs qs) (hcp : Capd v) (hat : PcsAt w v pvs qs) (hql : qs.length ≤ 100) (hp : (-536870912 ≤ p.x ∧ p.x ≤ 536870912) ∧ (-536870912 ≤ p.y ∧ p.y ≤ 536870912)) (hr : 1 ≤ h ∧ h ≤ 131072) (k : Int) {Q : List (List PtT)} (hQ : dotK k p h qs = Q) : Calls Try.prog 38 #[v, .int .i64 k, .agg #[.int .i64 p.x, .int .i64 p.y], .int .i64 h] w fun e w' => ∃ x : PutsY v pvs qs (Q), e = .returned x.1.1 ∧ Below w.heap.size w w' ∧ SaidOk w' x.1.2.2.1 x.1.2.2.2 ∧ ∀ b, x.1.2.2.2 b → w.heap.size ≤ b := by
  have hk1 : k = 1 → Q = qs ++ [boxR p h] := fun e => by rw [← hQ, e, boxR_eq]; exact box_put hr p qs
  have hk2 : k = 2 → Q = qs ++ (arcsK h (discC h) 4).map (triP p) := fun e => by rw [← hQ, e]; exact disc_put hr qs
  have hk0 : k ≠ 1 → k ≠ 2 → Q = qs := fun e1 e2 => by rw [← hQ]; unfold dotK; rw [if_neg e1, if_neg e2]
  have hpos : ∀ c ∈ arcsK h (discC h) 4, 0 < crossT c.1 c.2 := fun c hc => (disc_fin hr c hc).x
  have hbc : convexB (boxR p h) = true := by rw [boxR_eq]; exact (box_cap hr hp).cx
  have hbn : ∀ x ∈ boxR p h, NearT x := by rw [boxR_eq]; exact box_near hr hp
  clear hQ
  refine calls_said (args := [v, .int .i64 k, .agg #[.int .i64 p.x, .int .i64 p.y], .int .i64 h]) (fun x : PutsY v pvs qs (Q) => x.1.1) (fun x w' => SaidOk w' x.1.2.2.1 x.1.2.2.2) (fun x b => x.1.2.2.2 b) Try.func38 rfl Try.ntmps38 Try.results38 rfl ?_
  refine v_seq ?_
  refine v_region ?_
  refine l_new rfl (o_box (cs := [_, _]) rfl rfl) fun b6 => ?_
  refine l_val rfl (o_assign rfl) ?_
  refine l_nil ?_
  refine kt_norm ?_
  refine v_seq ?_
  refine v_seq ?_
  refine v_region ?_
  refine l_val rfl (o_move rfl) ?_
  refine l_split rfl (o_eql rfl rfl) (fun he2 => ?_) (fun he2 => ?_)
  · skip
    refine l_nil ?_
    refine kt_norm ?_
    refine v_condT rfl ?_
    refine v_seq ?_
    refine v_region ?_
    refine l_val rfl (o_move rfl) ?_
    refine l_val rfl (o_loadW (key := 6) rfl rfl rfl) ?_
    refine l_val rfl (o_move rfl) ?_
    refine l_hsaid (ks := []) (caps := #[]) (vs := [_, _, _]) (α := PutsY v pvs qs (qs ++ (arcsK h (discC h) 4).map (triP p))) (fun x => x.1.1) (fun x w' => SaidOk w' x.1.2.2.1 x.1.2.2.2) (fun x b => x.1.2.2.2 b) rfl rfl (ent_of Try.func56 rfl rfl) rfl (fun x w1 w2 h hb => h.keep hb) (fun x w1 b h hb => h.2.1 b hb) (fun w' hg hh => r_Disc w' v pvs qs p h hv hcp (hat.keep hg) hql hp hr hpos) fun xr => ?_
    refine l_val rfl (o_assign rfl) ?_
    refine l_nil ?_
    refine kt_norm ?_
    refine v_sel [8] [14] rfl rfl ?_
    refine v_ret ?_
    refine kt_ret ?_
    refine ⟨[_], .cons (.tmp rfl) (ResAll.nil), ?_⟩
    first
      | exact ⟨⟨xr.1, (hk2 he2).symm ▸ xr.2⟩, rfl, fun w' ho => ⟨(ho.mo 14 _ rfl).1.1, fun b hb => ((ho.mo 14 _ rfl).2 b hb).elim id False.elim⟩⟩
      | exact ⟨⟨(v, pvs, fun _ => True, fun _ => False), (hk0 he1 he2).symm ▸ hv, hcp, fun w2 h _ => (hk0 he1 he2).symm ▸ h⟩, rfl, fun w' ho => ⟨⟨trivial, fun b hb => hb.elim, fun _ _ _ _ => trivial⟩, fun b hb => hb.elim⟩⟩
      | exact ⟨⟨xr.1, (hk1 (by omega)).symm ▸ xr.2⟩, rfl, fun w' ho => ⟨(ho.mo 56 _ rfl).1.1, fun b hb => ((ho.mo 56 _ rfl).2 b hb).elim id False.elim⟩⟩
  · skip
    refine l_nil ?_
    refine kt_norm ?_
    refine v_condF rfl ?_
    refine v_skip ?_
    refine kt_norm ?_
    refine v_seq ?_
    refine v_seq ?_
    refine v_region ?_
    refine l_val rfl (o_move rfl) ?_
    refine l_split rfl (o_neq rfl rfl) (fun he1 => ?_) (fun he1 => ?_)
    · skip
      refine l_nil ?_
      refine kt_norm ?_
      refine v_sel [0, 3, 6, 16] [6] rfl rfl ?_
      refine v_condT rfl ?_
      refine v_seq ?_
      refine v_region ?_
      refine l_val rfl (o_move rfl) ?_
      refine l_val rfl (o_assign rfl) ?_
      refine l_nil ?_
      refine kt_norm ?_
      refine v_ret ?_
      refine kt_ret ?_
      refine ⟨[_], .cons (.tmp rfl) (ResAll.nil), ?_⟩
      first
        | exact ⟨⟨xr.1, (hk2 he2).symm ▸ xr.2⟩, rfl, fun w' ho => ⟨(ho.mo 14 _ rfl).1.1, fun b hb => ((ho.mo 14 _ rfl).2 b hb).elim id False.elim⟩⟩
        | exact ⟨⟨(v, pvs, fun _ => True, fun _ => False), (hk0 he1 he2).symm ▸ hv, hcp, fun w2 h _ => (hk0 he1 he2).symm ▸ h⟩, rfl, fun w' ho => ⟨⟨trivial, fun b hb => hb.elim, fun _ _ _ _ => trivial⟩, fun b hb => hb.elim⟩⟩
        | exact ⟨⟨xr.1, (hk1 (by omega)).symm ▸ xr.2⟩, rfl, fun w' ho => ⟨(ho.mo 56 _ rfl).1.1, fun b hb => ((ho.mo 56 _ rfl).2 b hb).elim id False.elim⟩⟩
    · skip
      refine l_nil ?_
      refine kt_norm ?_
      refine v_sel [0, 3, 6, 16] [6] rfl rfl ?_
      refine v_condF rfl ?_
      refine v_skip ?_
      refine kt_norm ?_
      refine v_seq ?_
      refine v_region ?_
      refine l_val rfl (o_move rfl) ?_
      refine l_val rfl (o_fld rfl) ?_
      refine l_val rfl (o_load1 (key := 6) rfl rfl rfl) ?_
      refine l_val rfl (o_move rfl) ?_
      refine l_val rfl (o_subi rfl rfl ?_) ?_
      · omega
      refine l_val rfl (o_fld rfl) ?_
      refine l_val rfl (o_load1 (key := 6) rfl rfl rfl) ?_
      refine l_val rfl (o_move rfl) ?_
      refine l_val rfl (o_subi rfl rfl ?_) ?_
      · omega
      refine l_val rfl (o_build (vs := [_, _]) (cs := [_, _]) rfl rfl) ?_
      refine l_val rfl (o_fld rfl) ?_
      refine l_val rfl (o_load1 (key := 6) rfl rfl rfl) ?_
      refine l_val rfl (o_move rfl) ?_
      refine l_val rfl (o_addi rfl rfl ?_) ?_
      · omega
      refine l_val rfl (o_fld rfl) ?_
      refine l_val rfl (o_load1 (key := 6) rfl rfl rfl) ?_
      refine l_val rfl (o_move rfl) ?_
      refine l_val rfl (o_subi rfl rfl ?_) ?_
      · omega
      refine l_val rfl (o_build (vs := [_, _]) (cs := [_, _]) rfl rfl) ?_
      refine l_val rfl (o_fld rfl) ?_
      refine l_val rfl (o_load1 (key := 6) rfl rfl rfl) ?_
      refine l_val rfl (o_move rfl) ?_
      refine l_val rfl (o_addi rfl rfl ?_) ?_
      · omega
      refine l_val rfl (o_fld rfl) ?_
      refine l_val rfl (o_load1 (key := 6) rfl rfl rfl) ?_
      refine l_val rfl (o_move rfl) ?_
      refine l_val rfl (o_addi rfl rfl ?_) ?_
      · omega
      refine l_val rfl (o_build (vs := [_, _]) (cs := [_, _]) rfl rfl) ?_
      refine l_val rfl (o_fld rfl) ?_
      refine l_val rfl (o_load1 (key := 6) rfl rfl rfl) ?_
      refine l_val rfl (o_move rfl) ?_
      refine l_val rfl (o_subi rfl rfl ?_) ?_
      · omega
      refine l_val rfl (o_fld rfl) ?_
      refine l_val rfl (o_load1 (key := 6) rfl rfl rfl) ?_
      refine l_val rfl (o_move rfl) ?_
      refine l_val rfl (o_addi rfl rfl ?_) ?_
      · omega
      refine l_val rfl (o_build (vs := [_, _]) (cs := [_, _]) rfl rfl) ?_
      refine l_buildSlice (vs := [_, _, _, _]) (cs := [_, _, _, _, _, _, _, _]) rfl rfl rfl rfl rfl rfl fun v55 hv55 => ?_
      refine l_hsaid (ks := [55]) (caps := #[]) (vs := [_, _]) (α := PutsY v pvs qs (qs ++ [boxR p h])) (fun x => x.1.1) (fun x w' => SaidOk w' x.1.2.2.1 x.1.2.2.2) (fun x b => x.1.2.2.2 b) rfl rfl (ent_of Try.func54 rfl rfl) rfl (fun x w1 w2 h hb => h.keep hb) (fun x w1 b h hb => h.2.1 b hb) (fun w' hg hh => r_PutYes w' v pvs qs hv (hat.keep hg) (by omega) _ (boxR p h) (by show 4 ≤ 1000; omega) hv55 (rowAt_own (hh 55 (by simp) _ rfl)) hbn hbc) fun xr => ?_
      refine l_val rfl (o_assign rfl) ?_
      refine l_nil ?_
      refine kt_norm ?_
      refine v_sel [8] [55, 56] rfl rfl ?_
      refine v_ret ?_
      refine ⟨[_], .cons (.tmp rfl) (ResAll.nil), ?_⟩
      first
        | exact ⟨⟨xr.1, (hk2 he2).symm ▸ xr.2⟩, rfl, fun w' ho => ⟨(ho.mo 14 _ rfl).1.1, fun b hb => ((ho.mo 14 _ rfl).2 b hb).elim id False.elim⟩⟩
        | exact ⟨⟨(v, pvs, fun _ => True, fun _ => False), (hk0 he1 he2).symm ▸ hv, hcp, fun w2 h _ => (hk0 he1 he2).symm ▸ h⟩, rfl, fun w' ho => ⟨⟨trivial, fun b hb => hb.elim, fun _ _ _ _ => trivial⟩, fun b hb => hb.elim⟩⟩
        | exact ⟨⟨xr.1, (hk1 (by omega)).symm ▸ xr.2⟩, rfl, fun w' ho => ⟨(ho.mo 56 _ rfl).1.1, fun b hb => ((ho.mo 56 _ rfl).2 b hb).elim id False.elim⟩⟩
end Go.Proofs.Ytpgjbalnipinoaa

/- The pieces of caps and dots are the ones of the document. Conditions: none. -/
namespace Go.Proofs.Ytpgjbalnipinoaa
open Go.Proofs Go.RowKit Go.Shelf

theorem el_oneE {xs : List Value} {j : Nat} {u : Value} (h : j < xs.length) (e : xs.getD j undef = u) : El xs 1 j [u] := e ▸ el_one h
theorem take_one {l : List Value} {i : Nat} (h : i < l.length) : l.take i ++ [l.getD i undef] = l.take (i + 1) := by
  rw [List.take_add_one, List.getD_eq_getElem?_getD, List.getElem?_eq_getElem h]; rfl
theorem r_itsP (w : World) (v : Value) (pvs : List Value) (ps : List (List PtT)) (hv : PcsW v pvs ps) (hat : PcsAt w v pvs ps) (hl : ps.length ≤ 1000000) :
    Calls Try.prog 34 #[v] w fun e w' => ∃ y, e = .returned y ∧ Below w.heap.size w w' ∧ OwnAt w.heap.size w' y 37 1 ps.length pvs := by
  have hVp := hv.V
  have hlen := hv.len
  have hrowP : ∀ w', Chg (fun _ => False) w w' → RowAt w' v 1 ps.length pvs := fun w' h => (hat.keep h).row
  refine calls_own (args := [v]) Try.func34 rfl Try.ntmps34 Try.results34 rfl ?_
  refine v_seq ?_
  refine v_region ?_
  refine l_val rfl (o_assign rfl) ?_
  refine l_nil ?_
  refine kt_norm ?_
  refine v_seq ?_
  refine v_region ?_
  refine l_buildSlice (vs := []) (cs := []) rfl rfl rfl rfl rfl rfl fun v5 hv5 => ?_
  refine l_val rfl (o_assign rfl) ?_
  refine l_nil ?_
  refine kt_norm ?_
  refine v_seq ?_
  refine v_seq ?_
  refine v_region ?_
  refine l_val rfl (o_assign rfl) ?_
  refine l_nil ?_
  refine kt_norm ?_
  refine v_block ?_
  refine v_ren 5 18 [] rfl rfl rfl ?_
  refine v_loopS (α := Nat × Value) (fun ⟨i, v3⟩ => [(4, .int .i64 (i : Int)), (3, v3)]) (fun ⟨i, v3⟩ => [(18, Hp.own v3 37 1 i (pvs.take i))])  (fun ⟨i, v3⟩ => i ≤ ps.length ∧ RowV v3 i) (fun ⟨i, v3⟩ => ps.length - i) (0, v5) [0] [] ⟨Nat.zero_le _, hv5⟩  (And.intro rfl (And.intro rfl (True.intro))) rfl (And.intro rfl (True.intro)) rfl ?_
  rintro ⟨i, v3⟩ ⟨hi, hv3⟩
  refine v_seq ?_
  refine v_seq ?_
  refine v_region ?_
  refine l_val rfl (o_move rfl) ?_
  refine l_val rfl (o_move rfl) ?_
  refine l_val rfl (o_len rfl hVp) ?_
  refine l_split rfl (o_lss rfl rfl) (fun q1 => ?_) (fun q1 => ?_)
  · have hil : i < ps.length := by omega
    obtain ⟨aq, cq, hq⟩ := (hv.pV i hil).sl
    refine l_nil ?_
    refine kt_norm ?_
    refine v_condT rfl ?_
    refine v_skip ?_
    refine kt_norm ?_
    refine v_seq ?_
    refine v_block ?_
    refine v_region ?_
    refine l_val rfl (o_move rfl) ?_
    refine l_val rfl (o_move rfl) ?_
    refine l_val rfl (o_move rfl) ?_
    refine l_val rfl (o_idx (i) rfl hVp rfl (by first | rfl | omega) (by omega)) ?_
    refine l_val rfl (o_loadR1 rfl (row_imm hrowP) (el_oneE (by rw [hv.lenv]; exact hil) hq)) ?_
    refine l_buildSlice (vs := [_]) (cs := [_]) rfl rfl rfl rfl rfl rfl fun v17 hv17 => ?_
    refine l_append 18 [17] rfl rfl rfl rfl rfl rfl rfl hv17 (row_own (key := 17) rfl) (by omega) fun v18 hv18 => ?_
    refine l_val rfl (o_assign rfl) ?_
    refine l_nil ?_
    refine kb_norm ?_
    refine kt_norm ?_
    refine v_sel [4, 3, 0] [18] rfl rfl ?_
    refine v_region ?_
    refine l_val rfl (o_move rfl) ?_
    refine l_val rfl (o_addi rfl rfl ?_) ?_
    · omega
    refine l_val rfl (o_assign rfl) ?_
    refine l_nil ?_
    refine kt_norm ?_
    refine ⟨(i + 1, v18), ⟨by omega, hv18⟩, (by show ps.length - (i + 1) < ps.length - i; omega), le_app (And.intro rfl (And.intro rfl (True.intro))) [0] rfl (And.intro (congrArg some (own_congr rfl (by rw [← hq]; exact take_one (by rw [hv.lenv]; exact hil)))) (True.intro)) [] rfl⟩
  · skip
    refine l_nil ?_
    refine kt_norm ?_
    refine v_condF rfl ?_
    refine v_exit ?_
    refine kt_exit ?_
    refine kt_exit ?_
    refine kb_eq ?_
    refine kt_norm ?_
    refine v_sel [3] [18] rfl rfl ?_
    refine v_seq ?_
    refine v_region ?_
    obtain rfl : i = ps.length := by omega
    refine l_val rfl (o_move rfl) ?_
    refine l_val rfl (o_assign rfl) ?_
    refine l_nil ?_
    refine kt_norm ?_
    refine v_ret ?_
    refine ⟨[_], .cons (.tmp rfl) (ResAll.nil), ?_⟩
    exact ⟨18, congrArg some (own_congr rfl (by rw [← hv.lenv, List.take_length]))⟩
theorem r_itsQ (w : World) (v : Value) (pvs : List Value) (ps : List (List PtT)) (hv : PcsW v pvs ps) (hat : PcsAt w v pvs ps) (hl : ps.length ≤ 1000000) : Calls Try.prog 34 #[v] w fun e w' => ∃ x : PutsY v pvs ps ps, e = .returned x.1.1 ∧ Below w.heap.size w w' ∧ SaidOk w' x.1.2.2.1 x.1.2.2.2 ∧ ∀ b, x.1.2.2.2 b → w.heap.size ≤ b :=
  (r_itsP w v pvs ps hv hat hl).mono fun e w' ⟨y, h1, h2, h3⟩ => by
    have hc : RowV y ps.length := rowV_own h3.1
    refine ⟨⟨(y, pvs, fun w2 => (Hp.own y 37 1 ps.length pvs).ok w2, fun b => y.ownBlock = some b), ⟨hc, hv.lenv, hv.len, hv.pV⟩, capd_own h3.1, fun w2 h hg => pcsAt_of (rowAt_own hg) (h.all hv)⟩, h1, h2, ⟨h3.1, fun b hb => Hp.isCells h3.1 hb, fun w1 w2 hg hb => Hp.keep (h := .own y 37 1 ps.length pvs) hg (fun b e => hb b e)⟩, fun b hb => h3.2 b hb⟩
theorem r_Same (w : World) (v u : Value) (pvs uvs : List Value) (Q : List (List PtT)) (hv : PcsW v pvs Q) (hu : PcsW u uvs Q) (hat : PcsAt w v pvs Q) (hbt : PcsAt w u uvs Q) (hl : Q.length ≤ 1000000) (hs : ∀ q ∈ Q, q.length ≤ 1000000) : Calls Try.prog 33 #[v, u] w fun e w' => e = .returned (.bool true) ∧ Below w.heap.size w w' := by
  have hVa := hv.V
  have hVb := hu.V
  have hla := hv.lenv
  have hlb := hu.lenv
  refine calls_of (args := [v, u]) Try.func33 rfl Try.ntmps33 Try.results33 rfl ?_
  refine v_seq ?_
  refine v_region ?_
  refine l_val rfl (o_assign rfl) ?_
  refine l_nil ?_
  refine kt_norm ?_
  refine v_seq ?_
  refine v_seq ?_
  refine v_region ?_
  refine l_val rfl (o_move rfl) ?_
  refine l_val rfl (o_len rfl hVa) ?_
  refine l_val rfl (o_move rfl) ?_
  refine l_val rfl (o_len rfl hVb) ?_
  refine l_split rfl (o_neq rfl rfl) (fun q1 => absurd q1 (by omega)) (fun q1 => ?_)
  refine l_nil ?_
  refine kt_norm ?_
  refine v_condF rfl ?_
  refine v_skip ?_
  refine kt_norm ?_
  refine v_sel [0, 1] [] rfl rfl ?_
  refine v_seq ?_
  refine v_seq ?_
  refine v_region ?_
  refine l_val rfl (o_assign rfl) ?_
  refine l_nil ?_
  refine kt_norm ?_
  refine v_block ?_
  refine v_loopS (α := Nat) (fun i => [(5, .int .i64 (i : Int))]) (fun i => [])  (fun i => i ≤ Q.length) (fun i => Q.length - i) 0 [0, 1] [] (Nat.zero_le _)  (And.intro rfl (True.intro)) rfl (True.intro) rfl ?_
  rintro i hi
  refine v_seq ?_
  refine v_seq ?_
  refine v_region ?_
  refine l_val rfl (o_move rfl) ?_
  refine l_val rfl (o_move rfl) ?_
  refine l_val rfl (o_len rfl hVa) ?_
  refine l_split rfl (o_lss rfl rfl) (fun q2 => ?_) (fun q2 => ?_)
  · have hil : i < Q.length := by omega
    have hsi := hs _ (show Q.getD i [] ∈ Q by rw [List.getD_eq_getElem?_getD, List.getElem?_eq_getElem hil]; exact List.getElem_mem hil)
    refine l_nil ?_
    refine kt_norm ?_
    refine v_condT rfl ?_
    refine v_skip ?_
    refine kt_norm ?_
    refine v_seq ?_
    refine v_block ?_
    refine v_seq ?_
    refine v_drawZ [[], [], [], [], [], [], [], [], [], []] mixed ?_ (by kernel_rfl) (by kernel_rfl)
    refine d_val (fun _ => rfl) rfl rfl (fun _ => o_move rfl) ?_
    refine d_val (fun _ => rfl) rfl rfl (fun _ => o_move rfl) ?_
    refine d_val (fun _ => rfl) rfl rfl (fun _ => o_idx (i) rfl hVa rfl (by first | rfl | omega) (by omega)) ?_
    refine d_val (fun _ => rfl) rfl rfl (fun _ => o_loadR1 rfl (row_imm (fun w' h => (hat.keep h).row)) (el_one (by rw [hla]; exact hil))) ?_
    refine d_val (fun _ => rfl) rfl rfl (fun _ => o_move rfl) ?_
    refine d_val (fun _ => rfl) rfl rfl (fun _ => o_move rfl) ?_
    refine d_val (fun _ => rfl) rfl rfl (fun _ => o_idx (i) rfl hVb rfl (by first | rfl | omega) (by omega)) ?_
    refine d_val (fun _ => rfl) rfl rfl (fun _ => o_loadR1 rfl (row_imm (fun w' h => (hbt.keep h).row)) (el_one (by rw [hlb]; exact hil))) ?_
    refine d_gcall (y := .bool true) (caps := #[]) (fun _ => rfl) (fun _ => rfl) (ent_of Try.func21 rfl rfl) (vs := fun _ => [_, _]) (fun _ => rfl) (fun _ w' hg hh => r_SameOneT w' _ _ (Q.getD i []) hsi (hv.pV i hil) ((hat.keep hg).pc i hil) (hu.pV i hil) ((hbt.keep hg).pc i hil)) ?_
    refine d_val (fun _ => rfl) rfl rfl (fun _ => o_not rfl rfl) ?_
    refine d_nil (fun σ => ?_)
    refine l_nil ?_
    refine kt_norm ?_
    refine v_sel [5, 0, 1, 26] [] rfl rfl ?_
    refine v_condF rfl ?_
    refine v_skip ?_
    refine kb_norm ?_
    refine kt_norm ?_
    refine v_region ?_
    refine l_val rfl (o_move rfl) ?_
    refine l_val rfl (o_addi rfl rfl ?_) ?_
    · omega
    refine l_val rfl (o_assign rfl) ?_
    refine l_nil ?_
    refine kt_norm ?_
    refine ⟨i + 1, hil, (by show Q.length - (i + 1) < Q.length - i; omega), le_app (And.intro rfl (True.intro)) [0, 1] rfl (True.intro) [] rfl⟩
  · skip
    refine l_nil ?_
    refine kt_norm ?_
    refine v_condF rfl ?_
    refine v_exit ?_
    refine kt_exit ?_
    refine kt_exit ?_
    refine kb_eq ?_
    refine kt_norm ?_
    refine v_sel [] [] rfl rfl ?_
    refine v_seq ?_
    refine v_region ?_
    refine l_val rfl (o_assign rfl) ?_
    refine l_nil ?_
    refine kt_norm ?_
    refine v_ret ?_
    refine ⟨[_], .cons (.tmp rfl) (ResAll.nil), ?_⟩
    rfl
set_option maxHeartbeats 8000000 in
theorem a_CapsTells (w : World) (k : Int) (p u : PtT) (h : Int) : Calls Try.prog 9 #[.int .i64 k, .agg #[.int .i64 p.x, .int .i64 p.y], .agg #[.int .i64 u.x, .int .i64 u.y], .int .i64 h] w fun e w' => e = .returned (.bool true) ∧ Below w.heap.size w w' := by
  refine calls_of (args := [.int .i64 k, .agg #[.int .i64 p.x, .int .i64 p.y], .agg #[.int .i64 u.x, .int .i64 u.y], .int .i64 h]) Try.func9 rfl Try.ntmps9 Try.results9 rfl ?_
  refine v_seq ?_
  refine v_region ?_
  refine l_new rfl (o_box (cs := [_, _]) rfl rfl) fun b5 => ?_
  refine l_new rfl (o_box (cs := [_, _]) rfl rfl) fun b6 => ?_
  refine l_val rfl (o_assign rfl) ?_
  refine l_nil ?_
  refine kt_norm ?_
  refine v_seq ?_
  refine v_seq ?_
  refine v_region ?_
  refine l_val rfl (o_loadW (key := 5) rfl rfl rfl) ?_
  refine l_val rfl (o_loadW (key := 6) rfl rfl rfl) ?_
  refine l_val rfl (o_move rfl) ?_
  refine l_ans (vs := [_, _, _]) rfl rfl (a_goodK p u h) ?_
  refine lz_bool (fun hgd => ?_) (fun hgd => ?_)
  · skip
    refine l_val rfl (o_not rfl rfl) ?_
    refine l_val rfl (o_move rfl) ?_
    refine l_call (ks := []) rfl (o_callC (vs := []) (r := .bool true) (ent_of Try.func32 rfl rfl) rfl (fun w' hg hh => a_shownK w')) ?_
    refine l_val rfl (o_not rfl rfl) ?_
    refine l_val rfl (o_pickF rfl rfl) ?_
    refine l_nil ?_
    refine kt_norm ?_
    refine v_sel [0, 3, 5, 6, 17] [5, 6] rfl rfl ?_
    refine v_condF rfl ?_
    refine v_skip ?_
    refine kt_norm ?_
    refine v_seq ?_
    have hgp : ((-536870912 ≤ p.x ∧ p.x ≤ 536870912) ∧ (-536870912 ≤ p.y ∧ p.y ≤ 536870912)) := by unfold GoodK at hgd; omega
    have hgr : 1 ≤ h ∧ h ≤ 131072 := by unfold GoodK at hgd; omega
    have hux : -1073741824 ≤ u.x ∧ u.x ≤ 1073741824 := by unfold GoodK at hgd; omega
    have huy : -1073741824 ≤ u.y ∧ u.y ≤ 1073741824 := by unfold GoodK at hgd; omega
    obtain ⟨r1, he1, hn1, hc1, hi1⟩ := cap_ex (k := k) hgr hgp hux huy []
    obtain ⟨Q1, hQ1⟩ : ∃ Q, capK k p u h [] = Q := ⟨_, rfl⟩
    rw [hQ1, List.nil_append] at he1
    obtain ⟨r2, he2, hn2, hc2, hi2⟩ := dot_ex (k := k) hgr hgp []
    obtain ⟨Q2, hQ2⟩ : ∃ Q, dotK k p h [] = Q := ⟨_, rfl⟩
    rw [hQ2, List.nil_append] at he2
    have hl1 : Q1.length ≤ 128 := by rw [he1]; exact hn1
    have hl2 : Q2.length ≤ 256 := by rw [he2]; exact hn2
    have hs1 : ∀ q ∈ Q1, q.length ≤ 1000000 := fun q hq => by have := (hc1 q (he1 ▸ hq)).len; omega
    have hs2 : ∀ q ∈ Q2, q.length ≤ 1000000 := fun q hq => by have := (hc2 q (he2 ▸ hq)).len; omega
    refine v_drawP [(23, ⟨CodW Q1, codW_ex Q1 (by omega)⟩), (24, ⟨CodW Q1, codW_ex Q1 (by omega)⟩), (29, ⟨CodW Q1, codW_ex Q1 (by omega)⟩), (35, ⟨CodW Q2, codW_ex Q2 (by omega)⟩), (36, ⟨CodW Q2, codW_ex Q2 (by omega)⟩), (40, ⟨CodW Q2, codW_ex Q2 (by omega)⟩)] [[], [5], [6], [], [], [23], [], [5], [6], [], [], [23, 24, 29], [], [], [5], [], [], [35], [], [5], [], [], [35, 36, 40], [], []] mixed ?_ (by kernel_rfl) (by kernel_rfl)
    refine d_val (fun _ => rfl) rfl rfl (fun σ3 => o_move rfl) ?_
    refine d_val (fun _ => rfl) rfl rfl (fun σ3 => o_loadW (key := 5) rfl rfl rfl) ?_
    refine d_val (fun _ => rfl) rfl rfl (fun σ3 => o_loadW (key := 6) rfl rfl rfl) ?_
    refine d_val (fun _ => rfl) rfl rfl (fun σ3 => o_move rfl) ?_
    refine d_puts (v0 := .slice none 0 0) (vs0 := []) (qs0 := []) (Q := Q1) (caps := #[]) (fun _ => rfl) (fun _ => rfl) (ent_of Try.func35 rfl rfl) (vs := fun _ => [_, _, _, _, _]) (fun _ => rfl) (fun _ h => h) (fun σ w' hg hh => a_CapQ w' _ [] [] p h pcsW_nil capd_nil (pcsAt_nil w') (by show 0 ≤ 2000; omega) hgp hgr u hux huy k hQ1) ?_
    refine d_putsR 23 (Q1 := Q1) (Q := Q1) (caps := #[]) (fun _ => rfl) (fun _ => rfl) (ent_of Try.func34 rfl rfl) (tl := fun _ => []) (fun _ => rfl) (fun _ h => h) (by simp) (fun _ => rfl) (fun σ w' hg hh => r_itsQ w' _ _ Q1 (σ.ok 23).1 (gq_at (pcsAt_nil w') (hh 23 (by simp) _ rfl)) (by omega)) ?_
    refine d_val (fun _ => rfl) rfl rfl (fun σ3 => o_move rfl) ?_
    refine d_val (fun _ => rfl) rfl rfl (fun σ3 => o_loadW (key := 5) rfl rfl rfl) ?_
    refine d_val (fun _ => rfl) rfl rfl (fun σ3 => o_loadW (key := 6) rfl rfl rfl) ?_
    refine d_val (fun _ => rfl) rfl rfl (fun σ3 => o_move rfl) ?_
    refine d_puts (v0 := .slice none 0 0) (vs0 := []) (qs0 := []) (Q := Q1) (caps := #[]) (fun _ => rfl) (fun _ => rfl) (ent_of Try.func36 rfl rfl) (vs := fun _ => [_, _, _, _, _]) (fun _ => rfl) (fun _ h => h) (fun σ w' hg hh => r_CapQ w' _ [] [] p h pcsW_nil capd_nil (pcsAt_nil w') (by show 0 ≤ 100; omega) hgp hgr u hux huy k hQ1) ?_
    refine d_gcall (y := .bool true) (caps := #[]) (fun _ => rfl) (fun _ => rfl) (ent_of Try.func33 rfl rfl) (vs := fun _ => [_, _]) (fun _ => rfl) (fun σ3 w' hg hh => r_Same w' _ _ _ _ Q1 (σ3.ok 24).1 (σ3.ok 29).1 (gq_at (gq_at (pcsAt_nil w') (hh 23 (by simp) _ rfl)) (hh 24 (by simp) _ rfl)) (gq_at (pcsAt_nil w') (hh 29 (by simp) _ rfl)) (by omega) hs1) ?_
    refine d_val (fun _ => rfl) rfl rfl (fun σ3 => o_move rfl) ?_
    refine d_val (fun _ => rfl) rfl rfl (fun σ3 => o_move rfl) ?_
    refine d_val (fun _ => rfl) rfl rfl (fun σ3 => o_loadW (key := 5) rfl rfl rfl) ?_
    refine d_val (fun _ => rfl) rfl rfl (fun σ3 => o_move rfl) ?_
    refine d_puts (v0 := .slice none 0 0) (vs0 := []) (qs0 := []) (Q := Q2) (caps := #[]) (fun _ => rfl) (fun _ => rfl) (ent_of Try.func37 rfl rfl) (vs := fun _ => [_, _, _, _]) (fun _ => rfl) (fun _ h => h) (fun σ w' hg hh => a_DotQ w' _ [] [] p h pcsW_nil capd_nil (pcsAt_nil w') (by show 0 ≤ 2000; omega) hgp hgr k hQ2) ?_
    refine d_putsR 35 (Q1 := Q2) (Q := Q2) (caps := #[]) (fun _ => rfl) (fun _ => rfl) (ent_of Try.func34 rfl rfl) (tl := fun _ => []) (fun _ => rfl) (fun _ h => h) (by simp) (fun _ => rfl) (fun σ w' hg hh => r_itsQ w' _ _ Q2 (σ.ok 35).1 (gq_at (pcsAt_nil w') (hh 35 (by simp) _ rfl)) (by omega)) ?_
    refine d_val (fun _ => rfl) rfl rfl (fun σ3 => o_move rfl) ?_
    refine d_val (fun _ => rfl) rfl rfl (fun σ3 => o_loadW (key := 5) rfl rfl rfl) ?_
    refine d_val (fun _ => rfl) rfl rfl (fun σ3 => o_move rfl) ?_
    refine d_puts (v0 := .slice none 0 0) (vs0 := []) (qs0 := []) (Q := Q2) (caps := #[]) (fun _ => rfl) (fun _ => rfl) (ent_of Try.func38 rfl rfl) (vs := fun _ => [_, _, _, _]) (fun _ => rfl) (fun _ h => h) (fun σ w' hg hh => r_DotQ w' _ [] [] p h pcsW_nil capd_nil (pcsAt_nil w') (by show 0 ≤ 100; omega) hgp hgr k hQ2) ?_
    refine d_gcall (y := .bool true) (caps := #[]) (fun _ => rfl) (fun _ => rfl) (ent_of Try.func33 rfl rfl) (vs := fun _ => [_, _]) (fun _ => rfl) (fun σ3 w' hg hh => r_Same w' _ _ _ _ Q2 (σ3.ok 36).1 (σ3.ok 40).1 (gq_at (gq_at (pcsAt_nil w') (hh 35 (by simp) _ rfl)) (hh 36 (by simp) _ rfl)) (gq_at (pcsAt_nil w') (hh 40 (by simp) _ rfl)) (by omega) hs2) ?_
    refine d_val (fun _ => rfl) rfl rfl (fun σ3 => o_pickT rfl rfl) ?_
    refine d_val (fun _ => rfl) rfl rfl (fun σ3 => o_assign rfl) ?_
    refine d_nil (fun σ3 => ?_)
    refine l_nil ?_
    refine kt_norm ?_
    refine v_sel [8] [23, 24, 29, 35, 36, 40] rfl rfl ?_
    refine v_ret ?_
    refine ⟨[_], .cons (.tmp rfl) (ResAll.nil), ?_⟩
    rfl
  · skip
    refine l_val rfl (o_not rfl rfl) ?_
    refine l_val rfl (o_move rfl) ?_
    refine l_no rfl ?_
    refine l_no rfl ?_
    refine l_val rfl (o_pickT rfl rfl) ?_
    refine l_nil ?_
    refine kt_norm ?_
    refine v_sel [0, 3, 5, 6, 17] [5, 6] rfl rfl ?_
    refine v_condT rfl ?_
    refine v_seq ?_
    refine v_region ?_
    refine l_call (ks := []) rfl (o_callC (vs := []) (r := .bool true) (ent_of Try.func32 rfl rfl) rfl (fun w' hg hh => a_shownK w')) ?_
    refine l_val rfl (o_assign rfl) ?_
    refine l_nil ?_
    refine kt_norm ?_
    refine v_sel [8] [] rfl rfl ?_
    refine v_ret ?_
    refine kt_ret ?_
    refine ⟨[_], .cons (.tmp rfl) (ResAll.nil), ?_⟩
    rfl
end Go.Proofs.Ytpgjbalnipinoaa
