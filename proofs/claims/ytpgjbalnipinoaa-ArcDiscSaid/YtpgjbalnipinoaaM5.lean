import Derived.Test.YtpgjbalnipinoaaM1
import Derived.Test.YtpgjbalnipinoaaM2
import Derived.Test.YtpgjbalnipinoaaM3
import Derived.Test.YtpgjbalnipinoaaM4
/- What a piece has; discs. Conditions: none. -/
namespace Go.Proofs.Ytpgjbalnipinoaa
open Go.Proofs Go.RowKit Go.Shelf

theorem a_Has (w : World) (v : Value) (pc : List PtT) (q : PtT) (hs : pc.length ≤ 1000000) (hV : RowV v pc.length) (hrow : RowAt w v 2 pc.length (pc.flatMap eP)) (hnear : ∀ p ∈ pc, NearT p) (hq : NearT q) :
    Calls Try.prog 18 #[v, .agg #[.int .i64 q.x, .int .i64 q.y]] w fun e w' => e = .returned (.bool (convexB pc && leftB pc q)) ∧ Below w.heap.size w w' := by
  have hr : ∀ w', Chg (fun _ => False) w w' → RowAt w' v 2 pc.length (pc.flatMap eP) := fun w' h => hrow.chg h (fun h => h)
  refine calls_of (args := [v, .agg #[.int .i64 q.x, .int .i64 q.y]]) Try.func18 rfl Try.ntmps18 Try.results18 rfl ?_
  refine v_seq ?_
  refine v_region ?_
  refine l_new rfl (o_box (cs := [_, _]) rfl rfl) fun b3 => ?_
  refine l_val rfl (o_assign rfl) ?_
  refine l_nil ?_
  refine kt_norm ?_
  refine v_seq ?_
  refine v_region ?_
  refine l_val rfl (o_move rfl) ?_
  refine l_call (ks := []) rfl (o_callC (vs := [_]) (r := .bool (convexB pc)) (ent_of Try.func22 rfl rfl) rfl (fun w' hg hh => a_Convex w' v pc hs hV (hr w' hg) hnear)) ?_
  refine lz_cases (fun hcx => ?_) (fun hcx => ?_)
  · skip
    refine l_val rfl (o_move rfl) ?_
    refine l_val rfl (o_move rfl) ?_
    refine l_val rfl (o_loadW (key := 3) rfl rfl rfl) ?_
    refine l_call (ks := []) rfl (o_callC (vs := [_, _]) (r := .bool (leftB pc q)) (ent_of Try.func42 rfl rfl) rfl (fun w' hg hh => a_left w' v pc q hs hV (hr w' hg) hnear hq)) ?_
    refine l_val rfl (o_pickT rfl rfl) ?_
    refine l_val rfl (o_assign rfl) ?_
    refine l_nil ?_
    refine kt_norm ?_
    refine v_sel [4] [] rfl rfl ?_
    refine v_ret ?_
    refine ⟨[_], .cons (.tmp rfl) (ResAll.nil), ?_⟩
    first
      | exact congrArg Value.bool (by rw [hcx, Bool.true_and])
      | exact congrArg Value.bool (by rw [hcx, Bool.false_and])
  · skip
    refine l_val rfl (o_move rfl) ?_
    refine l_no rfl ?_
    refine l_no rfl ?_
    refine l_no rfl ?_
    refine l_val rfl (o_pickF rfl rfl) ?_
    refine l_val rfl (o_assign rfl) ?_
    refine l_nil ?_
    refine kt_norm ?_
    refine v_sel [4] [] rfl rfl ?_
    refine v_ret ?_
    refine ⟨[_], .cons (.tmp rfl) (ResAll.nil), ?_⟩
    first
      | exact congrArg Value.bool (by rw [hcx, Bool.true_and])
      | exact congrArg Value.bool (by rw [hcx, Bool.false_and])
theorem a_HasC (w : World) (v : Value) (pc : List PtT) (q : PtT) (hs : pc.length ≤ 1000000) (hV : RowV v pc.length) (hrow : RowAt w v 2 pc.length (pc.flatMap eP)) (hnear : ∀ p ∈ pc, NearT p) (hq : NearT q) (hcx : convexB pc = true) {b : Bool} (hb : leftB pc q = b) :
    Calls Try.prog 18 #[v, .agg #[.int .i64 q.x, .int .i64 q.y]] w fun e w' => e = .returned (.bool b) ∧ Below w.heap.size w w' := by
  have := a_Has w v pc q hs hV hrow hnear hq
  rwa [hcx, Bool.true_and, hb] at this
theorem count_step {Q : List (List PtT)} {i : Nat} (h : i < Q.length) (f : List PtT → Bool) : (Q.take (i + 1)).countP f = (Q.take i).countP f + (if f (Q.getD i []) = true then 1 else 0) := by
  rw [List.take_add_one, List.countP_append, List.getElem?_eq_getElem h, List.getD_eq_getElem?_getD, List.getElem?_eq_getElem h]
  rw [Option.toList_some, List.countP_singleton]; rfl
theorem r_PSub (x y u v : Int) (hx : -1099511627776 ≤ x ∧ x ≤ 1099511627776) (hy : -1099511627776 ≤ y ∧ y ≤ 1099511627776) (hu : -1099511627776 ≤ u ∧ u ≤ 1099511627776) (hv : -1099511627776 ≤ v ∧ v ≤ 1099511627776) : Ans Try.prog 16 [.agg #[.int .i64 x, .int .i64 y], .agg #[.int .i64 u, .int .i64 v]] (.agg #[.int .i64 (x - u), .int .i64 (y - v)]) := by
  refine ans_of Try.func16 rfl Try.ntmps16 Try.results16 rfl rfl fun w => ?_
  refine v_seq ?_
  refine v_region ?_
  refine l_new rfl (o_box (cs := [_, _]) rfl rfl) fun b2 => ?_
  refine l_new rfl (o_box (cs := [_, _]) rfl rfl) fun b3 => ?_
  refine l_new rfl o_alloc fun b4 => ?_
  refine l_nil ?_
  refine kt_norm ?_
  refine v_seq ?_
  refine v_region ?_
  refine l_val rfl (o_fld rfl) ?_
  refine l_val rfl (o_load1 (key := 2) rfl rfl rfl) ?_
  refine l_val rfl (o_fld rfl) ?_
  refine l_val rfl (o_load1 (key := 3) rfl rfl rfl) ?_
  refine l_val rfl (o_subi rfl rfl ?_) ?_
  · omega
  refine l_val rfl (o_fld rfl) ?_
  refine l_val rfl (o_load1 (key := 2) rfl rfl rfl) ?_
  refine l_val rfl (o_fld rfl) ?_
  refine l_val rfl (o_load1 (key := 3) rfl rfl rfl) ?_
  refine l_val rfl (o_subi rfl rfl ?_) ?_
  · omega
  refine l_val rfl (o_build (vs := [_, _]) (cs := [_, _]) rfl rfl) ?_
  refine l_store rfl (o_storeW (key := 4) (xs := [_, _]) rfl rfl rfl rfl rfl rfl rfl) ?_
  refine l_nil ?_
  refine kt_norm ?_
  refine v_sel [4] [4] rfl rfl ?_
  refine v_ret ?_
  refine ⟨[_], .cons (.cellW (key := 4) rfl rfl rfl) (ResAll.nil), ?_⟩
  rfl
theorem r_Dot (x y u v : Int) (hx : -1073741824 ≤ x ∧ x ≤ 1073741824) (hy : -1073741824 ≤ y ∧ y ≤ 1073741824) (hu : -1073741824 ≤ u ∧ u ≤ 1073741824) (hv : -1073741824 ≤ v ∧ v ≤ 1073741824) : Ans Try.prog 17 [.agg #[.int .i64 x, .int .i64 y], .agg #[.int .i64 u, .int .i64 v]] (.int .i64 (x * u + y * v)) := by
  have m1 := mul_bound (A := 1073741824) (B := 1073741824) (x := x) (y := u) (by omega) (by omega) (by omega) (by omega)
  have m2 := mul_bound (A := 1073741824) (B := 1073741824) (x := y) (y := v) (by omega) (by omega) (by omega) (by omega)
  refine ans_of Try.func17 rfl Try.ntmps17 Try.results17 rfl rfl fun w => ?_
  refine v_seq ?_
  refine v_region ?_
  refine l_new rfl (o_box (cs := [_, _]) rfl rfl) fun b2 => ?_
  refine l_new rfl (o_box (cs := [_, _]) rfl rfl) fun b3 => ?_
  refine l_val rfl (o_assign rfl) ?_
  refine l_nil ?_
  refine kt_norm ?_
  refine v_seq ?_
  refine v_region ?_
  refine l_val rfl (o_fld rfl) ?_
  refine l_val rfl (o_load1 (key := 2) rfl rfl rfl) ?_
  refine l_val rfl (o_fld rfl) ?_
  refine l_val rfl (o_load1 (key := 3) rfl rfl rfl) ?_
  refine l_val rfl (o_muli rfl rfl ?_) ?_
  · omega
  refine l_val rfl (o_fld rfl) ?_
  refine l_val rfl (o_load1 (key := 2) rfl rfl rfl) ?_
  refine l_val rfl (o_fld rfl) ?_
  refine l_val rfl (o_load1 (key := 3) rfl rfl rfl) ?_
  refine l_val rfl (o_muli rfl rfl ?_) ?_
  · omega
  refine l_val rfl (o_addi rfl rfl ?_) ?_
  · omega
  refine l_val rfl (o_assign rfl) ?_
  refine l_nil ?_
  refine kt_norm ?_
  refine v_sel [4] [] rfl rfl ?_
  refine v_ret ?_
  refine ⟨[_], .cons (.tmp rfl) (ResAll.nil), ?_⟩
  rfl
set_option maxHeartbeats 4000000 in
theorem a_ArcDisc (w : World) (p q : PtT) (r : Int) : Calls Try.prog 3 #[.agg #[.int .i64 p.x, .int .i64 p.y], .agg #[.int .i64 q.x, .int .i64 q.y], .int .i64 r] w fun e w' => e = .returned (.bool true) ∧ Below w.heap.size w w' := by
  refine calls_of (args := [.agg #[.int .i64 p.x, .int .i64 p.y], .agg #[.int .i64 q.x, .int .i64 q.y], .int .i64 r]) Try.func3 rfl Try.ntmps3 Try.results3 rfl ?_
  refine v_seq ?_
  refine v_region ?_
  refine l_new rfl (o_box (cs := [_, _]) rfl rfl) fun b3 => ?_
  refine l_new rfl (o_box (cs := [_, _]) rfl rfl) fun b4 => ?_
  refine l_val rfl (o_assign rfl) ?_
  refine l_nil ?_
  refine kt_norm ?_
  refine v_seq ?_
  refine v_seq ?_
  refine v_region ?_
  refine l_val rfl (o_loadW (key := 3) rfl rfl rfl) ?_
  refine l_ans (vs := [_, _]) rfl rfl (a_within _ _ (by omega)) ?_
  refine lz_bool (fun hwp => ?_) (fun hwp => ?_)
  · skip
    refine l_val rfl (o_not rfl rfl) ?_
    refine l_val rfl (o_move rfl) ?_
    refine l_val rfl (o_loadW (key := 4) rfl rfl rfl) ?_
    refine l_ans (vs := [_, _]) rfl rfl (a_within _ _ (by omega)) ?_
    refine lz_bool (fun hwq => ?_) (fun hwq => ?_)
    · skip
      refine l_val rfl (o_not rfl rfl) ?_
      refine l_val rfl (o_pickF rfl rfl) ?_
      refine l_val rfl (o_move rfl) ?_
      refine l_val rfl (o_move rfl) ?_
      refine l_split rfl (o_lss rfl rfl) (fun q1 => ?_) (fun q1 => ?_)
      · skip
        refine l_val rfl (o_pickF rfl rfl) ?_
        refine l_val rfl (o_move rfl) ?_
        refine l_no rfl ?_
        refine l_no rfl ?_
        refine l_val rfl (o_pickT rfl rfl) ?_
        refine l_val rfl (o_move rfl) ?_
        refine l_no rfl ?_
        refine l_no rfl ?_
        refine l_val rfl (o_pickT rfl rfl) ?_
        refine l_nil ?_
        refine kt_norm ?_
        refine v_sel [2, 3, 4, 33] [3, 4] rfl rfl ?_
        refine v_condT rfl ?_
        refine v_seq ?_
        refine v_region ?_
        refine l_call (ks := []) rfl (o_callC (vs := []) (r := .bool true) (ent_of Try.func14 rfl rfl) rfl (fun w' hg hh => a_shown w')) ?_
        refine l_val rfl (o_assign rfl) ?_
        refine l_nil ?_
        refine kt_norm ?_
        refine v_ret ?_
        refine kt_ret ?_
        refine ⟨[_], .cons (.tmp rfl) (ResAll.nil), ?_⟩
        rfl
      · skip
        refine l_val rfl (o_pickF rfl rfl) ?_
        refine l_val rfl (o_move rfl) ?_
        refine l_val rfl (o_move rfl) ?_
        refine l_split rfl (o_gtr rfl rfl) (fun q2 => ?_) (fun q2 => ?_)
        · skip
          refine l_val rfl (o_pickF rfl rfl) ?_
          refine l_val rfl (o_move rfl) ?_
          refine l_no rfl ?_
          refine l_no rfl ?_
          refine l_val rfl (o_pickT rfl rfl) ?_
          refine l_nil ?_
          refine kt_norm ?_
          refine v_sel [2, 3, 4, 33] [3, 4] rfl rfl ?_
          refine v_condT rfl ?_
          refine v_seq ?_
          refine v_region ?_
          refine l_call (ks := []) rfl (o_callC (vs := []) (r := .bool true) (ent_of Try.func14 rfl rfl) rfl (fun w' hg hh => a_shown w')) ?_
          refine l_val rfl (o_assign rfl) ?_
          refine l_nil ?_
          refine kt_norm ?_
          refine v_ret ?_
          refine kt_ret ?_
          refine ⟨[_], .cons (.tmp rfl) (ResAll.nil), ?_⟩
          rfl
        · skip
          refine l_val rfl (o_pickF rfl rfl) ?_
          refine l_val rfl (o_move rfl) ?_
          refine l_call (ks := []) rfl (o_callC (vs := []) (r := .bool true) (ent_of Try.func14 rfl rfl) rfl (fun w' hg hh => a_shown w')) ?_
          refine l_val rfl (o_not rfl rfl) ?_
          refine l_val rfl (o_pickF rfl rfl) ?_
          refine l_nil ?_
          refine kt_norm ?_
          refine v_sel [2, 3, 4, 33] [3, 4] rfl rfl ?_
          refine v_condF rfl ?_
          refine v_skip ?_
          refine kt_norm ?_
          refine v_seq ?_
          refine v_region ?_
          have hgp : ((-536870912 ≤ p.x ∧ p.x ≤ 536870912) ∧ (-536870912 ≤ p.y ∧ p.y ≤ 536870912)) := by omega
          have hgr : 1 ≤ r ∧ r ≤ 131072 := by omega
          have hnp : NearT p := by unfold NearT; omega
          have hnq : NearT q := by unfold NearT; omega
          have m1 := mul_bound (A := 524288) (B := 524288) (x := (q.x - p.x)) (y := (q.x - p.x)) (by omega) (by omega) (by omega) (by omega)
          have m2 := mul_bound (A := 524288) (B := 524288) (x := (q.y - p.y)) (y := (q.y - p.y)) (by omega) (by omega) (by omega) (by omega)
          have m3 := mul_bound (A := 131074) (B := 131074) (x := (r + 2)) (y := (r + 2)) (by omega) (by omega) (by omega) (by omega)
          have m4 := mul_bound (A := 131072) (B := 131072) (x := r) (y := r) (by omega) (by omega) (by omega) (by omega)
          obtain ⟨Q, hQ⟩ : ∃ Q, piesT p r (discC r) [] = Q := ⟨_, rfl⟩
          have hT : ∀ x ∈ Q, TriT p x := hQ ▸ tri_app hgp (arcs_bd hgr (disc_bd hgr) 4 (by show 4 < 5; omega)) (fun x h => by cases h)
          have hl1 : Q.length ≤ 256 := by have := disc_len p r []; rw [hQ, List.length_nil] at this; omega
          have h4 : 4 ≤ Q.length := hQ ▸ disc_four hgr
          refine l_val rfl (o_loadW (key := 3) rfl rfl rfl) ?_
          refine l_val rfl (o_move rfl) ?_
          refine l_gsaid (ks := []) (caps := #[]) (vs := [_, _, _]) (α := PutsY (.slice none 0 0) [] [] Q) (fun x => x.1.1) (fun x w' => SaidOk w' x.1.2.2.1 x.1.2.2.2) (fun x b => x.1.2.2.2 b) rfl rfl (ent_of Try.func15 rfl rfl) rfl (fun x w1 w2 h hb => h.keep hb) (fun x w1 b h hb => h.lt hb) (fun w' hg hh => a_DiscQ w' _ [] [] p r pcsW_nil capd_nil (pcsAt_nil w') (by show 0 ≤ 2000; omega) hgp hgr hQ) fun xa => ?_
          have hVa : RowV xa.1.1 Q.length := xa.2.1.V
          have hla : xa.1.2.1.length = Q.length := xa.2.1.lenv
          refine l_val rfl (o_assign rfl) ?_
          refine l_nil ?_
          refine kt_norm ?_
          refine v_seq ?_
          refine v_region ?_
          refine l_val rfl (o_loadW (key := 4) rfl rfl rfl) ?_
          refine l_val rfl (o_loadW (key := 3) rfl rfl rfl) ?_
          refine l_ans (vs := [_, _]) rfl rfl (r_PSub _ _ _ _ ?_ ?_ ?_ ?_) ?_
          · omega
          · omega
          · omega
          · omega
          refine l_new rfl o_alloc fun b8 => ?_
          refine l_store rfl (o_storeW (key := 8) (xs := [_, _]) rfl rfl rfl rfl rfl rfl rfl) ?_
          refine l_nil ?_
          refine kt_norm ?_
          refine v_sel [2, 3, 4, 7, 8] [3, 4, 8] rfl rfl ?_
          refine v_seq ?_
          refine v_region ?_
          refine l_val rfl (o_loadW (key := 8) rfl rfl rfl) ?_
          refine l_val rfl (o_loadW (key := 8) rfl rfl rfl) ?_
          refine l_ans (vs := [_, _]) rfl rfl (r_Dot _ _ _ _ ?_ ?_ ?_ ?_) ?_
          · omega
          · omega
          · omega
          · omega
          refine l_val rfl (o_move rfl) ?_
          refine l_val rfl (o_addi rfl rfl ?_) ?_
          · omega
          refine l_val rfl (o_move rfl) ?_
          refine l_val rfl (o_addi rfl rfl ?_) ?_
          · omega
          refine l_val rfl (o_muli rfl rfl ?_) ?_
          · omega
          refine l_split rfl (o_gtr rfl rfl) (fun hfar => ?_) (fun hfar => ?_)
          · skip
            refine l_val rfl (o_assign rfl) ?_
            refine l_nil ?_
            refine kt_norm ?_
            refine v_sel [2, 3, 4, 7, 8, 9] [3, 4, 8] rfl rfl ?_
            refine v_seq ?_
            refine v_region ?_
            refine l_val rfl (o_loadW (key := 8) rfl rfl rfl) ?_
            refine l_val rfl (o_loadW (key := 8) rfl rfl rfl) ?_
            refine l_ans (vs := [_, _]) rfl rfl (r_Dot _ _ _ _ ?_ ?_ ?_ ?_) ?_
            · omega
            · omega
            · omega
            · omega
            refine l_val rfl (o_muli rfl rfl ?_) ?_
            · omega
            refine l_val rfl (o_move rfl) ?_
            refine l_val rfl (o_move rfl) ?_
            refine l_val rfl (o_muli rfl rfl ?_) ?_
            · omega
            refine l_split rfl (o_leq rfl rfl) (fun hclose => ?_) (fun hclose => ?_)
            · skip
              refine l_val rfl (o_assign rfl) ?_
              refine l_nil ?_
              refine kt_norm ?_
              refine v_sel [3, 4, 7, 9, 10] [3, 4] rfl rfl ?_
              refine v_seq ?_
              refine v_region ?_
              refine l_val rfl (o_assign rfl) ?_
              refine l_nil ?_
              refine kt_norm ?_
              refine v_seq ?_
              refine v_region ?_
              refine l_val rfl (o_assign rfl) ?_
              refine l_nil ?_
              refine kt_norm ?_
              refine v_seq ?_
              refine v_seq ?_
              refine v_region ?_
              refine l_val rfl (o_assign rfl) ?_
              refine l_nil ?_
              refine kt_norm ?_
              refine v_block ?_
              refine v_loopS (α := Nat × Nat) (fun ⟨i, a⟩ => [(13, .int .i64 (i : Int)), (11, .int .i64 (a : Int)), (12, .int .i64 (i : Int))]) (fun ⟨i, a⟩ => [])  (fun ⟨i, a⟩ => i ≤ Q.length ∧ a = (Q.take i).countP (fun pc => leftB pc q)) (fun ⟨i, a⟩ => Q.length - i) (0, 0) [3, 4, 7, 9, 10] [3, 4] ⟨Nat.zero_le _, rfl⟩  (And.intro rfl (And.intro rfl (And.intro rfl (True.intro)))) rfl (True.intro) rfl ?_
              rintro ⟨i, a⟩ ⟨hi, hcnt⟩
              have hai : a ≤ i := by
                rw [hcnt]; have h1 := List.countP_le_length (p := fun pc => leftB pc q) (l := Q.take i); rw [List.length_take] at h1; omega
              refine v_seq ?_
              refine v_seq ?_
              refine v_region ?_
              refine l_val rfl (o_move rfl) ?_
              refine l_val rfl (o_move rfl) ?_
              refine l_val rfl (o_len rfl hVa) ?_
              refine l_split rfl (o_lss rfl rfl) (fun q3 => ?_) (fun q3 => ?_)
              · have hil : i < Q.length := by omega
                have hTi := hT _ (show Q.getD i [] ∈ Q by rw [List.getD_eq_getElem?_getD, List.getElem?_eq_getElem hil]; exact List.getElem_mem hil)
                have hVa1 := xa.2.1.pV i hil
                have hq3 := hTi.1
                have hqc := hTi.2.1
                have hqn := hTi.2.2.2
                have hcs := count_step hil (fun pc => leftB pc q)
                refine l_nil ?_
                refine kt_norm ?_
                refine v_condT rfl ?_
                refine v_skip ?_
                refine kt_norm ?_
                refine v_seq ?_
                refine v_block ?_
                refine v_seq ?_
                refine v_seq ?_
                refine v_drawW [] [[], [], [], [], [4]] mixed ?_ (by kernel_rfl) (by kernel_rfl)
                refine d_val (fun _ => rfl) rfl rfl (fun σ12 => o_move rfl) ?_
                refine d_val (fun _ => rfl) rfl rfl (fun σ12 => o_move rfl) ?_
                refine d_val (fun _ => rfl) rfl rfl (fun σ12 => o_idx (i) rfl hVa rfl (by first | rfl | omega) (by omega)) ?_
                refine d_val (fun _ => rfl) rfl rfl (fun σ12 => o_loadR1 rfl (row_imm (fun w2 hg => by exact (xa.2.2.2 w2 (pcsAt_nil w2) hg.2.1).row)) (el_one (by rw [hla]; exact hil))) ?_
                refine d_val (fun _ => rfl) rfl rfl (fun σ12 => o_loadW (key := 4) rfl rfl rfl) ?_
                refine d_nil (fun σ12 => ?_)
                refine l_call (ks := []) rfl (o_callC (vs := [_, _]) (r := .bool (leftB (Q.getD i []) q)) (ent_of Try.func18 rfl rfl) rfl (fun w' hg hh => a_HasC w' _ (Q.getD i []) q (by omega) hVa1 (by exact (xa.2.2.2 w' (pcsAt_nil w') hg.2.1).pc i hil) hqn hnq hqc rfl)) ?_
                refine lz_cases (fun hlq => ?_) (fun hlq => ?_)
                · skip
                  refine l_nil ?_
                  refine kt_norm ?_
                  refine v_sel [13, 11, 12, 3, 4, 7, 9, 10, 69] [3, 4] rfl rfl ?_
                  refine v_condT rfl ?_
                  refine v_region ?_
                  refine l_val rfl (o_move rfl) ?_
                  refine l_val rfl (o_addi rfl rfl ?_) ?_
                  · omega
                  refine l_val rfl (o_assign rfl) ?_
                  refine l_nil ?_
                  refine kt_norm ?_
                  refine v_seq ?_
                  refine v_drawW [] [[], [], [], [], [3]] mixed ?_ (by kernel_rfl) (by kernel_rfl)
                  refine d_val (fun _ => rfl) rfl rfl (fun σ14 => o_move rfl) ?_
                  refine d_val (fun _ => rfl) rfl rfl (fun σ14 => o_move rfl) ?_
                  refine d_val (fun _ => rfl) rfl rfl (fun σ14 => o_idx (i) rfl hVa rfl (by first | rfl | omega) (by omega)) ?_
                  refine d_val (fun _ => rfl) rfl rfl (fun σ14 => o_loadR1 rfl (row_imm (fun w2 hg => by exact (xa.2.2.2 w2 (pcsAt_nil w2) hg.2.1).row)) (el_one (by rw [hla]; exact hil))) ?_
                  refine d_val (fun _ => rfl) rfl rfl (fun σ14 => o_loadW (key := 3) rfl rfl rfl) ?_
                  refine d_nil (fun σ14 => ?_)
                  refine l_call (ks := []) rfl (o_callC (vs := [_, _]) (r := .bool true) (ent_of Try.func18 rfl rfl) rfl (fun w' hg hh => a_HasC w' _ (Q.getD i []) p (by omega) hVa1 (by exact (xa.2.2.2 w' (pcsAt_nil w') hg.2.1).pc i hil) hqn hnp hqc (tri_has hTi))) ?_
                  refine l_nil ?_
                  refine kt_norm ?_
                  refine v_sel [13, 11, 12, 3, 4, 7, 9, 10, 77] [3, 4] rfl rfl ?_
                  refine v_condT rfl ?_
                  refine v_region ?_
                  refine l_val rfl (o_move rfl) ?_
                  refine l_val rfl (o_addi rfl rfl ?_) ?_
                  · omega
                  refine l_val rfl (o_assign rfl) ?_
                  refine l_nil ?_
                  refine kb_norm ?_
                  refine kt_norm ?_
                  refine v_region ?_
                  refine l_val rfl (o_move rfl) ?_
                  refine l_val rfl (o_addi rfl rfl ?_) ?_
                  · omega
                  refine l_val rfl (o_assign rfl) ?_
                  refine l_nil ?_
                  refine kt_norm ?_
                  refine ⟨(i + 1, a + 1), ⟨hil, by have e := hcs; rw [hlq] at e; rw [e, hcnt]; rfl⟩, (by show Q.length - (i + 1) < Q.length - i; omega), le_app (And.intro rfl (And.intro rfl (And.intro rfl (True.intro)))) [3, 4, 7, 9, 10] rfl (True.intro) [3, 4] rfl⟩
                · skip
                  refine l_nil ?_
                  refine kt_norm ?_
                  refine v_sel [13, 11, 12, 3, 4, 7, 9, 10, 69] [3, 4] rfl rfl ?_
                  refine v_condF rfl ?_
                  refine v_skip ?_
                  refine kt_norm ?_
                  refine v_seq ?_
                  refine v_drawW [] [[], [], [], [], [3]] mixed ?_ (by kernel_rfl) (by kernel_rfl)
                  refine d_val (fun _ => rfl) rfl rfl (fun σ14 => o_move rfl) ?_
                  refine d_val (fun _ => rfl) rfl rfl (fun σ14 => o_move rfl) ?_
                  refine d_val (fun _ => rfl) rfl rfl (fun σ14 => o_idx (i) rfl hVa rfl (by first | rfl | omega) (by omega)) ?_
                  refine d_val (fun _ => rfl) rfl rfl (fun σ14 => o_loadR1 rfl (row_imm (fun w2 hg => by exact (xa.2.2.2 w2 (pcsAt_nil w2) hg.2.1).row)) (el_one (by rw [hla]; exact hil))) ?_
                  refine d_val (fun _ => rfl) rfl rfl (fun σ14 => o_loadW (key := 3) rfl rfl rfl) ?_
                  refine d_nil (fun σ14 => ?_)
                  refine l_call (ks := []) rfl (o_callC (vs := [_, _]) (r := .bool true) (ent_of Try.func18 rfl rfl) rfl (fun w' hg hh => a_HasC w' _ (Q.getD i []) p (by omega) hVa1 (by exact (xa.2.2.2 w' (pcsAt_nil w') hg.2.1).pc i hil) hqn hnp hqc (tri_has hTi))) ?_
                  refine l_nil ?_
                  refine kt_norm ?_
                  refine v_sel [13, 11, 12, 3, 4, 7, 9, 10, 77] [3, 4] rfl rfl ?_
                  refine v_condT rfl ?_
                  refine v_region ?_
                  refine l_val rfl (o_move rfl) ?_
                  refine l_val rfl (o_addi rfl rfl ?_) ?_
                  · omega
                  refine l_val rfl (o_assign rfl) ?_
                  refine l_nil ?_
                  refine kb_norm ?_
                  refine kt_norm ?_
                  refine v_region ?_
                  refine l_val rfl (o_move rfl) ?_
                  refine l_val rfl (o_addi rfl rfl ?_) ?_
                  · omega
                  refine l_val rfl (o_assign rfl) ?_
                  refine l_nil ?_
                  refine kt_norm ?_
                  refine ⟨(i + 1, a), ⟨hil, by have e := hcs; rw [hlq] at e; rw [e, hcnt]; rfl⟩, (by show Q.length - (i + 1) < Q.length - i; omega), le_app (And.intro rfl (And.intro rfl (And.intro rfl (True.intro)))) [3, 4, 7, 9, 10] rfl (True.intro) [3, 4] rfl⟩
              · skip
                refine l_nil ?_
                refine kt_norm ?_
                refine v_condF rfl ?_
                refine v_exit ?_
                refine kt_exit ?_
                refine kt_exit ?_
                refine kb_eq ?_
                refine kt_norm ?_
                refine v_sel [11, 12, 7, 9, 10] [] rfl rfl ?_
                refine v_seq ?_
                refine v_region ?_
                obtain rfl : i = Q.length := by omega
                rw [List.take_length] at hcnt
                have hfz := disc_far (p := p) (q := q) hgr hfar
                rw [hQ] at hfz
                have hnz := disc_near (p := p) (q := q) hgr hclose
                rw [hQ] at hnz
                refine l_val rfl (o_move rfl) ?_
                refine l_val rfl (o_move rfl) ?_
                refine l_val rfl (o_len rfl hVa) ?_
                refine l_split rfl (o_eql rfl rfl) (fun q4 => ?_) (fun q4 => absurd (show _ by omega) q4)
                refine l_val rfl (o_move rfl) ?_
                refine l_val rfl (o_move rfl) ?_
                refine l_val rfl (o_len rfl hVa) ?_
                refine l_split rfl (o_geq rfl rfl) (fun q5 => ?_) (fun q5 => absurd (show _ by omega) q5)
                refine l_val rfl (o_pickT rfl rfl) ?_
                refine l_val rfl (o_move rfl) ?_
                refine l_val rfl (o_move rfl) ?_
                refine l_val rfl (o_not rfl rfl) ?_
                refine l_val rfl (o_move rfl) ?_
                refine l_val rfl (o_move rfl) ?_
                refine l_split rfl (o_eql rfl rfl) (fun q6 => ?_) (fun q6 => absurd (show _ by omega) q6)
                refine l_val rfl (o_pickF rfl rfl) ?_
                refine l_val rfl (o_pickT rfl rfl) ?_
                refine l_val rfl (o_move rfl) ?_
                refine l_val rfl (o_move rfl) ?_
                refine l_val rfl (o_not rfl rfl) ?_
                refine l_val rfl (o_move rfl) ?_
                refine l_val rfl (o_move rfl) ?_
                refine l_split rfl (o_geq rfl rfl) (fun q7 => ?_) (fun q7 => absurd (show _ by omega) q7)
                refine l_val rfl (o_pickF rfl rfl) ?_
                refine l_val rfl (o_pickT rfl rfl) ?_
                refine l_val rfl (o_assign rfl) ?_
                refine l_nil ?_
                refine kt_norm ?_
                refine v_sel [6] [] rfl rfl ?_
                refine v_ret ?_
                refine ⟨[_], .cons (.tmp rfl) (ResAll.nil), ?_⟩
                rfl
            · skip
              refine l_val rfl (o_assign rfl) ?_
              refine l_nil ?_
              refine kt_norm ?_
              refine v_sel [3, 4, 7, 9, 10] [3, 4] rfl rfl ?_
              refine v_seq ?_
              refine v_region ?_
              refine l_val rfl (o_assign rfl) ?_
              refine l_nil ?_
              refine kt_norm ?_
              refine v_seq ?_
              refine v_region ?_
              refine l_val rfl (o_assign rfl) ?_
              refine l_nil ?_
              refine kt_norm ?_
              refine v_seq ?_
              refine v_seq ?_
              refine v_region ?_
              refine l_val rfl (o_assign rfl) ?_
              refine l_nil ?_
              refine kt_norm ?_
              refine v_block ?_
              refine v_loopS (α := Nat × Nat) (fun ⟨i, a⟩ => [(13, .int .i64 (i : Int)), (11, .int .i64 (a : Int)), (12, .int .i64 (i : Int))]) (fun ⟨i, a⟩ => [])  (fun ⟨i, a⟩ => i ≤ Q.length ∧ a = (Q.take i).countP (fun pc => leftB pc q)) (fun ⟨i, a⟩ => Q.length - i) (0, 0) [3, 4, 7, 9, 10] [3, 4] ⟨Nat.zero_le _, rfl⟩  (And.intro rfl (And.intro rfl (And.intro rfl (True.intro)))) rfl (True.intro) rfl ?_
              rintro ⟨i, a⟩ ⟨hi, hcnt⟩
              have hai : a ≤ i := by
                rw [hcnt]; have h1 := List.countP_le_length (p := fun pc => leftB pc q) (l := Q.take i); rw [List.length_take] at h1; omega
              refine v_seq ?_
              refine v_seq ?_
              refine v_region ?_
              refine l_val rfl (o_move rfl) ?_
              refine l_val rfl (o_move rfl) ?_
              refine l_val rfl (o_len rfl hVa) ?_
              refine l_split rfl (o_lss rfl rfl) (fun q8 => ?_) (fun q8 => ?_)
              · have hil : i < Q.length := by omega
                have hTi := hT _ (show Q.getD i [] ∈ Q by rw [List.getD_eq_getElem?_getD, List.getElem?_eq_getElem hil]; exact List.getElem_mem hil)
                have hVa1 := xa.2.1.pV i hil
                have hq3 := hTi.1
                have hqc := hTi.2.1
                have hqn := hTi.2.2.2
                have hcs := count_step hil (fun pc => leftB pc q)
                refine l_nil ?_
                refine kt_norm ?_
                refine v_condT rfl ?_
                refine v_skip ?_
                refine kt_norm ?_
                refine v_seq ?_
                refine v_block ?_
                refine v_seq ?_
                refine v_seq ?_
                refine v_drawW [] [[], [], [], [], [4]] mixed ?_ (by kernel_rfl) (by kernel_rfl)
                refine d_val (fun _ => rfl) rfl rfl (fun σ12 => o_move rfl) ?_
                refine d_val (fun _ => rfl) rfl rfl (fun σ12 => o_move rfl) ?_
                refine d_val (fun _ => rfl) rfl rfl (fun σ12 => o_idx (i) rfl hVa rfl (by first | rfl | omega) (by omega)) ?_
                refine d_val (fun _ => rfl) rfl rfl (fun σ12 => o_loadR1 rfl (row_imm (fun w2 hg => by exact (xa.2.2.2 w2 (pcsAt_nil w2) hg.2.1).row)) (el_one (by rw [hla]; exact hil))) ?_
                refine d_val (fun _ => rfl) rfl rfl (fun σ12 => o_loadW (key := 4) rfl rfl rfl) ?_
                refine d_nil (fun σ12 => ?_)
                refine l_call (ks := []) rfl (o_callC (vs := [_, _]) (r := .bool (leftB (Q.getD i []) q)) (ent_of Try.func18 rfl rfl) rfl (fun w' hg hh => a_HasC w' _ (Q.getD i []) q (by omega) hVa1 (by exact (xa.2.2.2 w' (pcsAt_nil w') hg.2.1).pc i hil) hqn hnq hqc rfl)) ?_
                refine lz_cases (fun hlq => ?_) (fun hlq => ?_)
                · skip
                  refine l_nil ?_
                  refine kt_norm ?_
                  refine v_sel [13, 11, 12, 3, 4, 7, 9, 10, 69] [3, 4] rfl rfl ?_
                  refine v_condT rfl ?_
                  refine v_region ?_
                  refine l_val rfl (o_move rfl) ?_
                  refine l_val rfl (o_addi rfl rfl ?_) ?_
                  · omega
                  refine l_val rfl (o_assign rfl) ?_
                  refine l_nil ?_
                  refine kt_norm ?_
                  refine v_seq ?_
                  refine v_drawW [] [[], [], [], [], [3]] mixed ?_ (by kernel_rfl) (by kernel_rfl)
                  refine d_val (fun _ => rfl) rfl rfl (fun σ14 => o_move rfl) ?_
                  refine d_val (fun _ => rfl) rfl rfl (fun σ14 => o_move rfl) ?_
                  refine d_val (fun _ => rfl) rfl rfl (fun σ14 => o_idx (i) rfl hVa rfl (by first | rfl | omega) (by omega)) ?_
                  refine d_val (fun _ => rfl) rfl rfl (fun σ14 => o_loadR1 rfl (row_imm (fun w2 hg => by exact (xa.2.2.2 w2 (pcsAt_nil w2) hg.2.1).row)) (el_one (by rw [hla]; exact hil))) ?_
                  refine d_val (fun _ => rfl) rfl rfl (fun σ14 => o_loadW (key := 3) rfl rfl rfl) ?_
                  refine d_nil (fun σ14 => ?_)
                  refine l_call (ks := []) rfl (o_callC (vs := [_, _]) (r := .bool true) (ent_of Try.func18 rfl rfl) rfl (fun w' hg hh => a_HasC w' _ (Q.getD i []) p (by omega) hVa1 (by exact (xa.2.2.2 w' (pcsAt_nil w') hg.2.1).pc i hil) hqn hnp hqc (tri_has hTi))) ?_
                  refine l_nil ?_
                  refine kt_norm ?_
                  refine v_sel [13, 11, 12, 3, 4, 7, 9, 10, 77] [3, 4] rfl rfl ?_
                  refine v_condT rfl ?_
                  refine v_region ?_
                  refine l_val rfl (o_move rfl) ?_
                  refine l_val rfl (o_addi rfl rfl ?_) ?_
                  · omega
                  refine l_val rfl (o_assign rfl) ?_
                  refine l_nil ?_
                  refine kb_norm ?_
                  refine kt_norm ?_
                  refine v_region ?_
                  refine l_val rfl (o_move rfl) ?_
                  refine l_val rfl (o_addi rfl rfl ?_) ?_
                  · omega
                  refine l_val rfl (o_assign rfl) ?_
                  refine l_nil ?_
                  refine kt_norm ?_
                  refine ⟨(i + 1, a + 1), ⟨hil, by have e := hcs; rw [hlq] at e; rw [e, hcnt]; rfl⟩, (by show Q.length - (i + 1) < Q.length - i; omega), le_app (And.intro rfl (And.intro rfl (And.intro rfl (True.intro)))) [3, 4, 7, 9, 10] rfl (True.intro) [3, 4] rfl⟩
                · skip
                  refine l_nil ?_
                  refine kt_norm ?_
                  refine v_sel [13, 11, 12, 3, 4, 7, 9, 10, 69] [3, 4] rfl rfl ?_
                  refine v_condF rfl ?_
                  refine v_skip ?_
                  refine kt_norm ?_
                  refine v_seq ?_
                  refine v_drawW [] [[], [], [], [], [3]] mixed ?_ (by kernel_rfl) (by kernel_rfl)
                  refine d_val (fun _ => rfl) rfl rfl (fun σ14 => o_move rfl) ?_
                  refine d_val (fun _ => rfl) rfl rfl (fun σ14 => o_move rfl) ?_
                  refine d_val (fun _ => rfl) rfl rfl (fun σ14 => o_idx (i) rfl hVa rfl (by first | rfl | omega) (by omega)) ?_
                  refine d_val (fun _ => rfl) rfl rfl (fun σ14 => o_loadR1 rfl (row_imm (fun w2 hg => by exact (xa.2.2.2 w2 (pcsAt_nil w2) hg.2.1).row)) (el_one (by rw [hla]; exact hil))) ?_
                  refine d_val (fun _ => rfl) rfl rfl (fun σ14 => o_loadW (key := 3) rfl rfl rfl) ?_
                  refine d_nil (fun σ14 => ?_)
                  refine l_call (ks := []) rfl (o_callC (vs := [_, _]) (r := .bool true) (ent_of Try.func18 rfl rfl) rfl (fun w' hg hh => a_HasC w' _ (Q.getD i []) p (by omega) hVa1 (by exact (xa.2.2.2 w' (pcsAt_nil w') hg.2.1).pc i hil) hqn hnp hqc (tri_has hTi))) ?_
                  refine l_nil ?_
                  refine kt_norm ?_
                  refine v_sel [13, 11, 12, 3, 4, 7, 9, 10, 77] [3, 4] rfl rfl ?_
                  refine v_condT rfl ?_
                  refine v_region ?_
                  refine l_val rfl (o_move rfl) ?_
                  refine l_val rfl (o_addi rfl rfl ?_) ?_
                  · omega
                  refine l_val rfl (o_assign rfl) ?_
                  refine l_nil ?_
                  refine kb_norm ?_
                  refine kt_norm ?_
                  refine v_region ?_
                  refine l_val rfl (o_move rfl) ?_
                  refine l_val rfl (o_addi rfl rfl ?_) ?_
                  · omega
                  refine l_val rfl (o_assign rfl) ?_
                  refine l_nil ?_
                  refine kt_norm ?_
                  refine ⟨(i + 1, a), ⟨hil, by have e := hcs; rw [hlq] at e; rw [e, hcnt]; rfl⟩, (by show Q.length - (i + 1) < Q.length - i; omega), le_app (And.intro rfl (And.intro rfl (And.intro rfl (True.intro)))) [3, 4, 7, 9, 10] rfl (True.intro) [3, 4] rfl⟩
              · skip
                refine l_nil ?_
                refine kt_norm ?_
                refine v_condF rfl ?_
                refine v_exit ?_
                refine kt_exit ?_
                refine kt_exit ?_
                refine kb_eq ?_
                refine kt_norm ?_
                refine v_sel [11, 12, 7, 9, 10] [] rfl rfl ?_
                refine v_seq ?_
                refine v_region ?_
                obtain rfl : i = Q.length := by omega
                rw [List.take_length] at hcnt
                have hfz := disc_far (p := p) (q := q) hgr hfar
                rw [hQ] at hfz
                refine l_val rfl (o_move rfl) ?_
                refine l_val rfl (o_move rfl) ?_
                refine l_val rfl (o_len rfl hVa) ?_
                refine l_split rfl (o_eql rfl rfl) (fun q9 => ?_) (fun q9 => absurd (show _ by omega) q9)
                refine l_val rfl (o_move rfl) ?_
                refine l_val rfl (o_move rfl) ?_
                refine l_val rfl (o_len rfl hVa) ?_
                refine l_split rfl (o_geq rfl rfl) (fun q10 => ?_) (fun q10 => absurd (show _ by omega) q10)
                refine l_val rfl (o_pickT rfl rfl) ?_
                refine l_val rfl (o_move rfl) ?_
                refine l_val rfl (o_move rfl) ?_
                refine l_val rfl (o_not rfl rfl) ?_
                refine l_val rfl (o_move rfl) ?_
                refine l_val rfl (o_move rfl) ?_
                refine l_split rfl (o_eql rfl rfl) (fun q11 => ?_) (fun q11 => absurd (show _ by omega) q11)
                refine l_val rfl (o_pickF rfl rfl) ?_
                refine l_val rfl (o_pickT rfl rfl) ?_
                refine l_val rfl (o_move rfl) ?_
                refine l_val rfl (o_move rfl) ?_
                refine l_val rfl (o_not rfl rfl) ?_
                refine l_val rfl (o_move rfl) ?_
                refine l_no rfl ?_
                refine l_no rfl ?_
                refine l_val rfl (o_pickT rfl rfl) ?_
                refine l_val rfl (o_pickT rfl rfl) ?_
                refine l_val rfl (o_assign rfl) ?_
                refine l_nil ?_
                refine kt_norm ?_
                refine v_sel [6] [] rfl rfl ?_
                refine v_ret ?_
                refine ⟨[_], .cons (.tmp rfl) (ResAll.nil), ?_⟩
                rfl
          · skip
            refine l_val rfl (o_assign rfl) ?_
            refine l_nil ?_
            refine kt_norm ?_
            refine v_sel [2, 3, 4, 7, 8, 9] [3, 4, 8] rfl rfl ?_
            refine v_seq ?_
            refine v_region ?_
            refine l_val rfl (o_loadW (key := 8) rfl rfl rfl) ?_
            refine l_val rfl (o_loadW (key := 8) rfl rfl rfl) ?_
            refine l_ans (vs := [_, _]) rfl rfl (r_Dot _ _ _ _ ?_ ?_ ?_ ?_) ?_
            · omega
            · omega
            · omega
            · omega
            refine l_val rfl (o_muli rfl rfl ?_) ?_
            · omega
            refine l_val rfl (o_move rfl) ?_
            refine l_val rfl (o_move rfl) ?_
            refine l_val rfl (o_muli rfl rfl ?_) ?_
            · omega
            refine l_split rfl (o_leq rfl rfl) (fun hclose => ?_) (fun hclose => ?_)
            · skip
              refine l_val rfl (o_assign rfl) ?_
              refine l_nil ?_
              refine kt_norm ?_
              refine v_sel [3, 4, 7, 9, 10] [3, 4] rfl rfl ?_
              refine v_seq ?_
              refine v_region ?_
              refine l_val rfl (o_assign rfl) ?_
              refine l_nil ?_
              refine kt_norm ?_
              refine v_seq ?_
              refine v_region ?_
              refine l_val rfl (o_assign rfl) ?_
              refine l_nil ?_
              refine kt_norm ?_
              refine v_seq ?_
              refine v_seq ?_
              refine v_region ?_
              refine l_val rfl (o_assign rfl) ?_
              refine l_nil ?_
              refine kt_norm ?_
              refine v_block ?_
              refine v_loopS (α := Nat × Nat) (fun ⟨i, a⟩ => [(13, .int .i64 (i : Int)), (11, .int .i64 (a : Int)), (12, .int .i64 (i : Int))]) (fun ⟨i, a⟩ => [])  (fun ⟨i, a⟩ => i ≤ Q.length ∧ a = (Q.take i).countP (fun pc => leftB pc q)) (fun ⟨i, a⟩ => Q.length - i) (0, 0) [3, 4, 7, 9, 10] [3, 4] ⟨Nat.zero_le _, rfl⟩  (And.intro rfl (And.intro rfl (And.intro rfl (True.intro)))) rfl (True.intro) rfl ?_
              rintro ⟨i, a⟩ ⟨hi, hcnt⟩
              have hai : a ≤ i := by
                rw [hcnt]; have h1 := List.countP_le_length (p := fun pc => leftB pc q) (l := Q.take i); rw [List.length_take] at h1; omega
              refine v_seq ?_
              refine v_seq ?_
              refine v_region ?_
              refine l_val rfl (o_move rfl) ?_
              refine l_val rfl (o_move rfl) ?_
              refine l_val rfl (o_len rfl hVa) ?_
              refine l_split rfl (o_lss rfl rfl) (fun q12 => ?_) (fun q12 => ?_)
              · have hil : i < Q.length := by omega
                have hTi := hT _ (show Q.getD i [] ∈ Q by rw [List.getD_eq_getElem?_getD, List.getElem?_eq_getElem hil]; exact List.getElem_mem hil)
                have hVa1 := xa.2.1.pV i hil
                have hq3 := hTi.1
                have hqc := hTi.2.1
                have hqn := hTi.2.2.2
                have hcs := count_step hil (fun pc => leftB pc q)
                refine l_nil ?_
                refine kt_norm ?_
                refine v_condT rfl ?_
                refine v_skip ?_
                refine kt_norm ?_
                refine v_seq ?_
                refine v_block ?_
                refine v_seq ?_
                refine v_seq ?_
                refine v_drawW [] [[], [], [], [], [4]] mixed ?_ (by kernel_rfl) (by kernel_rfl)
                refine d_val (fun _ => rfl) rfl rfl (fun σ12 => o_move rfl) ?_
                refine d_val (fun _ => rfl) rfl rfl (fun σ12 => o_move rfl) ?_
                refine d_val (fun _ => rfl) rfl rfl (fun σ12 => o_idx (i) rfl hVa rfl (by first | rfl | omega) (by omega)) ?_
                refine d_val (fun _ => rfl) rfl rfl (fun σ12 => o_loadR1 rfl (row_imm (fun w2 hg => by exact (xa.2.2.2 w2 (pcsAt_nil w2) hg.2.1).row)) (el_one (by rw [hla]; exact hil))) ?_
                refine d_val (fun _ => rfl) rfl rfl (fun σ12 => o_loadW (key := 4) rfl rfl rfl) ?_
                refine d_nil (fun σ12 => ?_)
                refine l_call (ks := []) rfl (o_callC (vs := [_, _]) (r := .bool (leftB (Q.getD i []) q)) (ent_of Try.func18 rfl rfl) rfl (fun w' hg hh => a_HasC w' _ (Q.getD i []) q (by omega) hVa1 (by exact (xa.2.2.2 w' (pcsAt_nil w') hg.2.1).pc i hil) hqn hnq hqc rfl)) ?_
                refine lz_cases (fun hlq => ?_) (fun hlq => ?_)
                · skip
                  refine l_nil ?_
                  refine kt_norm ?_
                  refine v_sel [13, 11, 12, 3, 4, 7, 9, 10, 69] [3, 4] rfl rfl ?_
                  refine v_condT rfl ?_
                  refine v_region ?_
                  refine l_val rfl (o_move rfl) ?_
                  refine l_val rfl (o_addi rfl rfl ?_) ?_
                  · omega
                  refine l_val rfl (o_assign rfl) ?_
                  refine l_nil ?_
                  refine kt_norm ?_
                  refine v_seq ?_
                  refine v_drawW [] [[], [], [], [], [3]] mixed ?_ (by kernel_rfl) (by kernel_rfl)
                  refine d_val (fun _ => rfl) rfl rfl (fun σ14 => o_move rfl) ?_
                  refine d_val (fun _ => rfl) rfl rfl (fun σ14 => o_move rfl) ?_
                  refine d_val (fun _ => rfl) rfl rfl (fun σ14 => o_idx (i) rfl hVa rfl (by first | rfl | omega) (by omega)) ?_
                  refine d_val (fun _ => rfl) rfl rfl (fun σ14 => o_loadR1 rfl (row_imm (fun w2 hg => by exact (xa.2.2.2 w2 (pcsAt_nil w2) hg.2.1).row)) (el_one (by rw [hla]; exact hil))) ?_
                  refine d_val (fun _ => rfl) rfl rfl (fun σ14 => o_loadW (key := 3) rfl rfl rfl) ?_
                  refine d_nil (fun σ14 => ?_)
                  refine l_call (ks := []) rfl (o_callC (vs := [_, _]) (r := .bool true) (ent_of Try.func18 rfl rfl) rfl (fun w' hg hh => a_HasC w' _ (Q.getD i []) p (by omega) hVa1 (by exact (xa.2.2.2 w' (pcsAt_nil w') hg.2.1).pc i hil) hqn hnp hqc (tri_has hTi))) ?_
                  refine l_nil ?_
                  refine kt_norm ?_
                  refine v_sel [13, 11, 12, 3, 4, 7, 9, 10, 77] [3, 4] rfl rfl ?_
                  refine v_condT rfl ?_
                  refine v_region ?_
                  refine l_val rfl (o_move rfl) ?_
                  refine l_val rfl (o_addi rfl rfl ?_) ?_
                  · omega
                  refine l_val rfl (o_assign rfl) ?_
                  refine l_nil ?_
                  refine kb_norm ?_
                  refine kt_norm ?_
                  refine v_region ?_
                  refine l_val rfl (o_move rfl) ?_
                  refine l_val rfl (o_addi rfl rfl ?_) ?_
                  · omega
                  refine l_val rfl (o_assign rfl) ?_
                  refine l_nil ?_
                  refine kt_norm ?_
                  refine ⟨(i + 1, a + 1), ⟨hil, by have e := hcs; rw [hlq] at e; rw [e, hcnt]; rfl⟩, (by show Q.length - (i + 1) < Q.length - i; omega), le_app (And.intro rfl (And.intro rfl (And.intro rfl (True.intro)))) [3, 4, 7, 9, 10] rfl (True.intro) [3, 4] rfl⟩
                · skip
                  refine l_nil ?_
                  refine kt_norm ?_
                  refine v_sel [13, 11, 12, 3, 4, 7, 9, 10, 69] [3, 4] rfl rfl ?_
                  refine v_condF rfl ?_
                  refine v_skip ?_
                  refine kt_norm ?_
                  refine v_seq ?_
                  refine v_drawW [] [[], [], [], [], [3]] mixed ?_ (by kernel_rfl) (by kernel_rfl)
                  refine d_val (fun _ => rfl) rfl rfl (fun σ14 => o_move rfl) ?_
                  refine d_val (fun _ => rfl) rfl rfl (fun σ14 => o_move rfl) ?_
                  refine d_val (fun _ => rfl) rfl rfl (fun σ14 => o_idx (i) rfl hVa rfl (by first | rfl | omega) (by omega)) ?_
                  refine d_val (fun _ => rfl) rfl rfl (fun σ14 => o_loadR1 rfl (row_imm (fun w2 hg => by exact (xa.2.2.2 w2 (pcsAt_nil w2) hg.2.1).row)) (el_one (by rw [hla]; exact hil))) ?_
                  refine d_val (fun _ => rfl) rfl rfl (fun σ14 => o_loadW (key := 3) rfl rfl rfl) ?_
                  refine d_nil (fun σ14 => ?_)
                  refine l_call (ks := []) rfl (o_callC (vs := [_, _]) (r := .bool true) (ent_of Try.func18 rfl rfl) rfl (fun w' hg hh => a_HasC w' _ (Q.getD i []) p (by omega) hVa1 (by exact (xa.2.2.2 w' (pcsAt_nil w') hg.2.1).pc i hil) hqn hnp hqc (tri_has hTi))) ?_
                  refine l_nil ?_
                  refine kt_norm ?_
                  refine v_sel [13, 11, 12, 3, 4, 7, 9, 10, 77] [3, 4] rfl rfl ?_
                  refine v_condT rfl ?_
                  refine v_region ?_
                  refine l_val rfl (o_move rfl) ?_
                  refine l_val rfl (o_addi rfl rfl ?_) ?_
                  · omega
                  refine l_val rfl (o_assign rfl) ?_
                  refine l_nil ?_
                  refine kb_norm ?_
                  refine kt_norm ?_
                  refine v_region ?_
                  refine l_val rfl (o_move rfl) ?_
                  refine l_val rfl (o_addi rfl rfl ?_) ?_
                  · omega
                  refine l_val rfl (o_assign rfl) ?_
                  refine l_nil ?_
                  refine kt_norm ?_
                  refine ⟨(i + 1, a), ⟨hil, by have e := hcs; rw [hlq] at e; rw [e, hcnt]; rfl⟩, (by show Q.length - (i + 1) < Q.length - i; omega), le_app (And.intro rfl (And.intro rfl (And.intro rfl (True.intro)))) [3, 4, 7, 9, 10] rfl (True.intro) [3, 4] rfl⟩
              · skip
                refine l_nil ?_
                refine kt_norm ?_
                refine v_condF rfl ?_
                refine v_exit ?_
                refine kt_exit ?_
                refine kt_exit ?_
                refine kb_eq ?_
                refine kt_norm ?_
                refine v_sel [11, 12, 7, 9, 10] [] rfl rfl ?_
                refine v_seq ?_
                refine v_region ?_
                obtain rfl : i = Q.length := by omega
                rw [List.take_length] at hcnt
                have hnz := disc_near (p := p) (q := q) hgr hclose
                rw [hQ] at hnz
                refine l_val rfl (o_move rfl) ?_
                refine l_val rfl (o_move rfl) ?_
                refine l_val rfl (o_len rfl hVa) ?_
                refine l_split rfl (o_eql rfl rfl) (fun q13 => ?_) (fun q13 => absurd (show _ by omega) q13)
                refine l_val rfl (o_move rfl) ?_
                refine l_val rfl (o_move rfl) ?_
                refine l_val rfl (o_len rfl hVa) ?_
                refine l_split rfl (o_geq rfl rfl) (fun q14 => ?_) (fun q14 => absurd (show _ by omega) q14)
                refine l_val rfl (o_pickT rfl rfl) ?_
                refine l_val rfl (o_move rfl) ?_
                refine l_val rfl (o_move rfl) ?_
                refine l_val rfl (o_not rfl rfl) ?_
                refine l_val rfl (o_move rfl) ?_
                refine l_no rfl ?_
                refine l_no rfl ?_
                refine l_val rfl (o_pickT rfl rfl) ?_
                refine l_val rfl (o_pickT rfl rfl) ?_
                refine l_val rfl (o_move rfl) ?_
                refine l_val rfl (o_move rfl) ?_
                refine l_val rfl (o_not rfl rfl) ?_
                refine l_val rfl (o_move rfl) ?_
                refine l_val rfl (o_move rfl) ?_
                refine l_split rfl (o_geq rfl rfl) (fun q15 => ?_) (fun q15 => absurd (show _ by omega) q15)
                refine l_val rfl (o_pickF rfl rfl) ?_
                refine l_val rfl (o_pickT rfl rfl) ?_
                refine l_val rfl (o_assign rfl) ?_
                refine l_nil ?_
                refine kt_norm ?_
                refine v_sel [6] [] rfl rfl ?_
                refine v_ret ?_
                refine ⟨[_], .cons (.tmp rfl) (ResAll.nil), ?_⟩
                rfl
            · skip
              refine l_val rfl (o_assign rfl) ?_
              refine l_nil ?_
              refine kt_norm ?_
              refine v_sel [3, 4, 7, 9, 10] [3, 4] rfl rfl ?_
              refine v_seq ?_
              refine v_region ?_
              refine l_val rfl (o_assign rfl) ?_
              refine l_nil ?_
              refine kt_norm ?_
              refine v_seq ?_
              refine v_region ?_
              refine l_val rfl (o_assign rfl) ?_
              refine l_nil ?_
              refine kt_norm ?_
              refine v_seq ?_
              refine v_seq ?_
              refine v_region ?_
              refine l_val rfl (o_assign rfl) ?_
              refine l_nil ?_
              refine kt_norm ?_
              refine v_block ?_
              refine v_loopS (α := Nat × Nat) (fun ⟨i, a⟩ => [(13, .int .i64 (i : Int)), (11, .int .i64 (a : Int)), (12, .int .i64 (i : Int))]) (fun ⟨i, a⟩ => [])  (fun ⟨i, a⟩ => i ≤ Q.length ∧ a = (Q.take i).countP (fun pc => leftB pc q)) (fun ⟨i, a⟩ => Q.length - i) (0, 0) [3, 4, 7, 9, 10] [3, 4] ⟨Nat.zero_le _, rfl⟩  (And.intro rfl (And.intro rfl (And.intro rfl (True.intro)))) rfl (True.intro) rfl ?_
              rintro ⟨i, a⟩ ⟨hi, hcnt⟩
              have hai : a ≤ i := by
                rw [hcnt]; have h1 := List.countP_le_length (p := fun pc => leftB pc q) (l := Q.take i); rw [List.length_take] at h1; omega
              refine v_seq ?_
              refine v_seq ?_
              refine v_region ?_
              refine l_val rfl (o_move rfl) ?_
              refine l_val rfl (o_move rfl) ?_
              refine l_val rfl (o_len rfl hVa) ?_
              refine l_split rfl (o_lss rfl rfl) (fun q16 => ?_) (fun q16 => ?_)
              · have hil : i < Q.length := by omega
                have hTi := hT _ (show Q.getD i [] ∈ Q by rw [List.getD_eq_getElem?_getD, List.getElem?_eq_getElem hil]; exact List.getElem_mem hil)
                have hVa1 := xa.2.1.pV i hil
                have hq3 := hTi.1
                have hqc := hTi.2.1
                have hqn := hTi.2.2.2
                have hcs := count_step hil (fun pc => leftB pc q)
                refine l_nil ?_
                refine kt_norm ?_
                refine v_condT rfl ?_
                refine v_skip ?_
                refine kt_norm ?_
                refine v_seq ?_
                refine v_block ?_
                refine v_seq ?_
                refine v_seq ?_
                refine v_drawW [] [[], [], [], [], [4]] mixed ?_ (by kernel_rfl) (by kernel_rfl)
                refine d_val (fun _ => rfl) rfl rfl (fun σ12 => o_move rfl) ?_
                refine d_val (fun _ => rfl) rfl rfl (fun σ12 => o_move rfl) ?_
                refine d_val (fun _ => rfl) rfl rfl (fun σ12 => o_idx (i) rfl hVa rfl (by first | rfl | omega) (by omega)) ?_
                refine d_val (fun _ => rfl) rfl rfl (fun σ12 => o_loadR1 rfl (row_imm (fun w2 hg => by exact (xa.2.2.2 w2 (pcsAt_nil w2) hg.2.1).row)) (el_one (by rw [hla]; exact hil))) ?_
                refine d_val (fun _ => rfl) rfl rfl (fun σ12 => o_loadW (key := 4) rfl rfl rfl) ?_
                refine d_nil (fun σ12 => ?_)
                refine l_call (ks := []) rfl (o_callC (vs := [_, _]) (r := .bool (leftB (Q.getD i []) q)) (ent_of Try.func18 rfl rfl) rfl (fun w' hg hh => a_HasC w' _ (Q.getD i []) q (by omega) hVa1 (by exact (xa.2.2.2 w' (pcsAt_nil w') hg.2.1).pc i hil) hqn hnq hqc rfl)) ?_
                refine lz_cases (fun hlq => ?_) (fun hlq => ?_)
                · skip
                  refine l_nil ?_
                  refine kt_norm ?_
                  refine v_sel [13, 11, 12, 3, 4, 7, 9, 10, 69] [3, 4] rfl rfl ?_
                  refine v_condT rfl ?_
                  refine v_region ?_
                  refine l_val rfl (o_move rfl) ?_
                  refine l_val rfl (o_addi rfl rfl ?_) ?_
                  · omega
                  refine l_val rfl (o_assign rfl) ?_
                  refine l_nil ?_
                  refine kt_norm ?_
                  refine v_seq ?_
                  refine v_drawW [] [[], [], [], [], [3]] mixed ?_ (by kernel_rfl) (by kernel_rfl)
                  refine d_val (fun _ => rfl) rfl rfl (fun σ14 => o_move rfl) ?_
                  refine d_val (fun _ => rfl) rfl rfl (fun σ14 => o_move rfl) ?_
                  refine d_val (fun _ => rfl) rfl rfl (fun σ14 => o_idx (i) rfl hVa rfl (by first | rfl | omega) (by omega)) ?_
                  refine d_val (fun _ => rfl) rfl rfl (fun σ14 => o_loadR1 rfl (row_imm (fun w2 hg => by exact (xa.2.2.2 w2 (pcsAt_nil w2) hg.2.1).row)) (el_one (by rw [hla]; exact hil))) ?_
                  refine d_val (fun _ => rfl) rfl rfl (fun σ14 => o_loadW (key := 3) rfl rfl rfl) ?_
                  refine d_nil (fun σ14 => ?_)
                  refine l_call (ks := []) rfl (o_callC (vs := [_, _]) (r := .bool true) (ent_of Try.func18 rfl rfl) rfl (fun w' hg hh => a_HasC w' _ (Q.getD i []) p (by omega) hVa1 (by exact (xa.2.2.2 w' (pcsAt_nil w') hg.2.1).pc i hil) hqn hnp hqc (tri_has hTi))) ?_
                  refine l_nil ?_
                  refine kt_norm ?_
                  refine v_sel [13, 11, 12, 3, 4, 7, 9, 10, 77] [3, 4] rfl rfl ?_
                  refine v_condT rfl ?_
                  refine v_region ?_
                  refine l_val rfl (o_move rfl) ?_
                  refine l_val rfl (o_addi rfl rfl ?_) ?_
                  · omega
                  refine l_val rfl (o_assign rfl) ?_
                  refine l_nil ?_
                  refine kb_norm ?_
                  refine kt_norm ?_
                  refine v_region ?_
                  refine l_val rfl (o_move rfl) ?_
                  refine l_val rfl (o_addi rfl rfl ?_) ?_
                  · omega
                  refine l_val rfl (o_assign rfl) ?_
                  refine l_nil ?_
                  refine kt_norm ?_
                  refine ⟨(i + 1, a + 1), ⟨hil, by have e := hcs; rw [hlq] at e; rw [e, hcnt]; rfl⟩, (by show Q.length - (i + 1) < Q.length - i; omega), le_app (And.intro rfl (And.intro rfl (And.intro rfl (True.intro)))) [3, 4, 7, 9, 10] rfl (True.intro) [3, 4] rfl⟩
                · skip
                  refine l_nil ?_
                  refine kt_norm ?_
                  refine v_sel [13, 11, 12, 3, 4, 7, 9, 10, 69] [3, 4] rfl rfl ?_
                  refine v_condF rfl ?_
                  refine v_skip ?_
                  refine kt_norm ?_
                  refine v_seq ?_
                  refine v_drawW [] [[], [], [], [], [3]] mixed ?_ (by kernel_rfl) (by kernel_rfl)
                  refine d_val (fun _ => rfl) rfl rfl (fun σ14 => o_move rfl) ?_
                  refine d_val (fun _ => rfl) rfl rfl (fun σ14 => o_move rfl) ?_
                  refine d_val (fun _ => rfl) rfl rfl (fun σ14 => o_idx (i) rfl hVa rfl (by first | rfl | omega) (by omega)) ?_
                  refine d_val (fun _ => rfl) rfl rfl (fun σ14 => o_loadR1 rfl (row_imm (fun w2 hg => by exact (xa.2.2.2 w2 (pcsAt_nil w2) hg.2.1).row)) (el_one (by rw [hla]; exact hil))) ?_
                  refine d_val (fun _ => rfl) rfl rfl (fun σ14 => o_loadW (key := 3) rfl rfl rfl) ?_
                  refine d_nil (fun σ14 => ?_)
                  refine l_call (ks := []) rfl (o_callC (vs := [_, _]) (r := .bool true) (ent_of Try.func18 rfl rfl) rfl (fun w' hg hh => a_HasC w' _ (Q.getD i []) p (by omega) hVa1 (by exact (xa.2.2.2 w' (pcsAt_nil w') hg.2.1).pc i hil) hqn hnp hqc (tri_has hTi))) ?_
                  refine l_nil ?_
                  refine kt_norm ?_
                  refine v_sel [13, 11, 12, 3, 4, 7, 9, 10, 77] [3, 4] rfl rfl ?_
                  refine v_condT rfl ?_
                  refine v_region ?_
                  refine l_val rfl (o_move rfl) ?_
                  refine l_val rfl (o_addi rfl rfl ?_) ?_
                  · omega
                  refine l_val rfl (o_assign rfl) ?_
                  refine l_nil ?_
                  refine kb_norm ?_
                  refine kt_norm ?_
                  refine v_region ?_
                  refine l_val rfl (o_move rfl) ?_
                  refine l_val rfl (o_addi rfl rfl ?_) ?_
                  · omega
                  refine l_val rfl (o_assign rfl) ?_
                  refine l_nil ?_
                  refine kt_norm ?_
                  refine ⟨(i + 1, a), ⟨hil, by have e := hcs; rw [hlq] at e; rw [e, hcnt]; rfl⟩, (by show Q.length - (i + 1) < Q.length - i; omega), le_app (And.intro rfl (And.intro rfl (And.intro rfl (True.intro)))) [3, 4, 7, 9, 10] rfl (True.intro) [3, 4] rfl⟩
              · skip
                refine l_nil ?_
                refine kt_norm ?_
                refine v_condF rfl ?_
                refine v_exit ?_
                refine kt_exit ?_
                refine kt_exit ?_
                refine kb_eq ?_
                refine kt_norm ?_
                refine v_sel [11, 12, 7, 9, 10] [] rfl rfl ?_
                refine v_seq ?_
                refine v_region ?_
                obtain rfl : i = Q.length := by omega
                rw [List.take_length] at hcnt
                refine l_val rfl (o_move rfl) ?_
                refine l_val rfl (o_move rfl) ?_
                refine l_val rfl (o_len rfl hVa) ?_
                refine l_split rfl (o_eql rfl rfl) (fun q17 => ?_) (fun q17 => absurd (show _ by omega) q17)
                refine l_val rfl (o_move rfl) ?_
                refine l_val rfl (o_move rfl) ?_
                refine l_val rfl (o_len rfl hVa) ?_
                refine l_split rfl (o_geq rfl rfl) (fun q18 => ?_) (fun q18 => absurd (show _ by omega) q18)
                refine l_val rfl (o_pickT rfl rfl) ?_
                refine l_val rfl (o_move rfl) ?_
                refine l_val rfl (o_move rfl) ?_
                refine l_val rfl (o_not rfl rfl) ?_
                refine l_val rfl (o_move rfl) ?_
                refine l_no rfl ?_
                refine l_no rfl ?_
                refine l_val rfl (o_pickT rfl rfl) ?_
                refine l_val rfl (o_pickT rfl rfl) ?_
                refine l_val rfl (o_move rfl) ?_
                refine l_val rfl (o_move rfl) ?_
                refine l_val rfl (o_not rfl rfl) ?_
                refine l_val rfl (o_move rfl) ?_
                refine l_no rfl ?_
                refine l_no rfl ?_
                refine l_val rfl (o_pickT rfl rfl) ?_
                refine l_val rfl (o_pickT rfl rfl) ?_
                refine l_val rfl (o_assign rfl) ?_
                refine l_nil ?_
                refine kt_norm ?_
                refine v_sel [6] [] rfl rfl ?_
                refine v_ret ?_
                refine ⟨[_], .cons (.tmp rfl) (ResAll.nil), ?_⟩
                rfl
    · skip
      refine l_val rfl (o_not rfl rfl) ?_
      refine l_val rfl (o_pickF rfl rfl) ?_
      refine l_val rfl (o_move rfl) ?_
      refine l_no rfl ?_
      refine l_no rfl ?_
      refine l_val rfl (o_pickT rfl rfl) ?_
      refine l_val rfl (o_move rfl) ?_
      refine l_no rfl ?_
      refine l_no rfl ?_
      refine l_val rfl (o_pickT rfl rfl) ?_
      refine l_val rfl (o_move rfl) ?_
      refine l_no rfl ?_
      refine l_no rfl ?_
      refine l_val rfl (o_pickT rfl rfl) ?_
      refine l_nil ?_
      refine kt_norm ?_
      refine v_sel [2, 3, 4, 33] [3, 4] rfl rfl ?_
      refine v_condT rfl ?_
      refine v_seq ?_
      refine v_region ?_
      refine l_call (ks := []) rfl (o_callC (vs := []) (r := .bool true) (ent_of Try.func14 rfl rfl) rfl (fun w' hg hh => a_shown w')) ?_
      refine l_val rfl (o_assign rfl) ?_
      refine l_nil ?_
      refine kt_norm ?_
      refine v_ret ?_
      refine kt_ret ?_
      refine ⟨[_], .cons (.tmp rfl) (ResAll.nil), ?_⟩
      rfl
  · skip
    refine l_val rfl (o_not rfl rfl) ?_
    refine l_val rfl (o_move rfl) ?_
    refine l_no rfl ?_
    refine l_no rfl ?_
    refine l_no rfl ?_
    refine l_val rfl (o_pickT rfl rfl) ?_
    refine l_val rfl (o_move rfl) ?_
    refine l_no rfl ?_
    refine l_no rfl ?_
    refine l_val rfl (o_pickT rfl rfl) ?_
    refine l_val rfl (o_move rfl) ?_
    refine l_no rfl ?_
    refine l_no rfl ?_
    refine l_val rfl (o_pickT rfl rfl) ?_
    refine l_val rfl (o_move rfl) ?_
    refine l_no rfl ?_
    refine l_no rfl ?_
    refine l_val rfl (o_pickT rfl rfl) ?_
    refine l_nil ?_
    refine kt_norm ?_
    refine v_sel [2, 3, 4, 33] [3, 4] rfl rfl ?_
    refine v_condT rfl ?_
    refine v_seq ?_
    refine v_region ?_
    refine l_call (ks := []) rfl (o_callC (vs := []) (r := .bool true) (ent_of Try.func14 rfl rfl) rfl (fun w' hg hh => a_shown w')) ?_
    refine l_val rfl (o_assign rfl) ?_
    refine l_nil ?_
    refine kt_norm ?_
    refine v_ret ?_
    refine kt_ret ?_
    refine ⟨[_], .cons (.tmp rfl) (ResAll.nil), ?_⟩
    rfl
end Go.Proofs.Ytpgjbalnipinoaa
