import Derived.Test.YtpgjbalnipinoaaM1
import Derived.Test.YtpgjbalnipinoaaM2
import Derived.Test.YtpgjbalnipinoaaM3
import Derived.Test.YtpgjbalnipinoaaM4
/- What a piece has; discs. Conditions: none. -/
namespace Go.Proofs.Ytpgjbalnipinoaa
open Go.Proofs Go.RowKit Go.Shelf

theorem a_Has (w : World) (v : Value) (pc : List PtT) (q : PtT) (hs : pc.length ≤ 1000000) (hV : RowV v pc.length) (hrow : RowAt w v 2 pc.length (pc.flatMap eP)) (hnear : ∀ p ∈ pc, NearT p) (hq : NearT q) :
    Calls Try.prog 18 #[v, .agg #[.int .i64 q.x, .int .i64 q.y]] w fun e w' => e = .returned (.bool (convexB pc && leftB pc q)) ∧ Below w.heap.size w w' := by
  have hr : ∀ w', Chg (fun _ => False) w w' → RowAt w' v 2 pc.length (pc.flatMap eP) := fun w' h => hrow.chg h (fun h => h)
  refine calls_of (args := [v, .agg #[.int .i64 q.x, .int .i64 q.y]]) Try.func18 rfl Try.ntmps18 Try.results18 rfl ?_
  refine v_seq ?_
  refine v_region ?_
  refine l_new rfl (o_box (cs := [_, _]) rfl rfl) fun b3 => ?_
  refine l_val rfl (o_assign rfl) ?_
  refine l_nil ?_
  refine kt_norm ?_
  refine v_seq ?_
  refine v_region ?_
  refine l_val rfl (o_move rfl) ?_
  refine l_call (ks := []) rfl (o_callC (vs := [_]) (r := .bool (convexB pc)) (ent_of Try.func22 rfl rfl) rfl (fun w' hg hh => a_Convex w' v pc hs hV (hr w' hg) hnear)) ?_
  refine lz_cases (fun hcx => ?_) (fun hcx => ?_)
  · skip
    refine l_val rfl (o_move rfl) ?_
    refine l_val rfl (o_move rfl) ?_
    refine l_val rfl (o_loadW (key := 3) rfl rfl rfl) ?_
    refine l_call (ks := []) rfl (o_callC (vs := [_, _]) (r := .bool (leftB pc q)) (ent_of Try.func42 rfl rfl) rfl (fun w' hg hh => a_left w' v pc q hs hV (hr w' hg) hnear hq)) ?_
    refine l_val rfl (o_pickT rfl rfl) ?_
    refine l_val rfl (o_assign rfl) ?_
    refine l_nil ?_
    refine kt_norm ?_
    refine v_sel [4] [] rfl rfl ?_
    refine v_ret ?_
    refine ⟨[_], .cons (.tmp rfl) (ResAll.nil), ?_⟩
    first
      | exact congrArg Value.bool (by rw [hcx, Bool.true_and])
      | exact congrArg Value.bool (by rw [hcx, Bool.false_and])
  · skip
    refine l_val rfl (o_move rfl) ?_
    refine l_no rfl ?_
    refine l_no rfl ?_
    refine l_no rfl ?_
    refine l_val rfl (o_pickF rfl rfl) ?_
    refine l_val rfl (o_assign rfl) ?_
    refine l_nil ?_
    refine kt_norm ?_
    refine v_sel [4] [] rfl rfl ?_
    refine v_ret ?_
    refine ⟨[_], .cons (.tmp rfl) (ResAll.nil), ?_⟩
    first
      | exact congrArg Value.bool (by rw [hcx, Bool.true_and])
      | exact congrArg Value.bool (by rw [hcx, Bool.false_and])
theorem a_HasC (w : World) (v : Value) (pc : List PtT) (q : PtT) (hs : pc.length ≤ 1000000) (hV : RowV v pc.length) (hrow : RowAt w v 2 pc.length (pc.flatMap eP)) (hnear : ∀ p ∈ pc, NearT p) (hq : NearT q) (hcx : convexB pc = true) {b : Bool} (hb : leftB pc q = b) :
    Calls Try.prog 18 #[v, .agg #[.int .i64 q.x, .int .i64 q.y]] w fun e w' => e = .returned (.bool b) ∧ Below w.heap.size w w' := by
  have := a_Has w v pc q hs hV hrow hnear hq
  rwa [hcx, Bool.true_and, hb] at this
theorem count_step {Q : List (List PtT)} {i : Nat} (h : i < Q.length) (f : List PtT → Bool) : (Q.take (i + 1)).countP f = (Q.take i).countP f + (if f (Q.getD i []) = true then 1 else 0) := by
  rw [List.take_add_one, List.countP_append, List.getElem?_eq_getElem h, List.getD_eq_getElem?_getD, List.getElem?_eq_getElem h]
  rw [Option.toList_some, List.countP_singleton]; rfl
theorem r_PSub (x y u v : Int) (hx : -1099511627776 ≤ x ∧ x ≤ 1099511627776) (hy : -1099511627776 ≤ y ∧ y ≤ 1099511627776) (hu : -1099511627776 ≤ u ∧ u ≤ 1099511627776) (hv : -1099511627776 ≤ v ∧ v ≤ 1099511627776) : Ans Try.prog 16 [.agg #[.int .i64 x, .int .i64 y], .agg #[.int .i64 u, .int .i64 v]] (.agg #[.int .i64 (x - u), .int .i64 (y - v)]) := by
  refine ans_of Try.func16 rfl Try.ntmps16 Try.results16 rfl rfl fun w => ?_
  refine v_seq ?_
  refine v_region ?_
  refine l_new rfl (o_box (cs := [_, _]) rfl rfl) fun b2 => ?_
  refine l_new rfl (o_box (cs := [_, _]) rfl rfl) fun b3 => ?_
  refine l_new rfl o_alloc fun b4 => ?_
  refine l_nil ?_
  refine kt_norm ?_
  refine v_seq ?_
  refine v_region ?_
  refine l_val rfl (o_fld rfl) ?_
  refine l_val rfl (o_load1 (key := 2) rfl rfl rfl) ?_
  refine l_val rfl (o_fld rfl) ?_
  refine l_val rfl (o_load1 (key := 3) rfl rfl rfl) ?_
  refine l_val rfl (o_subi rfl rfl ?_) ?_
  · omega
  refine l_val rfl (o_fld rfl) ?_
  refine l_val rfl (o_load1 (key := 2) rfl rfl rfl) ?_
  refine l_val rfl (o_fld rfl) ?_
  refine l_val rfl (o_load1 (key := 3) rfl rfl rfl) ?_
  refine l_val rfl (o_subi rfl rfl ?_) ?_
  · omega
  refine l_val rfl (o_build (vs := [_, _]) (cs := [_, _]) rfl rfl) ?_
  refine l_store rfl (o_storeW (key := 4) (xs := [_, _]) rfl rfl rfl rfl rfl rfl rfl) ?_
  refine l_nil ?_
  refine kt_norm ?_
  refine v_sel [4] [4] rfl rfl ?_
  refine v_ret ?_
  refine ⟨[_], .cons (.cellW (key := 4) rfl rfl rfl) (ResAll.nil), ?_⟩
  rfl
theorem r_Dot (x y u v : Int) (hx : -1073741824 ≤ x ∧ x ≤ 1073741824) (hy : -1073741824 ≤ y ∧ y ≤ 1073741824) (hu : -1073741824 ≤ u ∧ u ≤ 1073741824) (hv : -1073741824 ≤ v ∧ v ≤ 1073741824) : Ans Try.prog 17 [.agg #[.int .i64 x, .int .i64 y], .agg #[.int .i64 u, .int .i64 v]] (.int .i64 (x * u + y * v)) := by
  have m1 := mul_bound (A := 1073741824) (B := 1073741824) (x := x) (y := u) (by omega) (by omega) (by omega) (by omega)
  have m2 := mul_bound (A := 1073741824) (B := 1073741824) (x := y) (y := v) (by omega) (by omega) (by omega) (by omega)
  refine ans_of Try.func17 rfl Try.ntmps17 Try.results17 rfl rfl fun w => ?_
  refine v_seq ?_
  refine v_region ?_
  refine l_new rfl (o_box (cs := [_, _]) rfl rfl) fun b2 => ?_
  refine l_new rfl (o_box (cs := [_, _]) rfl rfl) fun b3 => ?_
  refine l_val rfl (o_assign rfl) ?_
  refine l_nil ?_
  refine kt_norm ?_
  refine v_seq ?_
  refine v_region ?_
  refine l_val rfl (o_fld rfl) ?_
  refine l_val rfl (o_load1 (key := 2) rfl rfl rfl) ?_
  refine l_val rfl (o_fld rfl) ?_
  refine l_val rfl (o_load1 (key := 3) rfl rfl rfl) ?_
  refine l_val rfl (o_muli rfl rfl ?_) ?_
  · omega
  refine l_val rfl (o_fld rfl) ?_
  refine l_val rfl (o_load1 (key := 2) rfl rfl rfl) ?_
  refine l_val rfl (o_fld rfl) ?_
  refine l_val rfl (o_load1 (key := 3) rfl rfl rfl) ?_
  refine l_val rfl (o_muli rfl rfl ?_) ?_
  · omega
  refine l_val rfl (o_addi rfl rfl ?_) ?_
  · omega
  refine l_val rfl (o_assign rfl) ?_
  refine l_nil ?_
  refine kt_norm ?_
  refine v_sel [4] [] rfl rfl ?_
  refine v_ret ?_
  refine ⟨[_], .cons (.tmp rfl) (ResAll.nil), ?_⟩
  rfl
set_option maxHeartbeats 4000000 in
theorem a_ArcDisc (w : World) (p q : PtT) (r : Int) : Calls Try.prog 3 #[.agg #[.int .i64 p.x, .int .i64 p.y], .agg #[.int .i64 q.x, .int .i64 q.y], .int .i64 r] w fun e w' => e = .returned (.bool true) ∧ Below w.heap.size w w' := by
  refine calls_of (args := [.agg #[.int .i64 p.x, .int .i64 p.y], .agg #[.int .i64 q.x, .int .i64 q.y], .int .i64 r]) Try.func3 rfl Try.ntmps3 Try.results3 rfl ?_
  refine v_seq ?_
  refine v_region ?_
  refine l_new rfl (o_box (cs := [_, _]) rfl rfl) fun b3 => ?_
  refine l_new rfl (o_box (cs := [_, _]) rfl rfl) fun b4 => ?_
  refine l_val rfl (o_assign rfl) ?_
  refine l_nil ?_
  refine kt_norm ?_
  refine v_seq ?_
  refine v_seq ?_
  refine v_region ?_
  refine l_val rfl (o_loadW (key := 3) rfl rfl rfl) ?_
  refine l_ans (vs := [_, _]) rfl rfl (a_within _ _ (by omega)) ?_
  refine lz_bool (fun hwp => ?_) (fun hwp => ?_)
  · skip
    refine l_val rfl (o_not rfl rfl) ?_
    refine l_val rfl (o_move rfl) ?_
    refine l_val rfl (o_loadW (key := 4) rfl rfl rfl) ?_
    refine l_ans (vs := [_, _]) rfl rfl (a_within _ _ (by omega)) ?_
    refine lz_bool (fun hwq => ?_) (fun hwq => ?_)
    · skip
      refine l_val rfl (o_not rfl rfl) ?_
      refine l_val rfl (o_pickF rfl rfl) ?_
      refine l_val rfl (o_move rfl) ?_
      refine l_val rfl (o_move rfl) ?_
      refine l_split rfl (o_lss rfl rfl) (fun q1 => ?_) (fun q1 => ?_)
      · skip
        refine l_val rfl (o_pickF rfl rfl) ?_
        refine l_val rfl (o_move rfl) ?_
        refine l_no rfl ?_
        refine l_no rfl ?_
        refine l_val rfl (o_pickT rfl rfl) ?_
        refine l_val rfl (o_move rfl) ?_
        refine l_no rfl ?_
        refine l_no rfl ?_
        refine l_val rfl (o_pickT rfl rfl) ?_
        refine l_nil ?_
        refine kt_norm ?_
        refine v_sel [2, 3, 4, 33] [3, 4] rfl rfl ?_
        refine v_condT rfl ?_
        refine v_seq ?_
        refine v_region ?_
        refine l_call (ks := []) rfl (o_callC (vs := []) (r := .bool true) (ent_of Try.func14 rfl rfl) rfl (fun w' hg hh => a_shown w')) ?_
        refine l_val rfl (o_assign rfl) ?_
        refine l_nil ?_
        refine kt_norm ?_
        refine v_ret ?_
        refine kt_ret ?_
        refine ⟨[_], .cons (.tmp rfl) (ResAll.nil), ?_⟩
        rfl
      · skip
        refine l_val rfl (o_pickF rfl rfl) ?_
        refine l_val rfl (o_move rfl) ?_
        refine l_val rfl (o_move rfl) ?_
        refine l_split rfl (o_gtr rfl rfl) (fun q2 => ?_) (fun q2 => ?_)
        · skip
          refine l_val rfl (o_pickF rfl rfl) ?_
          refine l_val rfl (o_move rfl) ?_
          refine l_no rfl ?_
          refine l_no rfl ?_
          refine l_val rfl (o_pickT rfl rfl) ?_
          refine l_nil ?_
          refine kt_norm ?_
          refine v_sel [2, 3, 4, 33] [3, 4] rfl rfl ?_
          refine v_condT rfl ?_
          refine v_seq ?_
          refine v_region ?_
          refine l_call (ks := []) rfl (o_callC (vs := []) (r := .bool true) (ent_of Try.func14 rfl rfl) rfl (fun w' hg hh => a_shown w')) ?_
          refine l_val rfl (o_assign rfl) ?_
          refine l_nil ?_
          refine kt_norm ?_
          refine v_ret ?_
          refine kt_ret ?_
          refine ⟨[_], .cons (.tmp rfl) (ResAll.nil), ?_⟩
          rfl
        · skip
          refine l_val rfl (o_pickF rfl rfl) ?_
          refine l_val rfl (o_move rfl) ?_
          refine l_call (ks := []) rfl (o_callC (vs := []) (r := .bool true) (ent_of Try.func14 rfl rfl) rfl (fun w' hg hh => a_shown w')) ?_
          refine l_val rfl (o_not rfl rfl) ?_
          refine l_val rfl (o_pickF rfl rfl) ?_
          refine l_nil ?_
          refine kt_norm ?_
          refine v_sel [2, 3, 4, 33] [3, 4] rfl rfl ?_
          refine v_condF rfl ?_
          refine v_skip ?_
          refine kt_norm ?_
          refine v_seq ?_
          refine v_region ?_
          have hgp : ((-536870912 ≤ p.x ∧ p.x ≤ 536870912) ∧ (-536870912 ≤ p.y ∧ p.y ≤ 536870912)) := by omega
          have hgr : 1 ≤ r ∧ r ≤ 131072 := by omega
          have hnp : NearT p := by unfold NearT; omega
          have hnq : NearT q := by unfold NearT; omega
          have m1 := mul_bound (A := 524288) (B := 524288) (x := (q.x - p.x)) (y := (q.x - p.x)) (by omega) (by omega) (by omega) (by omega)
          have m2 := mul_bound (A := 524288) (B := 524288) (x := (q.y - p.y)) (y := (q.y - p.y)) (by omega) (by omega) (by omega) (by omega)
          have m3 := mul_bound (A := 131074) (B := 131074) (x := (r + 2)) (y := (r + 2)) (by omega) (by omega) (by omega) (by omega)
          have m4 := mul_bound (A := 131072) (B := 131072) (x := r) (y := r) (by omega) (by omega) (by omega) (by omega)
          obtain ⟨Q, hQ⟩ : ∃ Q, piesT p r (discC r) [] = Q := ⟨_, rfl⟩
          have hT : ∀ x ∈ Q, TriT p x := hQ ▸ tri_app hgp (arcs_bd hgr (disc_bd hgr) 4 (by show 4 < 5; omega)) (fun x h => by cases h)
          have hl1 : Q.length ≤ 256 := by have := disc_len p r []; rw [hQ, List.length_nil] at this; omega
          have h4 : 4 ≤ Q.length := hQ ▸ disc_four hgr
          refine l_val rfl (o_loadW (key := 3) rfl rfl rfl) ?_
          refine l_val rfl (o_move rfl) ?_
          refine l_gsaid (ks := []) (caps := #[]) (vs := [_, _, _]) (α := PutsY (.slice none 0 0) [] [] Q) (fun x => x.1.1) (fun x w' => SaidOk w' x.1.2.2.1 x.1.2.2.2) (fun x b => x.1.2.2.2 b) rfl rfl (ent_of Try.func15 rfl rfl) rfl (fun x w1 w2 h hb => h.keep hb) (fun x w1 b h hb => h.lt hb) (fun w' hg hh => a_DiscQ w' _ [] [] p r pcsW_nil capd_nil (pcsAt_nil w') (by show 0 ≤ 2000; omega) hgp hgr hQ) fun xa => ?_
          have hVa : RowV xa.1.1 Q.length := xa.2.1.V
          have hla : xa.1.2.1.length = Q.length := xa.2.1.lenv
          refine l_val rfl (o_assign rfl) ?_
          refine l_nil ?_
          refine kt_norm ?_
          refine v_seq ?_
          refine v_region ?_
          refine l_val rfl (o_loadW (key := 4) rfl rfl rfl) ?_
          refine l_val rfl (o_loadW (key := 3) rfl rfl rfl) ?_
          refine l_ans (vs := [_, _]) rfl rfl (r_PSub _ _ _ _ ?_ ?_ ?_ ?_) ?_
          · omega
          · omega
          · omega
          · omega
          refine l_new rfl o_alloc fun b8 => ?_
          refine l_store rfl (o_storeW (key := 8) (xs := [_, _]) rfl rfl rfl rfl rfl rfl rfl) ?_
          refine l_nil ?_
          refine kt_norm ?_
          refine v_sel [2, 3, 4, 7, 8] [3, 4, 8] rfl rfl ?_
          refine v_seq ?_
          refine v_region ?_
          refine l_val rfl (o_loadW (key := 8) rfl rfl rfl) ?_
          refine l_val rfl (o_loadW (key := 8) rfl rfl rfl) ?_
          refine l_ans (vs := [_, _]) rfl rfl (r_Dot _ _ _ _ ?_ ?_ ?_ ?_) ?_
          · omega
          · omega
          · omega
          · omega
          refine l_val rfl (o_move rfl) ?_
          refine l_val rfl (o_addi rfl rfl ?_) ?_
          · omega
          refine l_val rfl (o_move rfl) ?_
          refine l_val rfl (o_addi rfl rfl ?_) ?_
          · omega
          refine l_val rfl (o_muli rfl rfl ?_) ?_
          · omega
          refine l_split rfl (o_gtr rfl rfl) (fun hfar => ?_) (fun hfar => ?_)
          · skip
            refine l_val rfl (o_assign rfl) ?_
            refine l_nil ?_
            refine kt_norm ?_
            refine v_sel [2, 3, 4, 7, 8, 9] [3, 4, 8] rfl rfl ?_
            refine v_seq ?_
            refine v_region ?_
            refine l_val rfl (o_loadW (key := 8) rfl rfl rfl) ?_
            refine l_val rfl (o_loadW (key := 8) rfl rfl rfl) ?_
            refine l_ans (vs := [_, _]) rfl rfl (r_Dot _ _ _ _ ?_ ?_ ?_ ?_) ?_
            · omega
            · omega
            · omega
            · omega
            refine l_val rfl (o_muli rfl rfl ?_) ?_
            · omega
            refine l_val rfl (o_move rfl) ?_
            refine l_val rfl (o_move rfl) ?_
            refine l_val rfl (o_muli rfl rfl ?_) ?_
            · omega
            refine l_split rfl (o_leq rfl rfl) (fun hclose => ?_) (fun hclose => ?_)
            · skip
              refine l_val rfl (o_assign rfl) ?_
              refine l_nil ?_
              refine kt_norm ?_
              refine v_sel [3, 4, 7, 9, 10] [3, 4] rfl rfl ?_
              refine v_seq ?_
              refine v_region ?_
              refine l_val rfl (o_assign rfl) ?_
              refine l_nil ?_
              refine kt_norm ?_
              refine v_seq ?_
              refine v_region ?_
              refine l_val rfl (o_assign rfl) ?_
              refine l_nil ?_
              refine kt_norm ?_
              refine v_seq ?_
              refine v_seq ?_
              refine v_region ?_
              refine l_val rfl (o_assign rfl) ?_
              refine l_nil ?_
              refine kt_norm ?_
              refine v_block ?_
              refine v_loopS (α := Nat × Nat) (fun ⟨i, a⟩ => [(13, .int .i64 (i : Int)), (11, .int .i64 (a : Int)), (12, .int .i64 (i : Int))]) (fun ⟨i, a⟩ => [])  (fun ⟨i, a⟩ => i ≤ Q.length ∧ a = (Q.take i).countP (fun pc => leftB pc q)) (fun ⟨i, a⟩ => Q.length - i) (0, 0) [3, 4, 7, 9, 10] [3, 4] ⟨Nat.zero_le _, rfl⟩  (And.intro rfl (And.intro rfl (And.intro rfl (True.intro)))) rfl (True.intro) rfl ?_
              rintro ⟨i, a⟩ ⟨hi, hcnt⟩
              have hai : a ≤ i := by
                rw [hcnt]; have h1 := List.countP_le_length (p := fun pc => leftB pc q) (l := Q.take i); rw [List.length_take] at h1; omega
              refine v_seq ?_
              refine v_seq ?_
              refine v_region ?_
              refine l_val rfl (o_move rfl) ?_
              refine l_val rfl (o_move rfl) ?_
              refine l_val rfl (o_len rfl hVa) ?_
              refine l_split rfl (o_lss rfl rfl) (fun q3 => ?_) (fun q3 => ?_)
              · have hil : i < Q.length := by omega
                have hTi := hT _ (show Q.getD i [] ∈ Q by rw [List.getD_eq_getElem?_getD, List.getElem?_eq_getElem hil]; exact List.getElem_mem hil)
                have hVa1 := xa.2.1.pV i hil
                have hq3 := hTi.1
                have hqc := hTi.2.1
                have hqn := hTi.2.2.2
                have hcs := count_step hil (fun pc => leftB pc q)
                refine l_nil ?_
                refine kt_norm ?_
                refine v_condT rfl ?_
                refine v_skip ?_
                refine kt_norm ?_
                refine v_seq ?_
                refine v_block ?_
                refine v_seq ?_
                refine v_seq ?_
                refine v_drawW [] [[], [], [], [], [4]] mixed ?_ (by kernel_rfl) (by kernel_rfl)
                refine d_val (fun _ => rfl) rfl rfl (fun σ12 => o_move rfl) ?_
                refine d_val (fun _ => rfl) rfl rfl (fun σ12 => o_move rfl) ?_
                refine d_val (fun _ => rfl) rfl rfl (fun σ12 => o_idx (i) rfl hVa rfl (by first | rfl | omega) (by omega)) ?_
                refine d_val (fun _ => rfl) rfl rfl (fun σ12 => o_loadR1 rfl (row_imm (fun w2 hg => by exact (xa.2.2.2 w2 (pcsAt_nil w2) hg.2.1).row)) (el_one (by rw [hla]; exact hil))) ?_
                refine d_val (fun _ => rfl) rfl rfl (fun σ12 => o_loadW (key := 4) rfl rfl rfl) ?_
                refine d_nil (fun σ12 => ?_)
                refine l_call (ks := []) rfl (o_callC (vs := [_, _]) (r := .bool (leftB (Q.getD i []) q)) (ent_of Try.func18 rfl rfl) rfl (fun w' hg hh => a_HasC w' _ (Q.getD i []) q (by omega) hVa1 (by exact (xa.2.2.2 w' (pcsAt_nil w') hg.2.1).pc i hil) hqn hnq hqc rfl)) ?_
                refine lz_cases (fun hlq => ?_) (fun hlq => ?_)
                · skip
                  refine l_nil ?_
                  refine kt_norm ?_
                  refine v_sel [13, 11, 12, 3, 4, 7, 9, 10, 69] [3, 4] rfl rfl ?_
                  refine v_condT rfl ?_
                  refine v_region ?_
                  refine l_val rfl (o_move rfl) ?_
                  refine l_val rfl (o_addi rfl rfl ?_) ?_
                  · omega
                  refine l_val rfl (o_assign rfl) ?_
                  refine l_nil ?_
                  refine kt_norm ?_
                  refine v_seq ?_
                  refine v_drawW [] [[], [], [], [], [3]] mixed ?_ (by kernel_rfl) (by kernel_rfl)
                  refine d_val (fun _ => rfl) rfl rfl (fun σ14 => o_move rfl) ?_
                  refine d_val (fun _ => rfl) rfl rfl (fun σ14 => o_move rfl) ?_
                  refine d_val (fun _ => rfl) rfl rfl (fun σ14 => o_idx (i) rfl hVa rfl (by first | rfl | omega) (by omega)) ?_
                  refine d_val (fun _ => rfl) rfl rfl (fun σ14 => o_loadR1 rfl (row_imm (fun w2 hg => by exact (xa.2.2.2 w2 (pcsAt_nil w2) hg.2.1).row)) (el_one (by rw [hla]; exact hil))) ?_
                  refine d_val (fun _ => rfl) rfl rfl (fun σ14 => o_loadW (key := 3) rfl rfl rfl) ?_
                  refine d_nil (fun σ14 => ?_)
                  refine l_call (ks := []) rfl (o_callC (vs := [_, _]) (r := .bool true) (ent_of Try.func18 rfl rfl) rfl (fun w' hg hh => a_HasC w' _ (Q.getD i []) p (by omega) hVa1 (by exact (xa.2.2.2 w' (pcsAt_nil w') hg.2.1).pc i hil) hqn hnp hqc (tri_has hTi))) ?_
                  refine l_nil ?_
                  refine kt_norm ?_
                  refine v_sel [13, 11, 12, 3, 4, 7, 9, 10, 77] [3, 4] rfl rfl ?_
                  refine v_condT rfl ?_
                  refine v_region ?_
                  refine l_val rfl (o_move rfl) ?_
                  refine l_val rfl (o_addi rfl rfl ?_) ?_
                  · omega
                  refine l_val rfl (o_assign rfl) ?_
                  refine l_nil ?_
                  refine kb_norm ?_
                  refine kt_norm ?_
                  refine v_region ?_
                  refine l_val rfl (o_move rfl) ?_
                  refine l_val rfl (o_addi rfl rfl ?_) ?_
                  · omega
                  refine l_val rfl (o_assign rfl) ?_
                  refine l_nil ?_
                  refine kt_norm ?_
                  refine ⟨(i + 1, a + 1), ⟨hil, by have e := hcs; rw [hlq] at e; rw [e, hcnt]; rfl⟩, (by show Q.length - (i + 1) < Q.length - i; omega), le_app (And.intro rfl (And.intro rfl (And.intro rfl (True.intro)))) [3, 4, 7, 9, 10] rfl (True.intro) [3, 4] rfl⟩
                · skip
                  refine l_nil ?_
                  refine kt_norm ?_
                  refine v_sel [13, 11, 12, 3, 4, 7, 9, 10, 69] [3, 4] rfl rfl ?_
                  refine v_condF rfl ?_
                  refine v_skip ?_
                  refine kt_norm ?_
                  refine v_seq ?_
                  refine v_drawW [] [[], [], [], [], [3]] mixed ?_ (by kernel_rfl) (by kernel_rfl)
                  refine d_val (fun _ => rfl) rfl rfl (fun σ14 => o_move rfl) ?_
                  refine d_val (fun _ => rfl) rfl rfl (fun σ14 => o_move rfl) ?_
                  refine d_val (fun _ => rfl) rfl rfl (fun σ14 => o_idx (i) rfl hVa rfl (by first | rfl | omega) (by omega)) ?_
                  refine d_val (fun _ => rfl) rfl rfl (fun σ14 => o_loadR1 rfl (row_imm (fun w2 hg => by exact (xa.2.2.2 w2 (pcsAt_nil w2) hg.2.1).row)) (el_one (by rw [hla]; exact hil))) ?_
                  refine d_val (fun _ => rfl) rfl rfl (fun σ14 => o_loadW (key := 3) rfl rfl rfl) ?_
                  refine d_nil (fun σ14 => ?_)
                  refine l_call (ks := []) rfl (o_callC (vs := [_, _]) (r := .bool true) (ent_of Try.func18 rfl rfl) rfl (fun w' hg hh => a_HasC w' _ (Q.getD i []) p (by omega) hVa1 (by exact (xa.2.2.2 w' (pcsAt_nil w') hg.2.1).pc i hil) hqn hnp hqc (tri_has hTi))) ?_
                  refine l_nil ?_
                  refine kt_norm ?_
                  refine v_sel [13, 11, 12, 3, 4, 7, 9, 10, 77] [3, 4] rfl rfl ?_
                  refine v_condT rfl ?_
                  refine v_region ?_
                  refine l_val rfl (o_move rfl) ?_
                  refine l_val rfl (o_addi rfl rfl ?_) ?_
                  · omega
                  refine l_val rfl (o_assign rfl) ?_
                  refine l_nil ?_
                  refine kb_norm ?_
                  refine kt_norm ?_
                  refine v_region ?_
                  refine l_val rfl (o_move rfl) ?_
                  refine l_val rfl (o_addi rfl rfl ?_) ?_
                  · omega
                  refine l_val rfl (o_assign rfl) ?_
                  refine l_nil ?_
                  refine kt_norm ?_
                  refine ⟨(i + 1, a), ⟨hil, by have e := hcs; rw [hlq] at e; rw [e, hcnt]; rfl⟩, (by show Q.length - (i + 1) < Q.length - i; omega), le_app (And.intro rfl (And.intro rfl (And.intro rfl (True.intro)))) [3, 4, 7, 9, 10] rfl (True.intro) [3, 4] rfl⟩
              · skip
                refine l_nil ?_
                refine kt_norm ?_
                refine v_condF rfl ?_
                refine v_exit ?_
                refine kt_exit ?_
                refine kt_exit ?_
                refine kb_eq ?_
                refine kt_norm ?_
                refine v_sel [11, 12, 7, 9, 10] [] rfl rfl ?_
                refine v_seq ?_
                refine v_region ?_
                obtain rfl : i = Q.length := by omega
                rw [List.take_length] at hcnt
                have hfz := disc_far (p := p) (q := q) hgr hfar
                rw [hQ] at hfz
                have hnz := disc_near (p := p) (q := q) hgr hclose
                rw [hQ] at hnz
                refine l_val rfl (o_move rfl) ?_
                refine l_val rfl (o_move rfl) ?_
                refine l_val rfl (o_len rfl hVa) ?_
                refine l_split rfl (o_eql rfl rfl) (fun q4 => ?_) (fun q4 => absurd (show _ by omega) q4)
                refine l_val rfl (o_move rfl) ?_
                refine l_val rfl (o_move rfl) ?_
                refine l_val rfl (o_len rfl hVa) ?_
                refine l_split rfl (o_geq rfl rfl) (fun q5 => ?_) (fun q5 => absurd (show _ by omega) q5)
                refine l_val rfl (o_pickT rfl rfl) ?_
                refine l_val rfl (o_move rfl) ?_
                refine l_val rfl (o_move rfl) ?_
                refine l_val rfl (o_not rfl rfl) ?_
                refine l_val rfl (o_move rfl) ?_
                refine l_val rfl (o_move rfl) ?_
                refine l_split rfl (o_eql rfl rfl) (fun q6 => ?_) (fun q6 => absurd (show _ by omega) q6)
                refine l_val rfl (o_pickF rfl rfl) ?_
                refine l_val rfl (o_pickT rfl rfl) ?_
                refine l_val rfl (o_move rfl) ?_
                refine l_val rfl (o_move rfl) ?_
                refine l_val rfl (o_not rfl rfl) ?_
                refine l_val rfl (o_move rfl) ?_
                refine l_val rfl (o_move rfl) ?_
                refine l_split rfl (o_geq rfl rfl) (fun q7 => ?_) (fun q7 => absurd (show _ by omega) q7)
                refine l_val rfl (o_pickF rfl rfl) ?_
                refine l_val rfl (o_pickT rfl rfl) ?_
                refine l_val rfl (o_assign rfl) ?_
                refine l_nil ?_
                refine kt_norm ?_
                refine v_sel [6] [] rfl rfl ?_
                refine v_ret ?_
                refine ⟨[_], .cons (.tmp rfl) (ResAll.nil), ?_⟩
                rfl
            · skip
              refine l_val rfl (o_assign rfl) ?_
              refine l_nil ?_
              refine kt_norm ?_
              refine v_sel [3, 4, 7, 9, 10] [3, 4] rfl rfl ?_
              refine v_seq ?_
              refine v_region ?_
              refine l_val rfl (o_assign rfl) ?_
              refine l_nil ?_
              refine kt_norm ?_
              refine v_seq ?_
              refine v_region ?_
              refine l_val rfl (o_assign rfl) ?_
              refine l_nil ?_
              refine kt_norm ?_
              refine v_seq ?_
              refine v_seq ?_
              refine v_region ?_
              refine l_val rfl (o_assign rfl) ?_
              refine l_nil ?_
              refine kt_norm ?_
              refine v_block ?_
              refine v_loopS (α := Nat × Nat) (fun ⟨i, a⟩ => [(13, .int .i64 (i : Int)), (11, .int .i64 (a : Int)), (12, .int .i64 (i : Int))]) (fun ⟨i, a⟩ => [])  (fun ⟨i, a⟩ => i ≤ Q.length ∧ a = (Q.take i).countP (fun pc => leftB pc q)) (fun ⟨i, a⟩ => Q.length - i) (0, 0) [3, 4, 7, 9, 10] [3, 4] ⟨Nat.zero_le _, rfl⟩  (And.intro rfl (And.intro rfl (And.intro rfl (True.intro)))) rfl (True.intro) rfl ?_
              rintro ⟨i, a⟩ ⟨hi, hcnt⟩
              have hai : a ≤ i := by
                rw [hcnt]; have h1 := List.countP_le_length (p := fun pc => leftB pc q) (l := Q.take i); rw [List.length_take] at h1; omega
              refine v_seq ?_
              refine v_seq ?_
              refine v_region ?_
              refine l_val rfl (o_move rfl) ?_
              refine l_val rfl (o_move rfl) ?_
              refine l_val rfl (o_len rfl hVa) ?_
              refine l_split rfl (o_lss rfl rfl) (fun q8 => ?_) (fun q8 => ?_)
              · have hil : i < Q.length := by omega
                have hTi := hT _ (show Q.getD i [] ∈ Q by rw [List.getD_eq_getElem?_getD, List.getElem?_eq_getElem hil]; exact List.getElem_mem hil)
                have hVa1 := xa.2.1.pV i hil
                have hq3 := hTi.1
                have hqc := hTi.2.1
                have hqn := hTi.2.2.2
                have hcs := count_step hil (fun pc => leftB pc q)
                refine l_nil ?_
                refine kt_norm ?_
                refine v_condT rfl ?_
                refine v_skip ?_
                refine kt_norm ?_
                refine v_seq ?_
                refine v_block ?_
                refine v_seq ?_
                refine v_seq ?_
                refine v_drawW [] [[], [], [], [], [4]] mixed ?_ (by kernel_rfl) (by kernel_rfl)
                refine d_val (fun _ => rfl) rfl rfl (fun σ12 => o_move rfl) ?_
                refine d_val (fun _ => rfl) rfl rfl (fun σ12 => o_move rfl) ?_
                refine d_val (fun _ => rfl) rfl rfl (fun σ12 => o_idx (i) rfl hVa rfl (by first | rfl | omega) (by omega)) ?_
                refine d_val (fun _ => rfl) rfl rfl (fun σ12 => o_loadR1 rfl (row_imm (fun w2 hg => by exact (xa.2.2.2 w2 (pcsAt_nil w2) hg.2.1).row)) (el_one (by rw [hla]; exact hil))) ?_
                refine d_val (fun _ => rfl) rfl rfl (fun σ12 => o_loadW (key := 4) rfl rfl rfl) ?_
                refine d_nil (fun σ12 => ?_)
                refine l_call (ks := []) rfl (o_callC (vs := [_, _]) (r := .bool (leftB (Q.getD i []) q)) (ent_of Try.func18 rfl rfl) rfl (fun w' hg hh => a_HasC w' _ (Q.getD i []) q (by omega) hVa1 (by exact (xa.2.2.2 w' (pcsAt_nil w') hg.2.1).pc i hil) hqn hnq hqc rfl)) ?_
                refine lz_cases (fun hlq => ?_) (fun hlq => ?_)
                · skip
                  refine l_nil ?_
                  refine kt_norm ?_
                  refine v_sel [13, 11, 12, 3, 4, 7, 9, 10, 69] [3, 4] rfl rfl ?_
                  refine v_condT rfl ?_
                  refine v_region ?_
                  refine l_val rfl (o_move rfl) ?_
                  refine l_val rfl (o_addi rfl rfl ?_) ?_
                  · omega
                  refine l_val rfl (o_assign rfl) ?_
                  refine l_nil ?_
                  refine kt_norm ?_
                  refine v_seq ?_
                  refine v_drawW [] [[], [], [], [], [3]] mixed ?_ (by kernel_rfl) (by kernel_rfl)
                  refine d_val (fun _ => rfl) rfl rfl (fun σ14 => o_move rfl) ?_
                  refine d_val (fun _ => rfl) rfl rfl (fun σ14 => o_move rfl) ?_
                  refine d_val (fun _ => rfl) rfl rfl (fun σ14 => o_idx (i) rfl hVa rfl (by first | rfl | omega) (by omega)) ?_
                  refine d_val (fun _ => rfl) rfl rfl (fun σ14 => o_loadR1 rfl (row_imm (fun w2 hg => by exact (xa.2.2.2 w2 (pcsAt_nil w2) hg.2.1).row)) (el_one (by rw [hla]; exact hil))) ?_
                  refine d_val (fun _ => rfl) rfl rfl (fun σ14 => o_loadW (key := 3) rfl rfl rfl) ?_
                  refine d_nil (fun σ14 => ?_)
                  refine l_call (ks := []) rfl (o_callC (vs := [_, _]) (r := .bool true) (ent_of Try.func18 rfl rfl) rfl (fun w' hg hh => a_HasC w' _ (Q.getD i []) p (by omega) hVa1 (by exact (xa.2.2.2 w' (pcsAt_nil w') hg.2.1).pc i hil) hqn hnp hqc (tri_has hTi))) ?_
                  refine l_nil ?_
                  refine kt_norm ?_
                  refine v_sel [13, 11, 12, 3, 4, 7, 9, 10, 77] [3, 4] rfl rfl ?_
                  refine v_condT rfl ?_
                  refine v_region ?_
                  refine l_val rfl (o_move rfl) ?_
                  refine l_val rfl (o_addi rfl rfl ?_) ?_
                  · omega
                  refine l_val rfl (o_assign rfl) ?_
                  refine l_nil ?_
                  refine kb_norm ?_
                  refine kt_norm ?_
                  refine v_region ?_
                  refine l_val rfl (o_move rfl) ?_
                  refine l_val rfl (o_addi rfl rfl ?_) ?_
                  · omega
                  refine l_val rfl (o_assign rfl) ?_
                  refine l_nil ?_
                  refine kt_norm ?_
                  refine ⟨(i + 1, a + 1), ⟨hil, by have e := hcs; rw [hlq] at e; rw [e, hcnt]; rfl⟩, (by show Q.length - (i + 1) < Q.length - i; omega), le_app (And.intro rfl (And.intro rfl (And.intro rfl (True.intro)))) [3, 4, 7, 9, 10] rfl (True.intro) [3, 4] rfl⟩
                · skip
                  refine l_nil ?_
                  refine kt_norm ?_
                  refine v_sel [13, 11, 12, 3, 4, 7, 9, 10, 69] [3, 4] rfl rfl ?_
                  refine v_condF rfl ?_
                  refine v_skip ?_
                  refine kt_norm ?_
                  refine v_seq ?_
                  refine v_drawW [] [[], [], [], [], [3]] mixed ?_ (by kernel_rfl) (by kernel_rfl)
                  refine d_val (fun _ => rfl) rfl rfl (fun σ14 => o_move rfl) ?_
                  refine d_val (fun _ => rfl) rfl rfl (fun σ14 => o_move rfl) ?_
                  refine d_val (fun _ => rfl) rfl rfl (fun σ14 => o_idx (i) rfl hVa rfl (by first | rfl | omega) (by omega)) ?_
                  refine d_val (fun _ => rfl) rfl rfl (fun σ14 => o_loadR1 rfl (row_imm (fun w2 hg => by exact (xa.2.2.2 w2 (pcsAt_nil w2) hg.2.1).row)) (el_one (by rw [hla]; exact hil))) ?_
                  refine d_val (fun _ => rfl) rfl rfl (fun σ14 => o_loadW (key := 3) rfl rfl rfl) ?_
                  refine d_nil (fun σ14 => ?_)
                  refine l_call (ks := []) rfl (o_callC (vs := [_, _]) (r := .bool true) (ent_of Try.func18 rfl rfl) rfl (fun w' hg hh => a_HasC w' _ (Q.getD i []) p (by omega) hVa1 (by exact (xa.2.2.2 w' (pcsAt_nil w') hg.2.1).pc i hil) hqn hnp hqc (tri_has hTi))) ?_
                  refine l_nil ?_
                  refine kt_norm ?_
                  refine v_sel [13, 11, 12, 3, 4, 7, 9, 10, 77] [3, 4] rfl rfl ?_
                  refine v_condT rfl ?_
                  refine v_region ?_
                  refine l_val rfl (o_move rfl) ?_
                  refine l_val rfl (o_addi rfl rfl ?_) ?_
                  · omega
                  refine l_val rfl (o_assign rfl) ?_
                  refine l_nil ?_
                  refine kb_norm ?_
                  refine kt_norm ?_
                  refine v_region ?_
                  refine l_val rfl (o_move rfl) ?_
                  refine l_val rfl (o_addi rfl rfl ?_) ?_
                  · omega
                  refine l_val rfl (o_assign rfl) ?_
                  refine l_nil ?_
                  refine kt_norm ?_
                  refine ⟨(i + 1, a), ⟨hil, by have e := hcs; rw [hlq] at e; rw [e, hcnt]; rfl⟩, (by show Q.length - (i + 1) < Q.length - i; omega), le_app (And.intro rfl (And.intro rfl (And.intro rfl (True.intro)))) [3, 4, 7, 9, 10] rfl (True.intro) [3, 4] rfl⟩
              · skip
                refine l_nil ?_
                refine kt_norm ?_
                refine v_condF rfl ?_
                refine v_exit ?_
                refine kt_exit ?_
                refine kt_exit ?_
                refine kb_eq ?_
                refine kt_norm ?_
                refine v_sel [11, 12, 7, 9, 10] [] rfl rfl ?_
                refine v_seq ?_
                refine v_region ?_
                obtain rfl : i = Q.length := by omega
                rw [List.take_length] at hcnt
                have hfz := disc_far (p := p) (q := q) hgr hfar
                rw [hQ] at hfz
                refine l_val rfl (o_move rfl) ?_
                refine l_val rfl (o_move rfl) ?_
                refine l_val rfl (o_len rfl hVa) ?_
                refine l_split rfl (o_eql rfl rfl) (fun q9 => ?_) (fun q9 => absurd (show _ by omega) q9)
                refine l_val rfl (o_move rfl) ?_
                refine l_val rfl (o_move rfl) ?_
                refine l_val rfl (o_len rfl hVa) ?_
                refine l_split rfl (o_geq rfl rfl) (fun q10 => ?_) (fun q10 => absurd (show _ by omega) q10)
                refine l_val rfl (o_pickT rfl rfl) ?_
                refine l_val rfl (o_move rfl) ?_
                refine l_val rfl (o_move rfl) ?_
                refine l_val rfl (o_not rfl rfl) ?_
                refine l_val rfl (o_move rfl) ?_
                refine l_val rfl (o_move rfl) ?_
                refine l_split rfl (o_eql rfl rfl) (fun q11 => ?_) (fun q11 => absurd (show _ by omega) q11)
                refine l_val rfl (o_pickF rfl rfl) ?_
                refine l_val rfl (o_pickT rfl rfl) ?_
                refine l_val rfl (o_move rfl) ?_
                refine l_val rfl (o_move rfl) ?_
                refine l_val rfl (o_not rfl rfl) ?_
                refine l_val rfl (o_move rfl) ?_
                refine l_no rfl ?_
                refine l_no rfl ?_
                refine l_val rfl (o_pickT rfl rfl) ?_
                refine l_val rfl (o_pickT rfl rfl) ?_
                refine l_val rfl (o_assign rfl) ?_
                refine l_nil ?_
                refine kt_norm ?_
                refine v_sel [6] [] rfl rfl ?_
                refine v_ret ?_
                refine ⟨[_], .cons (.tmp rfl) (ResAll.nil), ?_⟩
                rfl
          · skip
            refine l_val rfl (o_assign rfl) ?_
            refine l_nil ?_
            refine kt_norm ?_
            refine v_sel [2, 3, 4, 7, 8, 9] [3, 4, 8] rfl rfl ?_
            refine v_seq ?_
            refine v_region ?_
            refine l_val rfl (o_loadW (key := 8) rfl rfl rfl) ?_
            refine l_val rfl (o_loadW (key := 8) rfl rfl rfl) ?_
            refine l_ans (vs := [_, _]) rfl rfl (r_Dot _ _ _ _ ?_ ?_ ?_ ?_) ?_
            · omega
            · omega
            · omega
            · omega
            refine l_val rfl (o_muli rfl rfl ?_) ?_
            · omega
            refine l_val rfl (o_move rfl) ?_
            refine l_val rfl (o_move rfl) ?_
            refine l_val rfl (o_muli rfl rfl ?_) ?_
            · omega
            refine l_split rfl (o_leq rfl rfl) (fun hclose => ?_) (fun hclose => ?_)
            · skip
              refine l_val rfl (o_assign rfl) ?_
              refine l_nil ?_
              refine kt_norm ?_
              refine v_sel [3, 4, 7, 9, 10] [3, 4] rfl rfl ?_
              refine v_seq ?_
              refine v_region ?_
              refine l_val rfl (o_assign rfl) ?_
              refine l_nil ?_
              refine kt_norm ?_
              refine v_seq ?_
              refine v_region ?_
              refine l_val rfl (o_assign rfl) ?_
              refine l_nil ?_
              refine kt_norm ?_
              refine v_seq ?_
              refine v_seq ?_
              refine v_region ?_
              refine l_val rfl (o_assign rfl) ?_
              refine l_nil ?_
              refine kt_norm ?_
              refine v_block ?_
              refine v_loopS (α := Nat × Nat) (fun ⟨i, a⟩ => [(13, .int .i64 (i : Int)), (11, .int .i64 (a : Int)), (12, .int .i64 (i : Int))]) (fun ⟨i, a⟩ => [])  (fun ⟨i, a⟩ => i ≤ Q.length ∧ a = (Q.take i).countP (fun pc => leftB pc q)) (fun ⟨i, a⟩ => Q.length - i) (0, 0) [3, 4, 7, 9, 10] [3, 4] ⟨Nat.zero_le _, rfl⟩  (And.intro rfl (And.intro rfl (And.intro rfl (True.intro)))) rfl (True.intro) rfl ?_
              rintro ⟨i, a⟩ ⟨hi, hcnt⟩
              have hai : a ≤ i := by
                rw [hcnt]; have h1 := List.countP_le_length (p := fun pc => leftB pc q) (l := Q.take i); rw [List.length_take] at h1; omega
              refine v_seq ?_
              refine v_seq ?_
              refine v_region ?_
              refine l_val rfl (o_move rfl) ?_
              refine l_val rfl (o_move rfl) ?_
              refine l_val rfl (o_len rfl hVa) ?_
              refine l_split rfl (o_lss rfl rfl) (fun q12 => ?_) (fun q12 => ?_)
              · have hil : i < Q.length := by omega
                have hTi := hT _ (show Q.getD i [] ∈ Q by rw [List.getD_eq_getElem?_getD, List.getElem?_eq_getElem hil]; exact List.getElem_mem hil)
                have hVa1 := xa.2.1.pV i hil
                have hq3 := hTi.1
                have hqc := hTi.2.1
                have hqn := hTi.2.2.2
                have hcs := count_step hil (fun pc => leftB pc q)
                refine l_nil ?_
                refine kt_norm ?_
                refine v_condT rfl ?_
                refine v_skip ?_
                refine kt_norm ?_
                refine v_seq ?_
                refine v_block ?_
                refine v_seq ?_
                refine v_seq ?_
                refine v_drawW [] [[], [], [], [], [4]] mixed ?_ (by kernel_rfl) (by kernel_rfl)
                refine d_val (fun _ => rfl) rfl rfl (fun σ12 => o_move rfl) ?_
                refine d_val (fun _ => rfl) rfl rfl (fun σ12 => o_move rfl) ?_
                refine d_val (fun _ => rfl) rfl rfl (fun σ12 => o_idx (i) rfl hVa rfl (by first | rfl | omega) (by omega)) ?_
                refine d_val (fun _ => rfl) rfl rfl (fun σ12 => o_loadR1 rfl (row_imm (fun w2 hg => by exact (xa.2.2.2 w2 (pcsAt_nil w2) hg.2.1).row)) (el_one (by rw [hla]; exact hil))) ?_
                refine d_val (fun _ => rfl) rfl rfl (fun σ12 => o_loadW (key := 4) rfl rfl rfl) ?_
                refine d_nil (fun σ12 => ?_)
                refine l_call (ks := []) rfl (o_callC (vs := [_, _]) (r := .bool (leftB (Q.getD i []) q)) (ent_of Try.func18 rfl rfl) rfl (fun w' hg hh => a_HasC w' _ (Q.getD i []) q (by omega) hVa1 (by exact (xa.2.2.2 w' (pcsAt_nil w') hg.2.1).pc i hil) hqn hnq hqc rfl)) ?_
                refine lz_cases (fun hlq => ?_) (fun hlq => ?_)
                · skip
                  refine l_nil ?_
                  refine kt_norm ?_
                  refine v_sel [13, 11, 12, 3, 4, 7, 9, 10, 69] [3, 4] rfl rfl ?_
                  refine v_condT rfl ?_
                  refine v_region ?_
                  refine l_val rfl (o_move rfl) ?_
                  refine l_val rfl (o_addi rfl rfl ?_) ?_
                  · omega
                  refine l_val rfl (o_assign rfl) ?_
                  refine l_nil ?_
                  refine kt_norm ?_
                  refine v_seq ?_
                  refine v_drawW [] [[], [], [], [], [3]] mixed ?_ (by kernel_rfl) (by kernel_rfl)
                  refine d_val (fun _ => rfl) rfl rfl (fun σ14 => o_move rfl) ?_
                  refine d_val (fun _ => rfl) rfl rfl (fun σ14 => o_move rfl) ?_
                  refine d_val (fun _ => rfl) rfl rfl (fun σ14 => o_idx (i) rfl hVa rfl (by first | rfl | omega) (by omega)) ?_
                  refine d_val (fun _ => rfl) rfl rfl (fun σ14 => o_loadR1 rfl (row_imm (fun w2 hg => by exact (xa.2.2.2 w2 (pcsAt_nil w2) hg.2.1).row)) (el_one (by rw [hla]; exact hil))) ?_
                  refine d_val (fun _ => rfl) rfl rfl (fun σ14 => o_loadW (key := 3) rfl rfl rfl) ?_
                  refine d_nil (fun σ14 => ?_)
                  refine l_call (ks := []) rfl (o_callC (vs := [_, _]) (r := .bool true) (ent_of Try.func18 rfl rfl) rfl (fun w' hg hh => a_HasC w' _ (Q.getD i []) p (by omega) hVa1 (by exact (xa.2.2.2 w' (pcsAt_nil w') hg.2.1).pc i hil) hqn hnp hqc (tri_has hTi))) ?_
                  refine l_nil ?_
                  refine kt_norm ?_
                  refine v_sel [13, 11, 12, 3, 4, 7, 9, 10, 77] [3, 4] rfl rfl ?_
                  refine v_condT rfl ?_
                  refine v_region ?_
                  refine l_val rfl (o_move rfl) ?_
                  refine l_val rfl (o_addi rfl rfl ?_) ?_
                  · omega
                  refine l_val rfl (o_assign rfl) ?_
                  refine l_nil ?_
                  refine kb_norm ?_
                  refine kt_norm ?_
                  refine v_region ?_
                  refine l_val rfl (o_move rfl) ?_
                  refine l_val rfl (o_addi rfl rfl ?_) ?_
                  · omega
                  refine l_val rfl (o_assign rfl) ?_
                  refine l_nil ?_
                  refine kt_norm ?_
                  refine ⟨(i + 1, a + 1), ⟨hil, by have e := hcs; rw [hlq] at e; rw [e, hcnt]; rfl⟩, (by show Q.length - (i + 1) < Q.length - i; omega), le_app (And.intro rfl (And.intro rfl (And.intro rfl (True.intro)))) [3, 4, 7, 9, 10] rfl (True.intro) [3, 4] rfl⟩
                · skip
                  refine l_nil ?_
                  refine kt_norm ?_
                  refine v_sel [13, 11, 12, 3, 4, 7, 9, 10, 69] [3, 4] rfl rfl ?_
                  refine v_condF rfl ?_
                  refine v_skip ?_
                  refine kt_norm ?_
                  refine v_seq ?_
                  refine v_drawW [] [[], [], [], [], [3]] mixed ?_ (by kernel_rfl) (by kernel_rfl)
                  refine d_val (fun _ => rfl) rfl rfl (fun σ14 => o_move rfl) ?_
                  refine d_val (fun _ => rfl) rfl rfl (fun σ14 => o_move rfl) ?_
                  refine d_val (fun _ => rfl) rfl rfl (fun σ14 => o_idx (i) rfl hVa rfl (by first | rfl | omega) (by omega)) ?_
                  refine d_val (fun _ => rfl) rfl rfl (fun σ14 => o_loadR1 rfl (row_imm (fun w2 hg => by exact (xa.2.2.2 w2 (pcsAt_nil w2) hg.2.1).row)) (el_one (by rw [hla]; exact hil))) ?_
                  refine d_val (fun _ => rfl) rfl rfl (fun σ14 => o_loadW (key := 3) rfl rfl rfl) ?_
                  refine d_nil (fun σ14 => ?_)
                  refine l_call (ks := []) rfl (o_callC (vs := [_, _]) (r := .bool true) (ent_of Try.func18 rfl rfl) rfl (fun w' hg hh => a_HasC w' _ (Q.getD i []) p (by omega) hVa1 (by exact (xa.2.2.2 w' (pcsAt_nil w') hg.2.1).pc i hil) hqn hnp hqc (tri_has hTi))) ?_
                  refine l_nil ?_
                  refine kt_norm ?_
                  refine v_sel [13, 11, 12, 3, 4, 7, 9, 10, 77] [3, 4] rfl rfl ?_
                  refine v_condT rfl ?_
                  refine v_region ?_
                  refine l_val rfl (o_move rfl) ?_
                  refine l_val rfl (o_addi rfl rfl ?_) ?_
                  · omega
                  refine l_val rfl (o_assign rfl) ?_
                  refine l_nil ?_
                  refine kb_norm ?_
                  refine kt_norm ?_
                  refine v_region ?_
                  refine l_val rfl (o_move rfl) ?_
                  refine l_val rfl (o_addi rfl rfl ?_) ?_
                  · omega
                  refine l_val rfl (o_assign rfl) ?_
                  refine l_nil ?_
                  refine kt_norm ?_
                  refine ⟨(i + 1, a), ⟨hil, by have e := hcs; rw [hlq] at e; rw [e, hcnt]; rfl⟩, (by show Q.length - (i + 1) < Q.length - i; omega), le_app (And.intro rfl (And.intro rfl (And.intro rfl (True.intro)))) [3, 4, 7, 9, 10] rfl (True.intro) [3, 4] rfl⟩
              · skip
                refine l_nil ?_
                refine kt_norm ?_
                refine v_condF rfl ?_
                refine v_exit ?_
                refine kt_exit ?_
                refine kt_exit ?_
                refine kb_eq ?_
                refine kt_norm ?_
                refine v_sel [11, 12, 7, 9, 10] [] rfl rfl ?_
                refine v_seq ?_
                refine v_region ?_
                obtain rfl : i = Q.length := by omega
                rw [List.take_length] at hcnt
                have hnz := disc_near (p := p) (q := q) hgr hclose
                rw [hQ] at hnz
                refine l_val rfl (o_move rfl) ?_
                refine l_val rfl (o_move rfl) ?_
                refine l_val rfl (o_len rfl hVa) ?_
                refine l_split rfl (o_eql rfl rfl) (fun q13 => ?_) (fun q13 => absurd (show _ by omega) q13)
                refine l_val rfl (o_move rfl) ?_
                refine l_val rfl (o_move rfl) ?_
                refine l_val rfl (o_len rfl hVa) ?_
                refine l_split rfl (o_geq rfl rfl) (fun q14 => ?_) (fun q14 => absurd (show _ by omega) q14)
                refine l_val rfl (o_pickT rfl rfl) ?_
                refine l_val rfl (o_move rfl) ?_
                refine l_val rfl (o_move rfl) ?_
                refine l_val rfl (o_not rfl rfl) ?_
                refine l_val rfl (o_move rfl) ?_
                refine l_no rfl ?_
                refine l_no rfl ?_
                refine l_val rfl (o_pickT rfl rfl) ?_
                refine l_val rfl (o_pickT rfl rfl) ?_
                refine l_val rfl (o_move rfl) ?_
                refine l_val rfl (o_move rfl) ?_
                refine l_val rfl (o_not rfl rfl) ?_
                refine l_val rfl (o_move rfl) ?_
                refine l_val rfl (o_move rfl) ?_
                refine l_split rfl (o_geq rfl rfl) (fun q15 => ?_) (fun q15 => absurd (show _ by omega) q15)
                refine l_val rfl (o_pickF rfl rfl) ?_
                refine l_val rfl (o_pickT rfl rfl) ?_
                refine l_val rfl (o_assign rfl) ?_
                refine l_nil ?_
                refine kt_norm ?_
                refine v_sel [6] [] rfl rfl ?_
                refine v_ret ?_
                refine ⟨[_], .cons (.tmp rfl) (ResAll.nil), ?_⟩
                rfl
            · skip
              refine l_val rfl (o_assign rfl) ?_
              refine l_nil ?_
              refine kt_norm ?_
              refine v_sel [3, 4, 7, 9, 10] [3, 4] rfl rfl ?_
              refine v_seq ?_
              refine v_region ?_
              refine l_val rfl (o_assign rfl) ?_
              refine l_nil ?_
              refine kt_norm ?_
              refine v_seq ?_
              refine v_region ?_
              refine l_val rfl (o_assign rfl) ?_
              refine l_nil ?_
              refine kt_norm ?_
              refine v_seq ?_
              refine v_seq ?_
              refine v_region ?_
              refine l_val rfl (o_assign rfl) ?_
              refine l_nil ?_
              refine kt_norm ?_
              refine v_block ?_
              refine v_loopS (α := Nat × Nat) (fun ⟨i, a⟩ => [(13, .int .i64 (i : Int)), (11, .int .i64 (a : Int)), (12, .int .i64 (i : Int))]) (fun ⟨i, a⟩ => [])  (fun ⟨i, a⟩ => i ≤ Q.length ∧ a = (Q.take i).countP (fun pc => leftB pc q)) (fun ⟨i, a⟩ => Q.length - i) (0, 0) [3, 4, 7, 9, 10] [3, 4] ⟨Nat.zero_le _, rfl⟩  (And.intro rfl (And.intro rfl (And.intro rfl (True.intro)))) rfl (True.intro) rfl ?_
              rintro ⟨i, a⟩ ⟨hi, hcnt⟩
              have hai : a ≤ i := by
                rw [hcnt]; have h1 := List.countP_le_length (p := fun pc => leftB pc q) (l := Q.take i); rw [List.length_take] at h1; omega
              refine v_seq ?_
              refine v_seq ?_
              refine v_region ?_
              refine l_val rfl (o_move rfl) ?_
              refine l_val rfl (o_move rfl) ?_
              refine l_val rfl (o_len rfl hVa) ?_
              refine l_split rfl (o_lss rfl rfl) (fun q16 => ?_) (fun q16 => ?_)
              · have hil : i < Q.length := by omega
                have hTi := hT _ (show Q.getD i [] ∈ Q by rw [List.getD_eq_getElem?_getD, List.getElem?_eq_getElem hil]; exact List.getElem_mem hil)
                have hVa1 := xa.2.1.pV i hil
                have hq3 := hTi.1
                have hqc := hTi.2.1
                have hqn := hTi.2.2.2
                have hcs := count_step hil (fun pc => leftB pc q)
                refine l_nil ?_
                refine kt_norm ?_
                refine v_condT rfl ?_
                refine v_skip ?_
                refine kt_norm ?_
                refine v_seq ?_
                refine v_block ?_
                refine v_seq ?_
                refine v_seq ?_
                refine v_drawW [] [[], [], [], [], [4]] mixed ?_ (by kernel_rfl) (by kernel_rfl)
                refine d_val (fun _ => rfl) rfl rfl (fun σ12 => o_move rfl) ?_
                refine d_val (fun _ => rfl) rfl rfl (fun σ12 => o_move rfl) ?_
                refine d_val (fun _ => rfl) rfl rfl (fun σ12 => o_idx (i) rfl hVa rfl (by first | rfl | omega) (by omega)) ?_
                refine d_val (fun _ => rfl) rfl rfl (fun σ12 => o_loadR1 rfl (row_imm (fun w2 hg => by exact (xa.2.2.2 w2 (pcsAt_nil w2) hg.2.1).row)) (el_one (by rw [hla]; exact hil))) ?_
                refine d_val (fun _ => rfl) rfl rfl (fun σ12 => o_loadW (key := 4) rfl rfl rfl) ?_
                refine d_nil (fun σ12 => ?_)
                refine l_call (ks := []) rfl (o_callC (vs := [_, _]) (r := .bool (leftB (Q.getD i []) q)) (ent_of Try.func18 rfl rfl) rfl (fun w' hg hh => a_HasC w' _ (Q.getD i []) q (by omega) hVa1 (by exact (xa.2.2.2 w' (pcsAt_nil w') hg.2.1).pc i hil) hqn hnq hqc rfl)) ?_
                refine lz_cases (fun hlq => ?_) (fun hlq => ?_)
                · skip
                  refine l_nil ?_
                  refine kt_norm ?_
                  refine v_sel [13, 11, 12, 3, 4, 7, 9, 10, 69] [3, 4] rfl rfl ?_
                  refine v_condT rfl ?_
                  refine v_region ?_
                  refine l_val rfl (o_move rfl) ?_
                  refine l_val rfl (o_addi rfl rfl ?_) ?_
                  · omega
                  refine l_val rfl (o_assign rfl) ?_
                  refine l_nil ?_
                  refine kt_norm ?_
                  refine v_seq ?_
                  refine v_drawW [] [[], [], [], [], [3]] mixed ?_ (by kernel_rfl) (by kernel_rfl)
                  refine d_val (fun _ => rfl) rfl rfl (fun σ14 => o_move rfl) ?_
                  refine d_val (fun _ => rfl) rfl rfl (fun σ14 => o_move rfl) ?_
                  refine d_val (fun _ => rfl) rfl rfl (fun σ14 => o_idx (i) rfl hVa rfl (by first | rfl | omega) (by omega)) ?_
                  refine d_val (fun _ => rfl) rfl rfl (fun σ14 => o_loadR1 rfl (row_imm (fun w2 hg => by exact (xa.2.2.2 w2 (pcsAt_nil w2) hg.2.1).row)) (el_one (by rw [hla]; exact hil))) ?_
                  refine d_val (fun _ => rfl) rfl rfl (fun σ14 => o_loadW (key := 3) rfl rfl rfl) ?_
                  refine d_nil (fun σ14 => ?_)
                  refine l_call (ks := []) rfl (o_callC (vs := [_, _]) (r := .bool true) (ent_of Try.func18 rfl rfl) rfl (fun w' hg hh => a_HasC w' _ (Q.getD i []) p (by omega) hVa1 (by exact (xa.2.2.2 w' (pcsAt_nil w') hg.2.1).pc i hil) hqn hnp hqc (tri_has hTi))) ?_
                  refine l_nil ?_
                  refine kt_norm ?_
                  refine v_sel [13, 11, 12, 3, 4, 7, 9, 10, 77] [3, 4] rfl rfl ?_
                  refine v_condT rfl ?_
                  refine v_region ?_
                  refine l_val rfl (o_move rfl) ?_
                  refine l_val rfl (o_addi rfl rfl ?_) ?_
                  · omega
                  refine l_val rfl (o_assign rfl) ?_
                  refine l_nil ?_
                  refine kb_norm ?_
                  refine kt_norm ?_
                  refine v_region ?_
                  refine l_val rfl (o_move rfl) ?_
                  refine l_val rfl (o_addi rfl rfl ?_) ?_
                  · omega
                  refine l_val rfl (o_assign rfl) ?_
                  refine l_nil ?_
                  refine kt_norm ?_
                  refine ⟨(i + 1, a + 1), ⟨hil, by have e := hcs; rw [hlq] at e; rw [e, hcnt]; rfl⟩, (by show Q.length - (i + 1) < Q.length - i; omega), le_app (And.intro rfl (And.intro rfl (And.intro rfl (True.intro)))) [3, 4, 7, 9, 10] rfl (True.intro) [3, 4] rfl⟩
                · skip
                  refine l_nil ?_
                  refine kt_norm ?_
                  refine v_sel [13, 11, 12, 3, 4, 7, 9, 10, 69] [3, 4] rfl rfl ?_
                  refine v_condF rfl ?_
                  refine v_skip ?_
                  refine kt_norm ?_
                  refine v_seq ?_
                  refine v_drawW [] [[], [], [], [], [3]] mixed ?_ (by kernel_rfl) (by kernel_rfl)
                  refine d_val (fun _ => rfl) rfl rfl (fun σ14 => o_move rfl) ?_
                  refine d_val (fun _ => rfl) rfl rfl (fun σ14 => o_move rfl) ?_
                  refine d_val (fun _ => rfl) rfl rfl (fun σ14 => o_idx (i) rfl hVa rfl (by first | rfl | omega) (by omega)) ?_
                  refine d_val (fun _ => rfl) rfl rfl (fun σ14 => o_loadR1 rfl (row_imm (fun w2 hg => by exact (xa.2.2.2 w2 (pcsAt_nil w2) hg.2.1).row)) (el_one (by rw [hla]; exact hil))) ?_
                  refine d_val (fun _ => rfl) rfl rfl (fun σ14 => o_loadW (key := 3) rfl rfl rfl) ?_
                  refine d_nil (fun σ14 => ?_)
                  refine l_call (ks := []) rfl (o_callC (vs := [_, _]) (r := .bool true) (ent_of Try.func18 rfl rfl) rfl (fun w' hg hh => a_HasC w' _ (Q.getD i []) p (by omega) hVa1 (by exact (xa.2.2.2 w' (pcsAt_nil w') hg.2.1).pc i hil) hqn hnp hqc (tri_has hTi))) ?_
                  refine l_nil ?_
                  refine kt_norm ?_
                  refine v_sel [13, 11, 12, 3, 4, 7, 9, 10, 77] [3, 4] rfl rfl ?_
                  refine v_condT rfl ?_
                  refine v_region ?_
                  refine l_val rfl (o_move rfl) ?_
                  refine l_val rfl (o_addi rfl rfl ?_) ?_
                  · omega
                  refine l_val rfl (o_assign rfl) ?_
                  refine l_nil ?_
                  refine kb_norm ?_
                  refine kt_norm ?_
                  refine v_region ?_
                  refine l_val rfl (o_move rfl) ?_
                  refine l_val rfl (o_addi rfl rfl ?_) ?_
                  · omega
                  refine l_val rfl (o_assign rfl) ?_
                  refine l_nil ?_
                  refine kt_norm ?_
                  refine ⟨(i + 1, a), ⟨hil, by have e := hcs; rw [hlq] at e; rw [e, hcnt]; rfl⟩, (by show Q.length - (i + 1) < Q.length - i; omega), le_app (And.intro rfl (And.intro rfl (And.intro rfl (True.intro)))) [3, 4, 7, 9, 10] rfl (True.intro) [3, 4] rfl⟩
              · skip
                refine l_nil ?_
                refine kt_norm ?_
                refine v_condF rfl ?_
                refine v_exit ?_
                refine kt_exit ?_
                refine kt_exit ?_
                refine kb_eq ?_
                refine kt_norm ?_
                refine v_sel [11, 12, 7, 9, 10] [] rfl rfl ?_
                refine v_seq ?_
                refine v_region ?_
                obtain rfl : i = Q.length := by omega
                rw [List.take_length] at hcnt
                refine l_val rfl (o_move rfl) ?_
                refine l_val rfl (o_move rfl) ?_
                refine l_val rfl (o_len rfl hVa) ?_
                refine l_split rfl (o_eql rfl rfl) (fun q17 => ?_) (fun q17 => absurd (show _ by omega) q17)
                refine l_val rfl (o_move rfl) ?_
                refine l_val rfl (o_move rfl) ?_
                refine l_val rfl (o_len rfl hVa) ?_
                refine l_split rfl (o_geq rfl rfl) (fun q18 => ?_) (fun q18 => absurd (show _ by omega) q18)
                refine l_val rfl (o_pickT rfl rfl) ?_
                refine l_val rfl (o_move rfl) ?_
                refine l_val rfl (o_move rfl) ?_
                refine l_val rfl (o_not rfl rfl) ?_
                refine l_val rfl (o_move rfl) ?_
                refine l_no rfl ?_
                refine l_no rfl ?_
                refine l_val rfl (o_pickT rfl rfl) ?_
                refine l_val rfl (o_pickT rfl rfl) ?_
                refine l_val rfl (o_move rfl) ?_
                refine l_val rfl (o_move rfl) ?_
                refine l_val rfl (o_not rfl rfl) ?_
                refine l_val rfl (o_move rfl) ?_
                refine l_no rfl ?_
                refine l_no rfl ?_
                refine l_val rfl (o_pickT rfl rfl) ?_
                refine l_val rfl (o_pickT rfl rfl) ?_
                refine l_val rfl (o_assign rfl) ?_
                refine l_nil ?_
                refine kt_norm ?_
                refine v_sel [6] [] rfl rfl ?_
                refine v_ret ?_
                refine ⟨[_], .cons (.tmp rfl) (ResAll.nil), ?_⟩
                rfl
    · skip
      refine l_val rfl (o_not rfl rfl) ?_
      refine l_val rfl (o_pickF rfl rfl) ?_
      refine l_val rfl (o_move rfl) ?_
      refine l_no rfl ?_
      refine l_no rfl ?_
      refine l_val rfl (o_pickT rfl rfl) ?_
      refine l_val rfl (o_move rfl) ?_
      refine l_no rfl ?_
      refine l_no rfl ?_
      refine l_val rfl (o_pickT rfl rfl) ?_
      refine l_val rfl (o_move rfl) ?_
      refine l_no rfl ?_
      refine l_no rfl ?_
      refine l_val rfl (o_pickT rfl rfl) ?_
      refine l_nil ?_
      refine kt_norm ?_
      refine v_sel [2, 3, 4, 33] [3, 4] rfl rfl ?_
      refine v_condT rfl ?_
      refine v_seq ?_
      refine v_region ?_
      refine l_call (ks := []) rfl (o_callC (vs := []) (r := .bool true) (ent_of Try.func14 rfl rfl) rfl (fun w' hg hh => a_shown w')) ?_
      refine l_val rfl (o_assign rfl) ?_
      refine l_nil ?_
      refine kt_norm ?_
      refine v_ret ?_
      refine kt_ret ?_
      refine ⟨[_], .cons (.tmp rfl) (ResAll.nil), ?_⟩
      rfl
  · skip
    refine l_val rfl (o_not rfl rfl) ?_
    refine l_val rfl (o_move rfl) ?_
    refine l_no rfl ?_
    refine l_no rfl ?_
    refine l_no rfl ?_
    refine l_val rfl (o_pickT rfl rfl) ?_
    refine l_val rfl (o_move rfl) ?_
    refine l_no rfl ?_
    refine l_no rfl ?_
    refine l_val rfl (o_pickT rfl rfl) ?_
    refine l_val rfl (o_move rfl) ?_
    refine l_no rfl ?_
    refine l_no rfl ?_
    refine l_val rfl (o_pickT rfl rfl) ?_
    refine l_val rfl (o_move rfl) ?_
    refine l_no rfl ?_
    refine l_no rfl ?_
    refine l_val rfl (o_pickT rfl rfl) ?_
    refine l_nil ?_
    refine kt_norm ?_
    refine v_sel [2, 3, 4, 33] [3, 4] rfl rfl ?_
    refine v_condT rfl ?_
    refine v_seq ?_
    refine v_region ?_
    refine l_call (ks := []) rfl (o_callC (vs := []) (r := .bool true) (ent_of Try.func14 rfl rfl) rfl (fun w' hg hh => a_shown w')) ?_
    refine l_val rfl (o_assign rfl) ?_
    refine l_nil ?_
    refine kt_norm ?_
    refine v_ret ?_
    refine kt_ret ?_
    refine ⟨[_], .cons (.tmp rfl) (ResAll.nil), ?_⟩
    rfl
end Go.Proofs.Ytpgjbalnipinoaa

/- Chords grow short. Conditions: none. -/
namespace Go.Proofs.Ytpgjbalnipinoaa
open Go.Proofs Go.RowKit Go.Shelf

/-! ### chords grow short -/
theorem good_go {r : Int} {u v : PtT} (h : GoodC r u v) (hr : 65 ≤ r ∧ r ≤ 131072) (hg : 128 * r < gapT u v) : ¬ stopT r u v := by
  obtain ⟨h1, h2⟩ := h.mid hr hg
  have x1 := h1.x
  have x2 := h2.x
  unfold stopT
  unfold gapT at hg
  generalize midT r u v = m at *
  rintro (e | e | e | e)
  · omega
  · rw [e] at x1; unfold crossT at x1; dsimp only at x1; grind
  · rw [e] at x1; unfold crossT at x1; grind
  · rw [e] at x2; unfold crossT at x2; grind
theorem half_num {r c g gp : Int} (hr : 65 ≤ r) (hc : r ≤ c) (h0 : 0 ≤ g) (hg : 10 * g ≤ 7 * (r * r)) (hS : c * c ≤ 4 * ((r + 2) * (r + 2)) - g) (hgp : c * gp ≤ c * (2 * ((r + 2) * (r + 2))) - r * (4 * ((r - 1) * (r - 1)) - g) + 2 * ((r + 2) * c)) : 40 * gp ≤ 11 * g + 1280 * r := by
  rcases Int.lt_or_le (11 * g + 1280 * r) (40 * gp) with hlt | hle
  · exfalso
    have k1 := Int.mul_le_mul_of_nonneg_left (show 11 * g + 1280 * r + 1 ≤ 40 * gp by omega) (show 0 ≤ c by omega)
    have e1 : c * (40 * gp) = 40 * (c * gp) := by grind
    have rl := Int.mul_le_mul_of_nonneg_right hr (show 0 ≤ r by omega)
    have hW : 0 ≤ 80 * (r * r) - 880 * r + 480 - 11 * g := by omega
    have e2 : c * (80 * (r * r) - 880 * r + 480 - 11 * g) = 40 * (c * (2 * ((r + 2) * (r + 2))) + 2 * ((r + 2) * c)) - c * (11 * g + 1280 * r) := by grind
    have e3 : c * (11 * g + 1280 * r + 1) = c * (11 * g + 1280 * r) + c := by grind
    have k2 : 40 * (r * (4 * ((r - 1) * (r - 1)) - g)) ≤ c * (80 * (r * r) - 880 * r + 480 - 11 * g) := by omega
    have k3 := Int.mul_le_mul_of_nonneg_left k2 (show 0 ≤ 4 * r by omega)
    have sq := sq_nn (c - 2 * r)
    have e4 : (c - 2 * r) * (c - 2 * r) = c * c - 4 * r * c + 4 * (r * r) := by grind
    have e5 : (r + 2) * (r + 2) = r * r + 4 * r + 4 := by grind
    have k4 := Int.mul_le_mul_of_nonneg_right (show 4 * r * c ≤ 8 * (r * r) + 16 * r + 16 - g by omega) hW
    have e6 : 4 * r * c * (80 * (r * r) - 880 * r + 480 - 11 * g) = 4 * r * (c * (80 * (r * r) - 880 * r + 480 - 11 * g)) := by grind
    have e7 : 4 * r * (40 * (r * (4 * ((r - 1) * (r - 1)) - g))) = 640 * (r * r * (r * r)) - 1280 * (r * (r * r)) + 640 * (r * r) - 160 * (r * r * g) := by grind
    have e8 : (8 * (r * r) + 16 * r + 16 - g) * (80 * (r * r) - 880 * r + 480 - 11 * g) = 640 * (r * r * (r * r)) - 5760 * (r * (r * r)) - 8960 * (r * r) - 6400 * r + 7680 - 168 * (r * r * g) + 704 * (r * g) - 656 * g + 11 * (g * g) := by grind
    have p1 := Int.mul_nonneg h0 (show 0 ≤ 7 * (r * r) - 10 * g by omega)
    have e9 : g * (7 * (r * r) - 10 * g) = 7 * (r * r * g) - 10 * (g * g) := by grind
    have p2 := Int.mul_nonneg (show 0 ≤ r by omega) (show 0 ≤ 7 * (r * r) - 10 * g by omega)
    have e10 : r * (7 * (r * r) - 10 * g) = 7 * (r * (r * r)) - 10 * (r * g) := by grind
    have p3 : 0 ≤ r * r * g := Int.mul_nonneg (sq_nn r) h0
    have p4 := Int.mul_le_mul_of_nonneg_right hr (sq_nn r)
    omega
  · exact hle
/-- a half's length, squared -/
theorem gap_half {r : Int} {u v : PtT} (h : GoodC r u v) (hr : 65 ≤ r ∧ r ≤ 131072) (hgo : 128 * r < gapT u v) (hg : 10 * gapT u v ≤ 7 * (r * r)) : 40 * gapT u (midT r u v) ≤ 11 * gapT u v + 1280 * r ∧ 40 * gapT (midT r u v) v ≤ 11 * gapT u v + 1280 * r := by
  obtain ⟨hm1, hm2⟩ := h.mid hr hgo
  have n2 := hm1.b2
  obtain ⟨a1, a2, b1, b2, hd, hx⟩ := h
  have eS : dotT ⟨u.x + v.x, u.y + v.y⟩ ⟨u.x + v.x, u.y + v.y⟩ = dotT u u + dotT v v + 2 * dotT u v := by unfold dotT; grind
  have g0 := gap_nn u v
  have ge := gap_eq u v
  have r2 : (r + 2) * (r + 2) = r * r + 4 * r + 4 := by grind
  have r1 : (r - 1) * (r - 1) = r * r - 2 * r + 1 := by grind
  have rb := sq_mono (x := r) (y := 131072) (by omega)
  have rl := Int.mul_le_mul_of_nonneg_right hr.1 (show 0 ≤ r by omega)
  obtain ⟨c, hc⟩ := Rnd.of (r := r) (u := u) (v := v) (by rw [eS]; omega) (by rw [eS]; omega)
  have c1 := hc.c1
  have c2 := hc.c2
  have c0 := hc.c0
  rw [eS] at c1 c2
  have hcr : r ≤ c := by
    rcases Int.lt_or_le c r with hlt | hle
    · have s := sq_mono (x := c) (y := r - 1) (by omega)
      omega
    · exact hle
  have du := (hc.dot u (k := r + 2) (by omega) a2).1
  have dv := (hc.dot v (k := r + 2) (by omega) b2).1
  have pu : dotT u ⟨u.x + v.x, u.y + v.y⟩ = dotT u u + dotT u v := by unfold dotT; grind
  have pv : dotT v ⟨u.x + v.x, u.y + v.y⟩ = dotT v v + dotT u v := by unfold dotT; grind
  rw [pu] at du
  rw [pv] at dv
  generalize midT r u v = m at *
  have gu := gap_eq u m
  have gv := gap_eq m v
  have sw : dotT m v = dotT v m := by unfold dotT; grind
  rw [sw] at gv
  have s1 : c * gapT u m = c * (dotT u u + dotT m m) - 2 * (c * dotT u m) := by rw [gu]; grind
  have s2 : c * gapT m v = c * (dotT m m + dotT v v) - 2 * (c * dotT v m) := by rw [gv]; grind
  have t1 := Int.mul_le_mul_of_nonneg_left (show dotT u u + dotT m m ≤ 2 * ((r + 2) * (r + 2)) by omega) (show 0 ≤ c by omega)
  have t2 := Int.mul_le_mul_of_nonneg_left (show dotT m m + dotT v v ≤ 2 * ((r + 2) * (r + 2)) by omega) (show 0 ≤ c by omega)
  have w1 := Int.mul_le_mul_of_nonneg_left (show 4 * ((r - 1) * (r - 1)) - gapT u v ≤ 2 * (dotT u u + dotT u v) by omega) (show 0 ≤ r by omega)
  have w2 := Int.mul_le_mul_of_nonneg_left (show 4 * ((r - 1) * (r - 1)) - gapT u v ≤ 2 * (dotT v v + dotT u v) by omega) (show 0 ≤ r by omega)
  have x1 : r * (2 * (dotT u u + dotT u v)) = 2 * (r * (dotT u u + dotT u v)) := by grind
  have x2 : r * (2 * (dotT v v + dotT u v)) = 2 * (r * (dotT v v + dotT u v)) := by grind
  exact ⟨half_num hr.1 hcr g0 hg (by omega) (by omega), half_num hr.1 hcr g0 hg (by omega) (by omega)⟩
/-- how long a chord may be, if it may be halved so often -/
def capT : Nat → Int
  | 0 => 128
  | 1 => 349
  | 2 => 1152
  | 3 => 4072
  | 4 => 14690
  | _ => 53301
theorem cap_step (d : Nat) (hd : d ≤ 4) : 11 * capT (d + 1) + 1280 ≤ 40 * capT d := by
  match d, hd with
  | 0, _ => decide
  | 1, _ => decide
  | 2, _ => decide
  | 3, _ => decide
  | 4, _ => decide
theorem short_all {r : Int} (hr : 65 ≤ r ∧ r ≤ 131072) : ∀ (d : Nat), d ≤ 5 → ∀ u v : PtT, GoodC r u v → 10 * gapT u v ≤ 7 * (r * r) → gapT u v ≤ capT d * r → ∀ c ∈ chordsT r d u v, gapT c.1 c.2 ≤ 128 * r
  | 0, _, u, v, h, hg, hk, c, hc => by rw [List.mem_singleton.1 hc]; exact hk
  | d + 1, hd, u, v, h, hg, hk, c, hc => by
    rcases Int.lt_or_le (128 * r) (gapT u v) with hlt | hle
    · rw [chords_go (good_go h hr hlt)] at hc
      obtain ⟨h1, h2⟩ := h.mid hr hlt
      obtain ⟨k1, k2⟩ := gap_half h hr hlt hg
      have cs := cap_step d (by omega)
      have rl := Int.mul_le_mul_of_nonneg_right hr.1 (show 0 ≤ r by omega)
      have cm := Int.mul_le_mul_of_nonneg_right cs (show 0 ≤ r by omega)
      have e1 : (11 * capT (d + 1) + 1280) * r = 11 * (capT (d + 1) * r) + 1280 * r := by grind
      have e2 : 40 * capT d * r = 40 * (capT d * r) := by grind
      rcases List.mem_append.1 hc with hc | hc
      · exact short_all hr d (by omega) _ _ h1 (by omega) (by omega) c hc
      · exact short_all hr d (by omega) _ _ h2 (by omega) (by omega) c hc
    · have hst : stopT r u v := .inl (by unfold gapT at hle; exact hle)
      rw [chords_stop hst] at hc
      rw [List.mem_singleton.1 hc]; exact hle
theorem corner_good {r : Int} {u v : PtT} (hr : 65 ≤ r) (h : Corner r u v) : GoodC r u v := by
  obtain ⟨ha, hb, hd, hx⟩ := h
  have r2 : (r + 2) * (r + 2) = r * r + 4 * r + 4 := by grind
  have r1 : (r - 1) * (r - 1) = r * r - 2 * r + 1 := by grind
  have rl := Int.mul_le_mul_of_nonneg_right hr (show 0 ≤ r by omega)
  exact ⟨by omega, by omega, by omega, by omega, by omega, by omega⟩
theorem corner_half {r : Int} {u v : PtT} (h : Corner r u v) (hr : 65 ≤ r ∧ r ≤ 131072) : 10 * gapT u (midT r u v) ≤ 7 * (r * r) ∧ 10 * gapT (midT r u v) v ≤ 7 * (r * r) := by
  have hgo : 128 * r < gapT u v := by
    have g := gap_eq u v
    rw [h.a, h.b, h.d] at g
    have rl := Int.mul_le_mul_of_nonneg_right hr.1 (show 0 ≤ r by omega)
    omega
  obtain ⟨hm1, hm2⟩ := (corner_good hr.1 h).mid hr hgo
  have n2 := hm1.b2
  obtain ⟨ha, hb, hd, hx⟩ := h
  have eS : dotT ⟨u.x + v.x, u.y + v.y⟩ ⟨u.x + v.x, u.y + v.y⟩ = dotT u u + dotT v v + 2 * dotT u v := by unfold dotT; grind
  rw [ha, hb, hd] at eS
  have r2 : (r + 2) * (r + 2) = r * r + 4 * r + 4 := by grind
  have rb := sq_mono (x := r) (y := 131072) (by omega)
  have rl := Int.mul_le_mul_of_nonneg_right hr.1 (show 0 ≤ r by omega)
  obtain ⟨c, hc⟩ := Rnd.of (r := r) (u := u) (v := v) (by rw [eS]; omega) (by rw [eS]; omega)
  have c1 := hc.c1
  have c0 := hc.c0
  rw [eS] at c1
  have hcu : 100 * c ≤ 142 * r := by
    refine (abs_of_sq (by omega) ?_).2
    have e : 100 * c * (100 * c) = 10000 * (c * c) := by grind
    have e2 : 142 * r * (142 * r) = 20164 * (r * r) := by grind
    omega
  have du := (hc.dot u (k := r) (by omega) (by omega)).1
  have dv := (hc.dot v (k := r) (by omega) (by omega)).1
  have pu : dotT u ⟨u.x + v.x, u.y + v.y⟩ = dotT u u + dotT u v := by unfold dotT; grind
  have pv : dotT v ⟨u.x + v.x, u.y + v.y⟩ = dotT v v + dotT u v := by unfold dotT; grind
  rw [pu, ha, hd, Int.add_zero] at du
  rw [pv, hb, hd, Int.add_zero] at dv
  generalize midT r u v = m at *
  have gu := gap_eq u m
  have gv := gap_eq m v
  have sw : dotT m v = dotT v m := by unfold dotT; grind
  rw [sw] at gv
  rw [ha] at gu
  rw [hb] at gv
  have key : ∀ z D : Int, z = r * r + dotT m m - 2 * D → -(2 * (r * c)) ≤ 2 * (c * D) - 2 * (r * (r * r)) → 10 * z ≤ 7 * (r * r) := fun z D hz hD => by
    rcases Int.lt_or_le (7 * (r * r)) (10 * z) with hlt | hle
    · exfalso
      have k0 : 20 * D ≤ 13 * (r * r) + 40 * r + 40 := by omega
      have k1 := Int.mul_le_mul_of_nonneg_left k0 (show 0 ≤ c by omega)
      have e1 : c * (20 * D) = 20 * (c * D) := by grind
      have e2 : c * (13 * (r * r) + 40 * r + 40) + 20 * (r * c) = c * (13 * (r * r) + 60 * r + 40) := by grind
      have k2 := Int.mul_le_mul_of_nonneg_right hcu (show 0 ≤ 13 * (r * r) + 60 * r + 40 by omega)
      have e3 : 100 * c * (13 * (r * r) + 60 * r + 40) = 100 * (c * (13 * (r * r) + 60 * r + 40)) := by grind
      have e4 : 142 * r * (13 * (r * r) + 60 * r + 40) = 1846 * (r * (r * r)) + 8520 * (r * r) + 5680 * r := by grind
      have k3 := Int.mul_le_mul_of_nonneg_right hr.1 (sq_nn r)
      omega
    · exact hle
  exact ⟨key _ _ gu du, key _ _ (by omega) dv⟩
theorem corner_short {r : Int} {u v : PtT} (h : Corner r u v) (hr : 65 ≤ r ∧ r ≤ 65536) : (∀ c ∈ chordsT r 6 u v, gapT c.1 c.2 ≤ 128 * r) ∧ 2 ≤ (chordsT r 6 u v).length := by
  have hr2 : 65 ≤ r ∧ r ≤ 131072 := by omega
  have hgo : 128 * r < gapT u v := by
    have g := gap_eq u v
    rw [h.a, h.b, h.d] at g
    have rl := Int.mul_le_mul_of_nonneg_right hr.1 (show 0 ≤ r by omega)
    omega
  have hG := corner_good hr.1 h
  obtain ⟨k1, k2⟩ := corner_half h hr2
  obtain ⟨h1, h2⟩ := hG.mid hr2 hgo
  rw [chords_go (good_go hG hr2 hgo)]
  have ru := Int.mul_le_mul_of_nonneg_right hr.2 (show 0 ≤ r by omega)
  have c5 : capT 5 = 53301 := rfl
  refine ⟨fun c hc => ?_, ?_⟩
  · rcases List.mem_append.1 hc with hc | hc
    · exact short_all hr2 5 (Nat.le_refl _) _ _ h1 k1 (by rw [c5]; omega) c hc
    · exact short_all hr2 5 (Nat.le_refl _) _ _ h2 k2 (by rw [c5]; omega) c hc
  · rw [List.length_append]
    have l1 := (chords_len r 5 u (midT r u v)).1
    have l2 := (chords_len r 5 (midT r u v) v).1
    omega
/-- one chord behind the other -/
def Chain (u v : PtT) : List (PtT × PtT) → Prop
  | [] => u = v
  | c :: l => c.1 = u ∧ Chain c.2 v l
theorem Chain.app {m v : PtT} {b : List (PtT × PtT)} (hb : Chain m v b) : ∀ {a : List (PtT × PtT)} {u : PtT}, Chain u m a → Chain u v (a ++ b)
  | [], u, h => by have h : u = m := h; rw [h]; exact hb
  | c :: a, u, h => ⟨h.1, Chain.app hb h.2⟩
theorem chords_chain (r : Int) : ∀ (d : Nat) (u v : PtT), Chain u v (chordsT r d u v)
  | 0, u, v => ⟨rfl, rfl⟩
  | d + 1, u, v => by
    by_cases h : stopT r u v
    · rw [chords_stop h]; exact ⟨rfl, rfl⟩
    · rw [chords_go h]; exact Chain.app (chords_chain r d _ v) (chords_chain r d u _)
theorem Chain.at_ : ∀ {l : List (PtT × PtT)} {u v : PtT} {i : Nat} {c : PtT × PtT}, Chain u v l → l[i]? = some c → c.1 = if i = 0 then u else (l.map Prod.snd).getD (i - 1) dP
  | x :: l, u, v, 0, c, h, hc => by
    simp at hc; subst hc; exact h.1
  | x :: l, u, v, i + 1, c, h, hc => by
    have h1 := Chain.at_ h.2 (show l[i]? = some c by simpa using hc)
    rw [h1]
    cases i with
    | zero => rfl
    | succ i => rfl
  | [], u, v, i, c, h, hc => by simp at hc
end Go.Proofs.Ytpgjbalnipinoaa

/- Chords of small circles. Conditions: none. -/
namespace Go.Proofs.Ytpgjbalnipinoaa
open Go.Proofs Go.RowKit Go.Shelf

theorem bend_one {r : Int} {u v : PtT} (h : Corner r u v) (hr : 1 ≤ r ∧ r ≤ 64) : (bendT r u v).length = 1 := by
  have hst : stopT r u v := .inl (by
    have g := gap_eq u v
    rw [h.a, h.b, h.d] at g
    have rl := Int.mul_le_mul_of_nonneg_right hr.2 (show 0 ≤ r by omega)
    unfold gapT at g; omega)
  unfold bendT
  rw [chords_stop hst]; rfl
theorem bend_gap {r : Int} {u v : PtT} (h : Corner r u v) (hr : 65 ≤ r ∧ r ≤ 65536) : 2 ≤ (bendT r u v).length ∧ ∀ i, i < (bendT r u v).length → gapT (if i = 0 then u else (bendT r u v).getD (i - 1) dP) ((bendT r u v).getD i dP) ≤ 128 * r := by
  obtain ⟨h1, h2⟩ := corner_short h hr
  have hch := chords_chain r 6 u v
  unfold bendT
  generalize chordsT r 6 u v = l at *
  refine ⟨by rw [List.length_map]; exact h2, fun i hi => ?_⟩
  rw [List.length_map] at hi
  have hc := List.getElem?_eq_getElem hi
  have e1 := hch.at_ hc
  have e2 : (l.map Prod.snd).getD i dP = l[i].2 := by rw [List.getD_eq_getElem?_getD, List.getElem?_map, hc]; rfl
  rw [← e1, e2]
  exact h1 _ (List.getElem_mem hi)
theorem bend_bd {r : Int} (hr : 1 ≤ r ∧ r ≤ 131072) {u v : PtT} (hu : BdT u) (hv : BdT v) : ∀ i, i < (bendT r u v).length → BdT ((bendT r u v).getD i dP) := fun i hi => by
  have hb := chords_bd hr 6 u v hu hv
  unfold bendT at hi ⊢
  generalize chordsT r 6 u v = l at *
  rw [List.length_map] at hi
  rw [List.getD_eq_getElem?_getD, List.getElem?_map, List.getElem?_eq_getElem hi]
  exact (hb _ (List.getElem_mem hi)).2
set_option maxHeartbeats 4000000 in
theorem a_ArcSmall (w : World) (r : Int) (hr : 0 ≤ r ∧ r < 65536) : Calls Try.prog 6 #[.int .u16 r] w fun e w' => e = .returned (.bool true) ∧ Below w.heap.size w w' := by
  obtain ⟨n, hn⟩ : ∃ n : Int, n = 1 + r := ⟨_, rfl⟩
  have hwr : IntKind.wrap .i64 (1 + r) = n := by rw [wrap_i64 (by omega), hn]
  have hn1 : 1 ≤ n ∧ n ≤ 65536 := by omega
  have hn2 : 1 ≤ n ∧ n ≤ 131072 := by omega
  have k1 : Corner n ⟨n, 0⟩ ⟨0, n⟩ := ⟨by unfold dotT; grind, by unfold dotT; grind, by unfold dotT; grind, by unfold crossT; grind⟩
  have k2 : Corner n ⟨-n, 0⟩ ⟨0, -n⟩ := ⟨by unfold dotT; grind, by unfold dotT; grind, by unfold dotT; grind, by unfold crossT; grind⟩
  have bu : BdT ⟨n, 0⟩ := by unfold BdT; dsimp only; omega
  have bv : BdT ⟨0, n⟩ := by unfold BdT; dsimp only; omega
  have hs1 := bend_one k1
  have hs2 := bend_one k2
  have hb1 := bend_gap k1
  have hb2 := bend_gap k2
  have hbd := bend_bd hn2 bu bv
  have hl1 := bend_len n ⟨n, 0⟩ ⟨0, n⟩
  have hl2 := bend_len n ⟨-n, 0⟩ ⟨0, -n⟩
  have hB : ∀ w', _ := fun w' => a_Bend w' ⟨n, 0⟩ ⟨0, n⟩ n hn2 bu bv
  have hC : ∀ w', _ := fun w' => a_Bend w' ⟨-n, 0⟩ ⟨0, -n⟩ n hn2 (by unfold BdT; dsimp only; omega) (by unfold BdT; dsimp only; omega)
  generalize bendT n ⟨n, 0⟩ ⟨0, n⟩ = bs at *
  generalize bendT n ⟨-n, 0⟩ ⟨0, -n⟩ = cs at *
  refine calls_of (args := [.int .u16 r]) Try.func6 rfl Try.ntmps6 Try.results6 rfl ?_
  refine v_seq ?_
  refine v_region ?_
  refine l_val rfl (o_assign rfl) ?_
  refine l_nil ?_
  refine kt_norm ?_
  refine v_seq ?_
  refine v_region ?_
  refine l_val rfl (o_move rfl) ?_
  refine l_val rfl (o_convi rfl ?_) ?_
  · omega
  refine l_val rfl (o_add rfl rfl hwr) ?_
  refine l_val rfl (o_assign rfl) ?_
  refine l_nil ?_
  refine kt_norm ?_
  refine v_seq ?_
  refine v_region ?_
  refine l_val rfl (o_move rfl) ?_
  refine l_val rfl (o_build (vs := [_]) (cs := [_, _]) rfl rfl) ?_
  refine l_val rfl (o_move rfl) ?_
  refine l_val rfl (o_build (vs := [_]) (cs := [_, _]) rfl rfl) ?_
  refine l_val rfl (o_move rfl) ?_
  refine l_gown (ks := []) (caps := #[]) (vs := [_, _, _]) rfl rfl (ent_of Try.func23 rfl rfl) rfl (fun w' hg hh => hB w') fun yb hyb => ?_
  refine l_val rfl (o_assign rfl) ?_
  refine l_nil ?_
  refine kt_norm ?_
  refine v_sel [3, 4] [17] rfl rfl ?_
  refine v_seq ?_
  refine v_region ?_
  refine l_val rfl (o_move rfl) ?_
  refine l_val rfl (o_negi rfl ?_) ?_
  · omega
  refine l_val rfl (o_build (vs := [_]) (cs := [_, _]) rfl rfl) ?_
  refine l_val rfl (o_move rfl) ?_
  refine l_val rfl (o_negi rfl ?_) ?_
  · omega
  refine l_val rfl (o_build (vs := [_]) (cs := [_, _]) rfl rfl) ?_
  refine l_val rfl (o_move rfl) ?_
  refine l_gown (ks := []) (caps := #[]) (vs := [_, _, _]) rfl rfl (ent_of Try.func23 rfl rfl) rfl (fun w' hg hh => hC w') fun yc hyc => ?_
  refine l_val rfl (o_assign rfl) ?_
  refine l_nil ?_
  refine kt_norm ?_
  refine v_sel [3, 4, 5] [17, 25] rfl rfl ?_
  refine v_seq ?_
  refine v_seq ?_
  refine v_region ?_
  refine l_val rfl (o_move rfl) ?_
  refine l_split rfl (o_leq rfl rfl) (fun hsm => ?_) (fun hsm => ?_)
  · have hs1 := hs1 ⟨hn1.1, hsm⟩
    have hs2 := hs2 ⟨hn1.1, hsm⟩
    refine l_nil ?_
    refine kt_norm ?_
    refine v_condT rfl ?_
    refine v_seq ?_
    refine v_region ?_
    refine l_val rfl (o_move rfl) ?_
    refine l_val rfl (o_len rfl hyb) ?_
    refine l_split rfl (o_eql rfl rfl) (fun q1 => ?_) (fun q1 => absurd (show _ by omega) q1)
    refine l_val rfl (o_move rfl) ?_
    refine l_val rfl (o_move rfl) ?_
    refine l_val rfl (o_len rfl hyc) ?_
    refine l_split rfl (o_eql rfl rfl) (fun q2 => ?_) (fun q2 => absurd (show _ by omega) q2)
    refine l_val rfl (o_pickT rfl rfl) ?_
    refine l_val rfl (o_move rfl) ?_
    refine l_call (ks := []) rfl (o_callC (vs := []) (r := .bool true) (ent_of Try.func14 rfl rfl) rfl (fun w' hg hh => a_shown w')) ?_
    refine l_val rfl (o_pickT rfl rfl) ?_
    refine l_val rfl (o_assign rfl) ?_
    refine l_nil ?_
    refine kt_norm ?_
    refine v_sel [2] [] rfl rfl ?_
    refine v_ret ?_
    refine kt_ret ?_
    refine ⟨[_], .cons (.tmp rfl) (ResAll.nil), ?_⟩
    rfl
  · have hbig := (hb1 (by omega)).2
    have hb1l := (hb1 (by omega)).1
    have hb2l := (hb2 (by omega)).1
    refine l_nil ?_
    refine kt_norm ?_
    refine v_condF rfl ?_
    refine v_skip ?_
    refine kt_norm ?_
    refine v_seq ?_
    refine v_region ?_
    refine l_val rfl (o_move rfl) ?_
    refine l_val rfl (o_build (vs := [_]) (cs := [_, _]) rfl rfl) ?_
    refine l_new rfl o_alloc fun b6 => ?_
    refine l_store rfl (o_storeW (key := 6) (xs := [_, _]) rfl rfl rfl rfl rfl rfl rfl) ?_
    refine l_nil ?_
    refine kt_norm ?_
    refine v_seq ?_
    refine v_seq ?_
    refine v_region ?_
    refine l_val rfl (o_assign rfl) ?_
    refine l_nil ?_
    refine kt_norm ?_
    refine v_block ?_
    refine v_loopS (α := Nat × PtT) (fun ⟨i, pa⟩ => [(7, .int .i64 (i : Int))]) (fun ⟨i, pa⟩ => [(6, .box b6 23 [.int .i64 pa.x, .int .i64 pa.y])])  (fun ⟨i, pa⟩ => i ≤ bs.length ∧ BdT pa ∧ pa = if i = 0 then ⟨n, 0⟩ else bs.getD (i - 1) dP) (fun ⟨i, pa⟩ => bs.length - i) (0, ⟨n, 0⟩) [3, 4, 5, 6] [17, 25] ⟨Nat.zero_le _, bu, rfl⟩  (And.intro rfl (True.intro)) rfl (And.intro rfl (True.intro)) rfl ?_
    rintro ⟨i, pa⟩ ⟨hi, hba, hat⟩
    refine v_seq ?_
    refine v_seq ?_
    refine v_region ?_
    refine l_val rfl (o_move rfl) ?_
    refine l_val rfl (o_move rfl) ?_
    refine l_val rfl (o_len rfl hyb) ?_
    refine l_split rfl (o_lss rfl rfl) (fun q3 => ?_) (fun q3 => ?_)
    · have hil : i < bs.length := by omega
      have hgi := hbig i hil
      have hbi := hbd i hil
      rw [← hat] at hgi
      have hbi0 := hbi
      unfold gapT at hgi
      unfold BdT at hbi hba
      refine l_nil ?_
      refine kt_norm ?_
      refine v_condT rfl ?_
      refine v_skip ?_
      refine kt_norm ?_
      refine v_seq ?_
      refine v_block ?_
      refine v_seq ?_
      refine v_drawZ [[], [], [], [17], [6], [], [], [8]] mixed ?_ (by kernel_rfl) (by kernel_rfl)
      refine d_val (fun _ => rfl) rfl rfl (fun _ => o_move rfl) ?_
      refine d_val (fun _ => rfl) rfl rfl (fun _ => o_move rfl) ?_
      refine d_val (fun _ => rfl) rfl rfl (fun _ => o_idx (i) rfl hyb rfl (by first | rfl | omega) (by omega)) ?_
      refine d_val (fun _ => rfl) rfl rfl (fun _ => o_loadRE (c' := [_, _]) rfl (row_own (key := 17) rfl) (el_flat eP_len dP bs (i) (by omega)) rfl) ?_
      refine d_val (fun _ => rfl) rfl rfl (fun _ => o_loadW (key := 6) rfl rfl rfl) ?_
      refine d_ans (vs := [_, _]) (fun _ => rfl) (fun _ => rfl) (r_PSub _ _ _ _ ?_ ?_ ?_ ?_) ?_
      · omega
      · omega
      · omega
      · omega
      refine d_new (fun _ => rfl) rfl rfl (fun _ => o_alloc) ?_
      refine d_store (fun _ => rfl) rfl rfl (fun _ => o_storeW (key := 8) (xs := [_, _]) rfl rfl rfl rfl rfl rfl rfl) ?_
      refine d_nil (fun σ => ?_)
      refine l_nil ?_
      refine kt_norm ?_
      refine v_sel [7, 3, 4, 5, 6, 8] [6, 8, 17, 25] rfl rfl ?_
      refine v_seq ?_
      refine v_seq ?_
      refine v_region ?_
      refine l_val rfl (o_loadW (key := 8) rfl rfl rfl) ?_
      refine l_val rfl (o_loadW (key := 8) rfl rfl rfl) ?_
      refine l_ans (vs := [_, _]) rfl rfl (r_Dot _ _ _ _ ?_ ?_ ?_ ?_) ?_
      · omega
      · omega
      · omega
      · omega
      refine l_val rfl (o_move rfl) ?_
      refine l_val rfl (o_muli rfl rfl ?_) ?_
      · omega
      refine l_split rfl (o_gtr rfl rfl) (fun q4 => absurd q4 (by omega)) (fun q4 => ?_)
      refine l_val rfl (o_move rfl) ?_
      refine l_no rfl ?_
      refine l_no rfl ?_
      refine l_no rfl ?_
      refine l_val rfl (o_pickF rfl rfl) ?_
      refine l_nil ?_
      refine kt_norm ?_
      refine v_sel [7, 3, 4, 5, 6, 60, 61, 62, 63] [6, 17, 25] rfl rfl ?_
      refine v_condF rfl ?_
      refine v_skip ?_
      refine kt_norm ?_
      refine v_region ?_
      refine l_val rfl (o_move rfl) ?_
      refine l_val rfl (o_move rfl) ?_
      refine l_val rfl (o_idx (i) rfl hyb rfl (by first | rfl | omega) (by omega)) ?_
      refine l_val rfl (o_loadRE (c' := [_, _]) rfl (row_own (key := 17) rfl) (el_flat eP_len dP bs (i) (by omega)) rfl) ?_
      refine l_store rfl (o_storeW (key := 6) (xs := [_, _]) rfl rfl rfl rfl rfl rfl rfl) ?_
      refine l_nil ?_
      refine kb_norm ?_
      refine kt_norm ?_
      refine v_region ?_
      refine l_val rfl (o_move rfl) ?_
      refine l_val rfl (o_addi rfl rfl ?_) ?_
      · omega
      refine l_val rfl (o_assign rfl) ?_
      refine l_nil ?_
      refine kt_norm ?_
      refine ⟨(i + 1, bs.getD i dP), ⟨hil, hbi0, rfl⟩, (by show bs.length - (i + 1) < bs.length - i; omega), le_app (And.intro rfl (True.intro)) [3, 4, 5, 6] rfl (And.intro rfl (True.intro)) [17, 25] rfl⟩
    · skip
      refine l_nil ?_
      refine kt_norm ?_
      refine v_condF rfl ?_
      refine v_exit ?_
      refine kt_exit ?_
      refine kt_exit ?_
      refine kb_eq ?_
      refine kt_norm ?_
      refine v_sel [4, 5] [6, 17, 25] rfl rfl ?_
      refine v_seq ?_
      refine v_region ?_
      refine l_val rfl (o_move rfl) ?_
      refine l_val rfl (o_len rfl hyb) ?_
      refine l_split rfl (o_geq rfl rfl) (fun q5 => ?_) (fun q5 => absurd (show _ by omega) q5)
      refine l_val rfl (o_move rfl) ?_
      refine l_val rfl (o_move rfl) ?_
      refine l_val rfl (o_len rfl hyc) ?_
      refine l_split rfl (o_geq rfl rfl) (fun q6 => ?_) (fun q6 => absurd (show _ by omega) q6)
      refine l_val rfl (o_pickT rfl rfl) ?_
      refine l_val rfl (o_move rfl) ?_
      refine l_call (ks := []) rfl (o_callC (vs := []) (r := .bool true) (ent_of Try.func14 rfl rfl) rfl (fun w' hg hh => a_shown w')) ?_
      refine l_val rfl (o_pickT rfl rfl) ?_
      refine l_val rfl (o_assign rfl) ?_
      refine l_nil ?_
      refine kt_norm ?_
      refine v_sel [2] [6] rfl rfl ?_
      refine v_ret ?_
      refine ⟨[_], .cons (.tmp rfl) (ResAll.nil), ?_⟩
      rfl
end Go.Proofs.Ytpgjbalnipinoaa
