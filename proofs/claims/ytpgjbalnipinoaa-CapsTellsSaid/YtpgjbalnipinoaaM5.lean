import Derived.Test.YtpgjbalnipinoaaM1
import Derived.Test.YtpgjbalnipinoaaM2
import Derived.Test.YtpgjbalnipinoaaM3
import Derived.Test.YtpgjbalnipinoaaM4
/- What a piece has; discs. Conditions: none. -/
namespace Go.Proofs.Ytpgjbalnipinoaa
open Go.Proofs Go.RowKit Go.Shelf

theorem a_Has (w : World) (v : Value) (pc : List PtT) (q : PtT) (hs : pc.length ≤ 1000000) (hV : RowV v pc.length) (hrow : RowAt w v 2 pc.length (pc.flatMap eP)) (hnear : ∀ p ∈ pc, NearT p) (hq : NearT q) :
    Calls Try.prog 18 #[v, .agg #[.int .i64 q.x, .int .i64 q.y]] w fun e w' => e = .returned (.bool (convexB pc && leftB pc q)) ∧ Below w.heap.size w w' := by
  have hr : ∀ w', Chg (fun _ => False) w w' → RowAt w' v 2 pc.length (pc.flatMap eP) := fun w' h => hrow.chg h (fun h => h)
  refine calls_of (args := [v, .agg #[.int .i64 q.x, .int .i64 q.y]]) Try.func18 rfl Try.ntmps18 Try.results18 rfl ?_
  refine v_seq ?_
  refine v_region ?_
  refine l_new rfl (o_box (cs := [_, _]) rfl rfl) fun b3 => ?_
  refine l_val rfl (o_assign rfl) ?_
  refine l_nil ?_
  refine kt_norm ?_
  refine v_seq ?_
  refine v_region ?_
  refine l_val rfl (o_move rfl) ?_
  refine l_call (ks := []) rfl (o_callC (vs := [_]) (r := .bool (convexB pc)) (ent_of Try.func22 rfl rfl) rfl (fun w' hg hh => a_Convex w' v pc hs hV (hr w' hg) hnear)) ?_
  refine lz_cases (fun hcx => ?_) (fun hcx => ?_)
  · skip
    refine l_val rfl (o_move rfl) ?_
    refine l_val rfl (o_move rfl) ?_
    refine l_val rfl (o_loadW (key := 3) rfl rfl rfl) ?_
    refine l_call (ks := []) rfl (o_callC (vs := [_, _]) (r := .bool (leftB pc q)) (ent_of Try.func42 rfl rfl) rfl (fun w' hg hh => a_left w' v pc q hs hV (hr w' hg) hnear hq)) ?_
    refine l_val rfl (o_pickT rfl rfl) ?_
    refine l_val rfl (o_assign rfl) ?_
    refine l_nil ?_
    refine kt_norm ?_
    refine v_sel [4] [] rfl rfl ?_
    refine v_ret ?_
    refine ⟨[_], .cons (.tmp rfl) (ResAll.nil), ?_⟩
    first
      | exact congrArg Value.bool (by rw [hcx, Bool.true_and])
      | exact congrArg Value.bool (by rw [hcx, Bool.false_and])
  · skip
    refine l_val rfl (o_move rfl) ?_
    refine l_no rfl ?_
    refine l_no rfl ?_
    refine l_no rfl ?_
    refine l_val rfl (o_pickF rfl rfl) ?_
    refine l_val rfl (o_assign rfl) ?_
    refine l_nil ?_
    refine kt_norm ?_
    refine v_sel [4] [] rfl rfl ?_
    refine v_ret ?_
    refine ⟨[_], .cons (.tmp rfl) (ResAll.nil), ?_⟩
    first
      | exact congrArg Value.bool (by rw [hcx, Bool.true_and])
      | exact congrArg Value.bool (by rw [hcx, Bool.false_and])
theorem a_HasC (w : World) (v : Value) (pc : List PtT) (q : PtT) (hs : pc.length ≤ 1000000) (hV : RowV v pc.length) (hrow : RowAt w v 2 pc.length (pc.flatMap eP)) (hnear : ∀ p ∈ pc, NearT p) (hq : NearT q) (hcx : convexB pc = true) {b : Bool} (hb : leftB pc q = b) :
    Calls Try.prog 18 #[v, .agg #[.int .i64 q.x, .int .i64 q.y]] w fun e w' => e = .returned (.bool b) ∧ Below w.heap.size w w' := by
  have := a_Has w v pc q hs hV hrow hnear hq
  rwa [hcx, Bool.true_and, hb] at this
theorem count_step {Q : List (List PtT)} {i : Nat} (h : i < Q.length) (f : List PtT → Bool) : (Q.take (i + 1)).countP f = (Q.take i).countP f + (if f (Q.getD i []) = true then 1 else 0) := by
  rw [List.take_add_one, List.countP_append, List.getElem?_eq_getElem h, List.getD_eq_getElem?_getD, List.getElem?_eq_getElem h]
  rw [Option.toList_some, List.countP_singleton]; rfl
theorem r_PSub (x y u v : Int) (hx : -1099511627776 ≤ x ∧ x ≤ 1099511627776) (hy : -1099511627776 ≤ y ∧ y ≤ 1099511627776) (hu : -1099511627776 ≤ u ∧ u ≤ 1099511627776) (hv : -1099511627776 ≤ v ∧ v ≤ 1099511627776) : Ans Try.prog 16 [.agg #[.int .i64 x, .int .i64 y], .agg #[.int .i64 u, .int .i64 v]] (.agg #[.int .i64 (x - u), .int .i64 (y - v)]) := by
  refine ans_of Try.func16 rfl Try.ntmps16 Try.results16 rfl rfl fun w => ?_
  refine v_seq ?_
  refine v_region ?_
  refine l_new rfl (o_box (cs := [_, _]) rfl rfl) fun b2 => ?_
  refine l_new rfl (o_box (cs := [_, _]) rfl rfl) fun b3 => ?_
  refine l_new rfl o_alloc fun b4 => ?_
  refine l_nil ?_
  refine kt_norm ?_
  refine v_seq ?_
  refine v_region ?_
  refine l_val rfl (o_fld rfl) ?_
  refine l_val rfl (o_load1 (key := 2) rfl rfl rfl) ?_
  refine l_val rfl (o_fld rfl) ?_
  refine l_val rfl (o_load1 (key := 3) rfl rfl rfl) ?_
  refine l_val rfl (o_subi rfl rfl ?_) ?_
  · omega
  refine l_val rfl (o_fld rfl) ?_
  refine l_val rfl (o_load1 (key := 2) rfl rfl rfl) ?_
  refine l_val rfl (o_fld rfl) ?_
  refine l_val rfl (o_load1 (key := 3) rfl rfl rfl) ?_
  refine l_val rfl (o_subi rfl rfl ?_) ?_
  · omega
  refine l_val rfl (o_build (vs := [_, _]) (cs := [_, _]) rfl rfl) ?_
  refine l_store rfl (o_storeW (key := 4) (xs := [_, _]) rfl rfl rfl rfl rfl rfl rfl) ?_
  refine l_nil ?_
  refine kt_norm ?_
  refine v_sel [4] [4] rfl rfl ?_
  refine v_ret ?_
  refine ⟨[_], .cons (.cellW (key := 4) rfl rfl rfl) (ResAll.nil), ?_⟩
  rfl
theorem r_Dot (x y u v : Int) (hx : -1073741824 ≤ x ∧ x ≤ 1073741824) (hy : -1073741824 ≤ y ∧ y ≤ 1073741824) (hu : -1073741824 ≤ u ∧ u ≤ 1073741824) (hv : -1073741824 ≤ v ∧ v ≤ 1073741824) : Ans Try.prog 17 [.agg #[.int .i64 x, .int .i64 y], .agg #[.int .i64 u, .int .i64 v]] (.int .i64 (x * u + y * v)) := by
  have m1 := mul_bound (A := 1073741824) (B := 1073741824) (x := x) (y := u) (by omega) (by omega) (by omega) (by omega)
  have m2 := mul_bound (A := 1073741824) (B := 1073741824) (x := y) (y := v) (by omega) (by omega) (by omega) (by omega)
  refine ans_of Try.func17 rfl Try.ntmps17 Try.results17 rfl rfl fun w => ?_
  refine v_seq ?_
  refine v_region ?_
  refine l_new rfl (o_box (cs := [_, _]) rfl rfl) fun b2 => ?_
  refine l_new rfl (o_box (cs := [_, _]) rfl rfl) fun b3 => ?_
  refine l_val rfl (o_assign rfl) ?_
  refine l_nil ?_
  refine kt_norm ?_
  refine v_seq ?_
  refine v_region ?_
  refine l_val rfl (o_fld rfl) ?_
  refine l_val rfl (o_load1 (key := 2) rfl rfl rfl) ?_
  refine l_val rfl (o_fld rfl) ?_
  refine l_val rfl (o_load1 (key := 3) rfl rfl rfl) ?_
  refine l_val rfl (o_muli rfl rfl ?_) ?_
  · omega
  refine l_val rfl (o_fld rfl) ?_
  refine l_val rfl (o_load1 (key := 2) rfl rfl rfl) ?_
  refine l_val rfl (o_fld rfl) ?_
  refine l_val rfl (o_load1 (key := 3) rfl rfl rfl) ?_
  refine l_val rfl (o_muli rfl rfl ?_) ?_
  · omega
  refine l_val rfl (o_addi rfl rfl ?_) ?_
  · omega
  refine l_val rfl (o_assign rfl) ?_
  refine l_nil ?_
  refine kt_norm ?_
  refine v_sel [4] [] rfl rfl ?_
  refine v_ret ?_
  refine ⟨[_], .cons (.tmp rfl) (ResAll.nil), ?_⟩
  rfl
set_option maxHeartbeats 4000000 in
theorem a_ArcDisc (w : World) (p q : PtT) (r : Int) : Calls Try.prog 3 #[.agg #[.int .i64 p.x, .int .i64 p.y], .agg #[.int .i64 q.x, .int .i64 q.y], .int .i64 r] w fun e w' => e = .returned (.bool true) ∧ Below w.heap.size w w' := by
  refine calls_of (args := [.agg #[.int .i64 p.x, .int .i64 p.y], .agg #[.int .i64 q.x, .int .i64 q.y], .int .i64 r]) Try.func3 rfl Try.ntmps3 Try.results3 rfl ?_
  refine v_seq ?_
  refine v_region ?_
  refine l_new rfl (o_box (cs := [_, _]) rfl rfl) fun b3 => ?_
  refine l_new rfl (o_box (cs := [_, _]) rfl rfl) fun b4 => ?_
  refine l_val rfl (o_assign rfl) ?_
  refine l_nil ?_
  refine kt_norm ?_
  refine v_seq ?_
  refine v_seq ?_
  refine v_region ?_
  refine l_val rfl (o_loadW (key := 3) rfl rfl rfl) ?_
  refine l_ans (vs := [_, _]) rfl rfl (a_within _ _ (by omega)) ?_
  refine lz_bool (fun hwp => ?_) (fun hwp => ?_)
  · skip
    refine l_val rfl (o_not rfl rfl) ?_
    refine l_val rfl (o_move rfl) ?_
    refine l_val rfl (o_loadW (key := 4) rfl rfl rfl) ?_
    refine l_ans (vs := [_, _]) rfl rfl (a_within _ _ (by omega)) ?_
    refine lz_bool (fun hwq => ?_) (fun hwq => ?_)
    · skip
      refine l_val rfl (o_not rfl rfl) ?_
      refine l_val rfl (o_pickF rfl rfl) ?_
      refine l_val rfl (o_move rfl) ?_
      refine l_val rfl (o_move rfl) ?_
      refine l_split rfl (o_lss rfl rfl) (fun q1 => ?_) (fun q1 => ?_)
      · skip
        refine l_val rfl (o_pickF rfl rfl) ?_
        refine l_val rfl (o_move rfl) ?_
        refine l_no rfl ?_
        refine l_no rfl ?_
        refine l_val rfl (o_pickT rfl rfl) ?_
        refine l_val rfl (o_move rfl) ?_
        refine l_no rfl ?_
        refine l_no rfl ?_
        refine l_val rfl (o_pickT rfl rfl) ?_
        refine l_nil ?_
        refine kt_norm ?_
        refine v_sel [2, 3, 4, 33] [3, 4] rfl rfl ?_
        refine v_condT rfl ?_
        refine v_seq ?_
        refine v_region ?_
        refine l_call (ks := []) rfl (o_callC (vs := []) (r := .bool true) (ent_of Try.func14 rfl rfl) rfl (fun w' hg hh => a_shown w')) ?_
        refine l_val rfl (o_assign rfl) ?_
        refine l_nil ?_
        refine kt_norm ?_
        refine v_ret ?_
        refine kt_ret ?_
        refine ⟨[_], .cons (.tmp rfl) (ResAll.nil), ?_⟩
        rfl
      · skip
        refine l_val rfl (o_pickF rfl rfl) ?_
        refine l_val rfl (o_move rfl) ?_
        refine l_val rfl (o_move rfl) ?_
        refine l_split rfl (o_gtr rfl rfl) (fun q2 => ?_) (fun q2 => ?_)
        · skip
          refine l_val rfl (o_pickF rfl rfl) ?_
          refine l_val rfl (o_move rfl) ?_
          refine l_no rfl ?_
          refine l_no rfl ?_
          refine l_val rfl (o_pickT rfl rfl) ?_
          refine l_nil ?_
          refine kt_norm ?_
          refine v_sel [2, 3, 4, 33] [3, 4] rfl rfl ?_
          refine v_condT rfl ?_
          refine v_seq ?_
          refine v_region ?_
          refine l_call (ks := []) rfl (o_callC (vs := []) (r := .bool true) (ent_of Try.func14 rfl rfl) rfl (fun w' hg hh => a_shown w')) ?_
          refine l_val rfl (o_assign rfl) ?_
          refine l_nil ?_
          refine kt_norm ?_
          refine v_ret ?_
          refine kt_ret ?_
          refine ⟨[_], .cons (.tmp rfl) (ResAll.nil), ?_⟩
          rfl
        · skip
          refine l_val rfl (o_pickF rfl rfl) ?_
          refine l_val rfl (o_move rfl) ?_
          refine l_call (ks := []) rfl (o_callC (vs := []) (r := .bool true) (ent_of Try.func14 rfl rfl) rfl (fun w' hg hh => a_shown w')) ?_
          refine l_val rfl (o_not rfl rfl) ?_
          refine l_val rfl (o_pickF rfl rfl) ?_
          refine l_nil ?_
          refine kt_norm ?_
          refine v_sel [2, 3, 4, 33] [3, 4] rfl rfl ?_
          refine v_condF rfl ?_
          refine v_skip ?_
          refine kt_norm ?_
          refine v_seq ?_
          refine v_region ?_
          have hgp : ((-536870912 ≤ p.x ∧ p.x ≤ 536870912) ∧ (-536870912 ≤ p.y ∧ p.y ≤ 536870912)) := by omega
          have hgr : 1 ≤ r ∧ r ≤ 131072 := by omega
          have hnp : NearT p := by unfold NearT; omega
          have hnq : NearT q := by unfold NearT; omega
          have m1 := mul_bound (A := 524288) (B := 524288) (x := (q.x - p.x)) (y := (q.x - p.x)) (by omega) (by omega) (by omega) (by omega)
          have m2 := mul_bound (A := 524288) (B := 524288) (x := (q.y - p.y)) (y := (q.y - p.y)) (by omega) (by omega) (by omega) (by omega)
          have m3 := mul_bound (A := 131074) (B := 131074) (x := (r + 2)) (y := (r + 2)) (by omega) (by omega) (by omega) (by omega)
          have m4 := mul_bound (A := 131072) (B := 131072) (x := r) (y := r) (by omega) (by omega) (by omega) (by omega)
          obtain ⟨Q, hQ⟩ : ∃ Q, piesT p r (discC r) [] = Q := ⟨_, rfl⟩
          have hT : ∀ x ∈ Q, TriT p x := hQ ▸ tri_app hgp (arcs_bd hgr (disc_bd hgr) 4 (by show 4 < 5; omega)) (fun x h => by cases h)
          have hl1 : Q.length ≤ 256 := by have := disc_len p r []; rw [hQ, List.length_nil] at this; omega
          have h4 : 4 ≤ Q.length := hQ ▸ disc_four hgr
          refine l_val rfl (o_loadW (key := 3) rfl rfl rfl) ?_
          refine l_val rfl (o_move rfl) ?_
          refine l_gsaid (ks := []) (caps := #[]) (vs := [_, _, _]) (α := PutsY (.slice none 0 0) [] [] Q) (fun x => x.1.1) (fun x w' => SaidOk w' x.1.2.2.1 x.1.2.2.2) (fun x b => x.1.2.2.2 b) rfl rfl (ent_of Try.func15 rfl rfl) rfl (fun x w1 w2 h hb => h.keep hb) (fun x w1 b h hb => h.lt hb) (fun w' hg hh => a_DiscQ w' _ [] [] p r pcsW_nil capd_nil (pcsAt_nil w') (by show 0 ≤ 2000; omega) hgp hgr hQ) fun xa => ?_
          have hVa : RowV xa.1.1 Q.length := xa.2.1.V
          have hla : xa.1.2.1.length = Q.length := xa.2.1.lenv
          refine l_val rfl (o_assign rfl) ?_
          refine l_nil ?_
          refine kt_norm ?_
          refine v_seq ?_
          refine v_region ?_
          refine l_val rfl (o_loadW (key := 4) rfl rfl rfl) ?_
          refine l_val rfl (o_loadW (key := 3) rfl rfl rfl) ?_
          refine l_ans (vs := [_, _]) rfl rfl (r_PSub _ _ _ _ ?_ ?_ ?_ ?_) ?_
          · omega
          · omega
          · omega
          · omega
          refine l_new rfl o_alloc fun b8 => ?_
          refine l_store rfl (o_storeW (key := 8) (xs := [_, _]) rfl rfl rfl rfl rfl rfl rfl) ?_
          refine l_nil ?_
          refine kt_norm ?_
          refine v_sel [2, 3, 4, 7, 8] [3, 4, 8] rfl rfl ?_
          refine v_seq ?_
          refine v_region ?_
          refine l_val rfl (o_loadW (key := 8) rfl rfl rfl) ?_
          refine l_val rfl (o_loadW (key := 8) rfl rfl rfl) ?_
          refine l_ans (vs := [_, _]) rfl rfl (r_Dot _ _ _ _ ?_ ?_ ?_ ?_) ?_
          · omega
          · omega
          · omega
          · omega
          refine l_val rfl (o_move rfl) ?_
          refine l_val rfl (o_addi rfl rfl ?_) ?_
          · omega
          refine l_val rfl (o_move rfl) ?_
          refine l_val rfl (o_addi rfl rfl ?_) ?_
          · omega
          refine l_val rfl (o_muli rfl rfl ?_) ?_
          · omega
          refine l_split rfl (o_gtr rfl rfl) (fun hfar => ?_) (fun hfar => ?_)
          · skip
            refine l_val rfl (o_assign rfl) ?_
            refine l_nil ?_
            refine kt_norm ?_
            refine v_sel [2, 3, 4, 7, 8, 9] [3, 4, 8] rfl rfl ?_
            refine v_seq ?_
            refine v_region ?_
            refine l_val rfl (o_loadW (key := 8) rfl rfl rfl) ?_
            refine l_val rfl (o_loadW (key := 8) rfl rfl rfl) ?_
            refine l_ans (vs := [_, _]) rfl rfl (r_Dot _ _ _ _ ?_ ?_ ?_ ?_) ?_
            · omega
            · omega
            · omega
            · omega
            refine l_val rfl (o_muli rfl rfl ?_) ?_
            · omega
            refine l_val rfl (o_move rfl) ?_
            refine l_val rfl (o_move rfl) ?_
            refine l_val rfl (o_muli rfl rfl ?_) ?_
            · omega
            refine l_split rfl (o_leq rfl rfl) (fun hclose => ?_) (fun hclose => ?_)
            · skip
              refine l_val rfl (o_assign rfl) ?_
              refine l_nil ?_
              refine kt_norm ?_
              refine v_sel [3, 4, 7, 9, 10] [3, 4] rfl rfl ?_
              refine v_seq ?_
              refine v_region ?_
              refine l_val rfl (o_assign rfl) ?_
              refine l_nil ?_
              refine kt_norm ?_
              refine v_seq ?_
              refine v_region ?_
              refine l_val rfl (o_assign rfl) ?_
              refine l_nil ?_
              refine kt_norm ?_
              refine v_seq ?_
              refine v_seq ?_
              refine v_region ?_
              refine l_val rfl (o_assign rfl) ?_
              refine l_nil ?_
              refine kt_norm ?_
              refine v_block ?_
              refine v_loopS (α := Nat × Nat) (fun ⟨i, a⟩ => [(13, .int .i64 (i : Int)), (11, .int .i64 (a : Int)), (12, .int .i64 (i : Int))]) (fun ⟨i, a⟩ => [])  (fun ⟨i, a⟩ => i ≤ Q.length ∧ a = (Q.take i).countP (fun pc => leftB pc q)) (fun ⟨i, a⟩ => Q.length - i) (0, 0) [3, 4, 7, 9, 10] [3, 4] ⟨Nat.zero_le _, rfl⟩  (And.intro rfl (And.intro rfl (And.intro rfl (True.intro)))) rfl (True.intro) rfl ?_
              rintro ⟨i, a⟩ ⟨hi, hcnt⟩
              have hai : a ≤ i := by
                rw [hcnt]; have h1 := List.countP_le_length (p := fun pc => leftB pc q) (l := Q.take i); rw [List.length_take] at h1; omega
              refine v_seq ?_
              refine v_seq ?_
              refine v_region ?_
              refine l_val rfl (o_move rfl) ?_
              refine l_val rfl (o_move rfl) ?_
              refine l_val rfl (o_len rfl hVa) ?_
              refine l_split rfl (o_lss rfl rfl) (fun q3 => ?_) (fun q3 => ?_)
              · have hil : i < Q.length := by omega
                have hTi := hT _ (show Q.getD i [] ∈ Q by rw [List.getD_eq_getElem?_getD, List.getElem?_eq_getElem hil]; exact List.getElem_mem hil)
                have hVa1 := xa.2.1.pV i hil
                have hq3 := hTi.1
                have hqc := hTi.2.1
                have hqn := hTi.2.2.2
                have hcs := count_step hil (fun pc => leftB pc q)
                refine l_nil ?_
                refine kt_norm ?_
                refine v_condT rfl ?_
                refine v_skip ?_
                refine kt_norm ?_
                refine v_seq ?_
                refine v_block ?_
                refine v_seq ?_
                refine v_seq ?_
                refine v_drawW [] [[], [], [], [], [4]] mixed ?_ (by kernel_rfl) (by kernel_rfl)
                refine d_val (fun _ => rfl) rfl rfl (fun σ12 => o_move rfl) ?_
                refine d_val (fun _ => rfl) rfl rfl (fun σ12 => o_move rfl) ?_
                refine d_val (fun _ => rfl) rfl rfl (fun σ12 => o_idx (i) rfl hVa rfl (by first | rfl | omega) (by omega)) ?_
                refine d_val (fun _ => rfl) rfl rfl (fun σ12 => o_loadR1 rfl (row_imm (fun w2 hg => by exact (xa.2.2.2 w2 (pcsAt_nil w2) hg.2.1).row)) (el_one (by rw [hla]; exact hil))) ?_
                refine d_val (fun _ => rfl) rfl rfl (fun σ12 => o_loadW (key := 4) rfl rfl rfl) ?_
                refine d_nil (fun σ12 => ?_)
                refine l_call (ks := []) rfl (o_callC (vs := [_, _]) (r := .bool (leftB (Q.getD i []) q)) (ent_of Try.func18 rfl rfl) rfl (fun w' hg hh => a_HasC w' _ (Q.getD i []) q (by omega) hVa1 (by exact (xa.2.2.2 w' (pcsAt_nil w') hg.2.1).pc i hil) hqn hnq hqc rfl)) ?_
                refine lz_cases (fun hlq => ?_) (fun hlq => ?_)
                · skip
                  refine l_nil ?_
                  refine kt_norm ?_
                  refine v_sel [13, 11, 12, 3, 4, 7, 9, 10, 69] [3, 4] rfl rfl ?_
                  refine v_condT rfl ?_
                  refine v_region ?_
                  refine l_val rfl (o_move rfl) ?_
                  refine l_val rfl (o_addi rfl rfl ?_) ?_
                  · omega
                  refine l_val rfl (o_assign rfl) ?_
                  refine l_nil ?_
                  refine kt_norm ?_
                  refine v_seq ?_
                  refine v_drawW [] [[], [], [], [], [3]] mixed ?_ (by kernel_rfl) (by kernel_rfl)
                  refine d_val (fun _ => rfl) rfl rfl (fun σ14 => o_move rfl) ?_
                  refine d_val (fun _ => rfl) rfl rfl (fun σ14 => o_move rfl) ?_
                  refine d_val (fun _ => rfl) rfl rfl (fun σ14 => o_idx (i) rfl hVa rfl (by first | rfl | omega) (by omega)) ?_
                  refine d_val (fun _ => rfl) rfl rfl (fun σ14 => o_loadR1 rfl (row_imm (fun w2 hg => by exact (xa.2.2.2 w2 (pcsAt_nil w2) hg.2.1).row)) (el_one (by rw [hla]; exact hil))) ?_
                  refine d_val (fun _ => rfl) rfl rfl (fun σ14 => o_loadW (key := 3) rfl rfl rfl) ?_
                  refine d_nil (fun σ14 => ?_)
                  refine l_call (ks := []) rfl (o_callC (vs := [_, _]) (r := .bool true) (ent_of Try.func18 rfl rfl) rfl (fun w' hg hh => a_HasC w' _ (Q.getD i []) p (by omega) hVa1 (by exact (xa.2.2.2 w' (pcsAt_nil w') hg.2.1).pc i hil) hqn hnp hqc (tri_has hTi))) ?_
                  refine l_nil ?_
                  refine kt_norm ?_
                  refine v_sel [13, 11, 12, 3, 4, 7, 9, 10, 77] [3, 4] rfl rfl ?_
                  refine v_condT rfl ?_
                  refine v_region ?_
                  refine l_val rfl (o_move rfl) ?_
                  refine l_val rfl (o_addi rfl rfl ?_) ?_
                  · omega
                  refine l_val rfl (o_assign rfl) ?_
                  refine l_nil ?_
                  refine kb_norm ?_
                  refine kt_norm ?_
                  refine v_region ?_
                  refine l_val rfl (o_move rfl) ?_
                  refine l_val rfl (o_addi rfl rfl ?_) ?_
                  · omega
                  refine l_val rfl (o_assign rfl) ?_
                  refine l_nil ?_
                  refine kt_norm ?_
                  refine ⟨(i + 1, a + 1), ⟨hil, by have e := hcs; rw [hlq] at e; rw [e, hcnt]; rfl⟩, (by show Q.length - (i + 1) < Q.length - i; omega), le_app (And.intro rfl (And.intro rfl (And.intro rfl (True.intro)))) [3, 4, 7, 9, 10] rfl (True.intro) [3, 4] rfl⟩
                · skip
                  refine l_nil ?_
                  refine kt_norm ?_
                  refine v_sel [13, 11, 12, 3, 4, 7, 9, 10, 69] [3, 4] rfl rfl ?_
                  refine v_condF rfl ?_
                  refine v_skip ?_
                  refine kt_norm ?_
                  refine v_seq ?_
                  refine v_drawW [] [[], [], [], [], [3]] mixed ?_ (by kernel_rfl) (by kernel_rfl)
                  refine d_val (fun _ => rfl) rfl rfl (fun σ14 => o_move rfl) ?_
                  refine d_val (fun _ => rfl) rfl rfl (fun σ14 => o_move rfl) ?_
                  refine d_val (fun _ => rfl) rfl rfl (fun σ14 => o_idx (i) rfl hVa rfl (by first | rfl | omega) (by omega)) ?_
                  refine d_val (fun _ => rfl) rfl rfl (fun σ14 => o_loadR1 rfl (row_imm (fun w2 hg => by exact (xa.2.2.2 w2 (pcsAt_nil w2) hg.2.1).row)) (el_one (by rw [hla]; exact hil))) ?_
                  refine d_val (fun _ => rfl) rfl rfl (fun σ14 => o_loadW (key := 3) rfl rfl rfl) ?_
                  refine d_nil (fun σ14 => ?_)
                  refine l_call (ks := []) rfl (o_callC (vs := [_, _]) (r := .bool true) (ent_of Try.func18 rfl rfl) rfl (fun w' hg hh => a_HasC w' _ (Q.getD i []) p (by omega) hVa1 (by exact (xa.2.2.2 w' (pcsAt_nil w') hg.2.1).pc i hil) hqn hnp hqc (tri_has hTi))) ?_
                  refine l_nil ?_
                  refine kt_norm ?_
                  refine v_sel [13, 11, 12, 3, 4, 7, 9, 10, 77] [3, 4] rfl rfl ?_
                  refine v_condT rfl ?_
                  refine v_region ?_
                  refine l_val rfl (o_move rfl) ?_
                  refine l_val rfl (o_addi rfl rfl ?_) ?_
                  · omega
                  refine l_val rfl (o_assign rfl) ?_
                  refine l_nil ?_
                  refine kb_norm ?_
                  refine kt_norm ?_
                  refine v_region ?_
                  refine l_val rfl (o_move rfl) ?_
                  refine l_val rfl (o_addi rfl rfl ?_) ?_
                  · omega
                  refine l_val rfl (o_assign rfl) ?_
                  refine l_nil ?_
                  refine kt_norm ?_
                  refine ⟨(i + 1, a), ⟨hil, by have e := hcs; rw [hlq] at e; rw [e, hcnt]; rfl⟩, (by show Q.length - (i + 1) < Q.length - i; omega), le_app (And.intro rfl (And.intro rfl (And.intro rfl (True.intro)))) [3, 4, 7, 9, 10] rfl (True.intro) [3, 4] rfl⟩
              · skip
                refine l_nil ?_
                refine kt_norm ?_
                refine v_condF rfl ?_
                refine v_exit ?_
                refine kt_exit ?_
                refine kt_exit ?_
                refine kb_eq ?_
                refine kt_norm ?_
                refine v_sel [11, 12, 7, 9, 10] [] rfl rfl ?_
                refine v_seq ?_
                refine v_region ?_
                obtain rfl : i = Q.length := by omega
                rw [List.take_length] at hcnt
                have hfz := disc_far (p := p) (q := q) hgr hfar
                rw [hQ] at hfz
                have hnz := disc_near (p := p) (q := q) hgr hclose
                rw [hQ] at hnz
                refine l_val rfl (o_move rfl) ?_
                refine l_val rfl (o_move rfl) ?_
                refine l_val rfl (o_len rfl hVa) ?_
                refine l_split rfl (o_eql rfl rfl) (fun q4 => ?_) (fun q4 => absurd (show _ by omega) q4)
                refine l_val rfl (o_move rfl) ?_
                refine l_val rfl (o_move rfl) ?_
                refine l_val rfl (o_len rfl hVa) ?_
                refine l_split rfl (o_geq rfl rfl) (fun q5 => ?_) (fun q5 => absurd (show _ by omega) q5)
                refine l_val rfl (o_pickT rfl rfl) ?_
                refine l_val rfl (o_move rfl) ?_
                refine l_val rfl (o_move rfl) ?_
                refine l_val rfl (o_not rfl rfl) ?_
                refine l_val rfl (o_move rfl) ?_
                refine l_val rfl (o_move rfl) ?_
                refine l_split rfl (o_eql rfl rfl) (fun q6 => ?_) (fun q6 => absurd (show _ by omega) q6)
                refine l_val rfl (o_pickF rfl rfl) ?_
                refine l_val rfl (o_pickT rfl rfl) ?_
                refine l_val rfl (o_move rfl) ?_
                refine l_val rfl (o_move rfl) ?_
                refine l_val rfl (o_not rfl rfl) ?_
                refine l_val rfl (o_move rfl) ?_
                refine l_val rfl (o_move rfl) ?_
                refine l_split rfl (o_geq rfl rfl) (fun q7 => ?_) (fun q7 => absurd (show _ by omega) q7)
                refine l_val rfl (o_pickF rfl rfl) ?_
                refine l_val rfl (o_pickT rfl rfl) ?_
                refine l_val rfl (o_assign rfl) ?_
                refine l_nil ?_
                refine kt_norm ?_
                refine v_sel [6] [] rfl rfl ?_
                refine v_ret ?_
                refine ⟨[_], .cons (.tmp rfl) (ResAll.nil), ?_⟩
                rfl
            · skip
              refine l_val rfl (o_assign rfl) ?_
              refine l_nil ?_
              refine kt_norm ?_
              refine v_sel [3, 4, 7, 9, 10] [3, 4] rfl rfl ?_
              refine v_seq ?_
              refine v_region ?_
              refine l_val rfl (o_assign rfl) ?_
              refine l_nil ?_
              refine kt_norm ?_
              refine v_seq ?_
              refine v_region ?_
              refine l_val rfl (o_assign rfl) ?_
              refine l_nil ?_
              refine kt_norm ?_
              refine v_seq ?_
              refine v_seq ?_
              refine v_region ?_
              refine l_val rfl (o_assign rfl) ?_
              refine l_nil ?_
              refine kt_norm ?_
              refine v_block ?_
              refine v_loopS (α := Nat × Nat) (fun ⟨i, a⟩ => [(13, .int .i64 (i : Int)), (11, .int .i64 (a : Int)), (12, .int .i64 (i : Int))]) (fun ⟨i, a⟩ => [])  (fun ⟨i, a⟩ => i ≤ Q.length ∧ a = (Q.take i).countP (fun pc => leftB pc q)) (fun ⟨i, a⟩ => Q.length - i) (0, 0) [3, 4, 7, 9, 10] [3, 4] ⟨Nat.zero_le _, rfl⟩  (And.intro rfl (And.intro rfl (And.intro rfl (True.intro)))) rfl (True.intro) rfl ?_
              rintro ⟨i, a⟩ ⟨hi, hcnt⟩
              have hai : a ≤ i := by
                rw [hcnt]; have h1 := List.countP_le_length (p := fun pc => leftB pc q) (l := Q.take i); rw [List.length_take] at h1; omega
              refine v_seq ?_
              refine v_seq ?_
              refine v_region ?_
              refine l_val rfl (o_move rfl) ?_
              refine l_val rfl (o_move rfl) ?_
              refine l_val rfl (o_len rfl hVa) ?_
              refine l_split rfl (o_lss rfl rfl) (fun q8 => ?_) (fun q8 => ?_)
              · have hil : i < Q.length := by omega
                have hTi := hT _ (show Q.getD i [] ∈ Q by rw [List.getD_eq_getElem?_getD, List.getElem?_eq_getElem hil]; exact List.getElem_mem hil)
                have hVa1 := xa.2.1.pV i hil
                have hq3 := hTi.1
                have hqc := hTi.2.1
                have hqn := hTi.2.2.2
                have hcs := count_step hil (fun pc => leftB pc q)
                refine l_nil ?_
                refine kt_norm ?_
                refine v_condT rfl ?_
                refine v_skip ?_
                refine kt_norm ?_
                refine v_seq ?_
                refine v_block ?_
                refine v_seq ?_
                refine v_seq ?_
                refine v_drawW [] [[], [], [], [], [4]] mixed ?_ (by kernel_rfl) (by kernel_rfl)
                refine d_val (fun _ => rfl) rfl rfl (fun σ12 => o_move rfl) ?_
                refine d_val (fun _ => rfl) rfl rfl (fun σ12 => o_move rfl) ?_
                refine d_val (fun _ => rfl) rfl rfl (fun σ12 => o_idx (i) rfl hVa rfl (by first | rfl | omega) (by omega)) ?_
                refine d_val (fun _ => rfl) rfl rfl (fun σ12 => o_loadR1 rfl (row_imm (fun w2 hg => by exact (xa.2.2.2 w2 (pcsAt_nil w2) hg.2.1).row)) (el_one (by rw [hla]; exact hil))) ?_
                refine d_val (fun _ => rfl) rfl rfl (fun σ12 => o_loadW (key := 4) rfl rfl rfl) ?_
                refine d_nil (fun σ12 => ?_)
                refine l_call (ks := []) rfl (o_callC (vs := [_, _]) (r := .bool (leftB (Q.getD i []) q)) (ent_of Try.func18 rfl rfl) rfl (fun w' hg hh => a_HasC w' _ (Q.getD i []) q (by omega) hVa1 (by exact (xa.2.2.2 w' (pcsAt_nil w') hg.2.1).pc i hil) hqn hnq hqc rfl)) ?_
                refine lz_cases (fun hlq => ?_) (fun hlq => ?_)
                · skip
                  refine l_nil ?_
                  refine kt_norm ?_
                  refine v_sel [13, 11, 12, 3, 4, 7, 9, 10, 69] [3, 4] rfl rfl ?_
                  refine v_condT rfl ?_
                  refine v_region ?_
                  refine l_val rfl (o_move rfl) ?_
                  refine l_val rfl (o_addi rfl rfl ?_) ?_
                  · omega
                  refine l_val rfl (o_assign rfl) ?_
                  refine l_nil ?_
                  refine kt_norm ?_
                  refine v_seq ?_
                  refine v_drawW [] [[], [], [], [], [3]] mixed ?_ (by kernel_rfl) (by kernel_rfl)
                  refine d_val (fun _ => rfl) rfl rfl (fun σ14 => o_move rfl) ?_
                  refine d_val (fun _ => rfl) rfl rfl (fun σ14 => o_move rfl) ?_
                  refine d_val (fun _ => rfl) rfl rfl (fun σ14 => o_idx (i) rfl hVa rfl (by first | rfl | omega) (by omega)) ?_
                  refine d_val (fun _ => rfl) rfl rfl (fun σ14 => o_loadR1 rfl (row_imm (fun w2 hg => by exact (xa.2.2.2 w2 (pcsAt_nil w2) hg.2.1).row)) (el_one (by rw [hla]; exact hil))) ?_
                  refine d_val (fun _ => rfl) rfl rfl (fun σ14 => o_loadW (key := 3) rfl rfl rfl) ?_
                  refine d_nil (fun σ14 => ?_)
                  refine l_call (ks := []) rfl (o_callC (vs := [_, _]) (r := .bool true) (ent_of Try.func18 rfl rfl) rfl (fun w' hg hh => a_HasC w' _ (Q.getD i []) p (by omega) hVa1 (by exact (xa.2.2.2 w' (pcsAt_nil w') hg.2.1).pc i hil) hqn hnp hqc (tri_has hTi))) ?_
                  refine l_nil ?_
                  refine kt_norm ?_
                  refine v_sel [13, 11, 12, 3, 4, 7, 9, 10, 77] [3, 4] rfl rfl ?_
                  refine v_condT rfl ?_
                  refine v_region ?_
                  refine l_val rfl (o_move rfl) ?_
                  refine l_val rfl (o_addi rfl rfl ?_) ?_
                  · omega
                  refine l_val rfl (o_assign rfl) ?_
                  refine l_nil ?_
                  refine kb_norm ?_
                  refine kt_norm ?_
                  refine v_region ?_
                  refine l_val rfl (o_move rfl) ?_
                  refine l_val rfl (o_addi rfl rfl ?_) ?_
                  · omega
                  refine l_val rfl (o_assign rfl) ?_
                  refine l_nil ?_
                  refine kt_norm ?_
                  refine ⟨(i + 1, a + 1), ⟨hil, by have e := hcs; rw [hlq] at e; rw [e, hcnt]; rfl⟩, (by show Q.length - (i + 1) < Q.length - i; omega), le_app (And.intro rfl (And.intro rfl (And.intro rfl (True.intro)))) [3, 4, 7, 9, 10] rfl (True.intro) [3, 4] rfl⟩
                · skip
                  refine l_nil ?_
                  refine kt_norm ?_
                  refine v_sel [13, 11, 12, 3, 4, 7, 9, 10, 69] [3, 4] rfl rfl ?_
                  refine v_condF rfl ?_
                  refine v_skip ?_
                  refine kt_norm ?_
                  refine v_seq ?_
                  refine v_drawW [] [[], [], [], [], [3]] mixed ?_ (by kernel_rfl) (by kernel_rfl)
                  refine d_val (fun _ => rfl) rfl rfl (fun σ14 => o_move rfl) ?_
                  refine d_val (fun _ => rfl) rfl rfl (fun σ14 => o_move rfl) ?_
                  refine d_val (fun _ => rfl) rfl rfl (fun σ14 => o_idx (i) rfl hVa rfl (by first | rfl | omega) (by omega)) ?_
                  refine d_val (fun _ => rfl) rfl rfl (fun σ14 => o_loadR1 rfl (row_imm (fun w2 hg => by exact (xa.2.2.2 w2 (pcsAt_nil w2) hg.2.1).row)) (el_one (by rw [hla]; exact hil))) ?_
                  refine d_val (fun _ => rfl) rfl rfl (fun σ14 => o_loadW (key := 3) rfl rfl rfl) ?_
                  refine d_nil (fun σ14 => ?_)
                  refine l_call (ks := []) rfl (o_callC (vs := [_, _]) (r := .bool true) (ent_of Try.func18 rfl rfl) rfl (fun w' hg hh => a_HasC w' _ (Q.getD i []) p (by omega) hVa1 (by exact (xa.2.2.2 w' (pcsAt_nil w') hg.2.1).pc i hil) hqn hnp hqc (tri_has hTi))) ?_
                  refine l_nil ?_
                  refine kt_norm ?_
                  refine v_sel [13, 11, 12, 3, 4, 7, 9, 10, 77] [3, 4] rfl rfl ?_
                  refine v_condT rfl ?_
                  refine v_region ?_
                  refine l_val rfl (o_move rfl) ?_
                  refine l_val rfl (o_addi rfl rfl ?_) ?_
                  · omega
                  refine l_val rfl (o_assign rfl) ?_
                  refine l_nil ?_
                  refine kb_norm ?_
                  refine kt_norm ?_
                  refine v_region ?_
                  refine l_val rfl (o_move rfl) ?_
                  refine l_val rfl (o_addi rfl rfl ?_) ?_
                  · omega
                  refine l_val rfl (o_assign rfl) ?_
                  refine l_nil ?_
                  refine kt_norm ?_
                  refine ⟨(i + 1, a), ⟨hil, by have e := hcs; rw [hlq] at e; rw [e, hcnt]; rfl⟩, (by show Q.length - (i + 1) < Q.length - i; omega), le_app (And.intro rfl (And.intro rfl (And.intro rfl (True.intro)))) [3, 4, 7, 9, 10] rfl (True.intro) [3, 4] rfl⟩
              · skip
                refine l_nil ?_
                refine kt_norm ?_
                refine v_condF rfl ?_
                refine v_exit ?_
                refine kt_exit ?_
                refine kt_exit ?_
                refine kb_eq ?_
                refine kt_norm ?_
                refine v_sel [11, 12, 7, 9, 10] [] rfl rfl ?_
                refine v_seq ?_
                refine v_region ?_
                obtain rfl : i = Q.length := by omega
                rw [List.take_length] at hcnt
                have hfz := disc_far (p := p) (q := q) hgr hfar
                rw [hQ] at hfz
                refine l_val rfl (o_move rfl) ?_
                refine l_val rfl (o_move rfl) ?_
                refine l_val rfl (o_len rfl hVa) ?_
                refine l_split rfl (o_eql rfl rfl) (fun q9 => ?_) (fun q9 => absurd (show _ by omega) q9)
                refine l_val rfl (o_move rfl) ?_
                refine l_val rfl (o_move rfl) ?_
                refine l_val rfl (o_len rfl hVa) ?_
                refine l_split rfl (o_geq rfl rfl) (fun q10 => ?_) (fun q10 => absurd (show _ by omega) q10)
                refine l_val rfl (o_pickT rfl rfl) ?_
                refine l_val rfl (o_move rfl) ?_
                refine l_val rfl (o_move rfl) ?_
                refine l_val rfl (o_not rfl rfl) ?_
                refine l_val rfl (o_move rfl) ?_
                refine l_val rfl (o_move rfl) ?_
                refine l_split rfl (o_eql rfl rfl) (fun q11 => ?_) (fun q11 => absurd (show _ by omega) q11)
                refine l_val rfl (o_pickF rfl rfl) ?_
                refine l_val rfl (o_pickT rfl rfl) ?_
                refine l_val rfl (o_move rfl) ?_
                refine l_val rfl (o_move rfl) ?_
                refine l_val rfl (o_not rfl rfl) ?_
                refine l_val rfl (o_move rfl) ?_
                refine l_no rfl ?_
                refine l_no rfl ?_
                refine l_val rfl (o_pickT rfl rfl) ?_
                refine l_val rfl (o_pickT rfl rfl) ?_
                refine l_val rfl (o_assign rfl) ?_
                refine l_nil ?_
                refine kt_norm ?_
                refine v_sel [6] [] rfl rfl ?_
                refine v_ret ?_
                refine ⟨[_], .cons (.tmp rfl) (ResAll.nil), ?_⟩
                rfl
          · skip
            refine l_val rfl (o_assign rfl) ?_
            refine l_nil ?_
            refine kt_norm ?_
            refine v_sel [2, 3, 4, 7, 8, 9] [3, 4, 8] rfl rfl ?_
            refine v_seq ?_
            refine v_region ?_
            refine l_val rfl (o_loadW (key := 8) rfl rfl rfl) ?_
            refine l_val rfl (o_loadW (key := 8) rfl rfl rfl) ?_
            refine l_ans (vs := [_, _]) rfl rfl (r_Dot _ _ _ _ ?_ ?_ ?_ ?_) ?_
            · omega
            · omega
            · omega
            · omega
            refine l_val rfl (o_muli rfl rfl ?_) ?_
            · omega
            refine l_val rfl (o_move rfl) ?_
            refine l_val rfl (o_move rfl) ?_
            refine l_val rfl (o_muli rfl rfl ?_) ?_
            · omega
            refine l_split rfl (o_leq rfl rfl) (fun hclose => ?_) (fun hclose => ?_)
            · skip
              refine l_val rfl (o_assign rfl) ?_
              refine l_nil ?_
              refine kt_norm ?_
              refine v_sel [3, 4, 7, 9, 10] [3, 4] rfl rfl ?_
              refine v_seq ?_
              refine v_region ?_
              refine l_val rfl (o_assign rfl) ?_
              refine l_nil ?_
              refine kt_norm ?_
              refine v_seq ?_
              refine v_region ?_
              refine l_val rfl (o_assign rfl) ?_
              refine l_nil ?_
              refine kt_norm ?_
              refine v_seq ?_
              refine v_seq ?_
              refine v_region ?_
              refine l_val rfl (o_assign rfl) ?_
              refine l_nil ?_
              refine kt_norm ?_
              refine v_block ?_
              refine v_loopS (α := Nat × Nat) (fun ⟨i, a⟩ => [(13, .int .i64 (i : Int)), (11, .int .i64 (a : Int)), (12, .int .i64 (i : Int))]) (fun ⟨i, a⟩ => [])  (fun ⟨i, a⟩ => i ≤ Q.length ∧ a = (Q.take i).countP (fun pc => leftB pc q)) (fun ⟨i, a⟩ => Q.length - i) (0, 0) [3, 4, 7, 9, 10] [3, 4] ⟨Nat.zero_le _, rfl⟩  (And.intro rfl (And.intro rfl (And.intro rfl (True.intro)))) rfl (True.intro) rfl ?_
              rintro ⟨i, a⟩ ⟨hi, hcnt⟩
              have hai : a ≤ i := by
                rw [hcnt]; have h1 := List.countP_le_length (p := fun pc => leftB pc q) (l := Q.take i); rw [List.length_take] at h1; omega
              refine v_seq ?_
              refine v_seq ?_
              refine v_region ?_
              refine l_val rfl (o_move rfl) ?_
              refine l_val rfl (o_move rfl) ?_
              refine l_val rfl (o_len rfl hVa) ?_
              refine l_split rfl (o_lss rfl rfl) (fun q12 => ?_) (fun q12 => ?_)
              · have hil : i < Q.length := by omega
                have hTi := hT _ (show Q.getD i [] ∈ Q by rw [List.getD_eq_getElem?_getD, List.getElem?_eq_getElem hil]; exact List.getElem_mem hil)
                have hVa1 := xa.2.1.pV i hil
                have hq3 := hTi.1
                have hqc := hTi.2.1
                have hqn := hTi.2.2.2
                have hcs := count_step hil (fun pc => leftB pc q)
                refine l_nil ?_
                refine kt_norm ?_
                refine v_condT rfl ?_
                refine v_skip ?_
                refine kt_norm ?_
                refine v_seq ?_
                refine v_block ?_
                refine v_seq ?_
                refine v_seq ?_
                refine v_drawW [] [[], [], [], [], [4]] mixed ?_ (by kernel_rfl) (by kernel_rfl)
                refine d_val (fun _ => rfl) rfl rfl (fun σ12 => o_move rfl) ?_
                refine d_val (fun _ => rfl) rfl rfl (fun σ12 => o_move rfl) ?_
                refine d_val (fun _ => rfl) rfl rfl (fun σ12 => o_idx (i) rfl hVa rfl (by first | rfl | omega) (by omega)) ?_
                refine d_val (fun _ => rfl) rfl rfl (fun σ12 => o_loadR1 rfl (row_imm (fun w2 hg => by exact (xa.2.2.2 w2 (pcsAt_nil w2) hg.2.1).row)) (el_one (by rw [hla]; exact hil))) ?_
                refine d_val (fun _ => rfl) rfl rfl (fun σ12 => o_loadW (key := 4) rfl rfl rfl) ?_
                refine d_nil (fun σ12 => ?_)
                refine l_call (ks := []) rfl (o_callC (vs := [_, _]) (r := .bool (leftB (Q.getD i []) q)) (ent_of Try.func18 rfl rfl) rfl (fun w' hg hh => a_HasC w' _ (Q.getD i []) q (by omega) hVa1 (by exact (xa.2.2.2 w' (pcsAt_nil w') hg.2.1).pc i hil) hqn hnq hqc rfl)) ?_
                refine lz_cases (fun hlq => ?_) (fun hlq => ?_)
                · skip
                  refine l_nil ?_
                  refine kt_norm ?_
                  refine v_sel [13, 11, 12, 3, 4, 7, 9, 10, 69] [3, 4] rfl rfl ?_
                  refine v_condT rfl ?_
                  refine v_region ?_
                  refine l_val rfl (o_move rfl) ?_
                  refine l_val rfl (o_addi rfl rfl ?_) ?_
                  · omega
                  refine l_val rfl (o_assign rfl) ?_
                  refine l_nil ?_
                  refine kt_norm ?_
                  refine v_seq ?_
                  refine v_drawW [] [[], [], [], [], [3]] mixed ?_ (by kernel_rfl) (by kernel_rfl)
                  refine d_val (fun _ => rfl) rfl rfl (fun σ14 => o_move rfl) ?_
                  refine d_val (fun _ => rfl) rfl rfl (fun σ14 => o_move rfl) ?_
                  refine d_val (fun _ => rfl) rfl rfl (fun σ14 => o_idx (i) rfl hVa rfl (by first | rfl | omega) (by omega)) ?_
                  refine d_val (fun _ => rfl) rfl rfl (fun σ14 => o_loadR1 rfl (row_imm (fun w2 hg => by exact (xa.2.2.2 w2 (pcsAt_nil w2) hg.2.1).row)) (el_one (by rw [hla]; exact hil))) ?_
                  refine d_val (fun _ => rfl) rfl rfl (fun σ14 => o_loadW (key := 3) rfl rfl rfl) ?_
                  refine d_nil (fun σ14 => ?_)
                  refine l_call (ks := []) rfl (o_callC (vs := [_, _]) (r := .bool true) (ent_of Try.func18 rfl rfl) rfl (fun w' hg hh => a_HasC w' _ (Q.getD i []) p (by omega) hVa1 (by exact (xa.2.2.2 w' (pcsAt_nil w') hg.2.1).pc i hil) hqn hnp hqc (tri_has hTi))) ?_
                  refine l_nil ?_
                  refine kt_norm ?_
                  refine v_sel [13, 11, 12, 3, 4, 7, 9, 10, 77] [3, 4] rfl rfl ?_
                  refine v_condT rfl ?_
                  refine v_region ?_
                  refine l_val rfl (o_move rfl) ?_
                  refine l_val rfl (o_addi rfl rfl ?_) ?_
                  · omega
                  refine l_val rfl (o_assign rfl) ?_
                  refine l_nil ?_
                  refine kb_norm ?_
                  refine kt_norm ?_
                  refine v_region ?_
                  refine l_val rfl (o_move rfl) ?_
                  refine l_val rfl (o_addi rfl rfl ?_) ?_
                  · omega
                  refine l_val rfl (o_assign rfl) ?_
                  refine l_nil ?_
                  refine kt_norm ?_
                  refine ⟨(i + 1, a + 1), ⟨hil, by have e := hcs; rw [hlq] at e; rw [e, hcnt]; rfl⟩, (by show Q.length - (i + 1) < Q.length - i; omega), le_app (And.intro rfl (And.intro rfl (And.intro rfl (True.intro)))) [3, 4, 7, 9, 10] rfl (True.intro) [3, 4] rfl⟩
                · skip
                  refine l_nil ?_
                  refine kt_norm ?_
                  refine v_sel [13, 11, 12, 3, 4, 7, 9, 10, 69] [3, 4] rfl rfl ?_
                  refine v_condF rfl ?_
                  refine v_skip ?_
                  refine kt_norm ?_
                  refine v_seq ?_
                  refine v_drawW [] [[], [], [], [], [3]] mixed ?_ (by kernel_rfl) (by kernel_rfl)
                  refine d_val (fun _ => rfl) rfl rfl (fun σ14 => o_move rfl) ?_
                  refine d_val (fun _ => rfl) rfl rfl (fun σ14 => o_move rfl) ?_
                  refine d_val (fun _ => rfl) rfl rfl (fun σ14 => o_idx (i) rfl hVa rfl (by first | rfl | omega) (by omega)) ?_
                  refine d_val (fun _ => rfl) rfl rfl (fun σ14 => o_loadR1 rfl (row_imm (fun w2 hg => by exact (xa.2.2.2 w2 (pcsAt_nil w2) hg.2.1).row)) (el_one (by rw [hla]; exact hil))) ?_
                  refine d_val (fun _ => rfl) rfl rfl (fun σ14 => o_loadW (key := 3) rfl rfl rfl) ?_
                  refine d_nil (fun σ14 => ?_)
                  refine l_call (ks := []) rfl (o_callC (vs := [_, _]) (r := .bool true) (ent_of Try.func18 rfl rfl) rfl (fun w' hg hh => a_HasC w' _ (Q.getD i []) p (by omega) hVa1 (by exact (xa.2.2.2 w' (pcsAt_nil w') hg.2.1).pc i hil) hqn hnp hqc (tri_has hTi))) ?_
                  refine l_nil ?_
                  refine kt_norm ?_
                  refine v_sel [13, 11, 12, 3, 4, 7, 9, 10, 77] [3, 4] rfl rfl ?_
                  refine v_condT rfl ?_
                  refine v_region ?_
                  refine l_val rfl (o_move rfl) ?_
                  refine l_val rfl (o_addi rfl rfl ?_) ?_
                  · omega
                  refine l_val rfl (o_assign rfl) ?_
                  refine l_nil ?_
                  refine kb_norm ?_
                  refine kt_norm ?_
                  refine v_region ?_
                  refine l_val rfl (o_move rfl) ?_
                  refine l_val rfl (o_addi rfl rfl ?_) ?_
                  · omega
                  refine l_val rfl (o_assign rfl) ?_
                  refine l_nil ?_
                  refine kt_norm ?_
                  refine ⟨(i + 1, a), ⟨hil, by have e := hcs; rw [hlq] at e; rw [e, hcnt]; rfl⟩, (by show Q.length - (i + 1) < Q.length - i; omega), le_app (And.intro rfl (And.intro rfl (And.intro rfl (True.intro)))) [3, 4, 7, 9, 10] rfl (True.intro) [3, 4] rfl⟩
              · skip
                refine l_nil ?_
                refine kt_norm ?_
                refine v_condF rfl ?_
                refine v_exit ?_
                refine kt_exit ?_
                refine kt_exit ?_
                refine kb_eq ?_
                refine kt_norm ?_
                refine v_sel [11, 12, 7, 9, 10] [] rfl rfl ?_
                refine v_seq ?_
                refine v_region ?_
                obtain rfl : i = Q.length := by omega
                rw [List.take_length] at hcnt
                have hnz := disc_near (p := p) (q := q) hgr hclose
                rw [hQ] at hnz
                refine l_val rfl (o_move rfl) ?_
                refine l_val rfl (o_move rfl) ?_
                refine l_val rfl (o_len rfl hVa) ?_
                refine l_split rfl (o_eql rfl rfl) (fun q13 => ?_) (fun q13 => absurd (show _ by omega) q13)
                refine l_val rfl (o_move rfl) ?_
                refine l_val rfl (o_move rfl) ?_
                refine l_val rfl (o_len rfl hVa) ?_
                refine l_split rfl (o_geq rfl rfl) (fun q14 => ?_) (fun q14 => absurd (show _ by omega) q14)
                refine l_val rfl (o_pickT rfl rfl) ?_
                refine l_val rfl (o_move rfl) ?_
                refine l_val rfl (o_move rfl) ?_
                refine l_val rfl (o_not rfl rfl) ?_
                refine l_val rfl (o_move rfl) ?_
                refine l_no rfl ?_
                refine l_no rfl ?_
                refine l_val rfl (o_pickT rfl rfl) ?_
                refine l_val rfl (o_pickT rfl rfl) ?_
                refine l_val rfl (o_move rfl) ?_
                refine l_val rfl (o_move rfl) ?_
                refine l_val rfl (o_not rfl rfl) ?_
                refine l_val rfl (o_move rfl) ?_
                refine l_val rfl (o_move rfl) ?_
                refine l_split rfl (o_geq rfl rfl) (fun q15 => ?_) (fun q15 => absurd (show _ by omega) q15)
                refine l_val rfl (o_pickF rfl rfl) ?_
                refine l_val rfl (o_pickT rfl rfl) ?_
                refine l_val rfl (o_assign rfl) ?_
                refine l_nil ?_
                refine kt_norm ?_
                refine v_sel [6] [] rfl rfl ?_
                refine v_ret ?_
                refine ⟨[_], .cons (.tmp rfl) (ResAll.nil), ?_⟩
                rfl
            · skip
              refine l_val rfl (o_assign rfl) ?_
              refine l_nil ?_
              refine kt_norm ?_
              refine v_sel [3, 4, 7, 9, 10] [3, 4] rfl rfl ?_
              refine v_seq ?_
              refine v_region ?_
              refine l_val rfl (o_assign rfl) ?_
              refine l_nil ?_
              refine kt_norm ?_
              refine v_seq ?_
              refine v_region ?_
              refine l_val rfl (o_assign rfl) ?_
              refine l_nil ?_
              refine kt_norm ?_
              refine v_seq ?_
              refine v_seq ?_
              refine v_region ?_
              refine l_val rfl (o_assign rfl) ?_
              refine l_nil ?_
              refine kt_norm ?_
              refine v_block ?_
              refine v_loopS (α := Nat × Nat) (fun ⟨i, a⟩ => [(13, .int .i64 (i : Int)), (11, .int .i64 (a : Int)), (12, .int .i64 (i : Int))]) (fun ⟨i, a⟩ => [])  (fun ⟨i, a⟩ => i ≤ Q.length ∧ a = (Q.take i).countP (fun pc => leftB pc q)) (fun ⟨i, a⟩ => Q.length - i) (0, 0) [3, 4, 7, 9, 10] [3, 4] ⟨Nat.zero_le _, rfl⟩  (And.intro rfl (And.intro rfl (And.intro rfl (True.intro)))) rfl (True.intro) rfl ?_
              rintro ⟨i, a⟩ ⟨hi, hcnt⟩
              have hai : a ≤ i := by
                rw [hcnt]; have h1 := List.countP_le_length (p := fun pc => leftB pc q) (l := Q.take i); rw [List.length_take] at h1; omega
              refine v_seq ?_
              refine v_seq ?_
              refine v_region ?_
              refine l_val rfl (o_move rfl) ?_
              refine l_val rfl (o_move rfl) ?_
              refine l_val rfl (o_len rfl hVa) ?_
              refine l_split rfl (o_lss rfl rfl) (fun q16 => ?_) (fun q16 => ?_)
              · have hil : i < Q.length := by omega
                have hTi := hT _ (show Q.getD i [] ∈ Q by rw [List.getD_eq_getElem?_getD, List.getElem?_eq_getElem hil]; exact List.getElem_mem hil)
                have hVa1 := xa.2.1.pV i hil
                have hq3 := hTi.1
                have hqc := hTi.2.1
                have hqn := hTi.2.2.2
                have hcs := count_step hil (fun pc => leftB pc q)
                refine l_nil ?_
                refine kt_norm ?_
                refine v_condT rfl ?_
                refine v_skip ?_
                refine kt_norm ?_
                refine v_seq ?_
                refine v_block ?_
                refine v_seq ?_
                refine v_seq ?_
                refine v_drawW [] [[], [], [], [], [4]] mixed ?_ (by kernel_rfl) (by kernel_rfl)
                refine d_val (fun _ => rfl) rfl rfl (fun σ12 => o_move rfl) ?_
                refine d_val (fun _ => rfl) rfl rfl (fun σ12 => o_move rfl) ?_
                refine d_val (fun _ => rfl) rfl rfl (fun σ12 => o_idx (i) rfl hVa rfl (by first | rfl | omega) (by omega)) ?_
                refine d_val (fun _ => rfl) rfl rfl (fun σ12 => o_loadR1 rfl (row_imm (fun w2 hg => by exact (xa.2.2.2 w2 (pcsAt_nil w2) hg.2.1).row)) (el_one (by rw [hla]; exact hil))) ?_
                refine d_val (fun _ => rfl) rfl rfl (fun σ12 => o_loadW (key := 4) rfl rfl rfl) ?_
                refine d_nil (fun σ12 => ?_)
                refine l_call (ks := []) rfl (o_callC (vs := [_, _]) (r := .bool (leftB (Q.getD i []) q)) (ent_of Try.func18 rfl rfl) rfl (fun w' hg hh => a_HasC w' _ (Q.getD i []) q (by omega) hVa1 (by exact (xa.2.2.2 w' (pcsAt_nil w') hg.2.1).pc i hil) hqn hnq hqc rfl)) ?_
                refine lz_cases (fun hlq => ?_) (fun hlq => ?_)
                · skip
                  refine l_nil ?_
                  refine kt_norm ?_
                  refine v_sel [13, 11, 12, 3, 4, 7, 9, 10, 69] [3, 4] rfl rfl ?_
                  refine v_condT rfl ?_
                  refine v_region ?_
                  refine l_val rfl (o_move rfl) ?_
                  refine l_val rfl (o_addi rfl rfl ?_) ?_
                  · omega
                  refine l_val rfl (o_assign rfl) ?_
                  refine l_nil ?_
                  refine kt_norm ?_
                  refine v_seq ?_
                  refine v_drawW [] [[], [], [], [], [3]] mixed ?_ (by kernel_rfl) (by kernel_rfl)
                  refine d_val (fun _ => rfl) rfl rfl (fun σ14 => o_move rfl) ?_
                  refine d_val (fun _ => rfl) rfl rfl (fun σ14 => o_move rfl) ?_
                  refine d_val (fun _ => rfl) rfl rfl (fun σ14 => o_idx (i) rfl hVa rfl (by first | rfl | omega) (by omega)) ?_
                  refine d_val (fun _ => rfl) rfl rfl (fun σ14 => o_loadR1 rfl (row_imm (fun w2 hg => by exact (xa.2.2.2 w2 (pcsAt_nil w2) hg.2.1).row)) (el_one (by rw [hla]; exact hil))) ?_
                  refine d_val (fun _ => rfl) rfl rfl (fun σ14 => o_loadW (key := 3) rfl rfl rfl) ?_
                  refine d_nil (fun σ14 => ?_)
                  refine l_call (ks := []) rfl (o_callC (vs := [_, _]) (r := .bool true) (ent_of Try.func18 rfl rfl) rfl (fun w' hg hh => a_HasC w' _ (Q.getD i []) p (by omega) hVa1 (by exact (xa.2.2.2 w' (pcsAt_nil w') hg.2.1).pc i hil) hqn hnp hqc (tri_has hTi))) ?_
                  refine l_nil ?_
                  refine kt_norm ?_
                  refine v_sel [13, 11, 12, 3, 4, 7, 9, 10, 77] [3, 4] rfl rfl ?_
                  refine v_condT rfl ?_
                  refine v_region ?_
                  refine l_val rfl (o_move rfl) ?_
                  refine l_val rfl (o_addi rfl rfl ?_) ?_
                  · omega
                  refine l_val rfl (o_assign rfl) ?_
                  refine l_nil ?_
                  refine kb_norm ?_
                  refine kt_norm ?_
                  refine v_region ?_
                  refine l_val rfl (o_move rfl) ?_
                  refine l_val rfl (o_addi rfl rfl ?_) ?_
                  · omega
                  refine l_val rfl (o_assign rfl) ?_
                  refine l_nil ?_
                  refine kt_norm ?_
                  refine ⟨(i + 1, a + 1), ⟨hil, by have e := hcs; rw [hlq] at e; rw [e, hcnt]; rfl⟩, (by show Q.length - (i + 1) < Q.length - i; omega), le_app (And.intro rfl (And.intro rfl (And.intro rfl (True.intro)))) [3, 4, 7, 9, 10] rfl (True.intro) [3, 4] rfl⟩
                · skip
                  refine l_nil ?_
                  refine kt_norm ?_
                  refine v_sel [13, 11, 12, 3, 4, 7, 9, 10, 69] [3, 4] rfl rfl ?_
                  refine v_condF rfl ?_
                  refine v_skip ?_
                  refine kt_norm ?_
                  refine v_seq ?_
                  refine v_drawW [] [[], [], [], [], [3]] mixed ?_ (by kernel_rfl) (by kernel_rfl)
                  refine d_val (fun _ => rfl) rfl rfl (fun σ14 => o_move rfl) ?_
                  refine d_val (fun _ => rfl) rfl rfl (fun σ14 => o_move rfl) ?_
                  refine d_val (fun _ => rfl) rfl rfl (fun σ14 => o_idx (i) rfl hVa rfl (by first | rfl | omega) (by omega)) ?_
                  refine d_val (fun _ => rfl) rfl rfl (fun σ14 => o_loadR1 rfl (row_imm (fun w2 hg => by exact (xa.2.2.2 w2 (pcsAt_nil w2) hg.2.1).row)) (el_one (by rw [hla]; exact hil))) ?_
                  refine d_val (fun _ => rfl) rfl rfl (fun σ14 => o_loadW (key := 3) rfl rfl rfl) ?_
                  refine d_nil (fun σ14 => ?_)
                  refine l_call (ks := []) rfl (o_callC (vs := [_, _]) (r := .bool true) (ent_of Try.func18 rfl rfl) rfl (fun w' hg hh => a_HasC w' _ (Q.getD i []) p (by omega) hVa1 (by exact (xa.2.2.2 w' (pcsAt_nil w') hg.2.1).pc i hil) hqn hnp hqc (tri_has hTi))) ?_
                  refine l_nil ?_
                  refine kt_norm ?_
                  refine v_sel [13, 11, 12, 3, 4, 7, 9, 10, 77] [3, 4] rfl rfl ?_
                  refine v_condT rfl ?_
                  refine v_region ?_
                  refine l_val rfl (o_move rfl) ?_
                  refine l_val rfl (o_addi rfl rfl ?_) ?_
                  · omega
                  refine l_val rfl (o_assign rfl) ?_
                  refine l_nil ?_
                  refine kb_norm ?_
                  refine kt_norm ?_
                  refine v_region ?_
                  refine l_val rfl (o_move rfl) ?_
                  refine l_val rfl (o_addi rfl rfl ?_) ?_
                  · omega
                  refine l_val rfl (o_assign rfl) ?_
                  refine l_nil ?_
                  refine kt_norm ?_
                  refine ⟨(i + 1, a), ⟨hil, by have e := hcs; rw [hlq] at e; rw [e, hcnt]; rfl⟩, (by show Q.length - (i + 1) < Q.length - i; omega), le_app (And.intro rfl (And.intro rfl (And.intro rfl (True.intro)))) [3, 4, 7, 9, 10] rfl (True.intro) [3, 4] rfl⟩
              · skip
                refine l_nil ?_
                refine kt_norm ?_
                refine v_condF rfl ?_
                refine v_exit ?_
                refine kt_exit ?_
                refine kt_exit ?_
                refine kb_eq ?_
                refine kt_norm ?_
                refine v_sel [11, 12, 7, 9, 10] [] rfl rfl ?_
                refine v_seq ?_
                refine v_region ?_
                obtain rfl : i = Q.length := by omega
                rw [List.take_length] at hcnt
                refine l_val rfl (o_move rfl) ?_
                refine l_val rfl (o_move rfl) ?_
                refine l_val rfl (o_len rfl hVa) ?_
                refine l_split rfl (o_eql rfl rfl) (fun q17 => ?_) (fun q17 => absurd (show _ by omega) q17)
                refine l_val rfl (o_move rfl) ?_
                refine l_val rfl (o_move rfl) ?_
                refine l_val rfl (o_len rfl hVa) ?_
                refine l_split rfl (o_geq rfl rfl) (fun q18 => ?_) (fun q18 => absurd (show _ by omega) q18)
                refine l_val rfl (o_pickT rfl rfl) ?_
                refine l_val rfl (o_move rfl) ?_
                refine l_val rfl (o_move rfl) ?_
                refine l_val rfl (o_not rfl rfl) ?_
                refine l_val rfl (o_move rfl) ?_
                refine l_no rfl ?_
                refine l_no rfl ?_
                refine l_val rfl (o_pickT rfl rfl) ?_
                refine l_val rfl (o_pickT rfl rfl) ?_
                refine l_val rfl (o_move rfl) ?_
                refine l_val rfl (o_move rfl) ?_
                refine l_val rfl (o_not rfl rfl) ?_
                refine l_val rfl (o_move rfl) ?_
                refine l_no rfl ?_
                refine l_no rfl ?_
                refine l_val rfl (o_pickT rfl rfl) ?_
                refine l_val rfl (o_pickT rfl rfl) ?_
                refine l_val rfl (o_assign rfl) ?_
                refine l_nil ?_
                refine kt_norm ?_
                refine v_sel [6] [] rfl rfl ?_
                refine v_ret ?_
                refine ⟨[_], .cons (.tmp rfl) (ResAll.nil), ?_⟩
                rfl
    · skip
      refine l_val rfl (o_not rfl rfl) ?_
      refine l_val rfl (o_pickF rfl rfl) ?_
      refine l_val rfl (o_move rfl) ?_
      refine l_no rfl ?_
      refine l_no rfl ?_
      refine l_val rfl (o_pickT rfl rfl) ?_
      refine l_val rfl (o_move rfl) ?_
      refine l_no rfl ?_
      refine l_no rfl ?_
      refine l_val rfl (o_pickT rfl rfl) ?_
      refine l_val rfl (o_move rfl) ?_
      refine l_no rfl ?_
      refine l_no rfl ?_
      refine l_val rfl (o_pickT rfl rfl) ?_
      refine l_nil ?_
      refine kt_norm ?_
      refine v_sel [2, 3, 4, 33] [3, 4] rfl rfl ?_
      refine v_condT rfl ?_
      refine v_seq ?_
      refine v_region ?_
      refine l_call (ks := []) rfl (o_callC (vs := []) (r := .bool true) (ent_of Try.func14 rfl rfl) rfl (fun w' hg hh => a_shown w')) ?_
      refine l_val rfl (o_assign rfl) ?_
      refine l_nil ?_
      refine kt_norm ?_
      refine v_ret ?_
      refine kt_ret ?_
      refine ⟨[_], .cons (.tmp rfl) (ResAll.nil), ?_⟩
      rfl
  · skip
    refine l_val rfl (o_not rfl rfl) ?_
    refine l_val rfl (o_move rfl) ?_
    refine l_no rfl ?_
    refine l_no rfl ?_
    refine l_no rfl ?_
    refine l_val rfl (o_pickT rfl rfl) ?_
    refine l_val rfl (o_move rfl) ?_
    refine l_no rfl ?_
    refine l_no rfl ?_
    refine l_val rfl (o_pickT rfl rfl) ?_
    refine l_val rfl (o_move rfl) ?_
    refine l_no rfl ?_
    refine l_no rfl ?_
    refine l_val rfl (o_pickT rfl rfl) ?_
    refine l_val rfl (o_move rfl) ?_
    refine l_no rfl ?_
    refine l_no rfl ?_
    refine l_val rfl (o_pickT rfl rfl) ?_
    refine l_nil ?_
    refine kt_norm ?_
    refine v_sel [2, 3, 4, 33] [3, 4] rfl rfl ?_
    refine v_condT rfl ?_
    refine v_seq ?_
    refine v_region ?_
    refine l_call (ks := []) rfl (o_callC (vs := []) (r := .bool true) (ent_of Try.func14 rfl rfl) rfl (fun w' hg hh => a_shown w')) ?_
    refine l_val rfl (o_assign rfl) ?_
    refine l_nil ?_
    refine kt_norm ?_
    refine v_ret ?_
    refine kt_ret ?_
    refine ⟨[_], .cons (.tmp rfl) (ResAll.nil), ?_⟩
    rfl
end Go.Proofs.Ytpgjbalnipinoaa

/- Chords grow short. Conditions: none. -/
namespace Go.Proofs.Ytpgjbalnipinoaa
open Go.Proofs Go.RowKit Go.Shelf

/-! ### chords grow short -/
theorem good_go {r : Int} {u v : PtT} (h : GoodC r u v) (hr : 65 ≤ r ∧ r ≤ 131072) (hg : 128 * r < gapT u v) : ¬ stopT r u v := by
  obtain ⟨h1, h2⟩ := h.mid hr hg
  have x1 := h1.x
  have x2 := h2.x
  unfold stopT
  unfold gapT at hg
  generalize midT r u v = m at *
  rintro (e | e | e | e)
  · omega
  · rw [e] at x1; unfold crossT at x1; dsimp only at x1; grind
  · rw [e] at x1; unfold crossT at x1; grind
  · rw [e] at x2; unfold crossT at x2; grind
theorem half_num {r c g gp : Int} (hr : 65 ≤ r) (hc : r ≤ c) (h0 : 0 ≤ g) (hg : 10 * g ≤ 7 * (r * r)) (hS : c * c ≤ 4 * ((r + 2) * (r + 2)) - g) (hgp : c * gp ≤ c * (2 * ((r + 2) * (r + 2))) - r * (4 * ((r - 1) * (r - 1)) - g) + 2 * ((r + 2) * c)) : 40 * gp ≤ 11 * g + 1280 * r := by
  rcases Int.lt_or_le (11 * g + 1280 * r) (40 * gp) with hlt | hle
  · exfalso
    have k1 := Int.mul_le_mul_of_nonneg_left (show 11 * g + 1280 * r + 1 ≤ 40 * gp by omega) (show 0 ≤ c by omega)
    have e1 : c * (40 * gp) = 40 * (c * gp) := by grind
    have rl := Int.mul_le_mul_of_nonneg_right hr (show 0 ≤ r by omega)
    have hW : 0 ≤ 80 * (r * r) - 880 * r + 480 - 11 * g := by omega
    have e2 : c * (80 * (r * r) - 880 * r + 480 - 11 * g) = 40 * (c * (2 * ((r + 2) * (r + 2))) + 2 * ((r + 2) * c)) - c * (11 * g + 1280 * r) := by grind
    have e3 : c * (11 * g + 1280 * r + 1) = c * (11 * g + 1280 * r) + c := by grind
    have k2 : 40 * (r * (4 * ((r - 1) * (r - 1)) - g)) ≤ c * (80 * (r * r) - 880 * r + 480 - 11 * g) := by omega
    have k3 := Int.mul_le_mul_of_nonneg_left k2 (show 0 ≤ 4 * r by omega)
    have sq := sq_nn (c - 2 * r)
    have e4 : (c - 2 * r) * (c - 2 * r) = c * c - 4 * r * c + 4 * (r * r) := by grind
    have e5 : (r + 2) * (r + 2) = r * r + 4 * r + 4 := by grind
    have k4 := Int.mul_le_mul_of_nonneg_right (show 4 * r * c ≤ 8 * (r * r) + 16 * r + 16 - g by omega) hW
    have e6 : 4 * r * c * (80 * (r * r) - 880 * r + 480 - 11 * g) = 4 * r * (c * (80 * (r * r) - 880 * r + 480 - 11 * g)) := by grind
    have e7 : 4 * r * (40 * (r * (4 * ((r - 1) * (r - 1)) - g))) = 640 * (r * r * (r * r)) - 1280 * (r * (r * r)) + 640 * (r * r) - 160 * (r * r * g) := by grind
    have e8 : (8 * (r * r) + 16 * r + 16 - g) * (80 * (r * r) - 880 * r + 480 - 11 * g) = 640 * (r * r * (r * r)) - 5760 * (r * (r * r)) - 8960 * (r * r) - 6400 * r + 7680 - 168 * (r * r * g) + 704 * (r * g) - 656 * g + 11 * (g * g) := by grind
    have p1 := Int.mul_nonneg h0 (show 0 ≤ 7 * (r * r) - 10 * g by omega)
    have e9 : g * (7 * (r * r) - 10 * g) = 7 * (r * r * g) - 10 * (g * g) := by grind
    have p2 := Int.mul_nonneg (show 0 ≤ r by omega) (show 0 ≤ 7 * (r * r) - 10 * g by omega)
    have e10 : r * (7 * (r * r) - 10 * g) = 7 * (r * (r * r)) - 10 * (r * g) := by grind
    have p3 : 0 ≤ r * r * g := Int.mul_nonneg (sq_nn r) h0
    have p4 := Int.mul_le_mul_of_nonneg_right hr (sq_nn r)
    omega
  · exact hle
/-- a half's length, squared -/
theorem gap_half {r : Int} {u v : PtT} (h : GoodC r u v) (hr : 65 ≤ r ∧ r ≤ 131072) (hgo : 128 * r < gapT u v) (hg : 10 * gapT u v ≤ 7 * (r * r)) : 40 * gapT u (midT r u v) ≤ 11 * gapT u v + 1280 * r ∧ 40 * gapT (midT r u v) v ≤ 11 * gapT u v + 1280 * r := by
  obtain ⟨hm1, hm2⟩ := h.mid hr hgo
  have n2 := hm1.b2
  obtain ⟨a1, a2, b1, b2, hd, hx⟩ := h
  have eS : dotT ⟨u.x + v.x, u.y + v.y⟩ ⟨u.x + v.x, u.y + v.y⟩ = dotT u u + dotT v v + 2 * dotT u v := by unfold dotT; grind
  have g0 := gap_nn u v
  have ge := gap_eq u v
  have r2 : (r + 2) * (r + 2) = r * r + 4 * r + 4 := by grind
  have r1 : (r - 1) * (r - 1) = r * r - 2 * r + 1 := by grind
  have rb := sq_mono (x := r) (y := 131072) (by omega)
  have rl := Int.mul_le_mul_of_nonneg_right hr.1 (show 0 ≤ r by omega)
  obtain ⟨c, hc⟩ := Rnd.of (r := r) (u := u) (v := v) (by rw [eS]; omega) (by rw [eS]; omega)
  have c1 := hc.c1
  have c2 := hc.c2
  have c0 := hc.c0
  rw [eS] at c1 c2
  have hcr : r ≤ c := by
    rcases Int.lt_or_le c r with hlt | hle
    · have s := sq_mono (x := c) (y := r - 1) (by omega)
      omega
    · exact hle
  have du := (hc.dot u (k := r + 2) (by omega) a2).1
  have dv := (hc.dot v (k := r + 2) (by omega) b2).1
  have pu : dotT u ⟨u.x + v.x, u.y + v.y⟩ = dotT u u + dotT u v := by unfold dotT; grind
  have pv : dotT v ⟨u.x + v.x, u.y + v.y⟩ = dotT v v + dotT u v := by unfold dotT; grind
  rw [pu] at du
  rw [pv] at dv
  generalize midT r u v = m at *
  have gu := gap_eq u m
  have gv := gap_eq m v
  have sw : dotT m v = dotT v m := by unfold dotT; grind
  rw [sw] at gv
  have s1 : c * gapT u m = c * (dotT u u + dotT m m) - 2 * (c * dotT u m) := by rw [gu]; grind
  have s2 : c * gapT m v = c * (dotT m m + dotT v v) - 2 * (c * dotT v m) := by rw [gv]; grind
  have t1 := Int.mul_le_mul_of_nonneg_left (show dotT u u + dotT m m ≤ 2 * ((r + 2) * (r + 2)) by omega) (show 0 ≤ c by omega)
  have t2 := Int.mul_le_mul_of_nonneg_left (show dotT m m + dotT v v ≤ 2 * ((r + 2) * (r + 2)) by omega) (show 0 ≤ c by omega)
  have w1 := Int.mul_le_mul_of_nonneg_left (show 4 * ((r - 1) * (r - 1)) - gapT u v ≤ 2 * (dotT u u + dotT u v) by omega) (show 0 ≤ r by omega)
  have w2 := Int.mul_le_mul_of_nonneg_left (show 4 * ((r - 1) * (r - 1)) - gapT u v ≤ 2 * (dotT v v + dotT u v) by omega) (show 0 ≤ r by omega)
  have x1 : r * (2 * (dotT u u + dotT u v)) = 2 * (r * (dotT u u + dotT u v)) := by grind
  have x2 : r * (2 * (dotT v v + dotT u v)) = 2 * (r * (dotT v v + dotT u v)) := by grind
  exact ⟨half_num hr.1 hcr g0 hg (by omega) (by omega), half_num hr.1 hcr g0 hg (by omega) (by omega)⟩
/-- how long a chord may be, if it may be halved so often -/
def capT : Nat → Int
  | 0 => 128
  | 1 => 349
  | 2 => 1152
  | 3 => 4072
  | 4 => 14690
  | _ => 53301
theorem cap_step (d : Nat) (hd : d ≤ 4) : 11 * capT (d + 1) + 1280 ≤ 40 * capT d := by
  match d, hd with
  | 0, _ => decide
  | 1, _ => decide
  | 2, _ => decide
  | 3, _ => decide
  | 4, _ => decide
theorem short_all {r : Int} (hr : 65 ≤ r ∧ r ≤ 131072) : ∀ (d : Nat), d ≤ 5 → ∀ u v : PtT, GoodC r u v → 10 * gapT u v ≤ 7 * (r * r) → gapT u v ≤ capT d * r → ∀ c ∈ chordsT r d u v, gapT c.1 c.2 ≤ 128 * r
  | 0, _, u, v, h, hg, hk, c, hc => by rw [List.mem_singleton.1 hc]; exact hk
  | d + 1, hd, u, v, h, hg, hk, c, hc => by
    rcases Int.lt_or_le (128 * r) (gapT u v) with hlt | hle
    · rw [chords_go (good_go h hr hlt)] at hc
      obtain ⟨h1, h2⟩ := h.mid hr hlt
      obtain ⟨k1, k2⟩ := gap_half h hr hlt hg
      have cs := cap_step d (by omega)
      have rl := Int.mul_le_mul_of_nonneg_right hr.1 (show 0 ≤ r by omega)
      have cm := Int.mul_le_mul_of_nonneg_right cs (show 0 ≤ r by omega)
      have e1 : (11 * capT (d + 1) + 1280) * r = 11 * (capT (d + 1) * r) + 1280 * r := by grind
      have e2 : 40 * capT d * r = 40 * (capT d * r) := by grind
      rcases List.mem_append.1 hc with hc | hc
      · exact short_all hr d (by omega) _ _ h1 (by omega) (by omega) c hc
      · exact short_all hr d (by omega) _ _ h2 (by omega) (by omega) c hc
    · have hst : stopT r u v := .inl (by unfold gapT at hle; exact hle)
      rw [chords_stop hst] at hc
      rw [List.mem_singleton.1 hc]; exact hle
theorem corner_good {r : Int} {u v : PtT} (hr : 65 ≤ r) (h : Corner r u v) : GoodC r u v := by
  obtain ⟨ha, hb, hd, hx⟩ := h
  have r2 : (r + 2) * (r + 2) = r * r + 4 * r + 4 := by grind
  have r1 : (r - 1) * (r - 1) = r * r - 2 * r + 1 := by grind
  have rl := Int.mul_le_mul_of_nonneg_right hr (show 0 ≤ r by omega)
  exact ⟨by omega, by omega, by omega, by omega, by omega, by omega⟩
theorem corner_half {r : Int} {u v : PtT} (h : Corner r u v) (hr : 65 ≤ r ∧ r ≤ 131072) : 10 * gapT u (midT r u v) ≤ 7 * (r * r) ∧ 10 * gapT (midT r u v) v ≤ 7 * (r * r) := by
  have hgo : 128 * r < gapT u v := by
    have g := gap_eq u v
    rw [h.a, h.b, h.d] at g
    have rl := Int.mul_le_mul_of_nonneg_right hr.1 (show 0 ≤ r by omega)
    omega
  obtain ⟨hm1, hm2⟩ := (corner_good hr.1 h).mid hr hgo
  have n2 := hm1.b2
  obtain ⟨ha, hb, hd, hx⟩ := h
  have eS : dotT ⟨u.x + v.x, u.y + v.y⟩ ⟨u.x + v.x, u.y + v.y⟩ = dotT u u + dotT v v + 2 * dotT u v := by unfold dotT; grind
  rw [ha, hb, hd] at eS
  have r2 : (r + 2) * (r + 2) = r * r + 4 * r + 4 := by grind
  have rb := sq_mono (x := r) (y := 131072) (by omega)
  have rl := Int.mul_le_mul_of_nonneg_right hr.1 (show 0 ≤ r by omega)
  obtain ⟨c, hc⟩ := Rnd.of (r := r) (u := u) (v := v) (by rw [eS]; omega) (by rw [eS]; omega)
  have c1 := hc.c1
  have c0 := hc.c0
  rw [eS] at c1
  have hcu : 100 * c ≤ 142 * r := by
    refine (abs_of_sq (by omega) ?_).2
    have e : 100 * c * (100 * c) = 10000 * (c * c) := by grind
    have e2 : 142 * r * (142 * r) = 20164 * (r * r) := by grind
    omega
  have du := (hc.dot u (k := r) (by omega) (by omega)).1
  have dv := (hc.dot v (k := r) (by omega) (by omega)).1
  have pu : dotT u ⟨u.x + v.x, u.y + v.y⟩ = dotT u u + dotT u v := by unfold dotT; grind
  have pv : dotT v ⟨u.x + v.x, u.y + v.y⟩ = dotT v v + dotT u v := by unfold dotT; grind
  rw [pu, ha, hd, Int.add_zero] at du
  rw [pv, hb, hd, Int.add_zero] at dv
  generalize midT r u v = m at *
  have gu := gap_eq u m
  have gv := gap_eq m v
  have sw : dotT m v = dotT v m := by unfold dotT; grind
  rw [sw] at gv
  rw [ha] at gu
  rw [hb] at gv
  have key : ∀ z D : Int, z = r * r + dotT m m - 2 * D → -(2 * (r * c)) ≤ 2 * (c * D) - 2 * (r * (r * r)) → 10 * z ≤ 7 * (r * r) := fun z D hz hD => by
    rcases Int.lt_or_le (7 * (r * r)) (10 * z) with hlt | hle
    · exfalso
      have k0 : 20 * D ≤ 13 * (r * r) + 40 * r + 40 := by omega
      have k1 := Int.mul_le_mul_of_nonneg_left k0 (show 0 ≤ c by omega)
      have e1 : c * (20 * D) = 20 * (c * D) := by grind
      have e2 : c * (13 * (r * r) + 40 * r + 40) + 20 * (r * c) = c * (13 * (r * r) + 60 * r + 40) := by grind
      have k2 := Int.mul_le_mul_of_nonneg_right hcu (show 0 ≤ 13 * (r * r) + 60 * r + 40 by omega)
      have e3 : 100 * c * (13 * (r * r) + 60 * r + 40) = 100 * (c * (13 * (r * r) + 60 * r + 40)) := by grind
      have e4 : 142 * r * (13 * (r * r) + 60 * r + 40) = 1846 * (r * (r * r)) + 8520 * (r * r) + 5680 * r := by grind
      have k3 := Int.mul_le_mul_of_nonneg_right hr.1 (sq_nn r)
      omega
    · exact hle
  exact ⟨key _ _ gu du, key _ _ (by omega) dv⟩
theorem corner_short {r : Int} {u v : PtT} (h : Corner r u v) (hr : 65 ≤ r ∧ r ≤ 65536) : (∀ c ∈ chordsT r 6 u v, gapT c.1 c.2 ≤ 128 * r) ∧ 2 ≤ (chordsT r 6 u v).length := by
  have hr2 : 65 ≤ r ∧ r ≤ 131072 := by omega
  have hgo : 128 * r < gapT u v := by
    have g := gap_eq u v
    rw [h.a, h.b, h.d] at g
    have rl := Int.mul_le_mul_of_nonneg_right hr.1 (show 0 ≤ r by omega)
    omega
  have hG := corner_good hr.1 h
  obtain ⟨k1, k2⟩ := corner_half h hr2
  obtain ⟨h1, h2⟩ := hG.mid hr2 hgo
  rw [chords_go (good_go hG hr2 hgo)]
  have ru := Int.mul_le_mul_of_nonneg_right hr.2 (show 0 ≤ r by omega)
  have c5 : capT 5 = 53301 := rfl
  refine ⟨fun c hc => ?_, ?_⟩
  · rcases List.mem_append.1 hc with hc | hc
    · exact short_all hr2 5 (Nat.le_refl _) _ _ h1 k1 (by rw [c5]; omega) c hc
    · exact short_all hr2 5 (Nat.le_refl _) _ _ h2 k2 (by rw [c5]; omega) c hc
  · rw [List.length_append]
    have l1 := (chords_len r 5 u (midT r u v)).1
    have l2 := (chords_len r 5 (midT r u v) v).1
    omega
/-- one chord behind the other -/
def Chain (u v : PtT) : List (PtT × PtT) → Prop
  | [] => u = v
  | c :: l => c.1 = u ∧ Chain c.2 v l
theorem Chain.app {m v : PtT} {b : List (PtT × PtT)} (hb : Chain m v b) : ∀ {a : List (PtT × PtT)} {u : PtT}, Chain u m a → Chain u v (a ++ b)
  | [], u, h => by have h : u = m := h; rw [h]; exact hb
  | c :: a, u, h => ⟨h.1, Chain.app hb h.2⟩
theorem chords_chain (r : Int) : ∀ (d : Nat) (u v : PtT), Chain u v (chordsT r d u v)
  | 0, u, v => ⟨rfl, rfl⟩
  | d + 1, u, v => by
    by_cases h : stopT r u v
    · rw [chords_stop h]; exact ⟨rfl, rfl⟩
    · rw [chords_go h]; exact Chain.app (chords_chain r d _ v) (chords_chain r d u _)
theorem Chain.at_ : ∀ {l : List (PtT × PtT)} {u v : PtT} {i : Nat} {c : PtT × PtT}, Chain u v l → l[i]? = some c → c.1 = if i = 0 then u else (l.map Prod.snd).getD (i - 1) dP
  | x :: l, u, v, 0, c, h, hc => by
    simp at hc; subst hc; exact h.1
  | x :: l, u, v, i + 1, c, h, hc => by
    have h1 := Chain.at_ h.2 (show l[i]? = some c by simpa using hc)
    rw [h1]
    cases i with
    | zero => rfl
    | succ i => rfl
  | [], u, v, i, c, h, hc => by simp at hc
end Go.Proofs.Ytpgjbalnipinoaa

/- The vectors of the document. Conditions: none. -/
namespace Go.Proofs.Ytpgjbalnipinoaa
open Go.Proofs Go.RowKit Go.Shelf

def cmpI (x y : Int) : Int := if x = y then 0 else if x < y then -1 else 1
theorem cmpI_spec (x y : Int) : (x ≤ y → cmpI x y ≤ 0) ∧ (y < x → 0 < cmpI x y) := by
  unfold cmpI; (repeat' split) <;> omega
theorem pow32 {i : Nat} (h : i ≤ 32) : (1 : Int) ≤ 2 ^ i ∧ (2 : Int) ^ i ≤ 4294967296 := by
  have h1 : (2 : Nat) ^ i ≤ 2 ^ 32 := Nat.pow_le_pow_right (by omega) h
  have h2 : 0 < (2 : Nat) ^ i := Nat.pow_pos (by omega)
  have e : (2 : Int) ^ i = ((2 ^ i : Nat) : Int) := by rw [Int.natCast_pow]; rfl
  rw [e]; omega
theorem dblB {B H z : Int} {i : Nat} (hH : 0 ≤ H ∧ H ≤ B) (hi : i ≤ 32) (hz : z = H * 2 ^ i) : 0 ≤ z ∧ z ≤ B * 4294967296 := by
  have h := pow32 hi
  have := mulNN (x := H) (y := 2 ^ i) (A := B) (B := 4294967296) hH (by omega)
  rw [hz]; exact this
theorem dblC {B H z : Int} {i : Nat} (hH : 0 ≤ H ∧ H ≤ B) (hi : i ≤ 31) (hz : z = H * 2 ^ i) : 0 ≤ z ∧ z ≤ B * 2147483648 := by
  have h1 : (2 : Nat) ^ i ≤ 2 ^ 31 := Nat.pow_le_pow_right (by omega) hi
  have h2 : 0 < (2 : Nat) ^ i := Nat.pow_pos (by omega)
  have e : (2 : Int) ^ i = ((2 ^ i : Nat) : Int) := by rw [Int.natCast_pow]; rfl
  have := mulNN (x := H) (y := 2 ^ i) (A := B) (B := 2147483648) hH (by omega)
  rw [hz]; exact this
theorem wrapU {a : Int} (h : 0 ≤ a ∧ a < 18446744073709551616) : IntKind.wrap .u64 a = a := by
  simp [IntKind.wrap, IntKind.bits, IntKind.signed]
  omega
theorem sq_halves {x h l : Int} (hh : x / 4294967296 = h) (hl : x % 4294967296 = l) : x * x = (h * h * 4294967296 + (h * l + h * l)) * 4294967296 + l * l := by
  have e : x = h * 4294967296 + l := by omega
  rw [e]; grind
def bitT : Nat → Int
  | 0 => 0
  | k + 1 => 2 ^ k
theorem pow_half (j : Nat) : (2 : Int) ^ j / 2 = bitT j := by
  cases j with
  | zero => rfl
  | succ j => rw [Int.pow_succ]; show (2 : Int) ^ j * 2 / 2 = 2 ^ j; omega
theorem bit_go {k : Nat} {b : Int} (hk : k ≤ 64) (hb : b = bitT k) (h : 0 < b) : ∃ j, k = j + 1 ∧ b = 2 ^ j ∧ 1 ≤ b ∧ b ≤ 9223372036854775808 ∧ b / 2 = bitT j := by
  cases k with
  | zero => rw [hb] at h; exact absurd h (by show ¬ (0 : Int) < 0; omega)
  | succ j =>
    have hb2 : b = 2 ^ j := hb
    have h1 : (2 : Nat) ^ j ≤ 2 ^ 63 := Nat.pow_le_pow_right (by omega) (by omega)
    have e : (2 : Int) ^ j = ((2 ^ j : Nat) : Int) := by rw [Int.natCast_pow]; rfl
    refine ⟨j, rfl, hb2, by omega, ?_, by rw [hb2]; exact pow_half j⟩
    rw [hb2, e]; omega
/-- a root by bits, under way -/
def LongQ (n : Int) (k : Nat) (b x : Int) : Prop := k ≤ 64 ∧ b = bitT k ∧ 0 ≤ x ∧ x * x ≤ n ∧ n < (x + 2 ^ k) * (x + 2 ^ k) ∧ (k = 64 → x = 0)
theorem LongQ.start {n : Int} (hn : 0 ≤ n ∧ n < 4611686018427387904) : LongQ n 64 9223372036854775808 0 :=
  ⟨Nat.le_refl _, by decide, by omega, by omega, by show n < (0 + 18446744073709551616) * (0 + 18446744073709551616); omega, fun _ => rfl⟩
theorem root_lt {n x : Int} (hn : n < 4611686018427387904) (h0 : 0 ≤ x) (h : x * x ≤ n) : x < 2147483648 := by
  rcases Int.lt_or_le x 2147483648 with h1 | h1
  · exact h1
  · have := Int.mul_le_mul h1 h1 (by omega) h0
    omega
theorem LongQ.xb {n b x : Int} {j : Nat} (hn : 0 ≤ n ∧ n < 4611686018427387904) (h : LongQ n (j + 1) b x) (hb : b = 2 ^ j) : 0 ≤ x ∧ x + b ≤ 9223372036854775808 := by
  obtain ⟨h1, h2, h3, h4, h5, h6⟩ := h
  have hx := root_lt hn.2 h3 h4
  have e : (2 : Int) ^ j = ((2 ^ j : Nat) : Int) := by rw [Int.natCast_pow]; rfl
  refine ⟨h3, ?_⟩
  rcases Nat.lt_or_ge j 63 with hj | hj
  · have h7 : (2 : Nat) ^ j ≤ 2 ^ 62 := Nat.pow_le_pow_right (by omega) (by omega)
    rw [hb, e]; omega
  · obtain rfl : j = 63 := by omega
    rw [h6 rfl, hb]; decide
theorem LongQ.yes {n b x : Int} {j : Nat} (_ : 0 ≤ n ∧ n < 4611686018427387904) (h : LongQ n (j + 1) b x) (hb : b = 2 ^ j) (hbh : b / 2 = bitT j) (hup : (x + b) * (x + b) ≤ n) : LongQ n j (b / 2) (x + b) := by
  obtain ⟨h1, h2, h3, h4, h5, h6⟩ := h
  have e : (2 : Int) ^ j = ((2 ^ j : Nat) : Int) := by rw [Int.natCast_pow]; rfl
  have hp : 0 < (2 : Nat) ^ j := Nat.pow_pos (by omega)
  refine ⟨by omega, hbh, by omega, hup, ?_, fun h => by omega⟩
  rw [Int.pow_succ] at h5
  rw [hb, show x + 2 ^ j + 2 ^ j = x + 2 ^ j * 2 by omega]; exact h5
theorem LongQ.no {n b x : Int} {j : Nat} (_ : 0 ≤ n ∧ n < 4611686018427387904) (h : LongQ n (j + 1) b x) (hb : b = 2 ^ j) (hbh : b / 2 = bitT j) (hup : ¬ (x + b) * (x + b) ≤ n) : LongQ n j (b / 2) x := by
  obtain ⟨h1, h2, h3, h4, h5, h6⟩ := h
  exact ⟨by omega, hbh, h3, h4, by rw [← hb]; omega, fun h => by omega⟩
theorem LongQ.done {n b x : Int} {k : Nat} (hn : 0 ≤ n ∧ n < 4611686018427387904) (h : LongQ n k b x) (hb : ¬ 0 < b) : x = ((isq n.toNat : Nat) : Int) := by
  obtain ⟨h1, h2, h3, h4, h5, h6⟩ := h
  obtain rfl : k = 0 := by
    cases k with
    | zero => rfl
    | succ j =>
      have h7 : 0 < (2 : Nat) ^ j := Nat.pow_pos (by omega)
      have e : (2 : Int) ^ j = ((2 ^ j : Nat) : Int) := by rw [Int.natCast_pow]; rfl
      have h2' : b = 2 ^ j := h2
      omega
  rw [Int.pow_zero] at h5
  obtain ⟨y, rfl⟩ : ∃ y : Nat, x = (y : Int) := ⟨x.toNat, by omega⟩
  obtain ⟨m, rfl⟩ : ∃ m : Nat, n = (m : Int) := ⟨n.toNat, by omega⟩
  rw [Int.toNat_natCast]
  have a1 : y * y ≤ m := by exact_mod_cast h4
  have a2 : m < (y + 1) * (y + 1) := by exact_mod_cast h5
  have b1 := le_isq (n := m) (x := y) (by omega) a1
  have b2 := isq_le (n := m) (x := y) (by omega) a2
  congr 1; omega
theorem r_Cmp (x y : Int) : Ans Try.prog 100 [wideV x, wideV y] (.int .i64 (cmpI x y)) := by
  refine ans_of Try.func100 rfl Try.ntmps100 Try.results100 rfl rfl fun w => ?_
  refine v_seq ?_
  refine v_region ?_
  refine l_new rfl (o_box (cs := [_, _]) rfl rfl) fun b2 => ?_
  refine l_new rfl (o_box (cs := [_, _]) rfl rfl) fun b3 => ?_
  refine l_val rfl (o_assign rfl) ?_
  refine l_nil ?_
  refine kt_norm ?_
  refine v_seq ?_
  refine v_block ?_
  refine v_seq ?_
  refine v_region ?_
  refine l_val rfl (o_fld rfl) ?_
  refine l_val rfl (o_load1 (key := 2) rfl rfl rfl) ?_
  refine l_val rfl (o_fld rfl) ?_
  refine l_val rfl (o_load1 (key := 3) rfl rfl rfl) ?_
  refine l_split rfl (o_lss rfl rfl) (fun q1 => ?_) (fun q1 => ?_)
  · first
    | (exfalso; omega; done)
    | (
        refine l_val rfl (o_move rfl) ?_
        refine l_no rfl ?_
        refine l_no rfl ?_
        refine l_no rfl ?_
        refine l_no rfl ?_
        refine l_no rfl ?_
        refine l_no rfl ?_
        refine l_no rfl ?_
        refine l_no rfl ?_
        refine l_no rfl ?_
        refine l_no rfl ?_
        refine l_no rfl ?_
        refine l_no rfl ?_
        refine l_val rfl (o_pickT rfl rfl) ?_
        refine l_val rfl (o_assign rfl) ?_
        refine l_nil ?_
        refine kt_norm ?_
        refine v_sel [2, 3, 5] [2, 3] rfl rfl ?_
        refine v_condT rfl ?_
        refine v_seq ?_
        refine v_region ?_
        refine l_val rfl (o_assign rfl) ?_
        refine l_nil ?_
        refine kt_norm ?_
        refine v_ret ?_
        refine kb_ret ?_
        refine kt_ret ?_
        refine ⟨[_], .cons (.tmp rfl) (ResAll.nil), ?_⟩
        show Value.int .i64 _ = _
        congr 1
        unfold cmpI
        (repeat' split) <;> omega)
  · first
    | (exfalso; omega; done)
    | (
        refine l_val rfl (o_move rfl) ?_
        refine l_val rfl (o_fld rfl) ?_
        refine l_val rfl (o_load1 (key := 2) rfl rfl rfl) ?_
        refine l_val rfl (o_fld rfl) ?_
        refine l_val rfl (o_load1 (key := 3) rfl rfl rfl) ?_
        refine l_split rfl (o_eql rfl rfl) (fun q2 => ?_) (fun q2 => ?_)
        · first
          | (exfalso; omega; done)
          | (
              refine l_val rfl (o_move rfl) ?_
              refine l_val rfl (o_fld rfl) ?_
              refine l_val rfl (o_load1 (key := 2) rfl rfl rfl) ?_
              refine l_val rfl (o_fld rfl) ?_
              refine l_val rfl (o_load1 (key := 3) rfl rfl rfl) ?_
              refine l_split rfl (o_lss rfl rfl) (fun q3 => ?_) (fun q3 => ?_)
              · first
                | (exfalso; omega; done)
                | (
                    refine l_val rfl (o_pickT rfl rfl) ?_
                    refine l_val rfl (o_pickF rfl rfl) ?_
                    refine l_val rfl (o_assign rfl) ?_
                    refine l_nil ?_
                    refine kt_norm ?_
                    refine v_sel [2, 3, 5] [2, 3] rfl rfl ?_
                    refine v_condT rfl ?_
                    refine v_seq ?_
                    refine v_region ?_
                    refine l_val rfl (o_assign rfl) ?_
                    refine l_nil ?_
                    refine kt_norm ?_
                    refine v_ret ?_
                    refine kb_ret ?_
                    refine kt_ret ?_
                    refine ⟨[_], .cons (.tmp rfl) (ResAll.nil), ?_⟩
                    show Value.int .i64 _ = _
                    congr 1
                    unfold cmpI
                    (repeat' split) <;> omega)
              · first
                | (exfalso; omega; done)
                | (
                    refine l_val rfl (o_pickT rfl rfl) ?_
                    refine l_val rfl (o_pickF rfl rfl) ?_
                    refine l_val rfl (o_assign rfl) ?_
                    refine l_nil ?_
                    refine kt_norm ?_
                    refine v_sel [2, 3, 5] [2, 3] rfl rfl ?_
                    refine v_condF rfl ?_
                    refine v_seq ?_
                    refine v_region ?_
                    refine l_val rfl (o_loadW (key := 2) rfl rfl rfl) ?_
                    refine l_val rfl (o_loadW (key := 3) rfl rfl rfl) ?_
                    refine l_split rfl (o_eqs (xl := [_, _]) (yl := [_, _]) (az := [_, _]) (bz := [_, _]) rfl rfl rfl rfl rfl rfl) (fun q4 => ?_) (fun q4 => ?_)
                    · simp only [List.map_cons, List.map_nil, List.cons.injEq, and_true] at q4
                      first
                      | (exfalso; omega; done)
                      | (
                          refine l_val rfl (o_assign rfl) ?_
                          refine l_nil ?_
                          refine kt_norm ?_
                          refine v_sel [25] [] rfl rfl ?_
                          refine v_condT rfl ?_
                          refine v_seq ?_
                          refine v_region ?_
                          refine l_val rfl (o_assign rfl) ?_
                          refine l_nil ?_
                          refine kt_norm ?_
                          refine v_ret ?_
                          refine kb_ret ?_
                          refine kt_ret ?_
                          refine ⟨[_], .cons (.tmp rfl) (ResAll.nil), ?_⟩
                          show Value.int .i64 _ = _
                          congr 1
                          unfold cmpI
                          (repeat' split) <;> omega)
                    · simp only [List.map_cons, List.map_nil, List.cons.injEq, and_true] at q4
                      first
                      | (exfalso; omega; done)
                      | (
                          refine l_val rfl (o_assign rfl) ?_
                          refine l_nil ?_
                          refine kt_norm ?_
                          refine v_sel [25] [] rfl rfl ?_
                          refine v_condF rfl ?_
                          refine v_skip ?_
                          refine kb_norm ?_
                          refine kt_norm ?_
                          refine v_seq ?_
                          refine v_region ?_
                          refine l_val rfl (o_assign rfl) ?_
                          refine l_nil ?_
                          refine kt_norm ?_
                          refine v_ret ?_
                          refine ⟨[_], .cons (.tmp rfl) (ResAll.nil), ?_⟩
                          show Value.int .i64 _ = _
                          congr 1
                          unfold cmpI
                          (repeat' split) <;> omega)))
        · first
          | (exfalso; omega; done)
          | (
              refine l_val rfl (o_move rfl) ?_
              refine l_no rfl ?_
              refine l_no rfl ?_
              refine l_no rfl ?_
              refine l_no rfl ?_
              refine l_no rfl ?_
              refine l_val rfl (o_pickF rfl rfl) ?_
              refine l_val rfl (o_pickF rfl rfl) ?_
              refine l_val rfl (o_assign rfl) ?_
              refine l_nil ?_
              refine kt_norm ?_
              refine v_sel [2, 3, 5] [2, 3] rfl rfl ?_
              refine v_condF rfl ?_
              refine v_seq ?_
              refine v_region ?_
              refine l_val rfl (o_loadW (key := 2) rfl rfl rfl) ?_
              refine l_val rfl (o_loadW (key := 3) rfl rfl rfl) ?_
              refine l_split rfl (o_eqs (xl := [_, _]) (yl := [_, _]) (az := [_, _]) (bz := [_, _]) rfl rfl rfl rfl rfl rfl) (fun q5 => ?_) (fun q5 => ?_)
              · simp only [List.map_cons, List.map_nil, List.cons.injEq, and_true] at q5
                first
                | (exfalso; omega; done)
                | (
                    refine l_val rfl (o_assign rfl) ?_
                    refine l_nil ?_
                    refine kt_norm ?_
                    refine v_sel [25] [] rfl rfl ?_
                    refine v_condT rfl ?_
                    refine v_seq ?_
                    refine v_region ?_
                    refine l_val rfl (o_assign rfl) ?_
                    refine l_nil ?_
                    refine kt_norm ?_
                    refine v_ret ?_
                    refine kb_ret ?_
                    refine kt_ret ?_
                    refine ⟨[_], .cons (.tmp rfl) (ResAll.nil), ?_⟩
                    show Value.int .i64 _ = _
                    congr 1
                    unfold cmpI
                    (repeat' split) <;> omega)
              · simp only [List.map_cons, List.map_nil, List.cons.injEq, and_true] at q5
                first
                | (exfalso; omega; done)
                | (
                    refine l_val rfl (o_assign rfl) ?_
                    refine l_nil ?_
                    refine kt_norm ?_
                    refine v_sel [25] [] rfl rfl ?_
                    refine v_condF rfl ?_
                    refine v_skip ?_
                    refine kb_norm ?_
                    refine kt_norm ?_
                    refine v_seq ?_
                    refine v_region ?_
                    refine l_val rfl (o_assign rfl) ?_
                    refine l_nil ?_
                    refine kt_norm ?_
                    refine v_ret ?_
                    refine ⟨[_], .cons (.tmp rfl) (ResAll.nil), ?_⟩
                    show Value.int .i64 _ = _
                    congr 1
                    unfold cmpI
                    (repeat' split) <;> omega)))
set_option maxHeartbeats 4000000 in
theorem r_upTo (x n : Int) (hx : 0 ≤ x ∧ x ≤ 9223372036854775808) (hn : 0 ≤ n ∧ n < 4611686018427387904) : Ans Try.prog 91 [.int .u64 x, wideV n] (.bool (decide (x * x ≤ n))) := by
  obtain ⟨h, hh⟩ : ∃ h, x / 4294967296 = h := ⟨_, rfl⟩
  obtain ⟨l, hl⟩ : ∃ l, x % 4294967296 = l := ⟨_, rfl⟩
  have h1 : 0 ≤ h ∧ h ≤ 2147483648 := by omega
  have l1 : 0 ≤ l ∧ l ≤ 4294967295 := by omega
  have m1 := mulNN h1 h1
  have m2 := mulNN h1 l1
  have m3 := mulNN l1 l1
  have m4 := mulNN hx hx
  have hxx := sq_halves hh hl
  obtain ⟨H, hH⟩ : ∃ H, h * h = H := ⟨_, rfl⟩
  obtain ⟨m, hm⟩ : ∃ m, h * l = m := ⟨_, rfl⟩
  obtain ⟨L, hL⟩ : ∃ L, l * l = L := ⟨_, rfl⟩
  obtain ⟨X, hX⟩ : ∃ X, x * x = X := ⟨_, rfl⟩
  rw [hH] at m1
  rw [hm] at m2
  rw [hL] at m3
  rw [hX] at m4
  rw [hH, hm, hL, hX] at hxx
  rw [hX]
  obtain ⟨S, hS⟩ : ∃ S, H * 4294967296 + (m + m) = S := ⟨_, rfl⟩
  rw [hS] at hxx
  have cs := cmpI_spec X n
  refine ans_of Try.func91 rfl Try.ntmps91 Try.results91 rfl rfl fun w => ?_
  refine v_seq ?_
  refine v_region ?_
  refine l_new rfl (o_box (cs := [_, _]) rfl rfl) fun b3 => ?_
  refine l_val rfl (o_assign rfl) ?_
  refine l_nil ?_
  refine kt_norm ?_
  refine v_seq ?_
  refine v_region ?_
  refine l_val rfl (o_move rfl) ?_
  refine l_val rfl (o_quon rfl rfl ?_ ?_) ?_
  · omega
  · exact wrap_u64 (by omega)
  refine l_val rfl (o_convi rfl ?_) ?_
  · omega
  refine l_val rfl (o_assign rfl) ?_
  refine l_nil ?_
  refine kt_norm ?_
  refine v_seq ?_
  refine v_region ?_
  refine l_val rfl (o_move rfl) ?_
  refine l_val rfl (o_remn rfl rfl ?_) ?_
  · omega
  refine l_val rfl (o_convi rfl ?_) ?_
  · omega
  refine l_val rfl (o_assign rfl) ?_
  refine l_nil ?_
  refine kt_norm ?_
  refine v_sel [3, 5, 6] [3] rfl rfl ?_
  refine v_seq ?_
  refine v_region ?_
  refine l_val rfl (o_move rfl) ?_
  refine l_val rfl (o_move rfl) ?_
  refine l_ans (vs := [_, _]) rfl rfl ((show Ans Try.prog 70 [.int .i64 (x / 4294967296), .int .i64 (x % 4294967296)] (wideV m) by rw [hh, hl, ← hm]; exact r_Mul _ _ (by omega) (by omega))) ?_
  refine l_new rfl o_alloc fun b7 => ?_
  refine l_store rfl (o_storeW (key := 7) (xs := [_, _]) rfl rfl rfl rfl rfl rfl rfl) ?_
  refine l_nil ?_
  refine kt_norm ?_
  refine v_seq ?_
  refine v_region ?_
  refine l_val rfl (o_move rfl) ?_
  refine l_val rfl (o_move rfl) ?_
  refine l_ans (vs := [_, _]) rfl rfl ((show Ans Try.prog 70 [.int .i64 (x / 4294967296), .int .i64 (x / 4294967296)] (wideV H) by rw [hh, ← hH]; exact r_Mul _ _ (by omega) (by omega))) ?_
  refine l_new rfl o_alloc fun b8 => ?_
  refine l_store rfl (o_storeW (key := 8) (xs := [_, _]) rfl rfl rfl rfl rfl rfl rfl) ?_
  refine l_nil ?_
  refine kt_norm ?_
  refine v_sel [3, 6, 7, 8] [3, 7, 8] rfl rfl ?_
  refine v_seq ?_
  refine v_seq ?_
  refine v_region ?_
  refine l_val rfl (o_assign rfl) ?_
  refine l_nil ?_
  refine kt_norm ?_
  refine v_block ?_
  refine v_loopS (α := Nat × Int) (fun ⟨i, z⟩ => [(9, .int .i64 (i : Int))]) (fun ⟨i, z⟩ => [(8, Hp.box b8 88 [.int .i64 (z / 18446744073709551616), .int .u64 (z % 18446744073709551616)])])  (fun ⟨i, z⟩ => i ≤ 32 ∧ z = H * 2 ^ i) (fun ⟨i, z⟩ => 32 - i) (0, H) [3, 6, 7, 8] [3, 7] ⟨Nat.zero_le _, by rw [Int.pow_zero, Int.mul_one]⟩  (And.intro rfl (True.intro)) rfl (And.intro rfl (True.intro)) rfl ?_
  rintro ⟨i, z⟩ ⟨hi, hz⟩
  have hzb := dblB (B := 4611686018427387904) (by omega) hi hz
  refine v_seq ?_
  refine v_seq ?_
  refine v_region ?_
  refine l_val rfl (o_move rfl) ?_
  refine l_split rfl (o_lss rfl rfl) (fun q1 => ?_) (fun q1 => ?_)
  · skip
    refine l_nil ?_
    refine kt_norm ?_
    refine v_condT rfl ?_
    refine v_skip ?_
    refine kt_norm ?_
    refine v_seq ?_
    refine v_block ?_
    refine v_region ?_
    refine l_val rfl (o_loadW (key := 8) rfl rfl rfl) ?_
    refine l_val rfl (o_loadW (key := 8) rfl rfl rfl) ?_
    refine l_ans (vs := [_, _]) rfl rfl (r_Add _ _ ?_ ?_ ?_) ?_
    · omega
    · omega
    · omega
    refine l_store rfl (o_storeW (key := 8) (xs := [_, _]) rfl rfl rfl rfl rfl rfl rfl) ?_
    refine l_nil ?_
    refine kb_norm ?_
    refine kt_norm ?_
    refine v_region ?_
    refine l_val rfl (o_move rfl) ?_
    refine l_val rfl (o_addi rfl rfl ?_) ?_
    · omega
    refine l_val rfl (o_assign rfl) ?_
    refine l_nil ?_
    refine kt_norm ?_
    refine ⟨(i + 1, z + z), ⟨by omega, by rw [Int.pow_succ, ← Int.mul_assoc, ← hz]; omega⟩, (by show 32 - (i + 1) < 32 - i; omega), le_app (And.intro rfl (True.intro)) [3, 6, 7, 8] rfl (And.intro rfl (True.intro)) [3, 7] rfl⟩
  · skip
    refine l_nil ?_
    refine kt_norm ?_
    refine v_condF rfl ?_
    refine v_exit ?_
    refine kt_exit ?_
    refine kt_exit ?_
    refine kb_eq ?_
    refine kt_norm ?_
    refine v_seq ?_
    refine v_drawZ [[8], [7], [7], [], [], [8]] mixed ?_ (by kernel_rfl) (by kernel_rfl)
    refine d_val (fun _ => rfl) rfl rfl (fun _ => o_loadW (key := 8) rfl rfl rfl) ?_
    refine d_val (fun _ => rfl) rfl rfl (fun _ => o_loadW (key := 7) rfl rfl rfl) ?_
    refine d_val (fun _ => rfl) rfl rfl (fun _ => o_loadW (key := 7) rfl rfl rfl) ?_
    refine d_ans (vs := [_, _]) (fun _ => rfl) (fun _ => rfl) (r_Add _ _ ?_ ?_ ?_) ?_
    · omega
    · omega
    · omega
    refine d_ans (vs := [_, _]) (fun _ => rfl) (fun _ => rfl) ((show Ans Try.prog 71 [wideV z, wideV (m + m)] (wideV S) by rw [show S = z + (m + m) by rw [hz, ← hS, show i = 32 by omega]; rfl]; exact r_Add _ _ (by omega) (by omega) (by omega))) ?_
    refine d_store (fun _ => rfl) rfl rfl (fun _ => o_storeW (key := 8) (xs := [_, _]) rfl rfl rfl rfl rfl rfl rfl) ?_
    refine d_nil (fun σ => ?_)
    refine l_nil ?_
    refine kt_norm ?_
    refine v_sel [3, 6, 8] [3, 8] rfl rfl ?_
    refine v_seq ?_
    refine v_seq ?_
    refine v_region ?_
    refine l_val rfl (o_assign rfl) ?_
    refine l_nil ?_
    refine kt_norm ?_
    refine v_block ?_
    refine v_loopS (α := Nat × Int) (fun ⟨i, z⟩ => [(10, .int .i64 (i : Int))]) (fun ⟨i, z⟩ => [(8, Hp.box b8 88 [.int .i64 (z / 18446744073709551616), .int .u64 (z % 18446744073709551616)])])  (fun ⟨i, z⟩ => i ≤ 32 ∧ z = S * 2 ^ i) (fun ⟨i, z⟩ => 32 - i) (0, S) [3, 6, 8] [3] ⟨Nat.zero_le _, by rw [Int.pow_zero, Int.mul_one]⟩  (And.intro rfl (True.intro)) rfl (And.intro rfl (True.intro)) rfl ?_
    rintro ⟨i, z⟩ ⟨hi, hz⟩
    have hzb := dblB (B := 19807040628566084398385987584) (by omega) hi hz
    refine v_seq ?_
    refine v_seq ?_
    refine v_region ?_
    refine l_val rfl (o_move rfl) ?_
    refine l_split rfl (o_lss rfl rfl) (fun q2 => ?_) (fun q2 => ?_)
    · have hzc := dblC (B := 19807040628566084398385987584) (by omega) (by omega) hz
      refine l_nil ?_
      refine kt_norm ?_
      refine v_condT rfl ?_
      refine v_skip ?_
      refine kt_norm ?_
      refine v_seq ?_
      refine v_block ?_
      refine v_region ?_
      refine l_val rfl (o_loadW (key := 8) rfl rfl rfl) ?_
      refine l_val rfl (o_loadW (key := 8) rfl rfl rfl) ?_
      refine l_ans (vs := [_, _]) rfl rfl (r_Add _ _ ?_ ?_ ?_) ?_
      · omega
      · omega
      · omega
      refine l_store rfl (o_storeW (key := 8) (xs := [_, _]) rfl rfl rfl rfl rfl rfl rfl) ?_
      refine l_nil ?_
      refine kb_norm ?_
      refine kt_norm ?_
      refine v_region ?_
      refine l_val rfl (o_move rfl) ?_
      refine l_val rfl (o_addi rfl rfl ?_) ?_
      · omega
      refine l_val rfl (o_assign rfl) ?_
      refine l_nil ?_
      refine kt_norm ?_
      refine ⟨(i + 1, z + z), ⟨by omega, by rw [Int.pow_succ, ← Int.mul_assoc, ← hz]; omega⟩, (by show 32 - (i + 1) < 32 - i; omega), le_app (And.intro rfl (True.intro)) [3, 6, 8] rfl (And.intro rfl (True.intro)) [3] rfl⟩
    · skip
      refine l_nil ?_
      refine kt_norm ?_
      refine v_condF rfl ?_
      refine v_exit ?_
      refine kt_exit ?_
      refine kt_exit ?_
      refine kb_eq ?_
      refine kt_norm ?_
      refine v_seq ?_
      refine v_drawZ [[8], [], [], [], [], [8]] mixed ?_ (by kernel_rfl) (by kernel_rfl)
      refine d_val (fun _ => rfl) rfl rfl (fun _ => o_loadW (key := 8) rfl rfl rfl) ?_
      refine d_val (fun _ => rfl) rfl rfl (fun _ => o_move rfl) ?_
      refine d_val (fun _ => rfl) rfl rfl (fun _ => o_move rfl) ?_
      refine d_ans (vs := [_, _]) (fun _ => rfl) (fun _ => rfl) ((show Ans Try.prog 70 [.int .i64 (x % 4294967296), .int .i64 (x % 4294967296)] (wideV L) by rw [hl, ← hL]; exact r_Mul _ _ (by omega) (by omega))) ?_
      refine d_ans (vs := [_, _]) (fun _ => rfl) (fun _ => rfl) ((show Ans Try.prog 71 [wideV z, wideV L] (wideV X) by rw [hxx, show S * 4294967296 = z by rw [hz, show i = 32 by omega]; rfl]; exact r_Add _ _ (by omega) (by omega) (by omega))) ?_
      refine d_store (fun _ => rfl) rfl rfl (fun _ => o_storeW (key := 8) (xs := [_, _]) rfl rfl rfl rfl rfl rfl rfl) ?_
      refine d_nil (fun σ => ?_)
      refine l_nil ?_
      refine kt_norm ?_
      refine v_sel [3, 8] [3, 8] rfl rfl ?_
      refine v_seq ?_
      refine v_region ?_
      refine l_val rfl (o_fld rfl) ?_
      refine l_val rfl (o_load1 (key := 8) rfl rfl rfl) ?_
      refine l_split rfl (o_geq rfl rfl) (fun q3 => ?_) (fun q3 => absurd (show _ by omega) q3)
      refine l_val rfl (o_move rfl) ?_
      refine l_val rfl (o_loadW (key := 8) rfl rfl rfl) ?_
      refine l_val rfl (o_loadW (key := 3) rfl rfl rfl) ?_
      refine l_ans (vs := [_, _]) rfl rfl (r_Cmp _ _) ?_
      refine l_split rfl (o_leq rfl rfl) (fun hc => ?_) (fun hc => ?_)
      · skip
        refine l_val rfl (o_pickT rfl rfl) ?_
        refine l_val rfl (o_assign rfl) ?_
        refine l_nil ?_
        refine kt_norm ?_
        refine v_sel [4] [] rfl rfl ?_
        refine v_ret ?_
        refine ⟨[_], .cons (.tmp rfl) (ResAll.nil), ?_⟩
        exact congrArg Value.bool (by first | exact (decide_eq_true (by omega)).symm | exact (decide_eq_false (by omega)).symm)
      · skip
        refine l_val rfl (o_pickT rfl rfl) ?_
        refine l_val rfl (o_assign rfl) ?_
        refine l_nil ?_
        refine kt_norm ?_
        refine v_sel [4] [] rfl rfl ?_
        refine v_ret ?_
        refine ⟨[_], .cons (.tmp rfl) (ResAll.nil), ?_⟩
        exact congrArg Value.bool (by first | exact (decide_eq_true (by omega)).symm | exact (decide_eq_false (by omega)).symm)
set_option maxHeartbeats 4000000 in
theorem r_Long (n : Int) (hn : 0 ≤ n ∧ n < 4611686018427387904) : Ans Try.prog 74 [wideV n] (.int .u64 ((isq n.toNat : Nat) : Int)) := by
  refine ans_of Try.func74 rfl Try.ntmps74 Try.results74 rfl rfl fun w => ?_
  refine v_seq ?_
  refine v_region ?_
  refine l_new rfl (o_box (cs := [_, _]) rfl rfl) fun b1 => ?_
  refine l_val rfl (o_assign rfl) ?_
  refine l_nil ?_
  refine kt_norm ?_
  refine v_seq ?_
  refine v_region ?_
  refine l_val rfl (o_assign rfl) ?_
  refine l_nil ?_
  refine kt_norm ?_
  refine v_seq ?_
  refine v_seq ?_
  refine v_region ?_
  refine l_val rfl (o_fld rfl) ?_
  refine l_val rfl (o_load1 (key := 1) rfl rfl rfl) ?_
  refine l_split rfl (o_lss rfl rfl) (fun q1 => absurd q1 (by omega)) (fun q1 => ?_)
  refine l_nil ?_
  refine kt_norm ?_
  refine v_condF rfl ?_
  refine v_skip ?_
  refine kt_norm ?_
  refine v_seq ?_
  refine v_seq ?_
  refine v_region ?_
  refine l_val rfl (o_assign rfl) ?_
  refine l_nil ?_
  refine kt_norm ?_
  refine v_block ?_
  refine v_loopS (α := Nat × Int × Int) (fun ⟨k, b, x⟩ => [(4, .int .u64 b), (3, .int .u64 x)]) (fun ⟨k, b, x⟩ => [])  (fun ⟨k, b, x⟩ => LongQ n k b x) (fun ⟨k, b, x⟩ => k) (64, 9223372036854775808, 0) [1] [1] (LongQ.start hn)  (And.intro rfl (And.intro rfl (True.intro))) rfl (True.intro) rfl ?_
  rintro ⟨k, b, x⟩ hQ
  refine v_seq ?_
  refine v_seq ?_
  refine v_region ?_
  refine l_val rfl (o_move rfl) ?_
  refine l_split rfl (o_gtr rfl rfl) (fun hbp => ?_) (fun hbp => ?_)
  · obtain ⟨j, rfl, hbj, hb1, hb2, hbh⟩ := bit_go hQ.1 hQ.2.1 hbp
    have hxb := LongQ.xb hn hQ hbj
    refine l_nil ?_
    refine kt_norm ?_
    refine v_condT rfl ?_
    refine v_skip ?_
    refine kt_norm ?_
    refine v_seq ?_
    refine v_block ?_
    refine v_seq ?_
    refine v_region ?_
    refine l_val rfl (o_move rfl) ?_
    refine l_val rfl (o_move rfl) ?_
    refine l_val rfl (o_add rfl rfl (wrapU (a := x + b) (by omega))) ?_
    refine l_val rfl (o_loadW (key := 1) rfl rfl rfl) ?_
    refine l_ans (vs := [_, _]) rfl rfl (r_upTo _ _ ?_ ?_) ?_
    · omega
    · omega
    refine lz_bool (fun hup => ?_) (fun hup => ?_)
    · skip
      refine l_nil ?_
      refine kt_norm ?_
      refine v_sel [4, 3, 1, 16] [1] rfl rfl ?_
      refine v_condT rfl ?_
      refine v_region ?_
      refine l_val rfl (o_move rfl) ?_
      refine l_val rfl (o_move rfl) ?_
      refine l_val rfl (o_add rfl rfl (wrapU (a := x + b) (by omega))) ?_
      refine l_val rfl (o_assign rfl) ?_
      refine l_nil ?_
      refine kb_norm ?_
      refine kt_norm ?_
      refine v_region ?_
      refine l_val rfl (o_move rfl) ?_
      refine l_val rfl (o_quon rfl rfl ?_ ?_) ?_
      · omega
      · exact wrap_u64 (by omega)
      refine l_val rfl (o_assign rfl) ?_
      refine l_nil ?_
      refine kt_norm ?_
      refine ⟨(j, b / 2, x + b), (LongQ.yes hn hQ hbj hbh hup), (Nat.lt_succ_self j), le_app (And.intro rfl (And.intro rfl (True.intro))) [1] rfl (True.intro) [1] rfl⟩
    · skip
      refine l_nil ?_
      refine kt_norm ?_
      refine v_sel [4, 3, 1, 16] [1] rfl rfl ?_
      refine v_condF rfl ?_
      refine v_skip ?_
      refine kb_norm ?_
      refine kt_norm ?_
      refine v_region ?_
      refine l_val rfl (o_move rfl) ?_
      refine l_val rfl (o_quon rfl rfl ?_ ?_) ?_
      · omega
      · exact wrap_u64 (by omega)
      refine l_val rfl (o_assign rfl) ?_
      refine l_nil ?_
      refine kt_norm ?_
      refine ⟨(j, b / 2, x), (LongQ.no hn hQ hbj hbh hup), (Nat.lt_succ_self j), le_app (And.intro rfl (And.intro rfl (True.intro))) [1] rfl (True.intro) [1] rfl⟩
  · skip
    refine l_nil ?_
    refine kt_norm ?_
    refine v_condF rfl ?_
    refine v_exit ?_
    refine kt_exit ?_
    refine kt_exit ?_
    refine kb_eq ?_
    refine kt_norm ?_
    refine v_seq ?_
    refine v_region ?_
    refine l_val rfl (o_move rfl) ?_
    refine l_val rfl (o_assign rfl) ?_
    refine l_nil ?_
    refine kt_norm ?_
    refine v_sel [2] [] rfl rfl ?_
    refine v_ret ?_
    refine ⟨[_], .cons (.tmp rfl) (ResAll.nil), ?_⟩
    exact congrArg (Value.int .u64) (LongQ.done hn hQ hbp)
theorem r_Sqrt (n : Int) (hn : 0 ≤ n ∧ n < 4611686018427387904) : Ans Try.prog 50 [.int .u64 n] (.int .u64 ((isq n.toNat : Nat) : Int)) := by
  refine ans_of Try.func50 rfl Try.ntmps50 Try.results50 rfl rfl fun w => ?_
  refine v_seq ?_
  refine v_region ?_
  refine l_val rfl (o_assign rfl) ?_
  refine l_nil ?_
  refine kt_norm ?_
  refine v_seq ?_
  refine v_region ?_
  refine l_val rfl (o_move rfl) ?_
  refine l_val rfl (o_build (vs := [_, _]) (cs := [_, _]) rfl rfl) ?_
  refine l_ans (vs := [_]) rfl rfl ((show Ans Try.prog 74 [.agg #[.int .i64 0, .int .u64 n]] _ by rw [← wideV_eq hn.1 (by omega) (show (0 : Int) * 18446744073709551616 + n = n by omega)]; exact r_Long n hn)) ?_
  refine l_val rfl (o_assign rfl) ?_
  refine l_nil ?_
  refine kt_norm ?_
  refine v_ret ?_
  refine ⟨[_], .cons (.tmp rfl) (ResAll.nil), ?_⟩
  rfl
theorem r_NearQ (a b c : Int) (ha : -9223372036854775808 ≤ a ∧ a < 9223372036854775808) (hb : -9223372036854775808 ≤ b ∧ b < 9223372036854775808) (hp : -4611686018427387904 ≤ a * b ∧ a * b ≤ 4611686018427387904) (hc : 0 < c ∧ c < 9223372036854775808) : Ans Try.prog 49 [.int .i64 a, .int .i64 b, .int .i64 c] (.tuple #[.int .i64 (nearQ (a * b) c), .int .i64 0]) := by
  have d1 := ediv_bound (B := 4611686018427387904) (x := a * b) (c := c) (by omega) hp.1 hp.2 hc.1
  have m1 := Int.emod_nonneg (a * b) (show c ≠ 0 by omega)
  have m2 := Int.emod_lt_of_pos (a * b) hc.1
  refine ans_of Try.func49 rfl Try.ntmps49 Try.results49 rfl rfl fun w => ?_
  refine v_seq ?_
  refine v_region ?_
  refine l_val rfl (o_assign rfl) ?_
  refine l_val rfl (o_assign rfl) ?_
  refine l_nil ?_
  refine kt_norm ?_
  refine v_seq ?_
  refine v_region ?_
  refine l_val rfl (o_move rfl) ?_
  refine l_val rfl (o_move rfl) ?_
  refine l_ans (vs := [_, _]) rfl rfl (r_Mul _ _ ?_ ?_) ?_
  · omega
  · omega
  refine l_val rfl (o_move rfl) ?_
  refine l_ans (vs := [_, _]) rfl rfl (r_Div _ _ ?_ ?_) ?_
  · omega
  · omega
  refine l_val rfl (o_move rfl) ?_
  refine l_val rfl (o_extract rfl rfl) ?_
  refine l_val rfl (o_extract rfl rfl) ?_
  refine l_val rfl (o_extract rfl rfl) ?_
  refine l_new rfl o_alloc fun b8 => ?_
  refine l_store rfl (o_storeW (key := 8) (xs := [_, _]) rfl rfl rfl rfl rfl rfl rfl) ?_
  refine l_val rfl (o_assign rfl) ?_
  refine l_val rfl (o_assign rfl) ?_
  refine l_nil ?_
  refine kt_norm ?_
  refine v_sel [2, 8, 9, 10] [8] rfl rfl ?_
  refine v_seq ?_
  refine v_seq ?_
  refine v_region ?_
  refine l_val rfl (o_move rfl) ?_
  refine l_split rfl (o_neq rfl rfl) (fun q1 => absurd q1 (by omega)) (fun q1 => ?_)
  refine l_nil ?_
  refine kt_norm ?_
  refine v_condF rfl ?_
  refine v_skip ?_
  refine kt_norm ?_
  refine v_seq ?_
  refine v_seq ?_
  refine v_region ?_
  refine l_val rfl (o_move rfl) ?_
  refine l_val rfl (o_move rfl) ?_
  refine l_val rfl (o_move rfl) ?_
  refine l_val rfl (o_subi rfl rfl ?_) ?_
  · omega
  refine l_split rfl (o_geq rfl rfl) (fun hnr => ?_) (fun hnr => ?_)
  · skip
    refine l_nil ?_
    refine kt_norm ?_
    refine v_sel [8, 27] [8] rfl rfl ?_
    refine v_condT rfl ?_
    refine v_drawZ [[8], [], [], [8]] mixed ?_ (by kernel_rfl) (by kernel_rfl)
    refine d_val (fun _ => rfl) rfl rfl (fun _ => o_loadW (key := 8) rfl rfl rfl) ?_
    refine d_ans (vs := [_]) (fun _ => rfl) (fun _ => rfl) (r_Of _ ?_) ?_
    · omega
    refine d_ans (vs := [_, _]) (fun _ => rfl) (fun _ => rfl) (r_Add _ _ ?_ ?_ ?_) ?_
    · omega
    · omega
    · omega
    refine d_store (fun _ => rfl) rfl rfl (fun _ => o_storeW (key := 8) (xs := [_, _]) rfl rfl rfl rfl rfl rfl rfl) ?_
    refine d_nil (fun σ => ?_)
    refine l_nil ?_
    refine kt_norm ?_
    refine v_seq ?_
    refine v_region ?_
    refine l_val rfl (o_loadW (key := 8) rfl rfl rfl) ?_
    refine l_ans (vs := [_]) rfl rfl (r_narrow _ ?_) ?_
    · omega
    refine l_val rfl (o_extract rfl rfl) ?_
    refine l_val rfl (o_extract rfl rfl) ?_
    refine l_val rfl (o_assign rfl) ?_
    refine l_val rfl (o_assign rfl) ?_
    refine l_nil ?_
    refine kt_norm ?_
    refine v_sel [6, 7] [] rfl rfl ?_
    refine v_ret ?_
    refine ⟨[_, _], .cons (.tmp rfl) (.cons (.tmp rfl) (ResAll.nil)), ?_⟩
    first
      | exact congrArg (fun z => Value.tuple #[.int .i64 z, .int .i64 0]) (nearQ_yes hnr).symm
      | exact congrArg (fun z => Value.tuple #[.int .i64 z, .int .i64 0]) (nearQ_no hnr).symm
  · skip
    refine l_nil ?_
    refine kt_norm ?_
    refine v_sel [8, 27] [8] rfl rfl ?_
    refine v_condF rfl ?_
    refine v_skip ?_
    refine kt_norm ?_
    refine v_seq ?_
    refine v_region ?_
    refine l_val rfl (o_loadW (key := 8) rfl rfl rfl) ?_
    refine l_ans (vs := [_]) rfl rfl (r_narrow _ ?_) ?_
    · omega
    refine l_val rfl (o_extract rfl rfl) ?_
    refine l_val rfl (o_extract rfl rfl) ?_
    refine l_val rfl (o_assign rfl) ?_
    refine l_val rfl (o_assign rfl) ?_
    refine l_nil ?_
    refine kt_norm ?_
    refine v_sel [6, 7] [] rfl rfl ?_
    refine v_ret ?_
    refine ⟨[_, _], .cons (.tmp rfl) (.cons (.tmp rfl) (ResAll.nil)), ?_⟩
    first
      | exact congrArg (fun z => Value.tuple #[.int .i64 z, .int .i64 0]) (nearQ_yes hnr).symm
      | exact congrArg (fun z => Value.tuple #[.int .i64 z, .int .i64 0]) (nearQ_no hnr).symm
theorem r_Left (x y : Int) (hx : -1099511627776 ≤ x ∧ x ≤ 1099511627776) (hy : -1099511627776 ≤ y ∧ y ≤ 1099511627776) : Ans Try.prog 26 [.agg #[.int .i64 x, .int .i64 y]] (.agg #[.int .i64 (-y), .int .i64 x]) := by
  refine ans_of Try.func26 rfl Try.ntmps26 Try.results26 rfl rfl fun w => ?_
  refine v_seq ?_
  refine v_region ?_
  refine l_new rfl (o_box (cs := [_, _]) rfl rfl) fun b1 => ?_
  refine l_new rfl o_alloc fun b2 => ?_
  refine l_nil ?_
  refine kt_norm ?_
  refine v_seq ?_
  refine v_region ?_
  refine l_val rfl (o_fld rfl) ?_
  refine l_val rfl (o_load1 (key := 1) rfl rfl rfl) ?_
  refine l_val rfl (o_negi rfl ?_) ?_
  · omega
  refine l_val rfl (o_fld rfl) ?_
  refine l_val rfl (o_load1 (key := 1) rfl rfl rfl) ?_
  refine l_val rfl (o_build (vs := [_, _]) (cs := [_, _]) rfl rfl) ?_
  refine l_store rfl (o_storeW (key := 2) (xs := [_, _]) rfl rfl rfl rfl rfl rfl rfl) ?_
  refine l_nil ?_
  refine kt_norm ?_
  refine v_sel [2] [2] rfl rfl ?_
  refine v_ret ?_
  refine ⟨[_], .cons (.cellW (key := 2) rfl rfl rfl) (ResAll.nil), ?_⟩
  rfl
theorem r_PNeg (x y : Int) (hx : -1099511627776 ≤ x ∧ x ≤ 1099511627776) (hy : -1099511627776 ≤ y ∧ y ≤ 1099511627776) : Ans Try.prog 28 [.agg #[.int .i64 x, .int .i64 y]] (.agg #[.int .i64 (-x), .int .i64 (-y)]) := by
  refine ans_of Try.func28 rfl Try.ntmps28 Try.results28 rfl rfl fun w => ?_
  refine v_seq ?_
  refine v_region ?_
  refine l_new rfl (o_box (cs := [_, _]) rfl rfl) fun b1 => ?_
  refine l_new rfl o_alloc fun b2 => ?_
  refine l_nil ?_
  refine kt_norm ?_
  refine v_seq ?_
  refine v_region ?_
  refine l_val rfl (o_fld rfl) ?_
  refine l_val rfl (o_load1 (key := 1) rfl rfl rfl) ?_
  refine l_val rfl (o_negi rfl ?_) ?_
  · omega
  refine l_val rfl (o_fld rfl) ?_
  refine l_val rfl (o_load1 (key := 1) rfl rfl rfl) ?_
  refine l_val rfl (o_negi rfl ?_) ?_
  · omega
  refine l_val rfl (o_build (vs := [_, _]) (cs := [_, _]) rfl rfl) ?_
  refine l_store rfl (o_storeW (key := 2) (xs := [_, _]) rfl rfl rfl rfl rfl rfl rfl) ?_
  refine l_nil ?_
  refine kt_norm ?_
  refine v_sel [2] [2] rfl rfl ?_
  refine v_ret ?_
  refine ⟨[_], .cons (.cellW (key := 2) rfl rfl rfl) (ResAll.nil), ?_⟩
  rfl
theorem r_SqrtM (z : Int) (h : 0 ≤ z ∧ z < 4611686018427387904) : Ans Try.prog 50 [.int .u64 (z % 18446744073709551616)] (.int .u64 ((isq z.toNat : Nat) : Int)) := by
  rw [Int.emod_eq_of_lt (by omega) (by omega)]
  exact r_Sqrt z h
theorem r_Len (p : PtT) (hx : -1073741824 ≤ p.x ∧ p.x ≤ 1073741824) (hy : -1073741824 ≤ p.y ∧ p.y ≤ 1073741824) : Ans Try.prog 27 [.agg #[.int .i64 p.x, .int .i64 p.y]] (.int .i64 (lenT p)) := by
  have m1 := mul_bound (A := 1073741824) (B := 1073741824) (x := p.x) (y := p.x) (by omega) (by omega) (by omega) (by omega)
  have m2 := mul_bound (A := 1073741824) (B := 1073741824) (x := p.y) (y := p.y) (by omega) (by omega) (by omega) (by omega)
  have sq1 := sq_nn p.x
  have sq2 := sq_nn p.y
  have hl := lenT_abs hx hy
  refine ans_of Try.func27 rfl Try.ntmps27 Try.results27 rfl rfl fun w => ?_
  refine v_seq ?_
  refine v_region ?_
  refine l_new rfl (o_box (cs := [_, _]) rfl rfl) fun b1 => ?_
  refine l_val rfl (o_assign rfl) ?_
  refine l_nil ?_
  refine kt_norm ?_
  refine v_seq ?_
  refine v_region ?_
  refine l_val rfl (o_loadW (key := 1) rfl rfl rfl) ?_
  refine l_val rfl (o_loadW (key := 1) rfl rfl rfl) ?_
  refine l_ans (vs := [_, _]) rfl rfl (r_Dot _ _ _ _ ?_ ?_ ?_ ?_) ?_
  · omega
  · omega
  · omega
  · omega
  refine l_val rfl (o_convu rfl) ?_
  refine l_ans (vs := [_]) rfl rfl ((show Ans Try.prog _ [.int .u64 ((p.x * p.x + p.y * p.y) % 18446744073709551616)] (.int .u64 (lenT p)) from r_SqrtM _ (by omega))) ?_
  refine l_val rfl (o_convi rfl ?_) ?_
  · omega
  refine l_val rfl (o_assign rfl) ?_
  refine l_nil ?_
  refine kt_norm ?_
  refine v_sel [2] [] rfl rfl ?_
  refine v_ret ?_
  refine ⟨[_], .cons (.tmp rfl) (ResAll.nil), ?_⟩
  rfl
theorem r_Norm (p : PtT) (r : Int) (hx : -1073741824 ≤ p.x ∧ p.x ≤ 1073741824) (hy : -1073741824 ≤ p.y ∧ p.y ≤ 1073741824) (hr : 0 ≤ r ∧ r ≤ 1073741824) : Ans Try.prog 25 [.agg #[.int .i64 p.x, .int .i64 p.y], .int .i64 r] (.agg #[.int .i64 (normT p r).x, .int .i64 (normT p r).y]) := by
  have m1 := mul_bound (A := 1073741824) (B := 1073741824) (x := p.x) (y := p.x) (by omega) (by omega) (by omega) (by omega)
  have m2 := mul_bound (A := 1073741824) (B := 1073741824) (x := p.y) (y := p.y) (by omega) (by omega) (by omega) (by omega)
  have sq1 := sq_nn p.x
  have sq2 := sq_nn p.y
  have hl := lenT_abs hx hy
  have m3 := mul_bound (A := 1073741824) (B := 1073741824) (x := p.x) (y := r) (by omega) (by omega) (by omega) (by omega)
  have m4 := mul_bound (A := 1073741824) (B := 1073741824) (x := p.y) (y := r) (by omega) (by omega) (by omega) (by omega)
  refine ans_of Try.func25 rfl Try.ntmps25 Try.results25 rfl rfl fun w => ?_
  refine v_seq ?_
  refine v_region ?_
  refine l_new rfl (o_box (cs := [_, _]) rfl rfl) fun b2 => ?_
  refine l_new rfl o_alloc fun b4 => ?_
  refine l_nil ?_
  refine kt_norm ?_
  refine v_seq ?_
  refine v_region ?_
  refine l_val rfl (o_loadW (key := 2) rfl rfl rfl) ?_
  refine l_ans (vs := [_]) rfl rfl (r_Len p hx hy) ?_
  refine l_val rfl (o_assign rfl) ?_
  refine l_nil ?_
  refine kt_norm ?_
  refine v_seq ?_
  refine v_seq ?_
  refine v_region ?_
  refine l_val rfl (o_move rfl) ?_
  refine l_split rfl (o_eql rfl rfl) (fun hl0 => ?_) (fun hl0 => ?_)
  · skip
    refine l_nil ?_
    refine kt_norm ?_
    refine v_condT rfl ?_
    refine v_seq ?_
    refine v_region ?_
    refine l_val rfl (o_build (vs := []) (cs := [_, _]) rfl rfl) ?_
    refine l_store rfl (o_storeW (key := 4) (xs := [_, _]) rfl rfl rfl rfl rfl rfl rfl) ?_
    refine l_nil ?_
    refine kt_norm ?_
    refine v_sel [4] [4] rfl rfl ?_
    refine v_ret ?_
    refine kt_ret ?_
    refine ⟨[_], .cons (.cellW (key := 4) rfl rfl rfl) (ResAll.nil), ?_⟩
    first
      | (unfold normT; rw [if_pos hl0]; rfl)
      | (unfold normT; rw [if_neg hl0]; rfl)
  · skip
    refine l_nil ?_
    refine kt_norm ?_
    refine v_condF rfl ?_
    refine v_skip ?_
    refine kt_norm ?_
    refine v_seq ?_
    refine v_region ?_
    refine l_val rfl (o_fld rfl) ?_
    refine l_val rfl (o_load1 (key := 2) rfl rfl rfl) ?_
    refine l_val rfl (o_move rfl) ?_
    refine l_val rfl (o_move rfl) ?_
    refine l_ans (vs := [_, _, _]) rfl rfl (r_NearQ p.x r (lenT p) (by omega) (by omega) (by omega) (by omega)) ?_
    refine l_val rfl (o_move rfl) ?_
    refine l_val rfl (o_extract rfl rfl) ?_
    refine l_val rfl (o_extract rfl rfl) ?_
    refine l_val rfl (o_assign rfl) ?_
    refine l_val rfl (o_assign rfl) ?_
    refine l_nil ?_
    refine kt_norm ?_
    refine v_sel [1, 2, 4, 5, 6] [2, 4] rfl rfl ?_
    refine v_seq ?_
    refine v_region ?_
    refine l_val rfl (o_fld rfl) ?_
    refine l_val rfl (o_load1 (key := 2) rfl rfl rfl) ?_
    refine l_val rfl (o_move rfl) ?_
    refine l_val rfl (o_move rfl) ?_
    refine l_ans (vs := [_, _, _]) rfl rfl (r_NearQ p.y r (lenT p) (by omega) (by omega) (by omega) (by omega)) ?_
    refine l_val rfl (o_move rfl) ?_
    refine l_val rfl (o_extract rfl rfl) ?_
    refine l_val rfl (o_extract rfl rfl) ?_
    refine l_val rfl (o_assign rfl) ?_
    refine l_val rfl (o_assign rfl) ?_
    refine l_nil ?_
    refine kt_norm ?_
    refine v_sel [4, 6, 8] [4] rfl rfl ?_
    refine v_seq ?_
    refine v_region ?_
    refine l_val rfl (o_move rfl) ?_
    refine l_val rfl (o_move rfl) ?_
    refine l_val rfl (o_build (vs := [_, _]) (cs := [_, _]) rfl rfl) ?_
    refine l_store rfl (o_storeW (key := 4) (xs := [_, _]) rfl rfl rfl rfl rfl rfl rfl) ?_
    refine l_nil ?_
    refine kt_norm ?_
    refine v_ret ?_
    refine ⟨[_], .cons (.cellW (key := 4) rfl rfl rfl) (ResAll.nil), ?_⟩
    first
      | (unfold normT; rw [if_pos hl0]; rfl)
      | (unfold normT; rw [if_neg hl0]; rfl)
end Go.Proofs.Ytpgjbalnipinoaa

/- What a half has. Conditions: none. -/
namespace Go.Proofs.Ytpgjbalnipinoaa
open Go.Proofs Go.RowKit Go.Shelf

/-! ### halves: chords whose ends may be longer than the radius -/
theorem Rnd.dotI {r c : Int} {P n : PtT} (h : Rnd r c P n) {a : PtT} (ha : InR r a) : -(2 * (r * c)) ≤ 2 * (c * dotT a n) - 2 * (r * dotT a P) ∧ 2 * (c * dotT a n) - 2 * (r * dotT a P) ≤ 2 * (r * c) := by
  have := dot_err h.ex h.ey ha.1 ha.2
  have e : 2 * (c * dotT a n) - 2 * (r * dotT a P) = a.x * (2 * (c * n.x) - 2 * (P.x * r)) + a.y * (2 * (c * n.y) - 2 * (P.y * r)) := by unfold dotT; grind
  rw [e]; exact this
theorem Rnd.crossI {r c : Int} {P n : PtT} (h : Rnd r c P n) {a : PtT} (ha : InR r a) : -(2 * (r * c)) ≤ 2 * (c * crossT a n) - 2 * (r * crossT a P) ∧ 2 * (c * crossT a n) - 2 * (r * crossT a P) ≤ 2 * (r * c) := by
  have ha1 := ha.1
  have ha2 := ha.2
  have := dot_err (x := a.x) (y := -a.y) (k := r) h.ey h.ex ha1 (by omega)
  have e : 2 * (c * crossT a n) - 2 * (r * crossT a P) = a.x * (2 * (c * n.y) - 2 * (P.y * r)) + -a.y * (2 * (c * n.x) - 2 * (P.x * r)) := by unfold crossT; grind
  rw [e]; exact this
/-- no rounded vector is shorter than its radius by more than one -/
theorem Rnd.low {r c : Int} {P n : PtT} (h : Rnd r c P n) (hr : 1 ≤ r) : (r - 1) * (r - 1) ≤ dotT n n := by
  obtain ⟨c1, c2, c0, ex, ey⟩ := h
  obtain ⟨e1, he1⟩ : ∃ e, 2 * (c * n.x) - 2 * (P.x * r) = e := ⟨_, rfl⟩
  obtain ⟨e2, he2⟩ : ∃ e, 2 * (c * n.y) - 2 * (P.y * r) = e := ⟨_, rfl⟩
  rw [he1] at ex
  rw [he2] at ey
  rcases Int.lt_or_le (dotT n n) ((r - 1) * (r - 1)) with hlt | hle
  · exfalso
    have q1 := sq_mono ex
    have q2 := sq_mono ey
    have hT : -(3 * (c * (r - 1))) ≤ 2 * (n.x * e1 + n.y * e2) ∧ 2 * (n.x * e1 + n.y * e2) ≤ 3 * (c * (r - 1)) := by
      have hc0 := Int.mul_nonneg (show 0 ≤ c by omega) (show 0 ≤ r - 1 by omega)
      refine abs_of_sq (by omega) ?_
      have b3 := sq_nn (n.x * e2 - n.y * e1)
      have b4 : (n.x * e1 + n.y * e2) * (n.x * e1 + n.y * e2) + (n.x * e2 - n.y * e1) * (n.x * e2 - n.y * e1) = dotT n n * (e1 * e1 + e2 * e2) := by unfold dotT; grind
      have b6 := Int.mul_le_mul (show dotT n n ≤ (r - 1) * (r - 1) by omega) (show e1 * e1 + e2 * e2 ≤ 2 * (c * c) by omega) (by have := sq_nn e1; have := sq_nn e2; omega) (sq_nn (r - 1))
      have b7 := Int.mul_nonneg (sq_nn (r - 1)) (sq_nn c)
      have b8 : 3 * (c * (r - 1)) * (3 * (c * (r - 1))) = 9 * ((r - 1) * (r - 1) * (c * c)) := by grind
      have b9 : (r - 1) * (r - 1) * (2 * (c * c)) = 2 * ((r - 1) * (r - 1) * (c * c)) := by grind
      have b10 : 2 * (n.x * e1 + n.y * e2) * (2 * (n.x * e1 + n.y * e2)) = 4 * ((n.x * e1 + n.y * e2) * (n.x * e1 + n.y * e2)) := by grind
      omega
    have key : 4 * (r * r) * dotT P P = 4 * (c * c) * dotT n n - 4 * c * (n.x * e1 + n.y * e2) + (e1 * e1 + e2 * e2) := by
      have f1 : 2 * (P.x * r) = 2 * (c * n.x) - e1 := by omega
      have f2 : 2 * (P.y * r) = 2 * (c * n.y) - e2 := by omega
      have g : 4 * (r * r) * dotT P P = (2 * (P.x * r)) * (2 * (P.x * r)) + (2 * (P.y * r)) * (2 * (P.y * r)) := by unfold dotT; grind
      rw [g, f1, f2]; unfold dotT; grind
    have v1 := Int.mul_le_mul_of_nonneg_left (show dotT n n + 1 ≤ (r - 1) * (r - 1) by omega) (show 0 ≤ 4 * (c * c) by have := sq_nn c; omega)
    have v2 := Int.mul_le_mul_of_nonneg_left c1 (show 0 ≤ 4 * (r * r) by have := sq_nn r; omega)
    have v3 := Int.mul_le_mul_of_nonneg_left hT.1 (show 0 ≤ 2 * c by omega)
    have m1 : 4 * (c * c) * ((r - 1) * (r - 1)) = 4 * (r * r * (c * c)) - 8 * (r * (c * c)) + 4 * (c * c) := by grind
    have m2 : 4 * (c * c) * (dotT n n + 1) = 4 * (c * c) * dotT n n + 4 * (c * c) := by grind
    have m3 : 2 * c * -(3 * (c * (r - 1))) = -(6 * (r * (c * c))) + 6 * (c * c) := by grind
    have m4 : 2 * c * (2 * (n.x * e1 + n.y * e2)) = 4 * c * (n.x * e1 + n.y * e2) := by grind
    have m5 : 4 * (r * r) * (c * c) = 4 * (r * r * (c * c)) := by grind
    have cc : 0 < c * c := Int.mul_pos c0 c0
    have rcc := Int.mul_le_mul_of_nonneg_right hr (show 0 ≤ c * c by omega)
    omega
  · exact hle
structure HalfC (r : Int) (z u v : PtT) : Prop where
  iu : InR r u
  iv : InR r v
  a : (r - 1) * (r - 1) ≤ dotT u u
  b : (r - 1) * (r - 1) ≤ dotT v v
  d : 0 ≤ dotT u v
  x : 1 ≤ crossT u v
  zu : 0 ≤ dotT z u
  zv : 0 ≤ dotT z v
theorem inR_dot {r : Int} {u : PtT} (h : InR r u) : dotT u u ≤ 2 * (r * r) := by
  have h1 := sq_mono h.1
  have h2 := sq_mono h.2
  unfold dotT; omega
/-- what lies between two vectors lies on the side on which both lie -/
theorem between_dot {z u v m : PtT} (hx : 0 < crossT u v) (h1 : 0 ≤ crossT u m) (h2 : 0 ≤ crossT m v) (zu : 0 ≤ dotT z u) (zv : 0 ≤ dotT z v) : 0 ≤ dotT z m := by
  have e : crossT u v * dotT z m = crossT m v * dotT z u + crossT u m * dotT z v := by unfold crossT dotT; grind
  rcases Int.lt_or_le (dotT z m) 0 with hlt | hle
  · exfalso
    have p1 := Int.mul_nonneg h2 zu
    have p2 := Int.mul_nonneg h1 zv
    have p3 := Int.mul_pos hx (show 0 < -dotT z m by omega)
    rw [Int.mul_neg] at p3
    omega
  · exact hle
theorem HalfC.mid0 {r : Int} {z u v : PtT} (h : HalfC r z u v) (hr : 33 ≤ r ∧ r ≤ 131072) : ∃ c, 0 < c ∧ c * c ≤ dotT u u + dotT v v + 2 * dotT u v ∧ InR r (midT r u v) ∧ (r - 1) * (r - 1) ≤ dotT (midT r u v) (midT r u v) ∧ dotT (midT r u v) (midT r u v) ≤ (r + 2) * (r + 2) ∧ 0 ≤ dotT u (midT r u v) ∧ 0 ≤ dotT (midT r u v) v ∧ r * crossT u v - r * c ≤ c * crossT u (midT r u v) ∧ r * crossT u v - r * c ≤ c * crossT (midT r u v) v := by
  have hin := mid_in (by omega) h.iu h.iv
  have ua := inR_dot h.iu
  have va := inR_dot h.iv
  have hiu := h.iu
  have hiv := h.iv
  obtain ⟨-, -, a1, b1, hd, hx, -, -⟩ := h
  have eS : dotT ⟨u.x + v.x, u.y + v.y⟩ ⟨u.x + v.x, u.y + v.y⟩ = dotT u u + dotT v v + 2 * dotT u v := by unfold dotT; grind
  have hg := gap_nn u v
  rw [gap_eq] at hg
  have r1 : (r - 1) * (r - 1) = r * r - 2 * r + 1 := by grind
  have rb := sq_mono (x := r) (y := 131072) (by omega)
  have rl := Int.mul_le_mul_of_nonneg_right hr.1 (show 0 ≤ r by omega)
  obtain ⟨c, hc⟩ := Rnd.of (r := r) (u := u) (v := v) (by rw [eS]; omega) (by rw [eS]; omega)
  have c1 := hc.c1
  have c2 := hc.c2
  have c0 := hc.c0
  rw [eS] at c1 c2
  have hcr : r ≤ c := by
    rcases Int.lt_or_le c r with hlt | hle
    · have s := sq_mono (x := c) (y := r - 1) (by omega)
      omega
    · exact hle
  have hcu : c ≤ 3 * r := by
    refine (abs_of_sq (by omega) ?_).2
    have e : 3 * r * (3 * r) = 9 * (r * r) := by grind
    omega
  obtain ⟨n1, n2⟩ := hc.norm (by omega) hcr
  have du := (hc.dotI hiu).1
  have dv := (hc.dotI hiv).1
  have xu := (hc.crossI hiu).1
  have xv := (hc.crossI hiv).2
  have pu : dotT u ⟨u.x + v.x, u.y + v.y⟩ = dotT u u + dotT u v := by unfold dotT; grind
  have pv : dotT v ⟨u.x + v.x, u.y + v.y⟩ = dotT v v + dotT u v := by unfold dotT; grind
  have yu : crossT u ⟨u.x + v.x, u.y + v.y⟩ = crossT u v := by unfold crossT; grind
  have yv : crossT v ⟨u.x + v.x, u.y + v.y⟩ = -crossT u v := by unfold crossT; grind
  rw [pu] at du
  rw [pv] at dv
  rw [yu] at xu
  rw [yv] at xv
  generalize midT r u v = m at *
  have sw : dotT m v = dotT v m := by unfold dotT; grind
  have sx : crossT m v = -crossT v m := by unfold crossT; grind
  have ku := Int.mul_le_mul_of_nonneg_left (show 31 * r ≤ dotT u u + dotT u v by omega) (show 0 ≤ r by omega)
  have kv := Int.mul_le_mul_of_nonneg_left (show 31 * r ≤ dotT v v + dotT u v by omega) (show 0 ≤ r by omega)
  have rc := Int.mul_le_mul_of_nonneg_left hcu (show 0 ≤ r by omega)
  have e31 : r * (31 * r) = 31 * (r * r) := by grind
  have e3 : r * (3 * r) = 3 * (r * r) := by grind
  have posd : ∀ z : Int, 0 ≤ 2 * (c * z) → 0 ≤ z := fun z hz => by
    rcases Int.lt_or_le z 0 with hlt | hle
    · have := Int.mul_le_mul_of_nonneg_left (show z ≤ -1 by omega) (show 0 ≤ c by omega)
      omega
    · exact hle
  refine ⟨c, c0, c1, hin, n1, n2, posd _ (by omega), by rw [sw]; exact posd _ (by omega), by omega, ?_⟩
  rw [sx]
  have h2 : c * -crossT v m = -(c * crossT v m) := by grind
  have h3 : r * -crossT u v = -(r * crossT u v) := by grind
  rw [h3] at xv
  omega
theorem HalfC.halves {r : Int} {z u v m : PtT} (h : HalfC r z u v) (im : InR r m) (nm : (r - 1) * (r - 1) ≤ dotT m m) (d1 : 0 ≤ dotT u m) (d2 : 0 ≤ dotT m v) (x1 : 1 ≤ crossT u m) (x2 : 1 ≤ crossT m v) : HalfC r z u m ∧ HalfC r z m v := by
  have hz := between_dot (m := m) (show 0 < crossT u v from h.x) (by omega) (by omega) h.zu h.zv
  exact ⟨⟨h.iu, im, h.a, nm, d1, x1, h.zu, hz⟩, ⟨im, h.iv, nm, h.b, d2, x2, hz, h.zv⟩⟩
/-- a chord of which the gap is great has a great cross: lo the shorter, lo + t the longer one's square -/
theorem wide_num {r lo t g X : Int} (k K : Int) (hr : 1 ≤ r) (hk : k * r ≤ lo) (ht : 0 ≤ t ∧ t ≤ K * r) (hg : 128 * r ≤ g) (hg2 : g ≤ 2 * lo + t) (hX : 4 * (X * X) = g * (2 * (2 * lo + t) - g) - t * t) (h0 : 0 ≤ X) (hK : 256 ≤ K) (hKk : K * (K - 256) + 100 < 128 * (4 * k - 128)) : 5 * r ≤ X := by
  rcases Int.lt_or_le X (5 * r) with hlt | hle
  · exfalso
    have s := sq_mono (x := X) (y := 5 * r) (by omega)
    have f := Int.mul_nonneg (show 0 ≤ g - 128 * r by omega) (show 0 ≤ 2 * (2 * lo + t) - g - 128 * r by
      have := hg2
      have : 128 * r ≤ 2 * lo + t := by omega
      omega)
    have q := Int.mul_nonneg (show 0 ≤ K * r - t by omega) (show 0 ≤ t + (K - 256) * r by have := Int.mul_nonneg (show 0 ≤ K - 256 by omega) (show 0 ≤ r by omega); omega)
    have l := Int.mul_le_mul_of_nonneg_left hk (show 0 ≤ r by omega)
    have rr : 0 < r * r := Int.mul_pos (by omega) (by omega)
    have z := Int.mul_pos (show 0 < 128 * (4 * k - 128) - K * (K - 256) - 100 by omega) rr
    have e1 : 5 * r * (5 * r) = 25 * (r * r) := by grind
    have e2 : (g - 128 * r) * (2 * (2 * lo + t) - g - 128 * r) = g * (2 * (2 * lo + t) - g) - 512 * (r * lo) - 256 * (r * t) + 16384 * (r * r) := by grind
    have e3 : (K * r - t) * (t + (K - 256) * r) = K * (K - 256) * (r * r) + 256 * (r * t) - t * t := by grind
    have e4 : r * (k * r) = k * (r * r) := by grind
    have e5 : (128 * (4 * k - 128) - K * (K - 256) - 100) * (r * r) = 512 * (k * (r * r)) - 16384 * (r * r) - K * (K - 256) * (r * r) - 100 * (r * r) := by grind
    omega
  · exact hle
theorem wide_num64 {r lo t g X : Int} (hr : 1 ≤ r) (ht : 0 ≤ t ∧ t ≤ 66 * r) (hg : 128 * r ≤ g) (hg2 : g ≤ 2 * lo + t) (hX : 4 * (X * X) = g * (2 * (2 * lo + t) - g) - t * t) (h0 : 0 ≤ X) : 5 * r ≤ X := by
  rcases Int.lt_or_le X (5 * r) with hlt | hle
  · exfalso
    have s := sq_mono (x := X) (y := 5 * r) (by omega)
    have f := Int.mul_le_mul hg (show 128 * r ≤ 2 * (2 * lo + t) - g by omega) (by omega) (by omega)
    have q := sq_mono (x := t) (y := 66 * r) (by omega)
    have e1 : 5 * r * (5 * r) = 25 * (r * r) := by grind
    have e2 : 128 * r * (128 * r) = 16384 * (r * r) := by grind
    have e3 : 66 * r * (66 * r) = 4356 * (r * r) := by grind
    have rr : 0 < r * r := Int.mul_pos (by omega) (by omega)
    omega
  · exact hle
theorem wide_all {r lo t g X : Int} (hr : 33 ≤ r ∧ r ≤ 500) (hl : (r - 1) * (r - 1) ≤ lo) (hh : lo + t ≤ 2 * (r * r)) (ht : 0 ≤ t) (hg : 128 * r ≤ g) (hg2 : g ≤ 2 * lo + t) (hX : 4 * (X * X) = g * (2 * (2 * lo + t) - g) - t * t) (h0 : 0 ≤ X) : 5 * r ≤ X := by
  have r1 : (r - 1) * (r - 1) = r * r - 2 * r + 1 := by grind
  have hk : ∀ a b : Int, a ≤ r → r ≤ b → (a - 2) * r ≤ lo ∧ t ≤ (b + 2) * r := fun a b h1 h2 => by
    have m1 := Int.mul_le_mul_of_nonneg_right h1 (show 0 ≤ r by omega)
    have m2 := Int.mul_le_mul_of_nonneg_right h2 (show 0 ≤ r by omega)
    have e1 : (a - 2) * r = a * r - 2 * r := by grind
    have e2 : (b + 2) * r = b * r + 2 * r := by grind
    rw [e1, e2]; omega
  rcases Int.lt_or_le 64 r with h1 | h1
  · rcases Int.lt_or_le 254 r with h2 | h2
    · rcases Int.lt_or_le 400 r with h3 | h3
      · obtain ⟨k1, k2⟩ := hk 401 500 (by omega) hr.2
        exact wide_num 399 502 (by omega) k1 ⟨ht, k2⟩ hg hg2 hX h0 (by omega) (by omega)
      · obtain ⟨k1, k2⟩ := hk 255 400 (by omega) h3
        exact wide_num 253 402 (by omega) k1 ⟨ht, k2⟩ hg hg2 hX h0 (by omega) (by omega)
    · obtain ⟨k1, k2⟩ := hk 65 254 (by omega) h2
      exact wide_num 63 256 (by omega) k1 ⟨ht, k2⟩ hg hg2 hX h0 (by omega) (by omega)
  · obtain ⟨k1, k2⟩ := hk 33 64 (by omega) h1
    exact wide_num64 (by omega) ⟨ht, k2⟩ hg hg2 hX h0
theorem HalfC.small {r : Int} {z u v : PtT} (h : HalfC r z u v) (hr : 33 ≤ r ∧ r ≤ 500) (hgap : 128 * r < gapT u v) : HalfC r z u (midT r u v) ∧ HalfC r z (midT r u v) v := by
  have ua := inR_dot h.iu
  have va := inR_dot h.iv
  have hX : 5 * r ≤ crossT u v := by
    have hx := h.x
    have ha := h.a
    have hb := h.b
    have hd := h.d
    have e := cross_sq u v
    have g := gap_eq u v
    rcases Int.le_total (dotT u u) (dotT v v) with hle | hle
    · refine wide_all (lo := dotT u u) (t := dotT v v - dotT u u) (g := gapT u v) hr ha (by omega) (by omega) (by omega) (by omega) ?_ (by omega)
      rw [e]; grind
    · refine wide_all (lo := dotT v v) (t := dotT u u - dotT v v) (g := gapT u v) hr hb (by omega) (by omega) (by omega) (by omega) ?_ (by omega)
      rw [e]; grind
  obtain ⟨c, c0, c1, im, n1, n2, d1, d2, x1, x2⟩ := h.mid0 (by omega)
  generalize midT r u v = m at *
  have hd := h.d
  have gg := gap_nn u v
  rw [gap_eq] at gg
  have hcu : c ≤ 3 * r := by
    refine (abs_of_sq (by omega) ?_).2
    have e : 3 * r * (3 * r) = 9 * (r * r) := by grind
    omega
  have rl := Int.mul_le_mul_of_nonneg_right hr.1 (show 0 ≤ r by omega)
  have kx := Int.mul_le_mul_of_nonneg_left hX (show 0 ≤ r by omega)
  have rc := Int.mul_le_mul_of_nonneg_left hcu (show 0 ≤ r by omega)
  have e1 : r * (5 * r) = 5 * (r * r) := by grind
  have e2 : r * (3 * r) = 3 * (r * r) := by grind
  have pos : ∀ y : Int, r * crossT u v - r * c ≤ c * y → 1 ≤ y := fun y hy => by
    rcases Int.lt_or_le y 1 with hlt | hle
    · have := Int.mul_le_mul_of_nonneg_left (show y ≤ 0 by omega) (show 0 ≤ c by omega)
      omega
    · exact hle
  exact h.halves im n1 d1 d2 (pos _ x1) (pos _ x2)
theorem half_small {r : Int} {z : PtT} (hr : 33 ≤ r ∧ r ≤ 500) : ∀ (d : Nat) (u v : PtT), HalfC r z u v → ∀ c ∈ chordsT r d u v, HalfC r z c.1 c.2
  | 0, u, v, h, c, hc => by rw [List.mem_singleton.1 hc]; exact h
  | d + 1, u, v, h, c, hc => by
    by_cases hs : stopT r u v
    · rw [chords_stop hs] at hc; rw [List.mem_singleton.1 hc]; exact h
    · rw [chords_go hs] at hc
      obtain ⟨h1, h2⟩ := h.small hr (by unfold stopT at hs; unfold gapT; omega)
      rcases List.mem_append.1 hc with hc | hc
      · exact half_small hr d _ _ h1 c hc
      · exact half_small hr d _ _ h2 c hc
/-- how great a cross is, at least, that may be halved so often: times r², by 10000 -/
def xT : Nat → Int
  | 0 => 30
  | 1 => 150
  | 2 => 436
  | 3 => 1130
  | 4 => 2810
  | _ => 6900
theorem x_step (d : Nat) (hd : d ≤ 4) : 0 ≤ xT d ∧ 2424 * xT d + 49000 ≤ 1000 * xT (d + 1) := by
  match d, hd with
  | 0, _ => decide
  | 1, _ => decide
  | 2, _ => decide
  | 3, _ => decide
  | 4, _ => decide
theorem long_len {r a b D c X : Int} (hr : 501 ≤ r) (ha : 0 ≤ a ∧ a ≤ 2 * (r * r)) (hb : 0 ≤ b ∧ b ≤ (r + 2) * (r + 2)) (hX : X * X = a * b - D * D) (hD : 0 ≤ D) (hc : c * c ≤ a + b + 2 * D) : 1000 * c ≤ 2424 * r := by
  have r2 : (r + 2) * (r + 2) = r * r + 4 * r + 4 := by grind
  have rl := Int.mul_le_mul_of_nonneg_right hr (show 0 ≤ r by omega)
  have rr := sq_nn r
  have hDD : 10000 * D ≤ 14143 * (r * (r + 2)) := by
    have p0 := Int.mul_nonneg (show 0 ≤ r by omega) (show 0 ≤ r + 2 by omega)
    refine (abs_of_sq (by omega) ?_).2
    have xx := sq_nn X
    have ab := Int.mul_le_mul ha.2 hb.2 hb.1 (by omega)
    have e1 : 10000 * D * (10000 * D) = 100000000 * (D * D) := by grind
    have e2 : 14143 * (r * (r + 2)) * (14143 * (r * (r + 2))) = 200024449 * (r * r * ((r + 2) * (r + 2))) := by grind
    have e3 : 2 * (r * r) * ((r + 2) * (r + 2)) = 2 * (r * r * ((r + 2) * (r + 2))) := by grind
    have p1 := Int.mul_nonneg rr (sq_nn (r + 2))
    omega
  have e0 : r * (r + 2) = r * r + 2 * r := by grind
  refine (abs_of_sq (by omega) ?_).2
  have e1 : 1000 * c * (1000 * c) = 1000000 * (c * c) := by grind
  have e2 : 2424 * r * (2424 * r) = 5875776 * (r * r) := by grind
  omega
theorem long_num {r c x x' X Y : Int} (hr : 501 ≤ r) (c0 : 0 < c) (hc : 1000 * c ≤ 2424 * r) (h0 : 0 ≤ x) (hx : 2424 * x + 49000 ≤ 1000 * x') (hX : x' * (r * r) ≤ 10000 * X) (hY : r * X - r * c ≤ c * Y) : x * (r * r) ≤ 10000 * Y := by
  rcases Int.lt_or_le (10000 * Y) (x * (r * r)) with hlt | hle
  · exfalso
    have rr := sq_nn r
    have k1 := Int.mul_le_mul_of_nonneg_left (show 10000 * Y ≤ x * (r * r) by omega) (show 0 ≤ c by omega)
    have k2 := Int.mul_le_mul_of_nonneg_left hX (show 0 ≤ r by omega)
    have e1 : c * (10000 * Y) = 10000 * (c * Y) := by grind
    have e2 : r * (10000 * X) = 10000 * (r * X) := by grind
    have k3 : r * (x' * (r * r)) ≤ c * (x * (r * r)) + 10000 * (r * c) := by omega
    have k4 := Int.mul_le_mul_of_nonneg_right hc (show 0 ≤ x * (r * r) + 10000 * r by have := Int.mul_nonneg h0 rr; omega)
    have e3 : 1000 * c * (x * (r * r) + 10000 * r) = 1000 * (c * (x * (r * r)) + 10000 * (r * c)) := by grind
    have e4 : 2424 * r * (x * (r * r) + 10000 * r) = 2424 * (x * (r * (r * r))) + 24240000 * (r * r) := by grind
    have e5 : r * (x' * (r * r)) = x' * (r * (r * r)) := by grind
    have r3 := Int.mul_le_mul_of_nonneg_right hr rr
    have r30 : 0 ≤ r * (r * r) := Int.mul_nonneg (by omega) rr
    have k5 := Int.mul_le_mul_of_nonneg_right hx r30
    have e6 : (2424 * x + 49000) * (r * (r * r)) = 2424 * (x * (r * (r * r))) + 49000 * (r * (r * r)) := by grind
    have e7 : 1000 * x' * (r * (r * r)) = 1000 * (x' * (r * (r * r))) := by grind
    have rp : 0 < r * r := Int.mul_pos (by omega) (by omega)
    omega
  · exact hle
theorem cross2 (u v : PtT) : crossT u v * crossT u v = dotT u u * dotT v v - dotT u v * dotT u v := by unfold crossT dotT; grind
theorem dot_self (u : PtT) : 0 ≤ dotT u u := by have h1 := sq_nn u.x; have h2 := sq_nn u.y; unfold dotT; omega
theorem half_long {r : Int} {z : PtT} (hr : 501 ≤ r ∧ r ≤ 131072) : ∀ (d : Nat), d ≤ 5 → ∀ u v : PtT, HalfC r z u v → (dotT u u ≤ (r + 2) * (r + 2) ∨ dotT v v ≤ (r + 2) * (r + 2)) → xT d * (r * r) ≤ 10000 * crossT u v → ∀ c ∈ chordsT r d u v, HalfC r z c.1 c.2
  | 0, _, u, v, h, _, _, c, hc => by rw [List.mem_singleton.1 hc]; exact h
  | d + 1, hd, u, v, h, hs, hx, c, hc => by
    by_cases hst : stopT r u v
    · rw [chords_stop hst] at hc; rw [List.mem_singleton.1 hc]; exact h
    · rw [chords_go hst] at hc
      obtain ⟨k, c0, c1, im, n1, n2, d1, d2, x1, x2⟩ := h.mid0 (by omega)
      clear hst
      generalize midT r u v = m at *
      have ua := inR_dot h.iu
      have va := inR_dot h.iv
      have hk : 1000 * k ≤ 2424 * r := by
        rcases hs with hs | hs
        · exact long_len (a := dotT v v) (b := dotT u u) (D := dotT u v) (X := crossT u v) hr.1 ⟨dot_self v, va⟩ ⟨dot_self u, hs⟩ (by rw [cross2, Int.mul_comm (dotT v v)]) h.d (by omega)
        · exact long_len (a := dotT u u) (b := dotT v v) (D := dotT u v) (X := crossT u v) hr.1 ⟨dot_self u, ua⟩ ⟨dot_self v, hs⟩ (cross2 u v) h.d c1
      obtain ⟨s0, s1⟩ := x_step d (by omega)
      have y1 := long_num hr.1 c0 hk s0 s1 hx x1
      have y2 := long_num hr.1 c0 hk s0 s1 hx x2
      have pos : ∀ y : Int, xT d * (r * r) ≤ 10000 * y → 1 ≤ y := fun y hy => by
        have t : 30 ≤ xT d := by
          match d, hd with
          | 0, _ => decide
          | 1, _ => decide
          | 2, _ => decide
          | 3, _ => decide
          | 4, _ => decide
        have rl := Int.mul_le_mul_of_nonneg_right hr.1 (show 0 ≤ r by omega)
        have := Int.mul_le_mul_of_nonneg_right t (sq_nn r)
        omega
      obtain ⟨h1, h2⟩ := h.halves im n1 d1 d2 (pos _ y1) (pos _ y2)
      rcases List.mem_append.1 hc with hc | hc
      · exact half_long hr d (by omega) _ _ h1 (.inr n2) y1 c hc
      · exact half_long hr d (by omega) _ _ h2 (.inl n2) y2 c hc
theorem half_first {r c f X Y : Int} (hr : 501 ≤ r) (c0 : 0 < c) (hf : (r - 1) * (r - 1) ≤ f) (hc : c * c ≤ 2 * f) (hX : X = f) (hY : r * X - r * c ≤ c * Y) : 6900 * (r * r) ≤ 10000 * Y := by
  rcases Int.lt_or_le (10000 * Y) (6900 * (r * r)) with hlt | hle
  · exfalso
    subst hX
    have rr := sq_nn r
    have rp : 0 < r * r := Int.mul_pos (by omega) (by omega)
    have r1 : (r - 1) * (r - 1) = r * r - 2 * r + 1 := by grind
    have rl := Int.mul_le_mul_of_nonneg_right hr (show 0 ≤ r by omega)
    have k1 := Int.mul_le_mul_of_nonneg_left (show 10000 * Y ≤ 6900 * (r * r) by omega) (show 0 ≤ c by omega)
    have e1 : c * (10000 * Y) = 10000 * (c * Y) := by grind
    have e2 : c * (6900 * (r * r)) = r * (6900 * (r * c)) := by grind
    have k2 : r * (10000 * X) ≤ r * (6900 * (r * c) + 10000 * c) := by
      have e3 : r * (10000 * X) = 10000 * (r * X) := by grind
      have e4 : r * (6900 * (r * c) + 10000 * c) = r * (6900 * (r * c)) + 10000 * (r * c) := by grind
      omega
    have k3 : 10000 * X ≤ 6900 * (r * c) + 10000 * c := Int.le_of_mul_le_mul_left k2 (by omega)
    have k4 := Int.mul_le_mul_of_nonneg_right hr (show 0 ≤ c by omega)
    have k5 : 10000 * X ≤ 6920 * (r * c) := by omega
    have k6 := sq_mono (x := 10000 * X) (y := 6920 * (r * c)) (by omega)
    have e5 : 10000 * X * (10000 * X) = 100000000 * (X * X) := by grind
    have e6 : 6920 * (r * c) * (6920 * (r * c)) = 47886400 * (r * r * (c * c)) := by grind
    have k7 := Int.mul_le_mul_of_nonneg_left hc rr
    have e7 : r * r * (2 * X) = 2 * (X * (r * r)) := by grind
    have k8 := Int.mul_pos (show 0 < X by omega) (show 0 < 100000000 * X - 95772800 * (r * r) by omega)
    have e8 : X * (100000000 * X - 95772800 * (r * r)) = 100000000 * (X * X) - 95772800 * (X * (r * r)) := by grind
    omega
  · exact hle
theorem half_chords {r f : Int} {z u v : PtT} (hr : 1 ≤ r ∧ r ≤ 131072) (h : HalfC r z u v) (ha : dotT u u = f) (hb : dotT v v = f) (hd : dotT u v = 0) (hx : crossT u v = f) : ∀ c ∈ chordsT r 6 u v, HalfC r z c.1 c.2 := by
  intro c hc
  have ua := inR_dot h.iu
  have hfl := h.a
  by_cases hst : stopT r u v
  · rw [chords_stop hst] at hc; rw [List.mem_singleton.1 hc]; exact h
  · rcases Int.lt_or_le 32 r with h1 | h1
    · rcases Int.lt_or_le 500 r with h2 | h2
      · have hr2 : 501 ≤ r ∧ r ≤ 131072 := by omega
        rw [chords_go hst] at hc
        clear hst
        obtain ⟨k, c0, c1, im, n1, n2, d1, d2, x1, x2⟩ := h.mid0 (by omega)
        rw [ha] at hfl
        rw [ha, hb, hd] at c1
        generalize midT r u v = m at *
        have y1 := half_first hr2.1 c0 hfl (by omega) hx x1
        have y2 := half_first hr2.1 c0 hfl (by omega) hx x2
        have rp : 0 < r * r := Int.mul_pos (by omega) (by omega)
        obtain ⟨g1, g2⟩ := h.halves im n1 d1 d2 (by omega) (by omega)
        rcases List.mem_append.1 hc with hc | hc
        · exact half_long hr2 5 (Nat.le_refl _) _ _ g1 (.inr n2) y1 c hc
        · exact half_long hr2 5 (Nat.le_refl _) _ _ g2 (.inl n2) y2 c hc
      · exact half_small (by omega) 6 u v h c hc
    · exfalso
      refine hst (.inl ?_)
      have g := gap_eq u v
      have rl := Int.mul_le_mul_of_nonneg_right h1 (show 0 ≤ r by omega)
      unfold gapT at g; omega
/-- the front of a half -/
theorem front_ok {u f : PtT} {r : Int} (hr : 4 ≤ r ∧ r ≤ 131072) (hx : -262144 ≤ u.x ∧ u.x ≤ 262144) (hy : -262144 ≤ u.y ∧ u.y ≤ 262144) (h0 : ¬ (u.x = 0 ∧ u.y = 0)) (hf : normT u r = f) : InR r f ∧ (r - 1) * (r - 1) ≤ dotT f f := by
  subst hf
  refine ⟨norm_bound (by omega) (by omega) (by omega), ?_⟩
  have s1 := sq_mono hx
  have s2 := sq_mono hy
  have p1 := sq_nn u.x
  have p2 := sq_nn u.y
  have hs : u.x * u.x + u.y * u.y < 18446744073709551616 := by omega
  have h1 : 1 ≤ u.x * u.x + u.y * u.y := by
    rcases Int.lt_or_le (u.x * u.x + u.y * u.y) 1 with hlt | hle
    · exfalso
      have e1 : u.x * u.x = 0 := by omega
      have e2 : u.y * u.y = 0 := by omega
      exact h0 ⟨by rcases Int.mul_eq_zero.1 e1 with e | e <;> exact e, by rcases Int.mul_eq_zero.1 e2 with e | e <;> exact e⟩
    · exact hle
  have hl : 1 ≤ lenT u := le_lenT (by omega) (by omega) hs
  have hR : Rnd r (lenT u) u (normT u r) := by
    refine ⟨lenT_sq hs, lenT_lt hs, by omega, ?_, ?_⟩
    · have e : (normT u r).x = nearQ (u.x * r) (lenT u) := by unfold normT; rw [if_neg (by omega)]
      rw [e]; exact nearQ_err (by omega)
    · have e : (normT u r).y = nearQ (u.y * r) (lenT u) := by unfold normT; rw [if_neg (by omega)]
      rw [e]; exact nearQ_err (by omega)
  exact hR.low (by omega)
def halfL (r : Int) (f : PtT) : List (PtT × PtT) := chordsT r 6 ⟨-(-f.y), -f.x⟩ f ++ chordsT r 6 f ⟨-f.y, f.x⟩
theorem half_all {r : Int} {f : PtT} (hr : 4 ≤ r ∧ r ≤ 131072) (hi : InR r f) (hn : (r - 1) * (r - 1) ≤ dotT f f) : ∀ c ∈ halfL r f, HalfC r f c.1 c.2 := by
  have hi1 := hi.1
  have hi2 := hi.2
  have r1 : (r - 1) * (r - 1) = r * r - 2 * r + 1 := by grind
  have rl := Int.mul_le_mul_of_nonneg_right hr.1 (show 0 ≤ r by omega)
  have ea : dotT (⟨-(-f.y), -f.x⟩ : PtT) ⟨-(-f.y), -f.x⟩ = dotT f f := by unfold dotT; grind
  have eb : dotT (⟨-f.y, f.x⟩ : PtT) ⟨-f.y, f.x⟩ = dotT f f := by unfold dotT; grind
  have ed1 : dotT (⟨-(-f.y), -f.x⟩ : PtT) f = 0 := by unfold dotT; grind
  have ed2 : dotT f (⟨-f.y, f.x⟩ : PtT) = 0 := by unfold dotT; grind
  have ed3 : dotT f (⟨-(-f.y), -f.x⟩ : PtT) = 0 := by unfold dotT; grind
  have ex1 : crossT (⟨-(-f.y), -f.x⟩ : PtT) f = dotT f f := by unfold crossT dotT; grind
  have ex2 : crossT f (⟨-f.y, f.x⟩ : PtT) = dotT f f := by unfold crossT dotT; grind
  intro c hc
  rcases List.mem_append.1 hc with hc | hc
  · exact half_chords (f := dotT f f) (by omega) ⟨⟨by dsimp only; omega, by dsimp only; omega⟩, hi, by rw [ea]; exact hn, hn, by omega, by omega, by omega, by omega⟩ ea rfl ed1 ex1 c hc
  · exact half_chords (f := dotT f f) (by omega) ⟨hi, ⟨by dsimp only; omega, by dsimp only; omega⟩, hn, by rw [eb]; exact hn, by omega, by omega, by omega, by omega⟩ rfl eb ed2 ex2 c hc
theorem half_list {u f : PtT} {r : Int} (hr : 4 ≤ r ∧ r ≤ 131072) (hf : normT u r = f) (hi : InR r f) (hn : (r - 1) * (r - 1) ≤ dotT f f) : halfT ⟨0, 0⟩ u r [] = (halfL r f).map (triP ⟨0, 0⟩) := by
  have hne : ¬ (f.x = 0 ∧ f.y = 0) := fun ⟨e1, e2⟩ => by
    unfold dotT at hn
    rw [e1, e2] at hn
    have := Int.mul_pos (show 0 < r - 1 by omega) (show 0 < r - 1 by omega)
    omega
  rw [halfT_yes hf hne]
  show (([] ++ chordsT r 6 ⟨-(-f.y), -f.x⟩ f) ++ chordsT r 6 f ⟨-f.y, f.x⟩).foldl (pieT ⟨0, 0⟩) [] = _
  rw [List.nil_append]
  have hall := half_all hr hi hn
  refine (pie_all ⟨0, 0⟩ (halfL r f) [] fun c hc => ?_).trans (List.nil_append _)
  have h := hall c hc
  have i1 := h.iu
  have i2 := h.iv
  unfold InR at i1 i2
  exact ⟨⟨by unfold BdT; omega, by unfold BdT; omega⟩, h.x⟩
theorem chords_first (r : Int) : ∀ (d : Nat) (u v : PtT), ∃ w, (u, w) ∈ chordsT r d u v
  | 0, u, v => ⟨v, List.mem_singleton.2 rfl⟩
  | d + 1, u, v => by
    by_cases h : stopT r u v
    · rw [chords_stop h]; exact ⟨v, List.mem_singleton.2 rfl⟩
    · rw [chords_go h]
      obtain ⟨w, hw⟩ := chords_first r d u (midT r u v)
      exact ⟨w, List.mem_append_left _ hw⟩
theorem chords_end (r : Int) : ∀ (d : Nat) (u v : PtT), ∃ w, (w, v) ∈ chordsT r d u v
  | 0, u, v => ⟨u, List.mem_singleton.2 rfl⟩
  | d + 1, u, v => by
    by_cases h : stopT r u v
    · rw [chords_stop h]; exact ⟨u, List.mem_singleton.2 rfl⟩
    · rw [chords_go h]
      obtain ⟨w, hw⟩ := chords_end r d (midT r u v) v
      exact ⟨w, List.mem_append_right _ hw⟩
theorem tri_end {c : PtT × PtT} (h : 0 < crossT c.1 c.2) : leftB (triP ⟨0, 0⟩ c) c.1 = true ∧ leftB (triP ⟨0, 0⟩ c) c.2 = true := by
  have e1 : crossT c.1 c.1 = 0 := by unfold crossT; grind
  have e2 : crossT c.2 c.2 = 0 := by unfold crossT; grind
  have z1 : (⟨c.1.x - 0, c.1.y - 0⟩ : PtT) = c.1 := pt_ext ⟨Int.sub_zero _, Int.sub_zero _⟩
  have z2 : (⟨c.2.x - 0, c.2.y - 0⟩ : PtT) = c.2 := pt_ext ⟨Int.sub_zero _, Int.sub_zero _⟩
  refine ⟨(left_tri _ _ _).2 ?_, (left_tri _ _ _).2 ?_⟩
  · show 0 ≤ crossT c.1 ⟨c.1.x - 0, c.1.y - 0⟩ ∧ 0 ≤ crossT c.1 c.2 - crossT c.1 ⟨c.1.x - 0, c.1.y - 0⟩ - crossT ⟨c.1.x - 0, c.1.y - 0⟩ c.2 ∧ 0 ≤ crossT ⟨c.1.x - 0, c.1.y - 0⟩ c.2
    rw [z1]; omega
  · show 0 ≤ crossT c.1 ⟨c.2.x - 0, c.2.y - 0⟩ ∧ 0 ≤ crossT c.1 c.2 - crossT c.1 ⟨c.2.x - 0, c.2.y - 0⟩ - crossT ⟨c.2.x - 0, c.2.y - 0⟩ c.2 ∧ 0 ≤ crossT ⟨c.2.x - 0, c.2.y - 0⟩ c.2
    rw [z2]; omega
/-- what a half has, and what it has not -/
theorem half_has {u f : PtT} {r : Int} (hr : 4 ≤ r ∧ r ≤ 131072) (hf : normT u r = f) (hi : InR r f) (hn : (r - 1) * (r - 1) ≤ dotT f f) : 1 ≤ (halfT ⟨0, 0⟩ u r []).countP (fun pc => leftB pc f) ∧ 1 ≤ (halfT ⟨0, 0⟩ u r []).countP (fun pc => leftB pc ⟨-f.y, f.x⟩) ∧ 1 ≤ (halfT ⟨0, 0⟩ u r []).countP (fun pc => leftB pc ⟨-(-f.y), -f.x⟩) := by
  have hall := half_all hr hi hn
  rw [half_list hr hf hi hn]
  obtain ⟨w1, hw1⟩ := chords_end r 6 ⟨-(-f.y), -f.x⟩ f
  obtain ⟨w2, hw2⟩ := chords_end r 6 f ⟨-f.y, f.x⟩
  obtain ⟨w3, hw3⟩ := chords_first r 6 ⟨-(-f.y), -f.x⟩ f
  have m1 : (w1, f) ∈ halfL r f := List.mem_append_left _ hw1
  have m2 : (w2, (⟨-f.y, f.x⟩ : PtT)) ∈ halfL r f := List.mem_append_right _ hw2
  have m3 : ((⟨-(-f.y), -f.x⟩ : PtT), w3) ∈ halfL r f := List.mem_append_left _ hw3
  refine ⟨List.countP_pos_iff.2 ⟨_, List.mem_map_of_mem m1, (tri_end (hall _ m1).x).2⟩, List.countP_pos_iff.2 ⟨_, List.mem_map_of_mem m2, (tri_end (hall _ m2).x).2⟩, List.countP_pos_iff.2 ⟨_, List.mem_map_of_mem m3, (tri_end (hall _ m3).x).1⟩⟩
theorem half_behind {u f q : PtT} {r : Int} (hr : 4 ≤ r ∧ r ≤ 131072) (hf : normT u r = f) (hi : InR r f) (hn : (r - 1) * (r - 1) ≤ dotT f f) (hq : dotT f q < 0) : ∀ pc ∈ halfT ⟨0, 0⟩ u r [], leftB pc q = false := by
  have hall := half_all hr hi hn
  rw [half_list hr hf hi hn]
  intro pc hpc
  obtain ⟨c, hc, rfl⟩ := List.mem_map.1 hpc
  have h := hall c hc
  rw [Bool.eq_false_iff]
  intro hl
  have z : (⟨q.x - 0, q.y - 0⟩ : PtT) = q := pt_ext ⟨Int.sub_zero _, Int.sub_zero _⟩
  have hl2 : 0 ≤ crossT c.1 ⟨q.x - 0, q.y - 0⟩ ∧ 0 ≤ crossT c.1 c.2 - crossT c.1 ⟨q.x - 0, q.y - 0⟩ - crossT ⟨q.x - 0, q.y - 0⟩ c.2 ∧ 0 ≤ crossT ⟨q.x - 0, q.y - 0⟩ c.2 := (left_tri _ _ _).1 hl
  rw [z] at hl2
  have := between_dot (z := f) (show 0 < crossT c.1 c.2 from h.x) hl2.1 hl2.2.2 h.zu h.zv
  omega
end Go.Proofs.Ytpgjbalnipinoaa

/- Halves: front, sides, nothing behind. Conditions: none. -/
namespace Go.Proofs.Ytpgjbalnipinoaa
open Go.Proofs Go.RowKit Go.Shelf

instance : TZero Try.prog 46 [.int .i64 0, .int .i64 0, .int .i64 0] := .of (by kernel_rfl)
instance : TAgg Try.prog 46 3 := .of (by kernel_rfl) (by kernel_rfl)
instance : TArr Try.prog 46 3 1 3 [.int .i64 0, .int .i64 0, .int .i64 0] := .of (by kernel_rfl) (by kernel_rfl) (by kernel_rfl) (by decide)
theorem r_nrm {u f : PtT} {r : Int} (hr : 0 ≤ r ∧ r ≤ 1073741824) (hx : -1073741824 ≤ u.x ∧ u.x ≤ 1073741824) (hy : -1073741824 ≤ u.y ∧ u.y ≤ 1073741824) (hf : normT u r = f) : Ans Try.prog 25 [.agg #[.int .i64 u.x, .int .i64 u.y], .int .i64 r] (.agg #[.int .i64 f.x, .int .i64 f.y]) := by
  subst hf
  exact r_Norm u r hx hy hr
theorem lenT_nn (p : PtT) : 0 ≤ lenT p := Int.natCast_nonneg _
set_option maxHeartbeats 8000000 in
theorem a_ArcHalf (w : World) (u q : PtT) (r : Int) : Calls Try.prog 7 #[.agg #[.int .i64 u.x, .int .i64 u.y], .agg #[.int .i64 q.x, .int .i64 q.y], .int .i64 r] w fun e w' => e = .returned (.bool true) ∧ Below w.heap.size w w' := by
  refine calls_of (args := [.agg #[.int .i64 u.x, .int .i64 u.y], .agg #[.int .i64 q.x, .int .i64 q.y], .int .i64 r]) Try.func7 rfl Try.ntmps7 Try.results7 rfl ?_
  refine v_seq ?_
  refine v_region ?_
  refine l_new rfl (o_box (cs := [_, _]) rfl rfl) fun b3 => ?_
  refine l_new rfl (o_box (cs := [_, _]) rfl rfl) fun b4 => ?_
  refine l_val rfl (o_assign rfl) ?_
  refine l_nil ?_
  refine kt_norm ?_
  refine v_seq ?_
  refine v_seq ?_
  refine v_region ?_
  refine l_val rfl (o_loadW (key := 3) rfl rfl rfl) ?_
  refine l_ans (vs := [_, _]) rfl rfl (a_within _ _ (by omega)) ?_
  refine lz_bool (fun hwu => ?_) (fun hwu => ?_)
  · skip
    refine l_val rfl (o_not rfl rfl) ?_
    refine l_val rfl (o_move rfl) ?_
    refine l_val rfl (o_loadW (key := 3) rfl rfl rfl) ?_
    refine l_val rfl (o_build (vs := []) (cs := [_, _]) rfl rfl) ?_
    refine l_split rfl (o_eqs (xl := [_, _]) (yl := [_, _]) (az := [_, _]) (bz := [_, _]) rfl rfl rfl rfl rfl rfl) (fun hu0 => ?_) (fun hu0 => ?_)
    · simp only [List.map_cons, List.map_nil, List.cons.injEq, and_true] at hu0
      refine l_val rfl (o_pickF rfl rfl) ?_
      refine l_val rfl (o_move rfl) ?_
      refine l_no rfl ?_
      refine l_no rfl ?_
      refine l_no rfl ?_
      refine l_val rfl (o_pickT rfl rfl) ?_
      refine l_val rfl (o_move rfl) ?_
      refine l_no rfl ?_
      refine l_no rfl ?_
      refine l_val rfl (o_pickT rfl rfl) ?_
      refine l_val rfl (o_move rfl) ?_
      refine l_no rfl ?_
      refine l_no rfl ?_
      refine l_val rfl (o_pickT rfl rfl) ?_
      refine l_val rfl (o_move rfl) ?_
      refine l_no rfl ?_
      refine l_no rfl ?_
      refine l_val rfl (o_pickT rfl rfl) ?_
      refine l_nil ?_
      refine kt_norm ?_
      refine v_sel [2, 3, 4, 37] [3, 4] rfl rfl ?_
      refine v_condT rfl ?_
      refine v_seq ?_
      refine v_region ?_
      refine l_call (ks := []) rfl (o_callC (vs := []) (r := .bool true) (ent_of Try.func14 rfl rfl) rfl (fun w' hg hh => a_shown w')) ?_
      refine l_val rfl (o_assign rfl) ?_
      refine l_nil ?_
      refine kt_norm ?_
      refine v_ret ?_
      refine kt_ret ?_
      refine ⟨[_], .cons (.tmp rfl) (ResAll.nil), ?_⟩
      rfl
    · simp only [List.map_cons, List.map_nil, List.cons.injEq, and_true] at hu0
      refine l_val rfl (o_pickF rfl rfl) ?_
      refine l_val rfl (o_move rfl) ?_
      refine l_val rfl (o_loadW (key := 4) rfl rfl rfl) ?_
      refine l_ans (vs := [_, _]) rfl rfl (a_within _ _ (by omega)) ?_
      refine lz_bool (fun hwq => ?_) (fun hwq => ?_)
      · skip
        refine l_val rfl (o_not rfl rfl) ?_
        refine l_val rfl (o_pickF rfl rfl) ?_
        refine l_val rfl (o_move rfl) ?_
        refine l_val rfl (o_move rfl) ?_
        refine l_split rfl (o_lss rfl rfl) (fun q1 => ?_) (fun q1 => ?_)
        · skip
          refine l_val rfl (o_pickF rfl rfl) ?_
          refine l_val rfl (o_move rfl) ?_
          refine l_no rfl ?_
          refine l_no rfl ?_
          refine l_val rfl (o_pickT rfl rfl) ?_
          refine l_val rfl (o_move rfl) ?_
          refine l_no rfl ?_
          refine l_no rfl ?_
          refine l_val rfl (o_pickT rfl rfl) ?_
          refine l_nil ?_
          refine kt_norm ?_
          refine v_sel [2, 3, 4, 37] [3, 4] rfl rfl ?_
          refine v_condT rfl ?_
          refine v_seq ?_
          refine v_region ?_
          refine l_call (ks := []) rfl (o_callC (vs := []) (r := .bool true) (ent_of Try.func14 rfl rfl) rfl (fun w' hg hh => a_shown w')) ?_
          refine l_val rfl (o_assign rfl) ?_
          refine l_nil ?_
          refine kt_norm ?_
          refine v_ret ?_
          refine kt_ret ?_
          refine ⟨[_], .cons (.tmp rfl) (ResAll.nil), ?_⟩
          rfl
        · skip
          refine l_val rfl (o_pickF rfl rfl) ?_
          refine l_val rfl (o_move rfl) ?_
          refine l_val rfl (o_move rfl) ?_
          refine l_split rfl (o_gtr rfl rfl) (fun q2 => ?_) (fun q2 => ?_)
          · skip
            refine l_val rfl (o_pickF rfl rfl) ?_
            refine l_val rfl (o_move rfl) ?_
            refine l_no rfl ?_
            refine l_no rfl ?_
            refine l_val rfl (o_pickT rfl rfl) ?_
            refine l_nil ?_
            refine kt_norm ?_
            refine v_sel [2, 3, 4, 37] [3, 4] rfl rfl ?_
            refine v_condT rfl ?_
            refine v_seq ?_
            refine v_region ?_
            refine l_call (ks := []) rfl (o_callC (vs := []) (r := .bool true) (ent_of Try.func14 rfl rfl) rfl (fun w' hg hh => a_shown w')) ?_
            refine l_val rfl (o_assign rfl) ?_
            refine l_nil ?_
            refine kt_norm ?_
            refine v_ret ?_
            refine kt_ret ?_
            refine ⟨[_], .cons (.tmp rfl) (ResAll.nil), ?_⟩
            rfl
          · skip
            refine l_val rfl (o_pickF rfl rfl) ?_
            refine l_val rfl (o_move rfl) ?_
            refine l_call (ks := []) rfl (o_callC (vs := []) (r := .bool true) (ent_of Try.func14 rfl rfl) rfl (fun w' hg hh => a_shown w')) ?_
            refine l_val rfl (o_not rfl rfl) ?_
            refine l_val rfl (o_pickF rfl rfl) ?_
            refine l_nil ?_
            refine kt_norm ?_
            refine v_sel [2, 3, 4, 37] [3, 4] rfl rfl ?_
            refine v_condF rfl ?_
            refine v_skip ?_
            refine kt_norm ?_
            refine v_seq ?_
            refine v_region ?_
            have hgr : 1 ≤ r ∧ r ≤ 131072 := by omega
            have hr4 : 4 ≤ r ∧ r ≤ 131072 := by omega
            have hux : -262144 ≤ u.x ∧ u.x ≤ 262144 := by omega
            have huy : -262144 ≤ u.y ∧ u.y ≤ 262144 := by omega
            have hux2 : -1073741824 ≤ u.x ∧ u.x ≤ 1073741824 := by omega
            have huy2 : -1073741824 ≤ u.y ∧ u.y ≤ 1073741824 := by omega
            obtain ⟨f, hf⟩ : ∃ f, normT u r = f := ⟨_, rfl⟩
            obtain ⟨hfi, hfn⟩ := front_ok hr4 hux huy (fun h => hu0 h) hf
            have hfx := hfi.1
            have hfy := hfi.2
            have hla := lenT_abs (p := f) (by omega) (by omega)
            have m1 := mul_bound (A := 262144) (B := 262144) (x := q.x) (y := f.x) (by omega) (by omega) (by omega) (by omega)
            have m2 := mul_bound (A := 262144) (B := 262144) (x := q.y) (y := f.y) (by omega) (by omega) (by omega) (by omega)
            obtain ⟨hh1, hh2, hh3⟩ := half_has hr4 hf hfi hfn
            have hbh := half_behind (q := q) hr4 hf hfi hfn
            have hT : ∀ x ∈ halfT ⟨0, 0⟩ u r [], TriT ⟨0, 0⟩ x := tri_half (by dsimp only; omega) hgr hux2 huy2 (fun x h => by cases h)
            have hl1 := half_len ⟨0, 0⟩ u r []
            rw [List.length_nil] at hl1
            obtain ⟨Q, hQ⟩ : ∃ Q, halfT ⟨0, 0⟩ u r [] = Q := ⟨_, rfl⟩
            rw [hQ] at hh1 hh2 hh3 hbh hT hl1
            have hnq : NearT q := by unfold NearT; omega
            have hnf : NearT f := by unfold NearT; omega
            have hnl : NearT ⟨-f.y, f.x⟩ := by unfold NearT; dsimp only; omega
            have hnn : NearT ⟨-(-f.y), -f.x⟩ := by unfold NearT; dsimp only; omega
            have hz1 := hla.1
            have hz2 := hla.2.1
            have hz3 := hla.2.2.1
            have hz4 := hla.2.2.2
            refine l_val rfl (o_build (vs := []) (cs := [_, _]) rfl rfl) ?_
            refine l_val rfl (o_loadW (key := 3) rfl rfl rfl) ?_
            refine l_val rfl (o_move rfl) ?_
            refine l_gsaid (ks := []) (caps := #[]) (vs := [_, _, _, _]) (α := PutsY (.slice none 0 0) [] [] Q) (fun x => x.1.1) (fun x w' => SaidOk w' x.1.2.2.1 x.1.2.2.2) (fun x b => x.1.2.2.2 b) rfl rfl (ent_of Try.func24 rfl rfl) rfl (fun x w1 w2 h hb => h.keep hb) (fun x w1 b h hb => h.lt hb) (fun w' hg hh => a_HalfQ w' _ [] [] ⟨0, 0⟩ r pcsW_nil capd_nil (pcsAt_nil w') (by show 0 ≤ 2000; omega) (by dsimp only; omega) hgr u hux2 huy2 hQ) fun xa => ?_
            have hVa : RowV xa.1.1 Q.length := xa.2.1.V
            have hla : xa.1.2.1.length = Q.length := xa.2.1.lenv
            refine l_val rfl (o_assign rfl) ?_
            refine l_nil ?_
            refine kt_norm ?_
            refine v_seq ?_
            refine v_region ?_
            refine l_val rfl (o_loadW (key := 3) rfl rfl rfl) ?_
            refine l_val rfl (o_move rfl) ?_
            refine l_ans (vs := [_, _]) rfl rfl (r_nrm (by omega) hux2 huy2 hf) ?_
            refine l_new rfl o_alloc fun b8 => ?_
            refine l_store rfl (o_storeW (key := 8) (xs := [_, _]) rfl rfl rfl rfl rfl rfl rfl) ?_
            refine l_nil ?_
            refine kt_norm ?_
            refine v_sel [4, 7, 8] [4, 8] rfl rfl ?_
            refine v_seq ?_
            refine v_region ?_
            refine l_val rfl (o_loadW (key := 8) rfl rfl rfl) ?_
            refine l_ans (vs := [_]) rfl rfl (r_Left _ _ ?_ ?_) ?_
            · omega
            · omega
            refine l_new rfl o_alloc fun b9 => ?_
            refine l_store rfl (o_storeW (key := 9) (xs := [_, _]) rfl rfl rfl rfl rfl rfl rfl) ?_
            refine l_nil ?_
            refine kt_norm ?_
            refine v_seq ?_
            refine v_drawZ [[4], [8], [], [8], [], [], [], []] mixed ?_ (by kernel_rfl) (by kernel_rfl)
            refine d_val (fun _ => rfl) rfl rfl (fun _ => o_loadW (key := 4) rfl rfl rfl) ?_
            refine d_val (fun _ => rfl) rfl rfl (fun _ => o_loadW (key := 8) rfl rfl rfl) ?_
            refine d_ans (vs := [_, _]) (fun _ => rfl) (fun _ => rfl) (r_Dot _ _ _ _ ?_ ?_ ?_ ?_) ?_
            · omega
            · omega
            · omega
            · omega
            refine d_val (fun _ => rfl) rfl rfl (fun _ => o_loadW (key := 8) rfl rfl rfl) ?_
            refine d_ans (vs := [_]) (fun _ => rfl) (fun _ => rfl) (r_Len _ ?_ ?_) ?_
            · omega
            · omega
            refine d_val (fun _ => rfl) rfl rfl (fun _ => o_muli rfl rfl ?_) ?_
            · omega
            refine d_lss (fun _ => rfl) (fun _ => rfl) (fun _ => rfl) (fun hbeh => ?_) (fun hbeh => ?_)
            · have hb0 := hbh (by unfold dotT; rw [Int.mul_comm f.x, Int.mul_comm f.y]; omega)
              refine d_val (fun _ => rfl) rfl rfl (fun _ => o_assign rfl) ?_
              refine d_nil (fun σ => ?_)
              refine l_nil ?_
              refine kt_norm ?_
              refine v_sel [4, 7, 8, 9, 10] [4, 8, 9] rfl rfl ?_
              refine v_seq ?_
              refine v_region ?_
              refine l_val rfl (o_buildA (vs := []) (cs := [.int .i64 0, .int .i64 0, .int .i64 0]) rfl rfl) ?_
              refine l_new rfl o_alloc fun b11 => ?_
              refine l_store rfl (o_storeW (key := 11) (xs := [_, _, _]) rfl rfl rfl rfl rfl rfl rfl) ?_
              refine l_nil ?_
              refine kt_norm ?_
              refine v_seq ?_
              refine v_seq ?_
              refine v_region ?_
              refine l_val rfl (o_assign rfl) ?_
              refine l_nil ?_
              refine kt_norm ?_
              refine v_block ?_
              refine v_loopS (α := Nat × Nat × Nat × Nat) (fun ⟨i, a0, a1, a2⟩ => [(12, .int .i64 (i : Int))]) (fun ⟨i, a0, a1, a2⟩ => [(11, Hp.box b11 46 [.int .i64 (a0 : Int), .int .i64 (a1 : Int), .int .i64 (a2 : Int)])])  (fun ⟨i, a0, a1, a2⟩ => i ≤ Q.length ∧ a0 = (Q.take i).countP (fun pc => leftB pc f) ∧ a1 = (Q.take i).countP (fun pc => leftB pc ⟨-f.y, f.x⟩) ∧ a2 = (Q.take i).countP (fun pc => leftB pc ⟨-(-f.y), -f.x⟩)) (fun ⟨i, a0, a1, a2⟩ => Q.length - i) (0, 0, 0, 0) [4, 7, 8, 9, 10, 11] [4, 8, 9] ⟨Nat.zero_le _, rfl, rfl, rfl⟩  (And.intro rfl (True.intro)) rfl (And.intro rfl (True.intro)) rfl ?_
              rintro ⟨i, a0, a1, a2⟩ ⟨hi, hc0, hc1, hc2⟩
              have hai0 : a0 ≤ i := by
                rw [hc0]; have h1 := List.countP_le_length (p := fun pc => leftB pc f) (l := Q.take i); rw [List.length_take] at h1; omega
              have hai1 : a1 ≤ i := by
                rw [hc1]; have h1 := List.countP_le_length (p := fun pc => leftB pc ⟨-f.y, f.x⟩) (l := Q.take i); rw [List.length_take] at h1; omega
              have hai2 : a2 ≤ i := by
                rw [hc2]; have h1 := List.countP_le_length (p := fun pc => leftB pc ⟨-(-f.y), -f.x⟩) (l := Q.take i); rw [List.length_take] at h1; omega
              refine v_seq ?_
              refine v_seq ?_
              refine v_region ?_
              refine l_val rfl (o_move rfl) ?_
              refine l_val rfl (o_move rfl) ?_
              refine l_val rfl (o_len rfl hVa) ?_
              refine l_split rfl (o_lss rfl rfl) (fun q3 => ?_) (fun q3 => ?_)
              · have hil : i < Q.length := by omega
                have hmem : Q.getD i [] ∈ Q := by rw [List.getD_eq_getElem?_getD, List.getElem?_eq_getElem hil]; exact List.getElem_mem hil
                have hTi := hT _ hmem
                have hVa1 := xa.2.1.pV i hil
                have hq3 := hTi.1
                have hqc := hTi.2.1
                have hqn := hTi.2.2.2
                have hcs0 := count_step hil (fun pc => leftB pc f)
                have hcs1 := count_step hil (fun pc => leftB pc ⟨-f.y, f.x⟩)
                have hcs2 := count_step hil (fun pc => leftB pc ⟨-(-f.y), -f.x⟩)
                refine l_nil ?_
                refine kt_norm ?_
                refine v_condT rfl ?_
                refine v_skip ?_
                refine kt_norm ?_
                refine v_seq ?_
                refine v_block ?_
                refine v_seq ?_
                refine v_seq ?_
                refine v_drawW [] [[], [], [], [], [8]] mixed ?_ (by kernel_rfl) (by kernel_rfl)
                refine d_val (fun _ => rfl) rfl rfl (fun σ11 => o_move rfl) ?_
                refine d_val (fun _ => rfl) rfl rfl (fun σ11 => o_move rfl) ?_
                refine d_val (fun _ => rfl) rfl rfl (fun σ11 => o_idx (i) rfl hVa rfl (by first | rfl | omega) (by omega)) ?_
                refine d_val (fun _ => rfl) rfl rfl (fun σ11 => o_loadR1 rfl (row_imm (fun w2 hg => by exact (xa.2.2.2 w2 (pcsAt_nil w2) hg.2.1).row)) (el_one (by rw [hla]; exact hil))) ?_
                refine d_val (fun _ => rfl) rfl rfl (fun σ11 => o_loadW (key := 8) rfl rfl rfl) ?_
                refine d_nil (fun σ11 => ?_)
                refine l_call (ks := []) rfl (o_callC (vs := [_, _]) (r := .bool (leftB (Q.getD i []) f)) (ent_of Try.func18 rfl rfl) rfl (fun w' hg hh => a_HasC w' _ (Q.getD i []) f (by omega) hVa1 (by exact (xa.2.2.2 w' (pcsAt_nil w') hg.2.1).pc i hil) hqn hnf hqc rfl)) ?_
                refine lz_cases (fun hl0 => ?_) (fun hl0 => ?_)
                · skip
                  refine l_nil ?_
                  refine kt_norm ?_
                  refine v_sel [12, 4, 7, 8, 9, 10, 11, 67] [4, 8, 9, 11] rfl rfl ?_
                  refine v_condT rfl ?_
                  refine v_region ?_
                  refine l_val rfl (o_idxA 0 rfl rfl rfl (by decide)) ?_
                  refine l_val rfl (o_load1 (key := 11) rfl rfl rfl) ?_
                  refine l_val rfl (o_addi rfl rfl ?_) ?_
                  · omega
                  refine l_val rfl (o_idxA 0 rfl rfl rfl (by decide)) ?_
                  refine l_store rfl (o_store1 (key := 11) (rs := [_, _, _]) rfl rfl rfl rfl rfl rfl rfl) ?_
                  refine l_nil ?_
                  refine kt_norm ?_
                  refine v_seq ?_
                  refine v_seq ?_
                  refine v_drawW [] [[], [], [], [], [9]] mixed ?_ (by kernel_rfl) (by kernel_rfl)
                  refine d_val (fun _ => rfl) rfl rfl (fun σ13 => o_move rfl) ?_
                  refine d_val (fun _ => rfl) rfl rfl (fun σ13 => o_move rfl) ?_
                  refine d_val (fun _ => rfl) rfl rfl (fun σ13 => o_idx (i) rfl hVa rfl (by first | rfl | omega) (by omega)) ?_
                  refine d_val (fun _ => rfl) rfl rfl (fun σ13 => o_loadR1 rfl (row_imm (fun w2 hg => by exact (xa.2.2.2 w2 (pcsAt_nil w2) hg.2.1).row)) (el_one (by rw [hla]; exact hil))) ?_
                  refine d_val (fun _ => rfl) rfl rfl (fun σ13 => o_loadW (key := 9) rfl rfl rfl) ?_
                  refine d_nil (fun σ13 => ?_)
                  refine l_call (ks := []) rfl (o_callC (vs := [_, _]) (r := .bool (leftB (Q.getD i []) ⟨-f.y, f.x⟩)) (ent_of Try.func18 rfl rfl) rfl (fun w' hg hh => a_HasC w' _ (Q.getD i []) ⟨-f.y, f.x⟩ (by omega) hVa1 (by exact (xa.2.2.2 w' (pcsAt_nil w') hg.2.1).pc i hil) hqn hnl hqc rfl)) ?_
                  refine lz_cases (fun hl1 => ?_) (fun hl1 => ?_)
                  · skip
                    refine l_nil ?_
                    refine kt_norm ?_
                    refine v_sel [12, 4, 7, 8, 9, 10, 11, 77] [4, 8, 9, 11] rfl rfl ?_
                    refine v_condT rfl ?_
                    refine v_region ?_
                    refine l_val rfl (o_idxA 1 rfl rfl rfl (by decide)) ?_
                    refine l_val rfl (o_load1 (key := 11) rfl rfl rfl) ?_
                    refine l_val rfl (o_addi rfl rfl ?_) ?_
                    · omega
                    refine l_val rfl (o_idxA 1 rfl rfl rfl (by decide)) ?_
                    refine l_store rfl (o_store1 (key := 11) (rs := [_, _, _]) rfl rfl rfl rfl rfl rfl rfl) ?_
                    refine l_nil ?_
                    refine kt_norm ?_
                    refine v_seq ?_
                    refine v_seq ?_
                    refine v_drawW [] [[], [], [], [], [9], []] mixed ?_ (by kernel_rfl) (by kernel_rfl)
                    refine d_val (fun _ => rfl) rfl rfl (fun σ15 => o_move rfl) ?_
                    refine d_val (fun _ => rfl) rfl rfl (fun σ15 => o_move rfl) ?_
                    refine d_val (fun _ => rfl) rfl rfl (fun σ15 => o_idx (i) rfl hVa rfl (by first | rfl | omega) (by omega)) ?_
                    refine d_val (fun _ => rfl) rfl rfl (fun σ15 => o_loadR1 rfl (row_imm (fun w2 hg => by exact (xa.2.2.2 w2 (pcsAt_nil w2) hg.2.1).row)) (el_one (by rw [hla]; exact hil))) ?_
                    refine d_val (fun _ => rfl) rfl rfl (fun σ15 => o_loadW (key := 9) rfl rfl rfl) ?_
                    refine d_ans (vs := [_]) (fun _ => rfl) (fun _ => rfl) (r_PNeg _ _ ?_ ?_) ?_
                    · omega
                    · omega
                    refine d_nil (fun σ15 => ?_)
                    refine l_call (ks := []) rfl (o_callC (vs := [_, _]) (r := .bool (leftB (Q.getD i []) ⟨-(-f.y), -f.x⟩)) (ent_of Try.func18 rfl rfl) rfl (fun w' hg hh => a_HasC w' _ (Q.getD i []) ⟨-(-f.y), -f.x⟩ (by omega) hVa1 (by exact (xa.2.2.2 w' (pcsAt_nil w') hg.2.1).pc i hil) hqn hnn hqc rfl)) ?_
                    refine lz_cases (fun hl2 => ?_) (fun hl2 => ?_)
                    · skip
                      refine l_nil ?_
                      refine kt_norm ?_
                      refine v_sel [12, 4, 7, 8, 9, 10, 11, 88] [4, 8, 9, 11] rfl rfl ?_
                      refine v_condT rfl ?_
                      refine v_region ?_
                      refine l_val rfl (o_idxA 2 rfl rfl rfl (by decide)) ?_
                      refine l_val rfl (o_load1 (key := 11) rfl rfl rfl) ?_
                      refine l_val rfl (o_addi rfl rfl ?_) ?_
                      · omega
                      refine l_val rfl (o_idxA 2 rfl rfl rfl (by decide)) ?_
                      refine l_store rfl (o_store1 (key := 11) (rs := [_, _, _]) rfl rfl rfl rfl rfl rfl rfl) ?_
                      refine l_nil ?_
                      refine kt_norm ?_
                      refine v_seq ?_
                      refine v_drawW [] [[], [], [], [], [], [], [4]] mixed ?_ (by kernel_rfl) (by kernel_rfl)
                      refine d_val (fun _ => rfl) rfl rfl (fun σ17 => o_move rfl) ?_
                      refine d_val (fun _ => rfl) rfl rfl (fun σ17 => o_move rfl) ?_
                      refine d_val (fun _ => rfl) rfl rfl (fun σ17 => o_move rfl) ?_
                      refine d_val (fun _ => rfl) rfl rfl (fun σ17 => o_move rfl) ?_
                      refine d_val (fun _ => rfl) rfl rfl (fun σ17 => o_idx (i) rfl hVa rfl (by first | rfl | omega) (by omega)) ?_
                      refine d_val (fun _ => rfl) rfl rfl (fun σ17 => o_loadR1 rfl (row_imm (fun w2 hg => by exact (xa.2.2.2 w2 (pcsAt_nil w2) hg.2.1).row)) (el_one (by rw [hla]; exact hil))) ?_
                      refine d_val (fun _ => rfl) rfl rfl (fun σ17 => o_loadW (key := 4) rfl rfl rfl) ?_
                      refine d_nil (fun σ17 => ?_)
                      refine l_call (ks := []) rfl (o_callC (vs := [_, _]) (r := .bool false) (ent_of Try.func18 rfl rfl) rfl (fun w' hg hh => a_HasC w' _ (Q.getD i []) q (by omega) hVa1 (by exact (xa.2.2.2 w' (pcsAt_nil w') hg.2.1).pc i hil) hqn hnq hqc (hb0 _ hmem))) ?_
                      refine l_val rfl (o_pickT rfl rfl) ?_
                      refine l_nil ?_
                      refine kt_norm ?_
                      refine v_sel [12, 4, 7, 8, 9, 10, 11, 95, 96, 97, 98, 99, 100, 101] [4, 8, 9, 11] rfl rfl ?_
                      refine v_condF rfl ?_
                      refine v_skip ?_
                      refine kb_norm ?_
                      refine kt_norm ?_
                      refine v_region ?_
                      refine l_val rfl (o_move rfl) ?_
                      refine l_val rfl (o_addi rfl rfl ?_) ?_
                      · omega
                      refine l_val rfl (o_assign rfl) ?_
                      refine l_nil ?_
                      refine kt_norm ?_
                      refine ⟨(i + 1, a0 + 1, a1 + 1, a2 + 1), ⟨hil, by have e := hcs0; rw [hl0] at e; rw [e, hc0]; rfl, by have e := hcs1; rw [hl1] at e; rw [e, hc1]; rfl, by have e := hcs2; rw [hl2] at e; rw [e, hc2]; rfl⟩, (by show Q.length - (i + 1) < Q.length - i; omega), le_app (And.intro rfl (True.intro)) [4, 7, 8, 9, 10, 11] rfl (And.intro rfl (True.intro)) [4, 8, 9] rfl⟩
                    · skip
                      refine l_nil ?_
                      refine kt_norm ?_
                      refine v_sel [12, 4, 7, 8, 9, 10, 11, 88] [4, 8, 9, 11] rfl rfl ?_
                      refine v_condF rfl ?_
                      refine v_skip ?_
                      refine kt_norm ?_
                      refine v_seq ?_
                      refine v_drawW [] [[], [], [], [], [], [], [4]] mixed ?_ (by kernel_rfl) (by kernel_rfl)
                      refine d_val (fun _ => rfl) rfl rfl (fun σ17 => o_move rfl) ?_
                      refine d_val (fun _ => rfl) rfl rfl (fun σ17 => o_move rfl) ?_
                      refine d_val (fun _ => rfl) rfl rfl (fun σ17 => o_move rfl) ?_
                      refine d_val (fun _ => rfl) rfl rfl (fun σ17 => o_move rfl) ?_
                      refine d_val (fun _ => rfl) rfl rfl (fun σ17 => o_idx (i) rfl hVa rfl (by first | rfl | omega) (by omega)) ?_
                      refine d_val (fun _ => rfl) rfl rfl (fun σ17 => o_loadR1 rfl (row_imm (fun w2 hg => by exact (xa.2.2.2 w2 (pcsAt_nil w2) hg.2.1).row)) (el_one (by rw [hla]; exact hil))) ?_
                      refine d_val (fun _ => rfl) rfl rfl (fun σ17 => o_loadW (key := 4) rfl rfl rfl) ?_
                      refine d_nil (fun σ17 => ?_)
                      refine l_call (ks := []) rfl (o_callC (vs := [_, _]) (r := .bool false) (ent_of Try.func18 rfl rfl) rfl (fun w' hg hh => a_HasC w' _ (Q.getD i []) q (by omega) hVa1 (by exact (xa.2.2.2 w' (pcsAt_nil w') hg.2.1).pc i hil) hqn hnq hqc (hb0 _ hmem))) ?_
                      refine l_val rfl (o_pickT rfl rfl) ?_
                      refine l_nil ?_
                      refine kt_norm ?_
                      refine v_condF rfl ?_
                      refine v_skip ?_
                      refine kb_norm ?_
                      refine kt_norm ?_
                      refine v_region ?_
                      refine l_val rfl (o_move rfl) ?_
                      refine l_val rfl (o_addi rfl rfl ?_) ?_
                      · omega
                      refine l_val rfl (o_assign rfl) ?_
                      refine l_nil ?_
                      refine kt_norm ?_
                      refine ⟨(i + 1, a0 + 1, a1 + 1, a2), ⟨hil, by have e := hcs0; rw [hl0] at e; rw [e, hc0]; rfl, by have e := hcs1; rw [hl1] at e; rw [e, hc1]; rfl, by have e := hcs2; rw [hl2] at e; rw [e, hc2]; rfl⟩, (by show Q.length - (i + 1) < Q.length - i; omega), le_app (And.intro rfl (True.intro)) [4, 7, 8, 9, 10, 11] rfl (And.intro rfl (True.intro)) [4, 8, 9] rfl⟩
                  · skip
                    refine l_nil ?_
                    refine kt_norm ?_
                    refine v_sel [12, 4, 7, 8, 9, 10, 11, 77] [4, 8, 9, 11] rfl rfl ?_
                    refine v_condF rfl ?_
                    refine v_skip ?_
                    refine kt_norm ?_
                    refine v_seq ?_
                    refine v_seq ?_
                    refine v_drawW [] [[], [], [], [], [9], []] mixed ?_ (by kernel_rfl) (by kernel_rfl)
                    refine d_val (fun _ => rfl) rfl rfl (fun σ15 => o_move rfl) ?_
                    refine d_val (fun _ => rfl) rfl rfl (fun σ15 => o_move rfl) ?_
                    refine d_val (fun _ => rfl) rfl rfl (fun σ15 => o_idx (i) rfl hVa rfl (by first | rfl | omega) (by omega)) ?_
                    refine d_val (fun _ => rfl) rfl rfl (fun σ15 => o_loadR1 rfl (row_imm (fun w2 hg => by exact (xa.2.2.2 w2 (pcsAt_nil w2) hg.2.1).row)) (el_one (by rw [hla]; exact hil))) ?_
                    refine d_val (fun _ => rfl) rfl rfl (fun σ15 => o_loadW (key := 9) rfl rfl rfl) ?_
                    refine d_ans (vs := [_]) (fun _ => rfl) (fun _ => rfl) (r_PNeg _ _ ?_ ?_) ?_
                    · omega
                    · omega
                    refine d_nil (fun σ15 => ?_)
                    refine l_call (ks := []) rfl (o_callC (vs := [_, _]) (r := .bool (leftB (Q.getD i []) ⟨-(-f.y), -f.x⟩)) (ent_of Try.func18 rfl rfl) rfl (fun w' hg hh => a_HasC w' _ (Q.getD i []) ⟨-(-f.y), -f.x⟩ (by omega) hVa1 (by exact (xa.2.2.2 w' (pcsAt_nil w') hg.2.1).pc i hil) hqn hnn hqc rfl)) ?_
                    refine lz_cases (fun hl2 => ?_) (fun hl2 => ?_)
                    · skip
                      refine l_nil ?_
                      refine kt_norm ?_
                      refine v_sel [12, 4, 7, 8, 9, 10, 11, 88] [4, 8, 9, 11] rfl rfl ?_
                      refine v_condT rfl ?_
                      refine v_region ?_
                      refine l_val rfl (o_idxA 2 rfl rfl rfl (by decide)) ?_
                      refine l_val rfl (o_load1 (key := 11) rfl rfl rfl) ?_
                      refine l_val rfl (o_addi rfl rfl ?_) ?_
                      · omega
                      refine l_val rfl (o_idxA 2 rfl rfl rfl (by decide)) ?_
                      refine l_store rfl (o_store1 (key := 11) (rs := [_, _, _]) rfl rfl rfl rfl rfl rfl rfl) ?_
                      refine l_nil ?_
                      refine kt_norm ?_
                      refine v_seq ?_
                      refine v_drawW [] [[], [], [], [], [], [], [4]] mixed ?_ (by kernel_rfl) (by kernel_rfl)
                      refine d_val (fun _ => rfl) rfl rfl (fun σ17 => o_move rfl) ?_
                      refine d_val (fun _ => rfl) rfl rfl (fun σ17 => o_move rfl) ?_
                      refine d_val (fun _ => rfl) rfl rfl (fun σ17 => o_move rfl) ?_
                      refine d_val (fun _ => rfl) rfl rfl (fun σ17 => o_move rfl) ?_
                      refine d_val (fun _ => rfl) rfl rfl (fun σ17 => o_idx (i) rfl hVa rfl (by first | rfl | omega) (by omega)) ?_
                      refine d_val (fun _ => rfl) rfl rfl (fun σ17 => o_loadR1 rfl (row_imm (fun w2 hg => by exact (xa.2.2.2 w2 (pcsAt_nil w2) hg.2.1).row)) (el_one (by rw [hla]; exact hil))) ?_
                      refine d_val (fun _ => rfl) rfl rfl (fun σ17 => o_loadW (key := 4) rfl rfl rfl) ?_
                      refine d_nil (fun σ17 => ?_)
                      refine l_call (ks := []) rfl (o_callC (vs := [_, _]) (r := .bool false) (ent_of Try.func18 rfl rfl) rfl (fun w' hg hh => a_HasC w' _ (Q.getD i []) q (by omega) hVa1 (by exact (xa.2.2.2 w' (pcsAt_nil w') hg.2.1).pc i hil) hqn hnq hqc (hb0 _ hmem))) ?_
                      refine l_val rfl (o_pickT rfl rfl) ?_
                      refine l_nil ?_
                      refine kt_norm ?_
                      refine v_sel [12, 4, 7, 8, 9, 10, 11, 95, 96, 97, 98, 99, 100, 101] [4, 8, 9, 11] rfl rfl ?_
                      refine v_condF rfl ?_
                      refine v_skip ?_
                      refine kb_norm ?_
                      refine kt_norm ?_
                      refine v_region ?_
                      refine l_val rfl (o_move rfl) ?_
                      refine l_val rfl (o_addi rfl rfl ?_) ?_
                      · omega
                      refine l_val rfl (o_assign rfl) ?_
                      refine l_nil ?_
                      refine kt_norm ?_
                      refine ⟨(i + 1, a0 + 1, a1, a2 + 1), ⟨hil, by have e := hcs0; rw [hl0] at e; rw [e, hc0]; rfl, by have e := hcs1; rw [hl1] at e; rw [e, hc1]; rfl, by have e := hcs2; rw [hl2] at e; rw [e, hc2]; rfl⟩, (by show Q.length - (i + 1) < Q.length - i; omega), le_app (And.intro rfl (True.intro)) [4, 7, 8, 9, 10, 11] rfl (And.intro rfl (True.intro)) [4, 8, 9] rfl⟩
                    · skip
                      refine l_nil ?_
                      refine kt_norm ?_
                      refine v_sel [12, 4, 7, 8, 9, 10, 11, 88] [4, 8, 9, 11] rfl rfl ?_
                      refine v_condF rfl ?_
                      refine v_skip ?_
                      refine kt_norm ?_
                      refine v_seq ?_
                      refine v_drawW [] [[], [], [], [], [], [], [4]] mixed ?_ (by kernel_rfl) (by kernel_rfl)
                      refine d_val (fun _ => rfl) rfl rfl (fun σ17 => o_move rfl) ?_
                      refine d_val (fun _ => rfl) rfl rfl (fun σ17 => o_move rfl) ?_
                      refine d_val (fun _ => rfl) rfl rfl (fun σ17 => o_move rfl) ?_
                      refine d_val (fun _ => rfl) rfl rfl (fun σ17 => o_move rfl) ?_
                      refine d_val (fun _ => rfl) rfl rfl (fun σ17 => o_idx (i) rfl hVa rfl (by first | rfl | omega) (by omega)) ?_
                      refine d_val (fun _ => rfl) rfl rfl (fun σ17 => o_loadR1 rfl (row_imm (fun w2 hg => by exact (xa.2.2.2 w2 (pcsAt_nil w2) hg.2.1).row)) (el_one (by rw [hla]; exact hil))) ?_
                      refine d_val (fun _ => rfl) rfl rfl (fun σ17 => o_loadW (key := 4) rfl rfl rfl) ?_
                      refine d_nil (fun σ17 => ?_)
                      refine l_call (ks := []) rfl (o_callC (vs := [_, _]) (r := .bool false) (ent_of Try.func18 rfl rfl) rfl (fun w' hg hh => a_HasC w' _ (Q.getD i []) q (by omega) hVa1 (by exact (xa.2.2.2 w' (pcsAt_nil w') hg.2.1).pc i hil) hqn hnq hqc (hb0 _ hmem))) ?_
                      refine l_val rfl (o_pickT rfl rfl) ?_
                      refine l_nil ?_
                      refine kt_norm ?_
                      refine v_condF rfl ?_
                      refine v_skip ?_
                      refine kb_norm ?_
                      refine kt_norm ?_
                      refine v_region ?_
                      refine l_val rfl (o_move rfl) ?_
                      refine l_val rfl (o_addi rfl rfl ?_) ?_
                      · omega
                      refine l_val rfl (o_assign rfl) ?_
                      refine l_nil ?_
                      refine kt_norm ?_
                      refine ⟨(i + 1, a0 + 1, a1, a2), ⟨hil, by have e := hcs0; rw [hl0] at e; rw [e, hc0]; rfl, by have e := hcs1; rw [hl1] at e; rw [e, hc1]; rfl, by have e := hcs2; rw [hl2] at e; rw [e, hc2]; rfl⟩, (by show Q.length - (i + 1) < Q.length - i; omega), le_app (And.intro rfl (True.intro)) [4, 7, 8, 9, 10, 11] rfl (And.intro rfl (True.intro)) [4, 8, 9] rfl⟩
                · skip
                  refine l_nil ?_
                  refine kt_norm ?_
                  refine v_sel [12, 4, 7, 8, 9, 10, 11, 67] [4, 8, 9, 11] rfl rfl ?_
                  refine v_condF rfl ?_
                  refine v_skip ?_
                  refine kt_norm ?_
                  refine v_seq ?_
                  refine v_seq ?_
                  refine v_drawW [] [[], [], [], [], [9]] mixed ?_ (by kernel_rfl) (by kernel_rfl)
                  refine d_val (fun _ => rfl) rfl rfl (fun σ13 => o_move rfl) ?_
                  refine d_val (fun _ => rfl) rfl rfl (fun σ13 => o_move rfl) ?_
                  refine d_val (fun _ => rfl) rfl rfl (fun σ13 => o_idx (i) rfl hVa rfl (by first | rfl | omega) (by omega)) ?_
                  refine d_val (fun _ => rfl) rfl rfl (fun σ13 => o_loadR1 rfl (row_imm (fun w2 hg => by exact (xa.2.2.2 w2 (pcsAt_nil w2) hg.2.1).row)) (el_one (by rw [hla]; exact hil))) ?_
                  refine d_val (fun _ => rfl) rfl rfl (fun σ13 => o_loadW (key := 9) rfl rfl rfl) ?_
                  refine d_nil (fun σ13 => ?_)
                  refine l_call (ks := []) rfl (o_callC (vs := [_, _]) (r := .bool (leftB (Q.getD i []) ⟨-f.y, f.x⟩)) (ent_of Try.func18 rfl rfl) rfl (fun w' hg hh => a_HasC w' _ (Q.getD i []) ⟨-f.y, f.x⟩ (by omega) hVa1 (by exact (xa.2.2.2 w' (pcsAt_nil w') hg.2.1).pc i hil) hqn hnl hqc rfl)) ?_
                  refine lz_cases (fun hl1 => ?_) (fun hl1 => ?_)
                  · skip
                    refine l_nil ?_
                    refine kt_norm ?_
                    refine v_sel [12, 4, 7, 8, 9, 10, 11, 77] [4, 8, 9, 11] rfl rfl ?_
                    refine v_condT rfl ?_
                    refine v_region ?_
                    refine l_val rfl (o_idxA 1 rfl rfl rfl (by decide)) ?_
                    refine l_val rfl (o_load1 (key := 11) rfl rfl rfl) ?_
                    refine l_val rfl (o_addi rfl rfl ?_) ?_
                    · omega
                    refine l_val rfl (o_idxA 1 rfl rfl rfl (by decide)) ?_
                    refine l_store rfl (o_store1 (key := 11) (rs := [_, _, _]) rfl rfl rfl rfl rfl rfl rfl) ?_
                    refine l_nil ?_
                    refine kt_norm ?_
                    refine v_seq ?_
                    refine v_seq ?_
                    refine v_drawW [] [[], [], [], [], [9], []] mixed ?_ (by kernel_rfl) (by kernel_rfl)
                    refine d_val (fun _ => rfl) rfl rfl (fun σ15 => o_move rfl) ?_
                    refine d_val (fun _ => rfl) rfl rfl (fun σ15 => o_move rfl) ?_
                    refine d_val (fun _ => rfl) rfl rfl (fun σ15 => o_idx (i) rfl hVa rfl (by first | rfl | omega) (by omega)) ?_
                    refine d_val (fun _ => rfl) rfl rfl (fun σ15 => o_loadR1 rfl (row_imm (fun w2 hg => by exact (xa.2.2.2 w2 (pcsAt_nil w2) hg.2.1).row)) (el_one (by rw [hla]; exact hil))) ?_
                    refine d_val (fun _ => rfl) rfl rfl (fun σ15 => o_loadW (key := 9) rfl rfl rfl) ?_
                    refine d_ans (vs := [_]) (fun _ => rfl) (fun _ => rfl) (r_PNeg _ _ ?_ ?_) ?_
                    · omega
                    · omega
                    refine d_nil (fun σ15 => ?_)
                    refine l_call (ks := []) rfl (o_callC (vs := [_, _]) (r := .bool (leftB (Q.getD i []) ⟨-(-f.y), -f.x⟩)) (ent_of Try.func18 rfl rfl) rfl (fun w' hg hh => a_HasC w' _ (Q.getD i []) ⟨-(-f.y), -f.x⟩ (by omega) hVa1 (by exact (xa.2.2.2 w' (pcsAt_nil w') hg.2.1).pc i hil) hqn hnn hqc rfl)) ?_
                    refine lz_cases (fun hl2 => ?_) (fun hl2 => ?_)
                    · skip
                      refine l_nil ?_
                      refine kt_norm ?_
                      refine v_sel [12, 4, 7, 8, 9, 10, 11, 88] [4, 8, 9, 11] rfl rfl ?_
                      refine v_condT rfl ?_
                      refine v_region ?_
                      refine l_val rfl (o_idxA 2 rfl rfl rfl (by decide)) ?_
                      refine l_val rfl (o_load1 (key := 11) rfl rfl rfl) ?_
                      refine l_val rfl (o_addi rfl rfl ?_) ?_
                      · omega
                      refine l_val rfl (o_idxA 2 rfl rfl rfl (by decide)) ?_
                      refine l_store rfl (o_store1 (key := 11) (rs := [_, _, _]) rfl rfl rfl rfl rfl rfl rfl) ?_
                      refine l_nil ?_
                      refine kt_norm ?_
                      refine v_seq ?_
                      refine v_drawW [] [[], [], [], [], [], [], [4]] mixed ?_ (by kernel_rfl) (by kernel_rfl)
                      refine d_val (fun _ => rfl) rfl rfl (fun σ17 => o_move rfl) ?_
                      refine d_val (fun _ => rfl) rfl rfl (fun σ17 => o_move rfl) ?_
                      refine d_val (fun _ => rfl) rfl rfl (fun σ17 => o_move rfl) ?_
                      refine d_val (fun _ => rfl) rfl rfl (fun σ17 => o_move rfl) ?_
                      refine d_val (fun _ => rfl) rfl rfl (fun σ17 => o_idx (i) rfl hVa rfl (by first | rfl | omega) (by omega)) ?_
                      refine d_val (fun _ => rfl) rfl rfl (fun σ17 => o_loadR1 rfl (row_imm (fun w2 hg => by exact (xa.2.2.2 w2 (pcsAt_nil w2) hg.2.1).row)) (el_one (by rw [hla]; exact hil))) ?_
                      refine d_val (fun _ => rfl) rfl rfl (fun σ17 => o_loadW (key := 4) rfl rfl rfl) ?_
                      refine d_nil (fun σ17 => ?_)
                      refine l_call (ks := []) rfl (o_callC (vs := [_, _]) (r := .bool false) (ent_of Try.func18 rfl rfl) rfl (fun w' hg hh => a_HasC w' _ (Q.getD i []) q (by omega) hVa1 (by exact (xa.2.2.2 w' (pcsAt_nil w') hg.2.1).pc i hil) hqn hnq hqc (hb0 _ hmem))) ?_
                      refine l_val rfl (o_pickT rfl rfl) ?_
                      refine l_nil ?_
                      refine kt_norm ?_
                      refine v_sel [12, 4, 7, 8, 9, 10, 11, 95, 96, 97, 98, 99, 100, 101] [4, 8, 9, 11] rfl rfl ?_
                      refine v_condF rfl ?_
                      refine v_skip ?_
                      refine kb_norm ?_
                      refine kt_norm ?_
                      refine v_region ?_
                      refine l_val rfl (o_move rfl) ?_
                      refine l_val rfl (o_addi rfl rfl ?_) ?_
                      · omega
                      refine l_val rfl (o_assign rfl) ?_
                      refine l_nil ?_
                      refine kt_norm ?_
                      refine ⟨(i + 1, a0, a1 + 1, a2 + 1), ⟨hil, by have e := hcs0; rw [hl0] at e; rw [e, hc0]; rfl, by have e := hcs1; rw [hl1] at e; rw [e, hc1]; rfl, by have e := hcs2; rw [hl2] at e; rw [e, hc2]; rfl⟩, (by show Q.length - (i + 1) < Q.length - i; omega), le_app (And.intro rfl (True.intro)) [4, 7, 8, 9, 10, 11] rfl (And.intro rfl (True.intro)) [4, 8, 9] rfl⟩
                    · skip
                      refine l_nil ?_
                      refine kt_norm ?_
                      refine v_sel [12, 4, 7, 8, 9, 10, 11, 88] [4, 8, 9, 11] rfl rfl ?_
                      refine v_condF rfl ?_
                      refine v_skip ?_
                      refine kt_norm ?_
                      refine v_seq ?_
                      refine v_drawW [] [[], [], [], [], [], [], [4]] mixed ?_ (by kernel_rfl) (by kernel_rfl)
                      refine d_val (fun _ => rfl) rfl rfl (fun σ17 => o_move rfl) ?_
                      refine d_val (fun _ => rfl) rfl rfl (fun σ17 => o_move rfl) ?_
                      refine d_val (fun _ => rfl) rfl rfl (fun σ17 => o_move rfl) ?_
                      refine d_val (fun _ => rfl) rfl rfl (fun σ17 => o_move rfl) ?_
                      refine d_val (fun _ => rfl) rfl rfl (fun σ17 => o_idx (i) rfl hVa rfl (by first | rfl | omega) (by omega)) ?_
                      refine d_val (fun _ => rfl) rfl rfl (fun σ17 => o_loadR1 rfl (row_imm (fun w2 hg => by exact (xa.2.2.2 w2 (pcsAt_nil w2) hg.2.1).row)) (el_one (by rw [hla]; exact hil))) ?_
                      refine d_val (fun _ => rfl) rfl rfl (fun σ17 => o_loadW (key := 4) rfl rfl rfl) ?_
                      refine d_nil (fun σ17 => ?_)
                      refine l_call (ks := []) rfl (o_callC (vs := [_, _]) (r := .bool false) (ent_of Try.func18 rfl rfl) rfl (fun w' hg hh => a_HasC w' _ (Q.getD i []) q (by omega) hVa1 (by exact (xa.2.2.2 w' (pcsAt_nil w') hg.2.1).pc i hil) hqn hnq hqc (hb0 _ hmem))) ?_
                      refine l_val rfl (o_pickT rfl rfl) ?_
                      refine l_nil ?_
                      refine kt_norm ?_
                      refine v_condF rfl ?_
                      refine v_skip ?_
                      refine kb_norm ?_
                      refine kt_norm ?_
                      refine v_region ?_
                      refine l_val rfl (o_move rfl) ?_
                      refine l_val rfl (o_addi rfl rfl ?_) ?_
                      · omega
                      refine l_val rfl (o_assign rfl) ?_
                      refine l_nil ?_
                      refine kt_norm ?_
                      refine ⟨(i + 1, a0, a1 + 1, a2), ⟨hil, by have e := hcs0; rw [hl0] at e; rw [e, hc0]; rfl, by have e := hcs1; rw [hl1] at e; rw [e, hc1]; rfl, by have e := hcs2; rw [hl2] at e; rw [e, hc2]; rfl⟩, (by show Q.length - (i + 1) < Q.length - i; omega), le_app (And.intro rfl (True.intro)) [4, 7, 8, 9, 10, 11] rfl (And.intro rfl (True.intro)) [4, 8, 9] rfl⟩
                  · skip
                    refine l_nil ?_
                    refine kt_norm ?_
                    refine v_sel [12, 4, 7, 8, 9, 10, 11, 77] [4, 8, 9, 11] rfl rfl ?_
                    refine v_condF rfl ?_
                    refine v_skip ?_
                    refine kt_norm ?_
                    refine v_seq ?_
                    refine v_seq ?_
                    refine v_drawW [] [[], [], [], [], [9], []] mixed ?_ (by kernel_rfl) (by kernel_rfl)
                    refine d_val (fun _ => rfl) rfl rfl (fun σ15 => o_move rfl) ?_
                    refine d_val (fun _ => rfl) rfl rfl (fun σ15 => o_move rfl) ?_
                    refine d_val (fun _ => rfl) rfl rfl (fun σ15 => o_idx (i) rfl hVa rfl (by first | rfl | omega) (by omega)) ?_
                    refine d_val (fun _ => rfl) rfl rfl (fun σ15 => o_loadR1 rfl (row_imm (fun w2 hg => by exact (xa.2.2.2 w2 (pcsAt_nil w2) hg.2.1).row)) (el_one (by rw [hla]; exact hil))) ?_
                    refine d_val (fun _ => rfl) rfl rfl (fun σ15 => o_loadW (key := 9) rfl rfl rfl) ?_
                    refine d_ans (vs := [_]) (fun _ => rfl) (fun _ => rfl) (r_PNeg _ _ ?_ ?_) ?_
                    · omega
                    · omega
                    refine d_nil (fun σ15 => ?_)
                    refine l_call (ks := []) rfl (o_callC (vs := [_, _]) (r := .bool (leftB (Q.getD i []) ⟨-(-f.y), -f.x⟩)) (ent_of Try.func18 rfl rfl) rfl (fun w' hg hh => a_HasC w' _ (Q.getD i []) ⟨-(-f.y), -f.x⟩ (by omega) hVa1 (by exact (xa.2.2.2 w' (pcsAt_nil w') hg.2.1).pc i hil) hqn hnn hqc rfl)) ?_
                    refine lz_cases (fun hl2 => ?_) (fun hl2 => ?_)
                    · skip
                      refine l_nil ?_
                      refine kt_norm ?_
                      refine v_sel [12, 4, 7, 8, 9, 10, 11, 88] [4, 8, 9, 11] rfl rfl ?_
                      refine v_condT rfl ?_
                      refine v_region ?_
                      refine l_val rfl (o_idxA 2 rfl rfl rfl (by decide)) ?_
                      refine l_val rfl (o_load1 (key := 11) rfl rfl rfl) ?_
                      refine l_val rfl (o_addi rfl rfl ?_) ?_
                      · omega
                      refine l_val rfl (o_idxA 2 rfl rfl rfl (by decide)) ?_
                      refine l_store rfl (o_store1 (key := 11) (rs := [_, _, _]) rfl rfl rfl rfl rfl rfl rfl) ?_
                      refine l_nil ?_
                      refine kt_norm ?_
                      refine v_seq ?_
                      refine v_drawW [] [[], [], [], [], [], [], [4]] mixed ?_ (by kernel_rfl) (by kernel_rfl)
                      refine d_val (fun _ => rfl) rfl rfl (fun σ17 => o_move rfl) ?_
                      refine d_val (fun _ => rfl) rfl rfl (fun σ17 => o_move rfl) ?_
                      refine d_val (fun _ => rfl) rfl rfl (fun σ17 => o_move rfl) ?_
                      refine d_val (fun _ => rfl) rfl rfl (fun σ17 => o_move rfl) ?_
                      refine d_val (fun _ => rfl) rfl rfl (fun σ17 => o_idx (i) rfl hVa rfl (by first | rfl | omega) (by omega)) ?_
                      refine d_val (fun _ => rfl) rfl rfl (fun σ17 => o_loadR1 rfl (row_imm (fun w2 hg => by exact (xa.2.2.2 w2 (pcsAt_nil w2) hg.2.1).row)) (el_one (by rw [hla]; exact hil))) ?_
                      refine d_val (fun _ => rfl) rfl rfl (fun σ17 => o_loadW (key := 4) rfl rfl rfl) ?_
                      refine d_nil (fun σ17 => ?_)
                      refine l_call (ks := []) rfl (o_callC (vs := [_, _]) (r := .bool false) (ent_of Try.func18 rfl rfl) rfl (fun w' hg hh => a_HasC w' _ (Q.getD i []) q (by omega) hVa1 (by exact (xa.2.2.2 w' (pcsAt_nil w') hg.2.1).pc i hil) hqn hnq hqc (hb0 _ hmem))) ?_
                      refine l_val rfl (o_pickT rfl rfl) ?_
                      refine l_nil ?_
                      refine kt_norm ?_
                      refine v_sel [12, 4, 7, 8, 9, 10, 11, 95, 96, 97, 98, 99, 100, 101] [4, 8, 9, 11] rfl rfl ?_
                      refine v_condF rfl ?_
                      refine v_skip ?_
                      refine kb_norm ?_
                      refine kt_norm ?_
                      refine v_region ?_
                      refine l_val rfl (o_move rfl) ?_
                      refine l_val rfl (o_addi rfl rfl ?_) ?_
                      · omega
                      refine l_val rfl (o_assign rfl) ?_
                      refine l_nil ?_
                      refine kt_norm ?_
                      refine ⟨(i + 1, a0, a1, a2 + 1), ⟨hil, by have e := hcs0; rw [hl0] at e; rw [e, hc0]; rfl, by have e := hcs1; rw [hl1] at e; rw [e, hc1]; rfl, by have e := hcs2; rw [hl2] at e; rw [e, hc2]; rfl⟩, (by show Q.length - (i + 1) < Q.length - i; omega), le_app (And.intro rfl (True.intro)) [4, 7, 8, 9, 10, 11] rfl (And.intro rfl (True.intro)) [4, 8, 9] rfl⟩
                    · skip
                      refine l_nil ?_
                      refine kt_norm ?_
                      refine v_sel [12, 4, 7, 8, 9, 10, 11, 88] [4, 8, 9, 11] rfl rfl ?_
                      refine v_condF rfl ?_
                      refine v_skip ?_
                      refine kt_norm ?_
                      refine v_seq ?_
                      refine v_drawW [] [[], [], [], [], [], [], [4]] mixed ?_ (by kernel_rfl) (by kernel_rfl)
                      refine d_val (fun _ => rfl) rfl rfl (fun σ17 => o_move rfl) ?_
                      refine d_val (fun _ => rfl) rfl rfl (fun σ17 => o_move rfl) ?_
                      refine d_val (fun _ => rfl) rfl rfl (fun σ17 => o_move rfl) ?_
                      refine d_val (fun _ => rfl) rfl rfl (fun σ17 => o_move rfl) ?_
                      refine d_val (fun _ => rfl) rfl rfl (fun σ17 => o_idx (i) rfl hVa rfl (by first | rfl | omega) (by omega)) ?_
                      refine d_val (fun _ => rfl) rfl rfl (fun σ17 => o_loadR1 rfl (row_imm (fun w2 hg => by exact (xa.2.2.2 w2 (pcsAt_nil w2) hg.2.1).row)) (el_one (by rw [hla]; exact hil))) ?_
                      refine d_val (fun _ => rfl) rfl rfl (fun σ17 => o_loadW (key := 4) rfl rfl rfl) ?_
                      refine d_nil (fun σ17 => ?_)
                      refine l_call (ks := []) rfl (o_callC (vs := [_, _]) (r := .bool false) (ent_of Try.func18 rfl rfl) rfl (fun w' hg hh => a_HasC w' _ (Q.getD i []) q (by omega) hVa1 (by exact (xa.2.2.2 w' (pcsAt_nil w') hg.2.1).pc i hil) hqn hnq hqc (hb0 _ hmem))) ?_
                      refine l_val rfl (o_pickT rfl rfl) ?_
                      refine l_nil ?_
                      refine kt_norm ?_
                      refine v_condF rfl ?_
                      refine v_skip ?_
                      refine kb_norm ?_
                      refine kt_norm ?_
                      refine v_region ?_
                      refine l_val rfl (o_move rfl) ?_
                      refine l_val rfl (o_addi rfl rfl ?_) ?_
                      · omega
                      refine l_val rfl (o_assign rfl) ?_
                      refine l_nil ?_
                      refine kt_norm ?_
                      refine ⟨(i + 1, a0, a1, a2), ⟨hil, by have e := hcs0; rw [hl0] at e; rw [e, hc0]; rfl, by have e := hcs1; rw [hl1] at e; rw [e, hc1]; rfl, by have e := hcs2; rw [hl2] at e; rw [e, hc2]; rfl⟩, (by show Q.length - (i + 1) < Q.length - i; omega), le_app (And.intro rfl (True.intro)) [4, 7, 8, 9, 10, 11] rfl (And.intro rfl (True.intro)) [4, 8, 9] rfl⟩
              · skip
                refine l_nil ?_
                refine kt_norm ?_
                refine v_condF rfl ?_
                refine v_exit ?_
                refine kt_exit ?_
                refine kt_exit ?_
                refine kb_eq ?_
                refine kt_norm ?_
                refine v_sel [11] [11] rfl rfl ?_
                refine v_seq ?_
                refine v_region ?_
                obtain rfl : i = Q.length := by omega
                rw [List.take_length] at hc0 hc1 hc2
                refine l_val rfl (o_idxA 0 rfl rfl rfl (by decide)) ?_
                refine l_val rfl (o_load1 (key := 11) rfl rfl rfl) ?_
                refine l_split rfl (o_geq rfl rfl) (fun q4 => ?_) (fun q4 => absurd (show _ by omega) q4)
                refine l_val rfl (o_move rfl) ?_
                refine l_val rfl (o_idxA 1 rfl rfl rfl (by decide)) ?_
                refine l_val rfl (o_load1 (key := 11) rfl rfl rfl) ?_
                refine l_split rfl (o_geq rfl rfl) (fun q5 => ?_) (fun q5 => absurd (show _ by omega) q5)
                refine l_val rfl (o_pickT rfl rfl) ?_
                refine l_val rfl (o_move rfl) ?_
                refine l_val rfl (o_idxA 2 rfl rfl rfl (by decide)) ?_
                refine l_val rfl (o_load1 (key := 11) rfl rfl rfl) ?_
                refine l_split rfl (o_geq rfl rfl) (fun q6 => ?_) (fun q6 => absurd (show _ by omega) q6)
                refine l_val rfl (o_pickT rfl rfl) ?_
                refine l_val rfl (o_assign rfl) ?_
                refine l_nil ?_
                refine kt_norm ?_
                refine v_sel [6] [11] rfl rfl ?_
                refine v_ret ?_
                refine ⟨[_], .cons (.tmp rfl) (ResAll.nil), ?_⟩
                rfl
            · skip
              refine d_val (fun _ => rfl) rfl rfl (fun _ => o_assign rfl) ?_
              refine d_nil (fun σ => ?_)
              refine l_nil ?_
              refine kt_norm ?_
              refine v_sel [4, 7, 8, 9, 10] [4, 8, 9] rfl rfl ?_
              refine v_seq ?_
              refine v_region ?_
              refine l_val rfl (o_buildA (vs := []) (cs := [.int .i64 0, .int .i64 0, .int .i64 0]) rfl rfl) ?_
              refine l_new rfl o_alloc fun b11 => ?_
              refine l_store rfl (o_storeW (key := 11) (xs := [_, _, _]) rfl rfl rfl rfl rfl rfl rfl) ?_
              refine l_nil ?_
              refine kt_norm ?_
              refine v_seq ?_
              refine v_seq ?_
              refine v_region ?_
              refine l_val rfl (o_assign rfl) ?_
              refine l_nil ?_
              refine kt_norm ?_
              refine v_block ?_
              refine v_loopS (α := Nat × Nat × Nat × Nat) (fun ⟨i, a0, a1, a2⟩ => [(12, .int .i64 (i : Int))]) (fun ⟨i, a0, a1, a2⟩ => [(11, Hp.box b11 46 [.int .i64 (a0 : Int), .int .i64 (a1 : Int), .int .i64 (a2 : Int)])])  (fun ⟨i, a0, a1, a2⟩ => i ≤ Q.length ∧ a0 = (Q.take i).countP (fun pc => leftB pc f) ∧ a1 = (Q.take i).countP (fun pc => leftB pc ⟨-f.y, f.x⟩) ∧ a2 = (Q.take i).countP (fun pc => leftB pc ⟨-(-f.y), -f.x⟩)) (fun ⟨i, a0, a1, a2⟩ => Q.length - i) (0, 0, 0, 0) [4, 7, 8, 9, 10, 11] [4, 8, 9] ⟨Nat.zero_le _, rfl, rfl, rfl⟩  (And.intro rfl (True.intro)) rfl (And.intro rfl (True.intro)) rfl ?_
              rintro ⟨i, a0, a1, a2⟩ ⟨hi, hc0, hc1, hc2⟩
              have hai0 : a0 ≤ i := by
                rw [hc0]; have h1 := List.countP_le_length (p := fun pc => leftB pc f) (l := Q.take i); rw [List.length_take] at h1; omega
              have hai1 : a1 ≤ i := by
                rw [hc1]; have h1 := List.countP_le_length (p := fun pc => leftB pc ⟨-f.y, f.x⟩) (l := Q.take i); rw [List.length_take] at h1; omega
              have hai2 : a2 ≤ i := by
                rw [hc2]; have h1 := List.countP_le_length (p := fun pc => leftB pc ⟨-(-f.y), -f.x⟩) (l := Q.take i); rw [List.length_take] at h1; omega
              refine v_seq ?_
              refine v_seq ?_
              refine v_region ?_
              refine l_val rfl (o_move rfl) ?_
              refine l_val rfl (o_move rfl) ?_
              refine l_val rfl (o_len rfl hVa) ?_
              refine l_split rfl (o_lss rfl rfl) (fun q7 => ?_) (fun q7 => ?_)
              · have hil : i < Q.length := by omega
                have hmem : Q.getD i [] ∈ Q := by rw [List.getD_eq_getElem?_getD, List.getElem?_eq_getElem hil]; exact List.getElem_mem hil
                have hTi := hT _ hmem
                have hVa1 := xa.2.1.pV i hil
                have hq3 := hTi.1
                have hqc := hTi.2.1
                have hqn := hTi.2.2.2
                have hcs0 := count_step hil (fun pc => leftB pc f)
                have hcs1 := count_step hil (fun pc => leftB pc ⟨-f.y, f.x⟩)
                have hcs2 := count_step hil (fun pc => leftB pc ⟨-(-f.y), -f.x⟩)
                refine l_nil ?_
                refine kt_norm ?_
                refine v_condT rfl ?_
                refine v_skip ?_
                refine kt_norm ?_
                refine v_seq ?_
                refine v_block ?_
                refine v_seq ?_
                refine v_seq ?_
                refine v_drawW [] [[], [], [], [], [8]] mixed ?_ (by kernel_rfl) (by kernel_rfl)
                refine d_val (fun _ => rfl) rfl rfl (fun σ11 => o_move rfl) ?_
                refine d_val (fun _ => rfl) rfl rfl (fun σ11 => o_move rfl) ?_
                refine d_val (fun _ => rfl) rfl rfl (fun σ11 => o_idx (i) rfl hVa rfl (by first | rfl | omega) (by omega)) ?_
                refine d_val (fun _ => rfl) rfl rfl (fun σ11 => o_loadR1 rfl (row_imm (fun w2 hg => by exact (xa.2.2.2 w2 (pcsAt_nil w2) hg.2.1).row)) (el_one (by rw [hla]; exact hil))) ?_
                refine d_val (fun _ => rfl) rfl rfl (fun σ11 => o_loadW (key := 8) rfl rfl rfl) ?_
                refine d_nil (fun σ11 => ?_)
                refine l_call (ks := []) rfl (o_callC (vs := [_, _]) (r := .bool (leftB (Q.getD i []) f)) (ent_of Try.func18 rfl rfl) rfl (fun w' hg hh => a_HasC w' _ (Q.getD i []) f (by omega) hVa1 (by exact (xa.2.2.2 w' (pcsAt_nil w') hg.2.1).pc i hil) hqn hnf hqc rfl)) ?_
                refine lz_cases (fun hl0 => ?_) (fun hl0 => ?_)
                · skip
                  refine l_nil ?_
                  refine kt_norm ?_
                  refine v_sel [12, 4, 7, 8, 9, 10, 11, 67] [4, 8, 9, 11] rfl rfl ?_
                  refine v_condT rfl ?_
                  refine v_region ?_
                  refine l_val rfl (o_idxA 0 rfl rfl rfl (by decide)) ?_
                  refine l_val rfl (o_load1 (key := 11) rfl rfl rfl) ?_
                  refine l_val rfl (o_addi rfl rfl ?_) ?_
                  · omega
                  refine l_val rfl (o_idxA 0 rfl rfl rfl (by decide)) ?_
                  refine l_store rfl (o_store1 (key := 11) (rs := [_, _, _]) rfl rfl rfl rfl rfl rfl rfl) ?_
                  refine l_nil ?_
                  refine kt_norm ?_
                  refine v_seq ?_
                  refine v_seq ?_
                  refine v_drawW [] [[], [], [], [], [9]] mixed ?_ (by kernel_rfl) (by kernel_rfl)
                  refine d_val (fun _ => rfl) rfl rfl (fun σ13 => o_move rfl) ?_
                  refine d_val (fun _ => rfl) rfl rfl (fun σ13 => o_move rfl) ?_
                  refine d_val (fun _ => rfl) rfl rfl (fun σ13 => o_idx (i) rfl hVa rfl (by first | rfl | omega) (by omega)) ?_
                  refine d_val (fun _ => rfl) rfl rfl (fun σ13 => o_loadR1 rfl (row_imm (fun w2 hg => by exact (xa.2.2.2 w2 (pcsAt_nil w2) hg.2.1).row)) (el_one (by rw [hla]; exact hil))) ?_
                  refine d_val (fun _ => rfl) rfl rfl (fun σ13 => o_loadW (key := 9) rfl rfl rfl) ?_
                  refine d_nil (fun σ13 => ?_)
                  refine l_call (ks := []) rfl (o_callC (vs := [_, _]) (r := .bool (leftB (Q.getD i []) ⟨-f.y, f.x⟩)) (ent_of Try.func18 rfl rfl) rfl (fun w' hg hh => a_HasC w' _ (Q.getD i []) ⟨-f.y, f.x⟩ (by omega) hVa1 (by exact (xa.2.2.2 w' (pcsAt_nil w') hg.2.1).pc i hil) hqn hnl hqc rfl)) ?_
                  refine lz_cases (fun hl1 => ?_) (fun hl1 => ?_)
                  · skip
                    refine l_nil ?_
                    refine kt_norm ?_
                    refine v_sel [12, 4, 7, 8, 9, 10, 11, 77] [4, 8, 9, 11] rfl rfl ?_
                    refine v_condT rfl ?_
                    refine v_region ?_
                    refine l_val rfl (o_idxA 1 rfl rfl rfl (by decide)) ?_
                    refine l_val rfl (o_load1 (key := 11) rfl rfl rfl) ?_
                    refine l_val rfl (o_addi rfl rfl ?_) ?_
                    · omega
                    refine l_val rfl (o_idxA 1 rfl rfl rfl (by decide)) ?_
                    refine l_store rfl (o_store1 (key := 11) (rs := [_, _, _]) rfl rfl rfl rfl rfl rfl rfl) ?_
                    refine l_nil ?_
                    refine kt_norm ?_
                    refine v_seq ?_
                    refine v_seq ?_
                    refine v_drawW [] [[], [], [], [], [9], []] mixed ?_ (by kernel_rfl) (by kernel_rfl)
                    refine d_val (fun _ => rfl) rfl rfl (fun σ15 => o_move rfl) ?_
                    refine d_val (fun _ => rfl) rfl rfl (fun σ15 => o_move rfl) ?_
                    refine d_val (fun _ => rfl) rfl rfl (fun σ15 => o_idx (i) rfl hVa rfl (by first | rfl | omega) (by omega)) ?_
                    refine d_val (fun _ => rfl) rfl rfl (fun σ15 => o_loadR1 rfl (row_imm (fun w2 hg => by exact (xa.2.2.2 w2 (pcsAt_nil w2) hg.2.1).row)) (el_one (by rw [hla]; exact hil))) ?_
                    refine d_val (fun _ => rfl) rfl rfl (fun σ15 => o_loadW (key := 9) rfl rfl rfl) ?_
                    refine d_ans (vs := [_]) (fun _ => rfl) (fun _ => rfl) (r_PNeg _ _ ?_ ?_) ?_
                    · omega
                    · omega
                    refine d_nil (fun σ15 => ?_)
                    refine l_call (ks := []) rfl (o_callC (vs := [_, _]) (r := .bool (leftB (Q.getD i []) ⟨-(-f.y), -f.x⟩)) (ent_of Try.func18 rfl rfl) rfl (fun w' hg hh => a_HasC w' _ (Q.getD i []) ⟨-(-f.y), -f.x⟩ (by omega) hVa1 (by exact (xa.2.2.2 w' (pcsAt_nil w') hg.2.1).pc i hil) hqn hnn hqc rfl)) ?_
                    refine lz_cases (fun hl2 => ?_) (fun hl2 => ?_)
                    · skip
                      refine l_nil ?_
                      refine kt_norm ?_
                      refine v_sel [12, 4, 7, 8, 9, 10, 11, 88] [4, 8, 9, 11] rfl rfl ?_
                      refine v_condT rfl ?_
                      refine v_region ?_
                      refine l_val rfl (o_idxA 2 rfl rfl rfl (by decide)) ?_
                      refine l_val rfl (o_load1 (key := 11) rfl rfl rfl) ?_
                      refine l_val rfl (o_addi rfl rfl ?_) ?_
                      · omega
                      refine l_val rfl (o_idxA 2 rfl rfl rfl (by decide)) ?_
                      refine l_store rfl (o_store1 (key := 11) (rs := [_, _, _]) rfl rfl rfl rfl rfl rfl rfl) ?_
                      refine l_nil ?_
                      refine kt_norm ?_
                      refine v_seq ?_
                      refine v_drawW [] [[], [], [], [], [], [], [4]] mixed ?_ (by kernel_rfl) (by kernel_rfl)
                      refine d_val (fun _ => rfl) rfl rfl (fun σ17 => o_move rfl) ?_
                      refine d_val (fun _ => rfl) rfl rfl (fun σ17 => o_move rfl) ?_
                      refine d_no (fun _ => rfl) ?_
                      refine d_no (fun _ => rfl) ?_
                      refine d_no (fun _ => rfl) ?_
                      refine d_no (fun _ => rfl) ?_
                      refine d_no (fun _ => rfl) ?_
                      refine d_nil (fun σ17 => ?_)
                      refine l_no rfl ?_
                      refine l_val rfl (o_pickF rfl rfl) ?_
                      refine l_nil ?_
                      refine kt_norm ?_
                      refine v_sel [12, 4, 7, 8, 9, 10, 11, 95, 96, 97, 98, 99, 100, 101] [4, 8, 9, 11] rfl rfl ?_
                      refine v_condF rfl ?_
                      refine v_skip ?_
                      refine kb_norm ?_
                      refine kt_norm ?_
                      refine v_region ?_
                      refine l_val rfl (o_move rfl) ?_
                      refine l_val rfl (o_addi rfl rfl ?_) ?_
                      · omega
                      refine l_val rfl (o_assign rfl) ?_
                      refine l_nil ?_
                      refine kt_norm ?_
                      refine ⟨(i + 1, a0 + 1, a1 + 1, a2 + 1), ⟨hil, by have e := hcs0; rw [hl0] at e; rw [e, hc0]; rfl, by have e := hcs1; rw [hl1] at e; rw [e, hc1]; rfl, by have e := hcs2; rw [hl2] at e; rw [e, hc2]; rfl⟩, (by show Q.length - (i + 1) < Q.length - i; omega), le_app (And.intro rfl (True.intro)) [4, 7, 8, 9, 10, 11] rfl (And.intro rfl (True.intro)) [4, 8, 9] rfl⟩
                    · skip
                      refine l_nil ?_
                      refine kt_norm ?_
                      refine v_sel [12, 4, 7, 8, 9, 10, 11, 88] [4, 8, 9, 11] rfl rfl ?_
                      refine v_condF rfl ?_
                      refine v_skip ?_
                      refine kt_norm ?_
                      refine v_seq ?_
                      refine v_drawW [] [[], [], [], [], [], [], [4]] mixed ?_ (by kernel_rfl) (by kernel_rfl)
                      refine d_val (fun _ => rfl) rfl rfl (fun σ17 => o_move rfl) ?_
                      refine d_val (fun _ => rfl) rfl rfl (fun σ17 => o_move rfl) ?_
                      refine d_no (fun _ => rfl) ?_
                      refine d_no (fun _ => rfl) ?_
                      refine d_no (fun _ => rfl) ?_
                      refine d_no (fun _ => rfl) ?_
                      refine d_no (fun _ => rfl) ?_
                      refine d_nil (fun σ17 => ?_)
                      refine l_no rfl ?_
                      refine l_val rfl (o_pickF rfl rfl) ?_
                      refine l_nil ?_
                      refine kt_norm ?_
                      refine v_condF rfl ?_
                      refine v_skip ?_
                      refine kb_norm ?_
                      refine kt_norm ?_
                      refine v_region ?_
                      refine l_val rfl (o_move rfl) ?_
                      refine l_val rfl (o_addi rfl rfl ?_) ?_
                      · omega
                      refine l_val rfl (o_assign rfl) ?_
                      refine l_nil ?_
                      refine kt_norm ?_
                      refine ⟨(i + 1, a0 + 1, a1 + 1, a2), ⟨hil, by have e := hcs0; rw [hl0] at e; rw [e, hc0]; rfl, by have e := hcs1; rw [hl1] at e; rw [e, hc1]; rfl, by have e := hcs2; rw [hl2] at e; rw [e, hc2]; rfl⟩, (by show Q.length - (i + 1) < Q.length - i; omega), le_app (And.intro rfl (True.intro)) [4, 7, 8, 9, 10, 11] rfl (And.intro rfl (True.intro)) [4, 8, 9] rfl⟩
                  · skip
                    refine l_nil ?_
                    refine kt_norm ?_
                    refine v_sel [12, 4, 7, 8, 9, 10, 11, 77] [4, 8, 9, 11] rfl rfl ?_
                    refine v_condF rfl ?_
                    refine v_skip ?_
                    refine kt_norm ?_
                    refine v_seq ?_
                    refine v_seq ?_
                    refine v_drawW [] [[], [], [], [], [9], []] mixed ?_ (by kernel_rfl) (by kernel_rfl)
                    refine d_val (fun _ => rfl) rfl rfl (fun σ15 => o_move rfl) ?_
                    refine d_val (fun _ => rfl) rfl rfl (fun σ15 => o_move rfl) ?_
                    refine d_val (fun _ => rfl) rfl rfl (fun σ15 => o_idx (i) rfl hVa rfl (by first | rfl | omega) (by omega)) ?_
                    refine d_val (fun _ => rfl) rfl rfl (fun σ15 => o_loadR1 rfl (row_imm (fun w2 hg => by exact (xa.2.2.2 w2 (pcsAt_nil w2) hg.2.1).row)) (el_one (by rw [hla]; exact hil))) ?_
                    refine d_val (fun _ => rfl) rfl rfl (fun σ15 => o_loadW (key := 9) rfl rfl rfl) ?_
                    refine d_ans (vs := [_]) (fun _ => rfl) (fun _ => rfl) (r_PNeg _ _ ?_ ?_) ?_
                    · omega
                    · omega
                    refine d_nil (fun σ15 => ?_)
                    refine l_call (ks := []) rfl (o_callC (vs := [_, _]) (r := .bool (leftB (Q.getD i []) ⟨-(-f.y), -f.x⟩)) (ent_of Try.func18 rfl rfl) rfl (fun w' hg hh => a_HasC w' _ (Q.getD i []) ⟨-(-f.y), -f.x⟩ (by omega) hVa1 (by exact (xa.2.2.2 w' (pcsAt_nil w') hg.2.1).pc i hil) hqn hnn hqc rfl)) ?_
                    refine lz_cases (fun hl2 => ?_) (fun hl2 => ?_)
                    · skip
                      refine l_nil ?_
                      refine kt_norm ?_
                      refine v_sel [12, 4, 7, 8, 9, 10, 11, 88] [4, 8, 9, 11] rfl rfl ?_
                      refine v_condT rfl ?_
                      refine v_region ?_
                      refine l_val rfl (o_idxA 2 rfl rfl rfl (by decide)) ?_
                      refine l_val rfl (o_load1 (key := 11) rfl rfl rfl) ?_
                      refine l_val rfl (o_addi rfl rfl ?_) ?_
                      · omega
                      refine l_val rfl (o_idxA 2 rfl rfl rfl (by decide)) ?_
                      refine l_store rfl (o_store1 (key := 11) (rs := [_, _, _]) rfl rfl rfl rfl rfl rfl rfl) ?_
                      refine l_nil ?_
                      refine kt_norm ?_
                      refine v_seq ?_
                      refine v_drawW [] [[], [], [], [], [], [], [4]] mixed ?_ (by kernel_rfl) (by kernel_rfl)
                      refine d_val (fun _ => rfl) rfl rfl (fun σ17 => o_move rfl) ?_
                      refine d_val (fun _ => rfl) rfl rfl (fun σ17 => o_move rfl) ?_
                      refine d_no (fun _ => rfl) ?_
                      refine d_no (fun _ => rfl) ?_
                      refine d_no (fun _ => rfl) ?_
                      refine d_no (fun _ => rfl) ?_
                      refine d_no (fun _ => rfl) ?_
                      refine d_nil (fun σ17 => ?_)
                      refine l_no rfl ?_
                      refine l_val rfl (o_pickF rfl rfl) ?_
                      refine l_nil ?_
                      refine kt_norm ?_
                      refine v_sel [12, 4, 7, 8, 9, 10, 11, 95, 96, 97, 98, 99, 100, 101] [4, 8, 9, 11] rfl rfl ?_
                      refine v_condF rfl ?_
                      refine v_skip ?_
                      refine kb_norm ?_
                      refine kt_norm ?_
                      refine v_region ?_
                      refine l_val rfl (o_move rfl) ?_
                      refine l_val rfl (o_addi rfl rfl ?_) ?_
                      · omega
                      refine l_val rfl (o_assign rfl) ?_
                      refine l_nil ?_
                      refine kt_norm ?_
                      refine ⟨(i + 1, a0 + 1, a1, a2 + 1), ⟨hil, by have e := hcs0; rw [hl0] at e; rw [e, hc0]; rfl, by have e := hcs1; rw [hl1] at e; rw [e, hc1]; rfl, by have e := hcs2; rw [hl2] at e; rw [e, hc2]; rfl⟩, (by show Q.length - (i + 1) < Q.length - i; omega), le_app (And.intro rfl (True.intro)) [4, 7, 8, 9, 10, 11] rfl (And.intro rfl (True.intro)) [4, 8, 9] rfl⟩
                    · skip
                      refine l_nil ?_
                      refine kt_norm ?_
                      refine v_sel [12, 4, 7, 8, 9, 10, 11, 88] [4, 8, 9, 11] rfl rfl ?_
                      refine v_condF rfl ?_
                      refine v_skip ?_
                      refine kt_norm ?_
                      refine v_seq ?_
                      refine v_drawW [] [[], [], [], [], [], [], [4]] mixed ?_ (by kernel_rfl) (by kernel_rfl)
                      refine d_val (fun _ => rfl) rfl rfl (fun σ17 => o_move rfl) ?_
                      refine d_val (fun _ => rfl) rfl rfl (fun σ17 => o_move rfl) ?_
                      refine d_no (fun _ => rfl) ?_
                      refine d_no (fun _ => rfl) ?_
                      refine d_no (fun _ => rfl) ?_
                      refine d_no (fun _ => rfl) ?_
                      refine d_no (fun _ => rfl) ?_
                      refine d_nil (fun σ17 => ?_)
                      refine l_no rfl ?_
                      refine l_val rfl (o_pickF rfl rfl) ?_
                      refine l_nil ?_
                      refine kt_norm ?_
                      refine v_condF rfl ?_
                      refine v_skip ?_
                      refine kb_norm ?_
                      refine kt_norm ?_
                      refine v_region ?_
                      refine l_val rfl (o_move rfl) ?_
                      refine l_val rfl (o_addi rfl rfl ?_) ?_
                      · omega
                      refine l_val rfl (o_assign rfl) ?_
                      refine l_nil ?_
                      refine kt_norm ?_
                      refine ⟨(i + 1, a0 + 1, a1, a2), ⟨hil, by have e := hcs0; rw [hl0] at e; rw [e, hc0]; rfl, by have e := hcs1; rw [hl1] at e; rw [e, hc1]; rfl, by have e := hcs2; rw [hl2] at e; rw [e, hc2]; rfl⟩, (by show Q.length - (i + 1) < Q.length - i; omega), le_app (And.intro rfl (True.intro)) [4, 7, 8, 9, 10, 11] rfl (And.intro rfl (True.intro)) [4, 8, 9] rfl⟩
                · skip
                  refine l_nil ?_
                  refine kt_norm ?_
                  refine v_sel [12, 4, 7, 8, 9, 10, 11, 67] [4, 8, 9, 11] rfl rfl ?_
                  refine v_condF rfl ?_
                  refine v_skip ?_
                  refine kt_norm ?_
                  refine v_seq ?_
                  refine v_seq ?_
                  refine v_drawW [] [[], [], [], [], [9]] mixed ?_ (by kernel_rfl) (by kernel_rfl)
                  refine d_val (fun _ => rfl) rfl rfl (fun σ13 => o_move rfl) ?_
                  refine d_val (fun _ => rfl) rfl rfl (fun σ13 => o_move rfl) ?_
                  refine d_val (fun _ => rfl) rfl rfl (fun σ13 => o_idx (i) rfl hVa rfl (by first | rfl | omega) (by omega)) ?_
                  refine d_val (fun _ => rfl) rfl rfl (fun σ13 => o_loadR1 rfl (row_imm (fun w2 hg => by exact (xa.2.2.2 w2 (pcsAt_nil w2) hg.2.1).row)) (el_one (by rw [hla]; exact hil))) ?_
                  refine d_val (fun _ => rfl) rfl rfl (fun σ13 => o_loadW (key := 9) rfl rfl rfl) ?_
                  refine d_nil (fun σ13 => ?_)
                  refine l_call (ks := []) rfl (o_callC (vs := [_, _]) (r := .bool (leftB (Q.getD i []) ⟨-f.y, f.x⟩)) (ent_of Try.func18 rfl rfl) rfl (fun w' hg hh => a_HasC w' _ (Q.getD i []) ⟨-f.y, f.x⟩ (by omega) hVa1 (by exact (xa.2.2.2 w' (pcsAt_nil w') hg.2.1).pc i hil) hqn hnl hqc rfl)) ?_
                  refine lz_cases (fun hl1 => ?_) (fun hl1 => ?_)
                  · skip
                    refine l_nil ?_
                    refine kt_norm ?_
                    refine v_sel [12, 4, 7, 8, 9, 10, 11, 77] [4, 8, 9, 11] rfl rfl ?_
                    refine v_condT rfl ?_
                    refine v_region ?_
                    refine l_val rfl (o_idxA 1 rfl rfl rfl (by decide)) ?_
                    refine l_val rfl (o_load1 (key := 11) rfl rfl rfl) ?_
                    refine l_val rfl (o_addi rfl rfl ?_) ?_
                    · omega
                    refine l_val rfl (o_idxA 1 rfl rfl rfl (by decide)) ?_
                    refine l_store rfl (o_store1 (key := 11) (rs := [_, _, _]) rfl rfl rfl rfl rfl rfl rfl) ?_
                    refine l_nil ?_
                    refine kt_norm ?_
                    refine v_seq ?_
                    refine v_seq ?_
                    refine v_drawW [] [[], [], [], [], [9], []] mixed ?_ (by kernel_rfl) (by kernel_rfl)
                    refine d_val (fun _ => rfl) rfl rfl (fun σ15 => o_move rfl) ?_
                    refine d_val (fun _ => rfl) rfl rfl (fun σ15 => o_move rfl) ?_
                    refine d_val (fun _ => rfl) rfl rfl (fun σ15 => o_idx (i) rfl hVa rfl (by first | rfl | omega) (by omega)) ?_
                    refine d_val (fun _ => rfl) rfl rfl (fun σ15 => o_loadR1 rfl (row_imm (fun w2 hg => by exact (xa.2.2.2 w2 (pcsAt_nil w2) hg.2.1).row)) (el_one (by rw [hla]; exact hil))) ?_
                    refine d_val (fun _ => rfl) rfl rfl (fun σ15 => o_loadW (key := 9) rfl rfl rfl) ?_
                    refine d_ans (vs := [_]) (fun _ => rfl) (fun _ => rfl) (r_PNeg _ _ ?_ ?_) ?_
                    · omega
                    · omega
                    refine d_nil (fun σ15 => ?_)
                    refine l_call (ks := []) rfl (o_callC (vs := [_, _]) (r := .bool (leftB (Q.getD i []) ⟨-(-f.y), -f.x⟩)) (ent_of Try.func18 rfl rfl) rfl (fun w' hg hh => a_HasC w' _ (Q.getD i []) ⟨-(-f.y), -f.x⟩ (by omega) hVa1 (by exact (xa.2.2.2 w' (pcsAt_nil w') hg.2.1).pc i hil) hqn hnn hqc rfl)) ?_
                    refine lz_cases (fun hl2 => ?_) (fun hl2 => ?_)
                    · skip
                      refine l_nil ?_
                      refine kt_norm ?_
                      refine v_sel [12, 4, 7, 8, 9, 10, 11, 88] [4, 8, 9, 11] rfl rfl ?_
                      refine v_condT rfl ?_
                      refine v_region ?_
                      refine l_val rfl (o_idxA 2 rfl rfl rfl (by decide)) ?_
                      refine l_val rfl (o_load1 (key := 11) rfl rfl rfl) ?_
                      refine l_val rfl (o_addi rfl rfl ?_) ?_
                      · omega
                      refine l_val rfl (o_idxA 2 rfl rfl rfl (by decide)) ?_
                      refine l_store rfl (o_store1 (key := 11) (rs := [_, _, _]) rfl rfl rfl rfl rfl rfl rfl) ?_
                      refine l_nil ?_
                      refine kt_norm ?_
                      refine v_seq ?_
                      refine v_drawW [] [[], [], [], [], [], [], [4]] mixed ?_ (by kernel_rfl) (by kernel_rfl)
                      refine d_val (fun _ => rfl) rfl rfl (fun σ17 => o_move rfl) ?_
                      refine d_val (fun _ => rfl) rfl rfl (fun σ17 => o_move rfl) ?_
                      refine d_no (fun _ => rfl) ?_
                      refine d_no (fun _ => rfl) ?_
                      refine d_no (fun _ => rfl) ?_
                      refine d_no (fun _ => rfl) ?_
                      refine d_no (fun _ => rfl) ?_
                      refine d_nil (fun σ17 => ?_)
                      refine l_no rfl ?_
                      refine l_val rfl (o_pickF rfl rfl) ?_
                      refine l_nil ?_
                      refine kt_norm ?_
                      refine v_sel [12, 4, 7, 8, 9, 10, 11, 95, 96, 97, 98, 99, 100, 101] [4, 8, 9, 11] rfl rfl ?_
                      refine v_condF rfl ?_
                      refine v_skip ?_
                      refine kb_norm ?_
                      refine kt_norm ?_
                      refine v_region ?_
                      refine l_val rfl (o_move rfl) ?_
                      refine l_val rfl (o_addi rfl rfl ?_) ?_
                      · omega
                      refine l_val rfl (o_assign rfl) ?_
                      refine l_nil ?_
                      refine kt_norm ?_
                      refine ⟨(i + 1, a0, a1 + 1, a2 + 1), ⟨hil, by have e := hcs0; rw [hl0] at e; rw [e, hc0]; rfl, by have e := hcs1; rw [hl1] at e; rw [e, hc1]; rfl, by have e := hcs2; rw [hl2] at e; rw [e, hc2]; rfl⟩, (by show Q.length - (i + 1) < Q.length - i; omega), le_app (And.intro rfl (True.intro)) [4, 7, 8, 9, 10, 11] rfl (And.intro rfl (True.intro)) [4, 8, 9] rfl⟩
                    · skip
                      refine l_nil ?_
                      refine kt_norm ?_
                      refine v_sel [12, 4, 7, 8, 9, 10, 11, 88] [4, 8, 9, 11] rfl rfl ?_
                      refine v_condF rfl ?_
                      refine v_skip ?_
                      refine kt_norm ?_
                      refine v_seq ?_
                      refine v_drawW [] [[], [], [], [], [], [], [4]] mixed ?_ (by kernel_rfl) (by kernel_rfl)
                      refine d_val (fun _ => rfl) rfl rfl (fun σ17 => o_move rfl) ?_
                      refine d_val (fun _ => rfl) rfl rfl (fun σ17 => o_move rfl) ?_
                      refine d_no (fun _ => rfl) ?_
                      refine d_no (fun _ => rfl) ?_
                      refine d_no (fun _ => rfl) ?_
                      refine d_no (fun _ => rfl) ?_
                      refine d_no (fun _ => rfl) ?_
                      refine d_nil (fun σ17 => ?_)
                      refine l_no rfl ?_
                      refine l_val rfl (o_pickF rfl rfl) ?_
                      refine l_nil ?_
                      refine kt_norm ?_
                      refine v_condF rfl ?_
                      refine v_skip ?_
                      refine kb_norm ?_
                      refine kt_norm ?_
                      refine v_region ?_
                      refine l_val rfl (o_move rfl) ?_
                      refine l_val rfl (o_addi rfl rfl ?_) ?_
                      · omega
                      refine l_val rfl (o_assign rfl) ?_
                      refine l_nil ?_
                      refine kt_norm ?_
                      refine ⟨(i + 1, a0, a1 + 1, a2), ⟨hil, by have e := hcs0; rw [hl0] at e; rw [e, hc0]; rfl, by have e := hcs1; rw [hl1] at e; rw [e, hc1]; rfl, by have e := hcs2; rw [hl2] at e; rw [e, hc2]; rfl⟩, (by show Q.length - (i + 1) < Q.length - i; omega), le_app (And.intro rfl (True.intro)) [4, 7, 8, 9, 10, 11] rfl (And.intro rfl (True.intro)) [4, 8, 9] rfl⟩
                  · skip
                    refine l_nil ?_
                    refine kt_norm ?_
                    refine v_sel [12, 4, 7, 8, 9, 10, 11, 77] [4, 8, 9, 11] rfl rfl ?_
                    refine v_condF rfl ?_
                    refine v_skip ?_
                    refine kt_norm ?_
                    refine v_seq ?_
                    refine v_seq ?_
                    refine v_drawW [] [[], [], [], [], [9], []] mixed ?_ (by kernel_rfl) (by kernel_rfl)
                    refine d_val (fun _ => rfl) rfl rfl (fun σ15 => o_move rfl) ?_
                    refine d_val (fun _ => rfl) rfl rfl (fun σ15 => o_move rfl) ?_
                    refine d_val (fun _ => rfl) rfl rfl (fun σ15 => o_idx (i) rfl hVa rfl (by first | rfl | omega) (by omega)) ?_
                    refine d_val (fun _ => rfl) rfl rfl (fun σ15 => o_loadR1 rfl (row_imm (fun w2 hg => by exact (xa.2.2.2 w2 (pcsAt_nil w2) hg.2.1).row)) (el_one (by rw [hla]; exact hil))) ?_
                    refine d_val (fun _ => rfl) rfl rfl (fun σ15 => o_loadW (key := 9) rfl rfl rfl) ?_
                    refine d_ans (vs := [_]) (fun _ => rfl) (fun _ => rfl) (r_PNeg _ _ ?_ ?_) ?_
                    · omega
                    · omega
                    refine d_nil (fun σ15 => ?_)
                    refine l_call (ks := []) rfl (o_callC (vs := [_, _]) (r := .bool (leftB (Q.getD i []) ⟨-(-f.y), -f.x⟩)) (ent_of Try.func18 rfl rfl) rfl (fun w' hg hh => a_HasC w' _ (Q.getD i []) ⟨-(-f.y), -f.x⟩ (by omega) hVa1 (by exact (xa.2.2.2 w' (pcsAt_nil w') hg.2.1).pc i hil) hqn hnn hqc rfl)) ?_
                    refine lz_cases (fun hl2 => ?_) (fun hl2 => ?_)
                    · skip
                      refine l_nil ?_
                      refine kt_norm ?_
                      refine v_sel [12, 4, 7, 8, 9, 10, 11, 88] [4, 8, 9, 11] rfl rfl ?_
                      refine v_condT rfl ?_
                      refine v_region ?_
                      refine l_val rfl (o_idxA 2 rfl rfl rfl (by decide)) ?_
                      refine l_val rfl (o_load1 (key := 11) rfl rfl rfl) ?_
                      refine l_val rfl (o_addi rfl rfl ?_) ?_
                      · omega
                      refine l_val rfl (o_idxA 2 rfl rfl rfl (by decide)) ?_
                      refine l_store rfl (o_store1 (key := 11) (rs := [_, _, _]) rfl rfl rfl rfl rfl rfl rfl) ?_
                      refine l_nil ?_
                      refine kt_norm ?_
                      refine v_seq ?_
                      refine v_drawW [] [[], [], [], [], [], [], [4]] mixed ?_ (by kernel_rfl) (by kernel_rfl)
                      refine d_val (fun _ => rfl) rfl rfl (fun σ17 => o_move rfl) ?_
                      refine d_val (fun _ => rfl) rfl rfl (fun σ17 => o_move rfl) ?_
                      refine d_no (fun _ => rfl) ?_
                      refine d_no (fun _ => rfl) ?_
                      refine d_no (fun _ => rfl) ?_
                      refine d_no (fun _ => rfl) ?_
                      refine d_no (fun _ => rfl) ?_
                      refine d_nil (fun σ17 => ?_)
                      refine l_no rfl ?_
                      refine l_val rfl (o_pickF rfl rfl) ?_
                      refine l_nil ?_
                      refine kt_norm ?_
                      refine v_sel [12, 4, 7, 8, 9, 10, 11, 95, 96, 97, 98, 99, 100, 101] [4, 8, 9, 11] rfl rfl ?_
                      refine v_condF rfl ?_
                      refine v_skip ?_
                      refine kb_norm ?_
                      refine kt_norm ?_
                      refine v_region ?_
                      refine l_val rfl (o_move rfl) ?_
                      refine l_val rfl (o_addi rfl rfl ?_) ?_
                      · omega
                      refine l_val rfl (o_assign rfl) ?_
                      refine l_nil ?_
                      refine kt_norm ?_
                      refine ⟨(i + 1, a0, a1, a2 + 1), ⟨hil, by have e := hcs0; rw [hl0] at e; rw [e, hc0]; rfl, by have e := hcs1; rw [hl1] at e; rw [e, hc1]; rfl, by have e := hcs2; rw [hl2] at e; rw [e, hc2]; rfl⟩, (by show Q.length - (i + 1) < Q.length - i; omega), le_app (And.intro rfl (True.intro)) [4, 7, 8, 9, 10, 11] rfl (And.intro rfl (True.intro)) [4, 8, 9] rfl⟩
                    · skip
                      refine l_nil ?_
                      refine kt_norm ?_
                      refine v_sel [12, 4, 7, 8, 9, 10, 11, 88] [4, 8, 9, 11] rfl rfl ?_
                      refine v_condF rfl ?_
                      refine v_skip ?_
                      refine kt_norm ?_
                      refine v_seq ?_
                      refine v_drawW [] [[], [], [], [], [], [], [4]] mixed ?_ (by kernel_rfl) (by kernel_rfl)
                      refine d_val (fun _ => rfl) rfl rfl (fun σ17 => o_move rfl) ?_
                      refine d_val (fun _ => rfl) rfl rfl (fun σ17 => o_move rfl) ?_
                      refine d_no (fun _ => rfl) ?_
                      refine d_no (fun _ => rfl) ?_
                      refine d_no (fun _ => rfl) ?_
                      refine d_no (fun _ => rfl) ?_
                      refine d_no (fun _ => rfl) ?_
                      refine d_nil (fun σ17 => ?_)
                      refine l_no rfl ?_
                      refine l_val rfl (o_pickF rfl rfl) ?_
                      refine l_nil ?_
                      refine kt_norm ?_
                      refine v_condF rfl ?_
                      refine v_skip ?_
                      refine kb_norm ?_
                      refine kt_norm ?_
                      refine v_region ?_
                      refine l_val rfl (o_move rfl) ?_
                      refine l_val rfl (o_addi rfl rfl ?_) ?_
                      · omega
                      refine l_val rfl (o_assign rfl) ?_
                      refine l_nil ?_
                      refine kt_norm ?_
                      refine ⟨(i + 1, a0, a1, a2), ⟨hil, by have e := hcs0; rw [hl0] at e; rw [e, hc0]; rfl, by have e := hcs1; rw [hl1] at e; rw [e, hc1]; rfl, by have e := hcs2; rw [hl2] at e; rw [e, hc2]; rfl⟩, (by show Q.length - (i + 1) < Q.length - i; omega), le_app (And.intro rfl (True.intro)) [4, 7, 8, 9, 10, 11] rfl (And.intro rfl (True.intro)) [4, 8, 9] rfl⟩
              · skip
                refine l_nil ?_
                refine kt_norm ?_
                refine v_condF rfl ?_
                refine v_exit ?_
                refine kt_exit ?_
                refine kt_exit ?_
                refine kb_eq ?_
                refine kt_norm ?_
                refine v_sel [11] [11] rfl rfl ?_
                refine v_seq ?_
                refine v_region ?_
                obtain rfl : i = Q.length := by omega
                rw [List.take_length] at hc0 hc1 hc2
                refine l_val rfl (o_idxA 0 rfl rfl rfl (by decide)) ?_
                refine l_val rfl (o_load1 (key := 11) rfl rfl rfl) ?_
                refine l_split rfl (o_geq rfl rfl) (fun q8 => ?_) (fun q8 => absurd (show _ by omega) q8)
                refine l_val rfl (o_move rfl) ?_
                refine l_val rfl (o_idxA 1 rfl rfl rfl (by decide)) ?_
                refine l_val rfl (o_load1 (key := 11) rfl rfl rfl) ?_
                refine l_split rfl (o_geq rfl rfl) (fun q9 => ?_) (fun q9 => absurd (show _ by omega) q9)
                refine l_val rfl (o_pickT rfl rfl) ?_
                refine l_val rfl (o_move rfl) ?_
                refine l_val rfl (o_idxA 2 rfl rfl rfl (by decide)) ?_
                refine l_val rfl (o_load1 (key := 11) rfl rfl rfl) ?_
                refine l_split rfl (o_geq rfl rfl) (fun q10 => ?_) (fun q10 => absurd (show _ by omega) q10)
                refine l_val rfl (o_pickT rfl rfl) ?_
                refine l_val rfl (o_assign rfl) ?_
                refine l_nil ?_
                refine kt_norm ?_
                refine v_sel [6] [11] rfl rfl ?_
                refine v_ret ?_
                refine ⟨[_], .cons (.tmp rfl) (ResAll.nil), ?_⟩
                rfl
      · skip
        refine l_val rfl (o_not rfl rfl) ?_
        refine l_val rfl (o_pickF rfl rfl) ?_
        refine l_val rfl (o_move rfl) ?_
        refine l_no rfl ?_
        refine l_no rfl ?_
        refine l_val rfl (o_pickT rfl rfl) ?_
        refine l_val rfl (o_move rfl) ?_
        refine l_no rfl ?_
        refine l_no rfl ?_
        refine l_val rfl (o_pickT rfl rfl) ?_
        refine l_val rfl (o_move rfl) ?_
        refine l_no rfl ?_
        refine l_no rfl ?_
        refine l_val rfl (o_pickT rfl rfl) ?_
        refine l_nil ?_
        refine kt_norm ?_
        refine v_sel [2, 3, 4, 37] [3, 4] rfl rfl ?_
        refine v_condT rfl ?_
        refine v_seq ?_
        refine v_region ?_
        refine l_call (ks := []) rfl (o_callC (vs := []) (r := .bool true) (ent_of Try.func14 rfl rfl) rfl (fun w' hg hh => a_shown w')) ?_
        refine l_val rfl (o_assign rfl) ?_
        refine l_nil ?_
        refine kt_norm ?_
        refine v_ret ?_
        refine kt_ret ?_
        refine ⟨[_], .cons (.tmp rfl) (ResAll.nil), ?_⟩
        rfl
  · skip
    refine l_val rfl (o_not rfl rfl) ?_
    refine l_val rfl (o_move rfl) ?_
    refine l_no rfl ?_
    refine l_no rfl ?_
    refine l_no rfl ?_
    refine l_val rfl (o_pickT rfl rfl) ?_
    refine l_val rfl (o_move rfl) ?_
    refine l_no rfl ?_
    refine l_no rfl ?_
    refine l_no rfl ?_
    refine l_val rfl (o_pickT rfl rfl) ?_
    refine l_val rfl (o_move rfl) ?_
    refine l_no rfl ?_
    refine l_no rfl ?_
    refine l_val rfl (o_pickT rfl rfl) ?_
    refine l_val rfl (o_move rfl) ?_
    refine l_no rfl ?_
    refine l_no rfl ?_
    refine l_val rfl (o_pickT rfl rfl) ?_
    refine l_val rfl (o_move rfl) ?_
    refine l_no rfl ?_
    refine l_no rfl ?_
    refine l_val rfl (o_pickT rfl rfl) ?_
    refine l_nil ?_
    refine kt_norm ?_
    refine v_sel [2, 3, 4, 37] [3, 4] rfl rfl ?_
    refine v_condT rfl ?_
    refine v_seq ?_
    refine v_region ?_
    refine l_call (ks := []) rfl (o_callC (vs := []) (r := .bool true) (ent_of Try.func14 rfl rfl) rfl (fun w' hg hh => a_shown w')) ?_
    refine l_val rfl (o_assign rfl) ?_
    refine l_nil ?_
    refine kt_norm ?_
    refine v_ret ?_
    refine kt_ret ?_
    refine ⟨[_], .cons (.tmp rfl) (ResAll.nil), ?_⟩
    rfl
end Go.Proofs.Ytpgjbalnipinoaa

/- A piece around a point. Conditions: none. -/
namespace Go.Proofs.Ytpgjbalnipinoaa
open Go.Proofs Go.RowKit Go.Shelf

section
variable {C : Cx} {K : Exit → St → Prop} {ops : Array Oper} {rest : List Oper} {l : List (Nat × Value)} {m m' : List (Nat × Hp)} {g : World → Prop} {gb : Nat → Prop} {dd : List Nat} {i : Nat} {ty T E : TypeId} {pos : String} {aft : Array Edge} {gd : Option (Nat × Bool)} {x z : Operand} {n esz : Nat}
/-- a slice is made, of elements of whatever size -/
theorem l_mkW {by_ : Nat} {zv : Value} [ht : TSl C.P T E esz] [he : TElem C.P E zv esz by_] {cs : List Value} (hw : wantS C (mk l m g gb dd) ops ⟨some i, .makeSlice T x z, ty, pos, aft, gd⟩ = some true) (h : ev C (mk l m g gb dd) x = some (.int .i64 (n : Int))) (h2 : ev C (mk l m g gb dd) z = some (.int .i64 (n : Int))) (hmc : (madeCells zv.cells (n * esz)).toList = cs) (hn : Nat.ble n 1000 = true) (hsz : Nat.ble esz 100 = true) (hby : Nat.ble by_ 128 = true)
    (next : ∀ b, VL C ops rest K (mk ((i, .slice (some ⟨b, 0, none⟩) n n) :: l) ((i, .box b E cs) :: m) g gb dd)) : VL C ops (⟨some i, .makeSlice T x z, ty, pos, aft, gd⟩ :: rest) K (mk l m g gb dd) :=
  vl_new hw (X := fun b => .slice (some ⟨b, 0, none⟩) n n) (T := E) (cs := cs) ⟨by simp, fun ρ w hr => by
    obtain ⟨ie, hi, hz', hs2, hb⟩ := he.h
    have hby' : by_ ≤ 128 := Nat.le_of_ble_eq_true hby
    have hn' : n ≤ 1000 := Nat.le_of_ble_eq_true hn
    have hsz' : esz ≤ 100 := Nat.le_of_ble_eq_true hsz
    have hbb : (by_ : Int) * n ≤ 281474976710656 := by
      have h1 : by_ * n ≤ 128 * 1000 := Nat.mul_le_mul hby' hn'
      have h2 : ((by_ * n : Nat) : Int) ≤ 128000 := by omega
      rw [Int.natCast_mul] at h2; omega
    have hce : n * esz ≤ 1000 * 100 := Nat.mul_le_mul hn' hsz'
    have hm := run_makeSlice (P := C.P) (w := w) T E ie zv ht.h hi hz' .i64 .i64 (n : Int) (n : Int) (by omega) (Int.le_refl _) (by rw [hs2]; simp; omega) (by rw [hb]; exact hbb) (by omega)
    rw [hs2] at hm
    simp only [Int.toNat_natCast] at hm
    rw [show madeCells zv.cells (n * esz) = cs.toArray by rw [← hmc]] at hm
    simp [execOp, rd1 hr (x := x) (by simp [Op.operands]) h, rd1 hr (x := z) (by simp [Op.operands]) h2, Sem.run_bind, Result.andThen, hm]⟩ rfl fun b => by simp only [appS, mk_mem, mk_put]; exact next b
end
def addP (p c : PtT) : PtT := ⟨p.x + c.x, p.y + c.y⟩
/-- the first i corners are there -/
structure ArQ (p : PtT) (cs : List PtT) (i : Nat) (cur : List PtT) : Prop where
  len : cur.length = cs.length
  le : i ≤ cs.length
  at_ : ∀ j, j < i → cur.getD j dP = addP p (cs.getD j dP)
theorem ArQ.step {p : PtT} {cs cur : List PtT} {i : Nat} (h : ArQ p cs i cur) (hi : i < cs.length) : ArQ p cs (i + 1) (cur.set i (addP p (cs.getD i dP))) := by
  have hl := h.len
  refine ⟨by rw [List.length_set]; exact hl, hi, fun j hj => ?_⟩
  rw [setP (by omega)]
  by_cases e : j = i
  · rw [if_pos e, e]
  · rw [if_neg e]; exact h.at_ j (by omega)
theorem ArQ.done {p : PtT} {cs cur : List PtT} (h : ArQ p cs cs.length cur) : cur = cs.map (addP p) := by
  have hl := h.len
  refine List.ext_getElem (by rw [hl, List.length_map]) fun j h1 h2 => ?_
  have := h.at_ j (by omega)
  rw [List.getD_eq_getElem?_getD, List.getElem?_eq_getElem h1, List.getD_eq_getElem?_getD, List.getElem?_eq_getElem (by omega)] at this
  rw [List.getElem_map]; exact this
theorem around_near {p : PtT} (hp : (-536870912 ≤ p.x ∧ p.x ≤ 536870912) ∧ (-536870912 ≤ p.y ∧ p.y ≤ 536870912)) {cs : List PtT} (hcb : ∀ j, j < cs.length → BdT (cs.getD j dP)) : ∀ q ∈ cs.map (addP p), NearT q := by
  intro q hq
  obtain ⟨c, hc, rfl⟩ := List.mem_map.1 hq
  obtain ⟨j, hj, rfl⟩ := List.getElem_of_mem hc
  have := hcb j hj
  rw [List.getD_eq_getElem?_getD, List.getElem?_eq_getElem hj] at this
  have h : BdT cs[j] := this
  unfold BdT at h
  unfold NearT addP; dsimp only; omega
set_option maxHeartbeats 2000000 in
theorem a_around (w : World) (v : Value) (pvs : List Value) (qs : List (List PtT)) (p : PtT) (hv : PcsW v pvs qs) (hcp : Capd v) (hat : PcsAt w v pvs qs) (hql : qs.length ≤ 2000) (hp : (-536870912 ≤ p.x ∧ p.x ≤ 536870912) ∧ (-536870912 ≤ p.y ∧ p.y ≤ 536870912)) (cv : Value) (cs : List PtT) (hcl : cs.length = 4) (hVc : RowV cv cs.length) (hcr : RowAt w cv 2 cs.length (cs.flatMap eP)) (hcb : ∀ j, j < cs.length → BdT (cs.getD j dP)) :
    Calls Try.prog 55 #[v, .agg #[.int .i64 p.x, .int .i64 p.y], cv] w fun e w' => ∃ x : PutsY v pvs qs (putT qs (cs.map (addP p))), e = .returned x.1.1 ∧ Below w.heap.size w w' ∧ SaidOk w' x.1.2.2.1 x.1.2.2.2 ∧ ∀ b, x.1.2.2.2 b → w.heap.size ≤ b := by
  have hrc : ∀ w', Chg (fun _ => False) w w' → RowAt w' cv 2 cs.length (cs.flatMap eP) := fun w' h => hcr.chg h (fun h => h)
  obtain ⟨a0, c0, rfl⟩ := hv.V.sl
  have hlm : (cs.map (addP p)).length = 4 := by rw [List.length_map]; exact hcl
  have hnear := around_near hp hcb
  refine calls_said (args := [.slice a0 qs.length c0, .agg #[.int .i64 p.x, .int .i64 p.y], cv]) (fun x : PutsY (.slice a0 qs.length c0) pvs qs (putT qs (cs.map (addP p))) => x.1.1) (fun x w' => SaidOk w' x.1.2.2.1 x.1.2.2.2) (fun x b => x.1.2.2.2 b) Try.func55 rfl Try.ntmps55 Try.results55 rfl ?_
  refine v_seq ?_
  refine v_region ?_
  refine l_new rfl (o_box (cs := [_, _]) rfl rfl) fun b4 => ?_
  refine l_val rfl (o_assign rfl) ?_
  refine l_nil ?_
  refine kt_norm ?_
  refine v_seq ?_
  refine v_region ?_
  refine l_val rfl (o_move rfl) ?_
  refine l_val rfl (o_len rfl (hcl ▸ hVc)) ?_
  refine l_mkW (n := 4) (cs := ([dP, dP, dP, dP] : List PtT).flatMap eP) rfl rfl rfl (by kernel_rfl) rfl rfl rfl fun b12 => ?_
  refine l_toOwn (n := 4) 12 [4] 2 rfl rfl rfl rfl rfl rfl ?_
  refine l_val rfl (o_assign rfl) ?_
  refine l_nil ?_
  refine kt_norm ?_
  refine v_seq ?_
  refine v_seq ?_
  refine v_region ?_
  refine l_val rfl (o_move rfl) ?_
  refine l_val rfl (o_len rfl hVc) ?_
  refine l_val rfl (o_move rfl) ?_
  refine l_nil ?_
  refine kt_norm ?_
  refine v_sel [0, 4, 7, 13, 14, 15] [4, 12] rfl rfl ?_
  refine v_block ?_
  refine v_loopS (α := Nat × List PtT) (fun ⟨i, cur⟩ => [(15, .int .i64 (i : Int))]) (fun ⟨i, cur⟩ => [(12, Hp.own (.slice (some ⟨b12, 0, none⟩) 4 4) 23 2 4 (cur.flatMap eP))])  (fun ⟨i, cur⟩ => ArQ p cs i cur) (fun ⟨i, cur⟩ => cs.length - i) (0, [dP, dP, dP, dP]) [0, 4, 7, 13, 14] [4] ⟨by rw [hcl]; rfl, Nat.zero_le _, fun j h => by omega⟩  (And.intro rfl (True.intro)) rfl (And.intro rfl (True.intro)) rfl ?_
  rintro ⟨i, cur⟩ hQ
  refine v_seq ?_
  refine v_region ?_
  refine l_split rfl (o_lss rfl rfl) (fun q1 => ?_) (fun q1 => ?_)
  · have hil : i < cs.length := by omega
    have hci := hcb i hil
    have hcu := hQ.len
    unfold BdT at hci
    refine l_nil ?_
    refine kt_norm ?_
    refine v_seq ?_
    refine v_condT rfl ?_
    refine v_skip ?_
    refine kt_norm ?_
    refine v_seq ?_
    refine v_block ?_
    refine v_seq ?_
    refine v_region ?_
    refine l_val rfl (o_move rfl) ?_
    refine l_val rfl (o_idx (i) rfl hVc rfl (by first | rfl | omega) (by omega)) ?_
    refine l_val rfl (o_loadRE (c' := [_, _]) rfl (row_imm hrc) (el_flat eP_len dP cs (i) (by omega)) rfl) ?_
    refine l_new rfl o_alloc fun b9 => ?_
    refine l_val rfl (o_assign rfl) ?_
    refine l_store rfl (o_storeW (key := 9) (xs := [_, _]) rfl rfl rfl rfl rfl rfl rfl) ?_
    refine l_nil ?_
    refine kt_norm ?_
    refine v_region ?_
    refine l_val rfl (o_move rfl) ?_
    refine l_val rfl (o_move rfl) ?_
    refine l_val rfl (o_loadW (key := 4) rfl rfl rfl) ?_
    refine l_val rfl (o_loadW (key := 9) rfl rfl rfl) ?_
    refine l_ans (vs := [_, _]) rfl rfl (a_PAdd _ _ _ _ ?_ ?_ ?_ ?_) ?_
    · omega
    · omega
    · omega
    · omega
    refine l_val rfl (o_idx (i) rfl (.inl ⟨_, _, _, rfl⟩) rfl (by first | rfl | omega) (by omega)) ?_
    refine l_store rfl (o_storeRE (key := 12) (c := [_, _]) (by decide) rfl rfl rfl rfl rfl rfl (by omega)) ?_
    refine l_nil ?_
    refine kb_norm ?_
    refine kt_norm ?_
    refine v_sel [15, 0, 4, 7, 13, 14] [4, 12] rfl rfl ?_
    refine v_region ?_
    refine l_val rfl (o_addi rfl rfl ?_) ?_
    · omega
    refine l_val rfl (o_move rfl) ?_
    refine l_nil ?_
    refine kt_norm ?_
    refine ⟨(i + 1, cur.set i (addP p (cs.getD i dP))), (hQ.step hil), (by show cs.length - (i + 1) < cs.length - i; omega), le_app (And.intro rfl (True.intro)) [0, 4, 7, 13, 14] rfl (And.intro (congrArg some (own_congr rfl (flat_set eP_len cur i (addP p (cs.getD i dP)) (by omega)))) (True.intro)) [4] rfl⟩
  · skip
    refine l_nil ?_
    refine kt_norm ?_
    refine v_seq ?_
    refine v_condF rfl ?_
    refine v_exit ?_
    refine kt_exit ?_
    refine kt_exit ?_
    refine kb_eq ?_
    refine kt_norm ?_
    refine v_seq ?_
    refine v_region ?_
    obtain rfl : i = cs.length := by have := hQ.le; omega
    obtain rfl := hQ.done
    refine l_val rfl (o_move rfl) ?_
    refine l_val rfl (o_move rfl) ?_
    refine l_hsaid (ks := [12]) (caps := #[]) (vs := [_, _]) (α := PutY qs.length (cs.map (addP p))) (fun o => putV _ o.1) (fun o w2 => putG pvs (cs.map (addP p)) o.1 w2) (fun o b => putB o.1 b) rfl rfl (ent_of Try.func59 rfl rfl) rfl (fun o => putG_keep o.1) (fun o => putG_cells o.1) (fun w' hg hh => a_Put w' a0 qs.length c0 pvs _ (cs.map (addP p)) (by omega) (hcp _ _ _ rfl) hv.V (hat.keep hg).row (by rw [hlm]; omega) (by rw [hlm]; exact .inl ⟨_, _, _, rfl⟩) (by rw [hlm]; exact rowAt_own (hh 12 (by simp) _ rfl)) hnear) fun o => ?_
    refine l_val rfl (o_assign rfl) ?_
    refine l_nil ?_
    refine kt_norm ?_
    refine v_sel [6] [12, 29] rfl rfl ?_
    refine v_ret ?_
    refine ⟨[_], .cons (.tmp rfl) (ResAll.nil), ?_⟩
    exact ⟨⟨(putV _ o.1, putW pvs o.1, fun w2 => putG pvs _ o.1 w2, fun b => putB o.1 b), pcsW_put hv (by omega) o, capd_put hcp o.1, fun w2 h hg => pcsAt_put hv h o hg⟩, rfl, fun w' ho => ⟨(ho.mo 29 _ rfl).1, fun b hb => ((ho.mo 29 _ rfl).2 b hb).elim id False.elim⟩⟩
end Go.Proofs.Ytpgjbalnipinoaa
