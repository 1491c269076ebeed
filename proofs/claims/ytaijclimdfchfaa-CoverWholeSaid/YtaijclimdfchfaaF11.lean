import Derived.Test.YtaijclimdfchfaaF10
import Derived.Test.YtaijclimdfchfaaF7
/- One pixel of a cover; what is measured, and its value. Conditions: none. -/
namespace Go.Proofs.Ytaijclimdfchfaa
open Go.Proofs Go.RowKit Go.Shelf

theorem l_gownF {C : Cx} {K : Exit → St → Prop} {ops : Array Oper} {rest : List Oper} {l : List (Nat × Value)} {m : List (Nat × Hp)} {g : World → Prop} {gb : Nat → Prop} {dd : List Nat} {i : Nat} {ty : TypeId} {pos : String} {aft : Array Edge} {gd : Option (Nat × Bool)} {ks : List Nat} {E : TypeId} {n esz : Nat} {xs : List Value}
    {f : Nat} {cal : Operand} {as_ : Array Operand} {ts : Array TypeId} {vs : List Value} (F : Value → Value) (hw : wantS C (mk l m g gb dd) ops ⟨some i, .call { callee := .value cal, args := as_, argTypes := ts }, ty, pos, aft, gd⟩ = some true) {caps : Array Value} (hcal : ev C (mk l m g gb dd) cal = some (.func (.func f) #[] caps)) (hent : ∀ args w, (callFunc f args).run C.P w = .ok (.enter f args) w) (hargs : evs C (mk l m g gb dd) as_.toList = some vs)
    (hc : ∀ w, g w → Held (mk l m g gb dd) ks w → Calls C.P f (vs.toArray ++ caps) w fun e w' => ∃ y, e = .returned (F y) ∧ Below w.heap.size w w' ∧ OwnAt w.heap.size w' y E esz n xs)
    (next : ∀ y, RowV y n → VL C ops rest K (mk ((i, F y) :: l) ((i, .own y E esz n xs) :: m) g gb dd)) : VL C ops (⟨some i, .call { callee := .value cal, args := as_, argTypes := ts }, ty, pos, aft, gd⟩ :: rest) K (mk l m g gb dd) :=
  vl_step hw fun a w hr => call_step (R := fun u w' => ∃ y, u = F y ∧ Below w.heap.size w w' ∧ OwnAt w.heap.size w' y E esz n xs) hr hcal hent hargs ((hc w hr.gh (held_of hr ks)).mono fun e w' ⟨y, h1, h2⟩ => ⟨F y, h1, y, rfl, h2⟩) fun u w' ⟨y, h0, h1, h2⟩ =>
    ⟨mk ((i, F y) :: l) ((i, .own y E esz n xs) :: m) g gb dd, by subst h0; rw [← mk_put]; exact rep_put (rep_newOwn hr h1 h2.1 (fun b hb => h2.2 b hb) i) (some i) _, next y h2.rowV⟩
theorem el_u8 {l : List Int} {i : Nat} (h : i < l.length) : El (iU l) 1 i [.int .u8 (l.getD i 0)] := ⟨rfl, fun f hf => by
  obtain rfl : f = 0 := by omega
  rw [Nat.mul_one, Nat.add_zero, iU, List.getElem?_map, List.getElem?_eq_getElem h, List.getD_eq_getElem?_getD, List.getElem?_eq_getElem h]; rfl⟩
/-- a pixel of an image; nought where there is none -/
def atT (n h : Nat) (pix : List Int) (x y : Int) : Int := if (0 ≤ x ∧ x < n) ∧ (0 ≤ y ∧ y < h) then pix.getD (y * n + x).toNat 0 else 0
theorem at_ix {n h : Nat} {x y : Int} (h1 : 0 ≤ x ∧ x < n) (h2 : 0 ≤ y ∧ y < h) : 0 ≤ y * n ∧ 0 ≤ y * n + x ∧ y * n + x < ((n * h : Nat) : Int) ∧ y * n ≤ ((n * h : Nat) : Int) := by
  have e1 : 0 ≤ y * (n : Int) := Int.mul_nonneg h2.1 (by omega)
  have e2 : y * (n : Int) ≤ ((h : Int) - 1) * n := Int.mul_le_mul_of_nonneg_right (by omega) (by omega)
  have e3 : ((h : Int) - 1) * n = ((n * h : Nat) : Int) - n := by rw [Int.sub_mul, Int.one_mul, Int.natCast_mul, Int.mul_comm]
  omega
/-- bounds of the statements on covers -/
def BndQ (pc : List PtT) : Prop := pc.length ≤ 10 ∧ ∀ m, m < pc.length → NearT (pc.getD m dP)
instance (pc : List PtT) : Decidable (BndQ pc) := by unfold BndQ; infer_instance
def Bn21 (ps : List (List PtT)) : Prop := ps.length ≤ 12 ∧ ∀ i, i < ps.length → BndQ (ps.getD i [])
instance (ps : List (List PtT)) : Decidable (Bn21 ps) := by unfold Bn21; infer_instance
theorem Bn21.bnd {ps : List (List PtT)} (h : Bn21 ps) : Bnd ps := ⟨by have := h.1; omega, fun i hi => ⟨by have := (h.2 i hi).1; omega, (h.2 i hi).2⟩⟩
theorem a_within (x n : Int) : Ans Try.prog 51 [.int .i64 x, .int .i64 n] (.bool (decide (0 ≤ x ∧ x < n))) := by
  refine ans_of Try.func51 rfl Try.ntmps51 Try.results51 rfl rfl fun w => ?_
  refine v_seq ?_
  refine v_region ?_
  refine l_val rfl (o_assign rfl) ?_
  refine l_nil ?_
  refine kt_norm ?_
  refine v_seq ?_
  refine v_region ?_
  refine l_val rfl (o_move rfl) ?_
  refine l_split rfl (o_leq rfl rfl) (fun q1 => ?_) (fun q1 => ?_)
  · first
    | (exfalso; omega; done)
    | (
        refine l_val rfl (o_move rfl) ?_
        refine l_val rfl (o_move rfl) ?_
        refine l_val rfl (o_move rfl) ?_
        refine l_split rfl (o_lss rfl rfl) (fun q2 => ?_) (fun q2 => ?_)
        · first
          | (exfalso; omega; done)
          | (
              refine l_val rfl (o_pickT rfl rfl) ?_
              refine l_val rfl (o_assign rfl) ?_
              refine l_nil ?_
              refine kt_norm ?_
              refine v_sel [4] [] rfl rfl ?_
              refine v_ret ?_
              refine ⟨[_], .cons (.tmp rfl) (ResAll.nil), ?_⟩
              exact congrArg Value.bool (by first | exact (decide_eq_true (by omega)).symm | exact (decide_eq_false (by omega)).symm))
        · first
          | (exfalso; omega; done)
          | (
              refine l_val rfl (o_pickT rfl rfl) ?_
              refine l_val rfl (o_assign rfl) ?_
              refine l_nil ?_
              refine kt_norm ?_
              refine v_sel [4] [] rfl rfl ?_
              refine v_ret ?_
              refine ⟨[_], .cons (.tmp rfl) (ResAll.nil), ?_⟩
              exact congrArg Value.bool (by first | exact (decide_eq_true (by omega)).symm | exact (decide_eq_false (by omega)).symm)))
  · first
    | (exfalso; omega; done)
    | (
        refine l_val rfl (o_move rfl) ?_
        refine l_no rfl ?_
        refine l_no rfl ?_
        refine l_no rfl ?_
        refine l_val rfl (o_pickF rfl rfl) ?_
        refine l_val rfl (o_assign rfl) ?_
        refine l_nil ?_
        refine kt_norm ?_
        refine v_sel [4] [] rfl rfl ?_
        refine v_ret ?_
        refine ⟨[_], .cons (.tmp rfl) (ResAll.nil), ?_⟩
        exact congrArg Value.bool (by first | exact (decide_eq_true (by omega)).symm | exact (decide_eq_false (by omega)).symm))
theorem a_AtC (w : World) (pv : Value) (n h : Nat) (pix : List Int) (x y : Int) (hnh : n * h ≤ 65536) (hl : pix.length = n * h) (hV : RowV pv pix.length) (hrow : RowAt w pv 1 pix.length (iU pix)) :
    Calls Try.prog 27 #[.agg #[.int .i64 (n : Int), .int .i64 (h : Int), pv], .int .i64 x, .int .i64 y] w fun e w' => e = .returned (.int .u8 (atT n h pix x y)) ∧ Below w.heap.size w w' := by
  have hr : ∀ w', Chg (fun _ => False) w w' → RowAt w' pv 1 pix.length (iU pix) := fun w' h => hrow.chg h (fun h => h)
  have hnn : (n : Int) ≤ 65536 ∨ h = 0 := by rcases Nat.eq_zero_or_pos h with e | e; exact .inr e; left; have := Nat.mul_le_mul_left n e; omega
  obtain ⟨ap, cp, rfl⟩ := hV.sl
  refine calls_of (args := [.agg #[.int .i64 (n : Int), .int .i64 (h : Int), .slice ap pix.length cp], .int .i64 x, .int .i64 y]) Try.func27 rfl Try.ntmps27 Try.results27 rfl ?_
  refine v_seq ?_
  refine v_region ?_
  refine l_new rfl (o_box (cs := [_, _, _]) rfl rfl) fun b3 => ?_
  refine l_val rfl (o_assign rfl) ?_
  refine l_nil ?_
  refine kt_norm ?_
  refine v_seq ?_
  refine v_seq ?_
  refine v_region ?_
  skip
  refine l_val rfl (o_move rfl) ?_
  refine l_val rfl (o_fld rfl) ?_
  refine l_val rfl (o_load1 (key := 3) rfl rfl rfl) ?_
  refine l_ans (vs := [_, _]) rfl rfl (a_within _ _) ?_
  refine lz_bool (fun hwx => ?_) (fun hwx => ?_)
  · skip
    refine l_val rfl (o_not rfl rfl) ?_
    refine l_val rfl (o_move rfl) ?_
    refine l_val rfl (o_move rfl) ?_
    refine l_val rfl (o_fld rfl) ?_
    refine l_val rfl (o_load1 (key := 3) rfl rfl rfl) ?_
    refine l_ans (vs := [_, _]) rfl rfl (a_within _ _) ?_
    refine lz_bool (fun hwy => ?_) (fun hwy => ?_)
    · skip
      refine l_val rfl (o_not rfl rfl) ?_
      refine l_val rfl (o_pickF rfl rfl) ?_
      refine l_nil ?_
      refine kt_norm ?_
      refine v_sel [1, 2, 3, 18] [3] rfl rfl ?_
      refine v_condF rfl ?_
      refine v_skip ?_
      refine kt_norm ?_
      refine v_seq ?_
      refine v_region ?_
      have hix := at_ix hwx hwy
      refine l_val rfl (o_fld rfl) ?_
      refine l_val rfl (o_load1 (key := 3) rfl rfl rfl) ?_
      refine l_val rfl (o_move rfl) ?_
      refine l_val rfl (o_fld rfl) ?_
      refine l_val rfl (o_load1 (key := 3) rfl rfl rfl) ?_
      refine l_val rfl (o_muli rfl rfl ?_) ?_
      · omega
      refine l_val rfl (o_move rfl) ?_
      refine l_val rfl (o_addi rfl rfl ?_) ?_
      · omega
      refine l_val rfl (o_idx ((y * n + x).toNat) rfl hV rfl (by omega) (by omega)) ?_
      refine l_val rfl (o_loadR1 rfl (row_imm hr) (el_u8 (l := pix) (i := (y * n + x).toNat) (by omega))) ?_
      refine l_val rfl (o_assign rfl) ?_
      refine l_nil ?_
      refine kt_norm ?_
      refine v_sel [6] [] rfl rfl ?_
      refine v_ret ?_
      refine ⟨[_], .cons (.tmp rfl) (ResAll.nil), ?_⟩
      first
        | exact congrArg (Value.int .u8) (if_pos ⟨hwx, hwy⟩).symm
        | exact congrArg (Value.int .u8) (if_neg (fun hc => hwx hc.1)).symm
        | exact congrArg (Value.int .u8) (if_neg (fun hc => hwy hc.2)).symm
    · skip
      refine l_val rfl (o_not rfl rfl) ?_
      refine l_val rfl (o_pickF rfl rfl) ?_
      refine l_nil ?_
      refine kt_norm ?_
      refine v_sel [1, 2, 3, 18] [3] rfl rfl ?_
      refine v_condT rfl ?_
      refine v_seq ?_
      refine v_region ?_
      refine l_val rfl (o_assign rfl) ?_
      refine l_nil ?_
      refine kt_norm ?_
      refine v_ret ?_
      refine kt_ret ?_
      refine ⟨[_], .cons (.tmp rfl) (ResAll.nil), ?_⟩
      first
        | exact congrArg (Value.int .u8) (if_pos ⟨hwx, hwy⟩).symm
        | exact congrArg (Value.int .u8) (if_neg (fun hc => hwx hc.1)).symm
        | exact congrArg (Value.int .u8) (if_neg (fun hc => hwy hc.2)).symm
  · skip
    refine l_val rfl (o_not rfl rfl) ?_
    refine l_val rfl (o_move rfl) ?_
    refine l_no rfl ?_
    refine l_no rfl ?_
    refine l_no rfl ?_
    refine l_no rfl ?_
    refine l_no rfl ?_
    refine l_val rfl (o_pickT rfl rfl) ?_
    refine l_nil ?_
    refine kt_norm ?_
    refine v_sel [1, 2, 3, 18] [3] rfl rfl ?_
    refine v_condT rfl ?_
    refine v_seq ?_
    refine v_region ?_
    refine l_val rfl (o_assign rfl) ?_
    refine l_nil ?_
    refine kt_norm ?_
    refine v_ret ?_
    refine kt_ret ?_
    refine ⟨[_], .cons (.tmp rfl) (ResAll.nil), ?_⟩
    first
      | exact congrArg (Value.int .u8) (if_pos ⟨hwx, hwy⟩).symm
      | exact congrArg (Value.int .u8) (if_neg (fun hc => hwx hc.1)).symm
      | exact congrArg (Value.int .u8) (if_neg (fun hc => hwy hc.2)).symm
theorem a_view21 (X Y W H : Int) (hX : -32768 ≤ X ∧ X < 32768) (hY : -32768 ≤ Y ∧ Y < 32768) (hW : 0 ≤ W ∧ W < 256) (hH : 0 ≤ H ∧ H < 256) : Ans Try.prog 25 [.int .i16 X, .int .i16 Y, .int .u8 W, .int .u8 H] (.agg #[.int .i64 X, .int .i64 Y, .int .i64 (1 + W % 12), .int .i64 (1 + H % 8)]) := by
  refine ans_of Try.func25 rfl Try.ntmps25 Try.results25 rfl rfl fun w => ?_
  refine v_seq ?_
  refine v_region ?_
  refine l_new rfl o_alloc fun b8 => ?_
  refine l_nil ?_
  refine kt_norm ?_
  refine v_seq ?_
  refine v_region ?_
  refine l_val rfl (o_move rfl) ?_
  refine l_val rfl (o_convi rfl ?_) ?_
  · omega
  refine l_val rfl (o_move rfl) ?_
  refine l_val rfl (o_convi rfl ?_) ?_
  · omega
  refine l_val rfl (o_move rfl) ?_
  refine l_val rfl (o_convi rfl ?_) ?_
  · omega
  refine l_val rfl (o_remn rfl rfl ?_) ?_
  · omega
  refine l_val rfl (o_addi rfl rfl ?_) ?_
  · omega
  refine l_val rfl (o_move rfl) ?_
  refine l_val rfl (o_convi rfl ?_) ?_
  · omega
  refine l_val rfl (o_remn rfl rfl ?_) ?_
  · omega
  refine l_val rfl (o_addi rfl rfl ?_) ?_
  · omega
  refine l_val rfl (o_build (vs := [_, _, _, _]) (cs := [_, _, _, _]) rfl rfl) ?_
  refine l_store rfl (o_storeW (key := 8) (xs := [_, _, _, _]) rfl rfl rfl rfl rfl rfl rfl) ?_
  refine l_nil ?_
  refine kt_norm ?_
  refine v_sel [8] [8] rfl rfl ?_
  refine v_ret ?_
  refine ⟨[_], .cons (.cellW (key := 8) rfl rfl rfl) (ResAll.nil), ?_⟩
  rfl
theorem a_bounded21 (w : World) (v : Value) (pvs : List Value) (ps : List (List PtT)) (hv : PcsW v pvs ps) (hat : PcsAt w v pvs ps) : Calls Try.prog 23 #[v] w fun e w' => e = .returned (.bool (decide (Bn21 ps))) ∧ Below w.heap.size w w' := by
  have hVp := hv.V
  have hlen := hv.len
  have hrowP : ∀ w', Chg (fun _ => False) w w' → RowAt w' v 1 ps.length pvs := fun w' h => (hat.keep h).row
  refine calls_of (args := [v]) Try.func23 rfl Try.ntmps23 Try.results23 rfl ?_
  refine v_seq ?_
  refine v_region ?_
  refine l_val rfl (o_assign rfl) ?_
  refine l_nil ?_
  refine kt_norm ?_
  refine v_seq ?_
  refine v_seq ?_
  refine v_region ?_
  refine l_val rfl (o_assign rfl) ?_
  refine l_nil ?_
  refine kt_norm ?_
  refine v_block ?_
  refine v_loopS (α := Nat) (fun i => [(3, .int .i64 (i : Int))]) (fun i => [])  (fun i => i ≤ ps.length ∧ ∀ k, k < i → BndQ (ps.getD k [])) (fun i => ps.length - i) 0 [0] [] ⟨by omega, fun k h => by omega⟩  (And.intro rfl (True.intro)) rfl (True.intro) rfl ?_
  rintro i ⟨hi, hB⟩
  refine v_seq ?_
  refine v_seq ?_
  refine v_region ?_
  refine l_val rfl (o_move rfl) ?_
  refine l_val rfl (o_move rfl) ?_
  refine l_val rfl (o_len rfl hVp) ?_
  refine l_split rfl (o_lss rfl rfl) (fun q1 => ?_) (fun q1 => ?_)
  · have hil : i < ps.length := by omega
    obtain ⟨pc, hpc⟩ : ∃ pc, ps.getD i [] = pc := ⟨_, rfl⟩
    have hVq := hv.pV i hil
    have hrowQ : ∀ w', Chg (fun _ => False) w w' → RowAt w' (pvs.getD i undef) 2 (ps.getD i []).length ((ps.getD i []).flatMap eP) := fun w' h => (hat.keep h).pc i hil
    rw [hpc] at hVq hrowQ
    refine l_nil ?_
    refine kt_norm ?_
    refine v_condT rfl ?_
    refine v_skip ?_
    refine kt_norm ?_
    refine v_seq ?_
    refine v_block ?_
    refine v_seq ?_
    refine v_seq ?_
    refine v_region ?_
    refine l_val rfl (o_move rfl) ?_
    refine l_val rfl (o_move rfl) ?_
    refine l_val rfl (o_idx (i) rfl hVp rfl (by first | rfl | omega) (by omega)) ?_
    refine l_val rfl (o_loadR1 rfl (row_imm hrowP) (el_one (by rw [hv.lenv]; exact hil))) ?_
    refine l_val rfl (o_len rfl hVq) ?_
    refine l_split rfl (o_gtr rfl rfl) (fun h16 => ?_) (fun h16 => ?_)
    · skip
      refine l_nil ?_
      refine kt_norm ?_
      refine v_sel [3, 0, 16] [] rfl rfl ?_
      refine v_condT rfl ?_
      refine v_seq ?_
      refine v_region ?_
      refine l_val rfl (o_assign rfl) ?_
      refine l_nil ?_
      refine kt_norm ?_
      refine v_ret ?_
      refine kt_ret ?_
      refine kb_ret ?_
      refine kt_ret ?_
      refine kt_ret ?_
      refine kb_ret ?_
      refine kt_ret ?_
      refine ⟨[_], .cons (.tmp rfl) (ResAll.nil), ?_⟩
      first
        | exact congrArg Value.bool (decide_eq_false fun h => by have := (h.2 i hil).1; rw [hpc] at this; omega).symm
        | exact congrArg Value.bool (decide_eq_false fun h => by have := (h.2 i hil).2 j (by rw [hpc]; exact hjl); rw [hpc] at this; exact absurd this hnr).symm
        | exact congrArg Value.bool (decide_congr ⟨fun h => ⟨by omega, fun k hk => hB k (by omega)⟩, fun h => by have := h.1; omega⟩)
    · skip
      refine l_nil ?_
      refine kt_norm ?_
      refine v_sel [3, 0, 16] [] rfl rfl ?_
      refine v_condF rfl ?_
      refine v_skip ?_
      refine kt_norm ?_
      refine v_seq ?_
      refine v_region ?_
      refine l_val rfl (o_assign rfl) ?_
      refine l_nil ?_
      refine kt_norm ?_
      refine v_block ?_
      refine v_loopS (α := Nat) (fun j => [(4, .int .i64 (j : Int))]) (fun j => [])  (fun j => j ≤ pc.length ∧ ∀ k, k < j → NearT (pc.getD k dP)) (fun j => pc.length - j) 0 [3, 0] [] ⟨by omega, fun k h => by omega⟩  (And.intro rfl (True.intro)) rfl (True.intro) rfl ?_
      rintro j ⟨hj, hN⟩
      refine v_seq ?_
      refine v_seq ?_
      refine v_region ?_
      refine l_val rfl (o_move rfl) ?_
      refine l_val rfl (o_move rfl) ?_
      refine l_val rfl (o_move rfl) ?_
      refine l_val rfl (o_idx (i) rfl hVp rfl (by first | rfl | omega) (by omega)) ?_
      refine l_val rfl (o_loadR1 rfl (row_imm hrowP) (el_one (by rw [hv.lenv]; exact hil))) ?_
      refine l_val rfl (o_len rfl hVq) ?_
      refine l_split rfl (o_lss rfl rfl) (fun q2 => ?_) (fun q2 => ?_)
      · have hjl : j < pc.length := by omega
        refine l_nil ?_
        refine kt_norm ?_
        refine v_sel [4, 3, 0, 23] [] rfl rfl ?_
        refine v_condT rfl ?_
        refine v_skip ?_
        refine kt_norm ?_
        refine v_seq ?_
        refine v_block ?_
        refine v_seq ?_
        refine v_region ?_
        refine l_val rfl (o_move rfl) ?_
        refine l_val rfl (o_move rfl) ?_
        refine l_val rfl (o_idx (i) rfl hVp rfl (by first | rfl | omega) (by omega)) ?_
        refine l_val rfl (o_loadR1 rfl (row_imm hrowP) (el_one (by rw [hv.lenv]; exact hil))) ?_
        refine l_val rfl (o_move rfl) ?_
        refine l_val rfl (o_idx (j) rfl hVq rfl (by first | rfl | omega) (by omega)) ?_
        refine l_val rfl (o_loadRE (c' := [_, _]) rfl (row_imm hrowQ) (el_flat eP_len dP pc (j) (by omega)) rfl) ?_
        refine l_ans (vs := [_]) rfl rfl (a_Near (pc.getD j dP)) ?_
        refine lz_bool (fun hnr => ?_) (fun hnr => ?_)
        · skip
          refine l_val rfl (o_not rfl rfl) ?_
          refine l_nil ?_
          refine kt_norm ?_
          refine v_sel [4, 3, 0, 34] [] rfl rfl ?_
          refine v_condF rfl ?_
          refine v_skip ?_
          refine kb_norm ?_
          refine kt_norm ?_
          refine v_region ?_
          refine l_val rfl (o_move rfl) ?_
          refine l_val rfl (o_addi rfl rfl ?_) ?_
          · omega
          refine l_val rfl (o_assign rfl) ?_
          refine l_nil ?_
          refine kt_norm ?_
          refine ⟨j + 1, ⟨hjl, fun k hk => by rcases Nat.lt_or_eq_of_le (Nat.le_of_lt_succ hk) with h | h; exact hN k h; subst h; assumption⟩, by omega, le_app (And.intro rfl (True.intro)) [3, 0] rfl (True.intro) [] rfl⟩
        · skip
          refine l_val rfl (o_not rfl rfl) ?_
          refine l_nil ?_
          refine kt_norm ?_
          refine v_sel [4, 3, 0, 34] [] rfl rfl ?_
          refine v_condT rfl ?_
          refine v_seq ?_
          refine v_region ?_
          refine l_val rfl (o_assign rfl) ?_
          refine l_nil ?_
          refine kt_norm ?_
          refine v_ret ?_
          refine kb_ret ?_
          refine kt_ret ?_
          refine kt_ret ?_
          refine kb_ret ?_
          refine kb_ret ?_
          refine kt_ret ?_
          refine kt_ret ?_
          refine kb_ret ?_
          refine kt_ret ?_
          refine ⟨[_], .cons (.tmp rfl) (ResAll.nil), ?_⟩
          first
            | exact congrArg Value.bool (decide_eq_false fun h => by have := (h.2 i hil).1; rw [hpc] at this; omega).symm
            | exact congrArg Value.bool (decide_eq_false fun h => by have := (h.2 i hil).2 j (by rw [hpc]; exact hjl); rw [hpc] at this; exact absurd this hnr).symm
            | exact congrArg Value.bool (decide_congr ⟨fun h => ⟨by omega, fun k hk => hB k (by omega)⟩, fun h => by have := h.1; omega⟩)
      · skip
        refine l_nil ?_
        refine kt_norm ?_
        refine v_sel [4, 3, 0, 23] [] rfl rfl ?_
        refine v_condF rfl ?_
        refine v_exit ?_
        refine kt_exit ?_
        refine kt_exit ?_
        refine kb_eq ?_
        refine kb_norm ?_
        refine kt_norm ?_
        refine v_region ?_
        refine l_val rfl (o_move rfl) ?_
        refine l_val rfl (o_addi rfl rfl ?_) ?_
        · omega
        refine l_val rfl (o_assign rfl) ?_
        refine l_nil ?_
        refine kt_norm ?_
        refine ⟨i + 1, ⟨hil, fun k hk => by rcases Nat.lt_or_eq_of_le (Nat.le_of_lt_succ hk) with h | h; exact hB k h; subst h; rw [hpc]; exact ⟨by omega, fun m hm => hN m (by omega)⟩⟩, by omega, le_app (And.intro rfl (True.intro)) [0] rfl (True.intro) [] rfl⟩
  · skip
    refine l_nil ?_
    refine kt_norm ?_
    refine v_condF rfl ?_
    refine v_exit ?_
    refine kt_exit ?_
    refine kt_exit ?_
    refine kb_eq ?_
    refine kt_norm ?_
    refine v_seq ?_
    refine v_region ?_
    refine l_val rfl (o_move rfl) ?_
    refine l_val rfl (o_len rfl hVp) ?_
    refine l_val rfl (o_leq rfl rfl) ?_
    refine l_val rfl (o_assign rfl) ?_
    refine l_nil ?_
    refine kt_norm ?_
    refine v_sel [2] [] rfl rfl ?_
    refine v_ret ?_
    refine ⟨[_], .cons (.tmp rfl) (ResAll.nil), ?_⟩
    first
      | exact congrArg Value.bool (decide_eq_false fun h => by have := (h.2 i hil).1; rw [hpc] at this; omega).symm
      | exact congrArg Value.bool (decide_eq_false fun h => by have := (h.2 i hil).2 j (by rw [hpc]; exact hjl); rw [hpc] at this; exact absurd this hnr).symm
      | exact congrArg Value.bool (decide_congr ⟨fun h => ⟨by omega, fun k hk => hB k (by omega)⟩, fun h => by have := h.1; omega⟩)
theorem r_own21 (w : World) (v : Value) (l : List SpanT) (hn : l.length ≤ 1000000) (hV : RowV v l.length) (hrow : RowAt w v 2 l.length (l.flatMap eS)) :
    Calls Try.prog 35 #[v] w fun e w' => ∃ y, e = .returned y ∧ Below w.heap.size w w' ∧ OwnAt w.heap.size w' y 101 2 l.length (l.flatMap eS) := by
  have hr : ∀ w', Chg (fun _ => False) w w' → RowAt w' v 2 l.length (l.flatMap eS) := fun w' h => hrow.chg h (fun h => h)
  refine calls_own (args := [v]) Try.func35 rfl Try.ntmps35 Try.results35 rfl ?_
  refine v_seq ?_
  refine v_region ?_
  refine l_val rfl (o_assign rfl) ?_
  refine l_nil ?_
  refine kt_norm ?_
  refine v_seq ?_
  refine v_region ?_
  refine l_buildSlice (vs := []) (cs := []) rfl rfl rfl rfl rfl rfl fun v5 hv5 => ?_
  refine l_val rfl (o_assign rfl) ?_
  refine l_nil ?_
  refine kt_norm ?_
  refine v_seq ?_
  refine v_seq ?_
  refine v_region ?_
  refine l_val rfl (o_assign rfl) ?_
  refine l_nil ?_
  refine kt_norm ?_
  refine v_block ?_
  refine v_ren 5 18 [] rfl rfl rfl ?_
  refine v_loopS (α := Nat × Value) (fun ⟨i, v3⟩ => [(4, .int .i64 (i : Int)), (3, v3)]) (fun ⟨i, v3⟩ => [(18, Hp.own v3 101 2 i ((l.take i).flatMap eS))])  (fun ⟨i, v3⟩ => i ≤ l.length ∧ RowV v3 i) (fun ⟨i, v3⟩ => l.length - i) (0, v5) [0] [] ⟨Nat.zero_le _, hv5⟩  (And.intro rfl (And.intro rfl (True.intro))) rfl (And.intro rfl (True.intro)) rfl ?_
  rintro ⟨i, v3⟩ ⟨hi, hv3⟩
  refine v_seq ?_
  refine v_seq ?_
  refine v_region ?_
  refine l_val rfl (o_move rfl) ?_
  refine l_val rfl (o_move rfl) ?_
  refine l_val rfl (o_len rfl hV) ?_
  refine l_split rfl (o_lss rfl rfl) (fun q1 => ?_) (fun q1 => ?_)
  · skip
    refine l_nil ?_
    refine kt_norm ?_
    refine v_condT rfl ?_
    refine v_skip ?_
    refine kt_norm ?_
    refine v_seq ?_
    refine v_block ?_
    refine v_region ?_
    refine l_val rfl (o_move rfl) ?_
    refine l_val rfl (o_move rfl) ?_
    refine l_val rfl (o_move rfl) ?_
    refine l_val rfl (o_idx (i) rfl hV rfl (by first | rfl | omega) (by omega)) ?_
    refine l_val rfl (o_loadRE (c' := [_, _]) rfl (row_imm hr) (el_flat eS_len dS l (i) (by omega)) rfl) ?_
    refine l_buildSlice (vs := [_]) (cs := [_, _]) rfl rfl rfl rfl rfl rfl fun v17 hv17 => ?_
    refine l_append 18 [17] rfl rfl rfl rfl rfl rfl rfl hv17 (row_own (key := 17) rfl) (by omega) fun v18 hv18 => ?_
    refine l_val rfl (o_assign rfl) ?_
    refine l_nil ?_
    refine kb_norm ?_
    refine kt_norm ?_
    refine v_sel [4, 3, 0] [18] rfl rfl ?_
    refine v_region ?_
    refine l_val rfl (o_move rfl) ?_
    refine l_val rfl (o_addi rfl rfl ?_) ?_
    · omega
    refine l_val rfl (o_assign rfl) ?_
    refine l_nil ?_
    refine kt_norm ?_
    refine ⟨(i + 1, v18), ⟨by omega, hv18⟩, (by show l.length - (i + 1) < l.length - i; omega), le_app (And.intro rfl (And.intro rfl (True.intro))) [0] rfl (And.intro (congrArg some (own_congr rfl (by rw [takeSnoc dS (show i < l.length by omega)]; simp [eS]))) (True.intro)) [] rfl⟩
  · skip
    refine l_nil ?_
    refine kt_norm ?_
    refine v_condF rfl ?_
    refine v_exit ?_
    refine kt_exit ?_
    refine kt_exit ?_
    refine kb_eq ?_
    refine kt_norm ?_
    refine v_sel [3] [18] rfl rfl ?_
    refine v_seq ?_
    refine v_region ?_
    obtain rfl : i = l.length := by omega
    refine l_val rfl (o_move rfl) ?_
    refine l_val rfl (o_assign rfl) ?_
    refine l_nil ?_
    refine kt_norm ?_
    refine v_ret ?_
    refine ⟨[_], .cons (.tmp rfl) (ResAll.nil), ?_⟩
    exact ⟨18, congrArg some (own_congr rfl (by rw [List.take_length]))⟩
def pcC : List PtT := [⟨128, 0⟩, ⟨512, 0⟩, ⟨512, 256⟩, ⟨128, 256⟩]
theorem pcsV_oneC {v p : Value} {pc : List PtT} (h : RowV v 1) (hp : RowV p pc.length) (hs : pc.length ≤ 1000000) (hn : ∀ p ∈ pc, NearT p) : PcsV v [p] [pc] :=
  ⟨h, rfl, (show 1 ≤ 1099511627776 by omega), fun i hi => by match i, hi with | 0, _ => exact hp | n + 1, h => exact absurd h (by show ¬ n + 1 < 1; omega), fun i hi => by match i, hi with | 0, _ => show pc.length ≤ _; omega | n + 1, h => exact absurd h (by show ¬ n + 1 < 1; omega), fun i hi => by match i, hi with | 0, _ => exact hn | n + 1, h => exact absurd h (by show ¬ n + 1 < 1; omega)⟩
theorem nearC : ∀ p ∈ pcC, NearT p := by decide
theorem bndC : Bnd [pcC] := by decide
theorem pixC : pixT (tabT 0 0 3 2 [pcC]) 0 0 3 2 = [128, 255, 0, 0, 0, 0] := by
  have h : tabT 0 0 3 2 [pcC] = [⟨512, 0, 0, 256, 1, 0, 16⟩, ⟨128, 0, 0, 256, -1, 0, 16⟩] := by unfold tabT; rw [if_pos (by decide)]; rfl
  rw [h]; rfl
theorem a_CovC (w : World) (v p : Value) (hV : RowV v 1) (hp : RowV p 4) (h : RowAt w v 1 1 [p]) (h1 : RowAt w p 2 4 (pcC.flatMap eP)) :
    Calls Try.prog 26 #[v, .agg #[.int .i64 0, .int .i64 0, .int .i64 3, .int .i64 2]] w fun e w' => ∃ y, e = .returned (.tuple #[.agg #[.int .i64 3, .int .i64 2, y], .int .i64 0]) ∧ Below w.heap.size w w' ∧ OwnAt w.heap.size w' y 5 1 6 (iU [128, 255, 0, 0, 0, 0]) := by
  have := a_cover w v [p] [pcC] 0 0 3 2 bndC (pcsV_oneC hV hp (by decide) nearC) (pcsAt_one h h1) (by decide)
  rw [show ((3 : Nat) : Int) = 3 from rfl, show ((2 : Nat) : Int) = 2 from rfl, pixC] at this
  exact this
theorem a_shown21  : Ans Try.prog 24 [] (.bool true) := by
  refine ans_of Try.func24 rfl Try.ntmps24 Try.results24 rfl rfl fun w => ?_
  refine v_seq ?_
  refine v_region ?_
  refine l_val rfl (o_assign rfl) ?_
  refine l_nil ?_
  refine kt_norm ?_
  refine v_seq ?_
  refine v_region ?_
  refine l_val rfl (o_build (vs := [_]) (cs := [_, _]) rfl rfl) ?_
  refine l_val rfl (o_build (vs := [_]) (cs := [_, _]) rfl rfl) ?_
  refine l_val rfl (o_build (vs := [_, _]) (cs := [_, _]) rfl rfl) ?_
  refine l_val rfl (o_build (vs := [_, _]) (cs := [_, _]) rfl rfl) ?_
  refine l_buildSlice (vs := [_, _, _, _]) (cs := [_, _, _, _, _, _, _, _]) rfl rfl rfl rfl rfl rfl fun v8 hv8 => ?_
  obtain ⟨a8, c8, rfl⟩ := hv8.sl
  refine l_buildSlice (vs := [_]) (cs := [_]) rfl rfl rfl rfl rfl rfl fun v9 hv9 => ?_
  refine l_val rfl (o_build (vs := [_, _]) (cs := [_, _, _, _]) rfl rfl) ?_
  refine l_gownF (fun y => .tuple #[.agg #[.int .i64 3, .int .i64 2, y], .int .i64 0]) (ks := [9, 8]) (caps := #[]) (vs := [_, _]) rfl rfl (ent_of Try.func26 rfl rfl) rfl (fun w' hg hh => a_CovC w' v9 _ hv9 hv8 (rowAt_own (hh 9 (by simp) _ rfl)) (rowAt_own (hh 8 (by simp) _ rfl))) fun yi hyi => ?_
  obtain ⟨ayi, cyi, rfl⟩ := hyi.sl
  refine l_val rfl (o_move rfl) ?_
  refine l_val rfl (o_extract rfl rfl) ?_
  refine l_val rfl (o_extract rfl rfl) ?_
  refine l_new rfl o_alloc fun b1 => ?_
  refine l_store rfl (o_storeW (key := 1) (xs := [_, _, _]) rfl rfl rfl rfl rfl rfl rfl) ?_
  refine l_val rfl (o_assign rfl) ?_
  refine l_nil ?_
  refine kt_norm ?_
  refine v_sel [1, 2] [1, 8, 9, 11] rfl rfl ?_
  refine v_seq ?_
  refine v_region ?_
  skip
  refine l_val rfl (o_move rfl) ?_
  refine l_val rfl (o_eql rfl rfl) ?_
  refine l_val rfl (o_move rfl) ?_
  refine l_val rfl (o_fld rfl) ?_
  refine l_val rfl (o_load1 (key := 1) rfl rfl rfl) ?_
  refine l_val rfl (o_len rfl hyi) ?_
  refine l_val rfl (o_eql rfl rfl) ?_
  refine l_val rfl (o_pickT rfl rfl) ?_
  refine l_val rfl (o_move rfl) ?_
  refine l_val rfl (o_fld rfl) ?_
  refine l_val rfl (o_load1 (key := 1) rfl rfl rfl) ?_
  refine l_val rfl (o_idx (0) rfl hyi rfl (by first | rfl | omega) (by decide)) ?_
  refine l_val rfl (o_loadR1 rfl (row_own (key := 11) rfl) (el_lit (esz := 1) (i := 0) (c := [_]) rfl rfl)) ?_
  refine l_val rfl (o_eql rfl rfl) ?_
  refine l_val rfl (o_pickT rfl rfl) ?_
  refine l_val rfl (o_move rfl) ?_
  refine l_val rfl (o_fld rfl) ?_
  refine l_val rfl (o_load1 (key := 1) rfl rfl rfl) ?_
  refine l_val rfl (o_idx (1) rfl hyi rfl (by first | rfl | omega) (by decide)) ?_
  refine l_val rfl (o_loadR1 rfl (row_own (key := 11) rfl) (el_lit (esz := 1) (i := 1) (c := [_]) rfl rfl)) ?_
  refine l_val rfl (o_eql rfl rfl) ?_
  refine l_val rfl (o_pickT rfl rfl) ?_
  refine l_val rfl (o_move rfl) ?_
  refine l_val rfl (o_fld rfl) ?_
  refine l_val rfl (o_load1 (key := 1) rfl rfl rfl) ?_
  refine l_val rfl (o_idx (2) rfl hyi rfl (by first | rfl | omega) (by decide)) ?_
  refine l_val rfl (o_loadR1 rfl (row_own (key := 11) rfl) (el_lit (esz := 1) (i := 2) (c := [_]) rfl rfl)) ?_
  refine l_val rfl (o_eql rfl rfl) ?_
  refine l_val rfl (o_pickT rfl rfl) ?_
  refine l_val rfl (o_move rfl) ?_
  refine l_val rfl (o_fld rfl) ?_
  refine l_val rfl (o_load1 (key := 1) rfl rfl rfl) ?_
  refine l_val rfl (o_idx (3) rfl hyi rfl (by first | rfl | omega) (by decide)) ?_
  refine l_val rfl (o_loadR1 rfl (row_own (key := 11) rfl) (el_lit (esz := 1) (i := 3) (c := [_]) rfl rfl)) ?_
  refine l_val rfl (o_eql rfl rfl) ?_
  refine l_val rfl (o_pickT rfl rfl) ?_
  refine l_val rfl (o_move rfl) ?_
  refine l_val rfl (o_loadW (key := 1) rfl rfl rfl) ?_
  refine l_call (ks := [11]) rfl (o_callC (vs := [_, _, _]) (r := .int .u8 255) (ent_of Try.func27 rfl rfl) rfl (fun w' hg hh => (show atT 3 2 [128, 255, 0, 0, 0, 0] 1 0 = 255 by decide) ▸ a_AtC w' (.slice ayi 6 cyi) 3 2 [128, 255, 0, 0, 0, 0] 1 0 (by omega) rfl hyi (rowAt_own (hh 11 (by simp) _ rfl)))) ?_
  refine l_val rfl (o_eql rfl rfl) ?_
  refine l_val rfl (o_pickT rfl rfl) ?_
  refine l_val rfl (o_move rfl) ?_
  refine l_val rfl (o_loadW (key := 1) rfl rfl rfl) ?_
  refine l_call (ks := [11]) rfl (o_callC (vs := [_, _, _]) (r := .int .u8 0) (ent_of Try.func27 rfl rfl) rfl (fun w' hg hh => (show atT 3 2 [128, 255, 0, 0, 0, 0] 3 0 = 0 by decide) ▸ a_AtC w' (.slice ayi 6 cyi) 3 2 [128, 255, 0, 0, 0, 0] 3 0 (by omega) rfl hyi (rowAt_own (hh 11 (by simp) _ rfl)))) ?_
  refine l_val rfl (o_eql rfl rfl) ?_
  refine l_val rfl (o_pickT rfl rfl) ?_
  refine l_val rfl (o_move rfl) ?_
  refine l_ans (vs := [_]) rfl rfl (a_Value _) ?_
  refine l_val rfl (o_eql rfl rfl) ?_
  refine l_val rfl (o_pickT rfl rfl) ?_
  refine l_val rfl (o_assign rfl) ?_
  refine l_nil ?_
  refine kt_norm ?_
  refine v_sel [0] [1, 8, 9, 11] rfl rfl ?_
  refine v_ret ?_
  refine ⟨[_], .cons (.tmp rfl) (ResAll.nil), ?_⟩
  rfl
theorem a_Measure (w : World) (v : Value) (l : List SpanT) (x : Int) (hx : -1099511627776 ≤ x ∧ x ≤ 1099511627776) (hn : l.length ≤ 1000000) (ho : SpOk l) (hV : RowV v l.length) (hrow : RowAt w v 2 l.length (l.flatMap eS)) :
    Calls Try.prog 33 #[v, .int .i64 x] w fun e w' => e = .returned (.int .i64 (sumS (clipT (256 * x) (256 * x + 256) l))) ∧ Below w.heap.size w w' := by
  have hr : ∀ w', Chg (fun _ => False) w w' → RowAt w' v 2 l.length (l.flatMap eS) := fun w' h => hrow.chg h (fun h => h)
  have hlc := clipT_len (256 * x) (256 * x + 256) l
  have he : 256 * (x + 1) = 256 * x + 256 := by omega
  refine calls_of (args := [v, .int .i64 x]) Try.func33 rfl Try.ntmps33 Try.results33 rfl ?_
  refine v_seq ?_
  refine v_region ?_
  refine l_val rfl (o_assign rfl) ?_
  refine l_nil ?_
  refine kt_norm ?_
  refine v_seq ?_
  refine v_region ?_
  refine l_val rfl (o_move rfl) ?_
  refine l_val rfl (o_move rfl) ?_
  refine l_val rfl (o_muli rfl rfl ?_) ?_
  · omega
  refine l_val rfl (o_move rfl) ?_
  refine l_val rfl (o_addi rfl rfl ?_) ?_
  · omega
  refine l_val rfl (o_muli rfl rfl ?_) ?_
  · omega
  refine l_gown (ks := []) (caps := #[]) (vs := [_, _, _]) rfl rfl (ent_of Try.func20 rfl rfl) rfl (fun w' hg hh => a_Clip w' v l (256 * x) (256 * (x + 1)) hn hV (hr w' hg)) fun yc hyc => ?_
  rw [he] at hyc
  refine l_call (ks := [11]) rfl (o_callC (vs := [_]) (r := .int .i64 (sumS (clipT (256 * x) (256 * x + 256) l))) (ent_of Try.func21 rfl rfl) rfl (fun w' hg hh => a_Sum w' yc (clipT (256 * x) (256 * x + 256) l) (by omega) (spOk_clip ho _ _) hyc (he ▸ (rowAt_own (hh 11 (by simp) _ rfl))))) ?_
  refine l_val rfl (o_assign rfl) ?_
  refine l_nil ?_
  refine kt_norm ?_
  refine v_sel [4] [] rfl rfl ?_
  refine v_ret ?_
  refine ⟨[_], .cons (.tmp rfl) (ResAll.nil), ?_⟩
  rfl
theorem r_Measure (w : World) (v : Value) (l : List SpanT) (x : Int) (hx : -1099511627776 ≤ x ∧ x ≤ 1099511627776) (hn : l.length ≤ 1000000) (ho : SpOk l) (hV : RowV v l.length) (hrow : RowAt w v 2 l.length (l.flatMap eS)) :
    Calls Try.prog 34 #[v, .int .i64 x] w fun e w' => e = .returned (.int .i64 (sumS (clipT (256 * x) (256 * x + 256) l))) ∧ Below w.heap.size w w' := by
  have hr : ∀ w', Chg (fun _ => False) w w' → RowAt w' v 2 l.length (l.flatMap eS) := fun w' h => hrow.chg h (fun h => h)
  have hlc := clipT_len (256 * x) (256 * x + 256) l
  have he : 256 * (x + 1) = 256 * x + 256 := by omega
  refine calls_of (args := [v, .int .i64 x]) Try.func34 rfl Try.ntmps34 Try.results34 rfl ?_
  refine v_seq ?_
  refine v_region ?_
  refine l_val rfl (o_assign rfl) ?_
  refine l_nil ?_
  refine kt_norm ?_
  refine v_seq ?_
  refine v_region ?_
  refine l_val rfl (o_move rfl) ?_
  refine l_val rfl (o_move rfl) ?_
  refine l_val rfl (o_muli rfl rfl ?_) ?_
  · omega
  refine l_val rfl (o_move rfl) ?_
  refine l_val rfl (o_muli rfl rfl ?_) ?_
  · omega
  refine l_val rfl (o_addi rfl rfl ?_) ?_
  · omega
  refine l_gown (ks := []) (caps := #[]) (vs := [_, _, _]) rfl rfl (ent_of Try.func56 rfl rfl) rfl (fun w' hg hh => r_Clip w' v l (256 * x) (256 * x + 256) hn hV (hr w' hg)) fun yc hyc => ?_
  refine l_call (ks := [11]) rfl (o_callC (vs := [_]) (r := .int .i64 (sumS (clipT (256 * x) (256 * x + 256) l))) (ent_of Try.func55 rfl rfl) rfl (fun w' hg hh => r_Sum w' yc (clipT (256 * x) (256 * x + 256) l) (by omega) (spOk_clip ho _ _) hyc ((rowAt_own (hh 11 (by simp) _ rfl))))) ?_
  refine l_val rfl (o_assign rfl) ?_
  refine l_nil ?_
  refine kt_norm ?_
  refine v_sel [4] [] rfl rfl ?_
  refine v_ret ?_
  refine ⟨[_], .cons (.tmp rfl) (ResAll.nil), ?_⟩
  rfl
theorem valM2 (x : Int) : (if 4096 < (if x < 0 then 0 else x) then 4096 else if x < 0 then 0 else x) = valM x := by
  unfold valM; (repeat' split) <;> omega
theorem r_Value (x : Int) : Ans Try.prog 36 [.int .i64 x] (.int .u8 (valT x)) := by
  have hm := valM_bound x
  have hme := valM2 x
  refine ans_of Try.func36 rfl Try.ntmps36 Try.results36 rfl rfl fun w => ?_
  refine v_seq ?_
  refine v_region ?_
  refine l_val rfl (o_assign rfl) ?_
  refine l_nil ?_
  refine kt_norm ?_
  refine v_seq ?_
  refine v_region ?_
  refine l_val rfl (o_move rfl) ?_
  refine l_val rfl (o_max rfl rfl) ?_
  refine l_val rfl (o_min rfl rfl) ?_
  refine l_val rfl (o_muli rfl rfl ?_) ?_
  · (try rw [hme]); omega
  refine l_val rfl (o_addi rfl rfl ?_) ?_
  · (try rw [hme]); omega
  refine l_val rfl (o_quon rfl rfl ?_ ?_) ?_
  · (try rw [hme]); omega
  · exact wrap_i64 (by (try rw [hme]); omega)
  refine l_val rfl (o_conv8 rfl ?_) ?_
  · (try rw [hme]); omega
  refine l_val rfl (o_assign rfl) ?_
  refine l_nil ?_
  refine kt_norm ?_
  refine v_sel [2] [] rfl rfl ?_
  refine v_ret ?_
  refine ⟨[_], .cons (.tmp rfl) (ResAll.nil), ?_⟩
  exact congrArg (Value.int .u8) (by unfold valT; rw [← hme])
end Go.Proofs.Ytaijclimdfchfaa
