import Derived.Test.YtllhohbenniaaaaM1
import Derived.Test.YtllhohbenniaaaaM2
import Derived.Test.YtllhohbenniaaaaM3
import Derived.Test.YtllhohbenniaaaaM4
import Derived.Test.YtllhohbenniaaaaM5
/- Crops of covers. Conditions: none. -/
namespace Go.Proofs.Ytllhohbenniaaaa
open Go.Proofs Go.RowKit Go.Shelf

theorem o_slice2 {C : Cx} {s : St} {d : Option Nat} {x z z' : Operand} {T E ty : TypeId} {pos : String} {aft : Array Edge} {gd : Option (Nat × Bool)} {v : Value} {n esz : Nat} {k k' : IntKind} {q q' : Int} {lo hi : Nat} [ht : TSl C.P T E esz] (h : ev C s x = some v) (hv : RowV v n) (hcap : Capd v) (h2 : ev C s z = some (.int k q)) (hq : q = ((lo : Nat) : Int)) (h3 : ev C s z' = some (.int k' q')) (hq' : q' = ((hi : Nat) : Int)) (h4 : lo ≤ hi) (h5 : hi ≤ n) :
    OpV C s ⟨d, .slice T x (some z) (some z') none, ty, pos, aft, gd⟩ [] (subFrom (subTo v hi) esz lo) := opv _ _ (by simp) fun ρ w hr => by
  have hx := rd1 hr (x := x) (by simp [Op.operands]) h
  have hz := rd1 hr (x := z) (by simp [Op.operands]) h2
  have hz' := rd1 hr (x := z') (by simp [Op.operands]) h3
  subst hq hq'
  obtain ⟨b, c, rfl⟩ := hv.sl
  have h6 := hcap _ _ _ rfl
  have h7 : (hi : Int) ≤ c := by omega
  have h8 : (lo : Int) ≤ hi := by omega
  simp [execOp, hx, hz, hz', Instr.sliceAt, Instr.slice, Instr.sliceBounds, Instr.sliceBound, asIntOf, Sem.run_bind, run_underlying ht.h, h7, h8, h4, show hi ≤ c by omega, ht.sz, Result.andThen, subFrom, subTo]
theorem capd_to {v : Value} {n hi : Nat} (h : Capd v) (hv : RowV v n) (hle : hi ≤ n) : Capd (subTo v hi) := fun a n' c e => by
  obtain ⟨b, c', rfl⟩ := hv.sl
  have := h _ _ _ rfl
  simp only [subTo] at e
  cases e; omega
/-- rows of a crop -/
def cropT (n : Nat) (pix : List Int) (x y cw : Nat) : Nat → List Int
  | 0 => []
  | k + 1 => cropT n pix x y cw k ++ (pix.drop ((y + k) * n + x)).take cw
theorem crop_in {n h x y cw k : Nat} (hx : x + cw ≤ n) (hk : y + k < h) : (y + k) * n + x + cw ≤ n * h := by
  have h1 : (y + k + 1) * n ≤ h * n := Nat.mul_le_mul_right n hk
  rw [Nat.succ_mul, Nat.mul_comm h n] at h1
  omega
theorem cropT_len {n h : Nat} {pix : List Int} {x y cw : Nat} (hl : pix.length = n * h) (hx : x + cw ≤ n) : ∀ k, y + k ≤ h → (cropT n pix x y cw k).length = k * cw
  | 0, _ => by simp [cropT]
  | k + 1, hk => by
    have h1 := crop_in (n := n) (h := h) (x := x) (y := y) (cw := cw) (k := k) hx (by omega)
    rw [cropT, List.length_append, cropT_len hl hx k (by omega), List.length_take, List.length_drop, hl, Nat.succ_mul]
    omega
/-- the row of a crop, pixel by pixel -/
theorem crop_step {n h : Nat} {pix : List Int} {o cw i : Nat} (ho : o + cw ≤ pix.length) (hi : i < cw) : (pix.drop o).take (i + 1) = (pix.drop o).take i ++ [pix.getD (o + i) 0] := by
  have hl : i < (pix.drop o).length := by rw [List.length_drop]; omega
  rw [List.take_add_one, List.getElem?_eq_getElem hl, List.getElem_drop, List.getD_eq_getElem?_getD, List.getElem?_eq_getElem (show o + i < pix.length by omega)]
  rfl
theorem crop_row {w : World} {pv : Value} {n h x y cw k : Nat} {pix : List Int} (hrow : RowAt w pv 1 pix.length (iU pix)) (hV : RowV pv pix.length) (hcap : Capd pv) (hle : (y + k) * n + x + cw ≤ pix.length) : RowAt w (subFrom (subTo pv ((y + k) * n + x + cw)) 1 ((y + k) * n + x)) 1 cw (iU ((pix.drop ((y + k) * n + x)).take cw)) := by
  have h1 := rowAt_to hrow hle
  have h2 := rowAt_drop (lo := (y + k) * n + x) h1 (rowV_to hV hle) (capd_to hcap hV hle) (by omega)
  rw [Nat.mul_one, Nat.mul_one] at h2
  have e : (y + k) * n + x + cw - ((y + k) * n + x) = cw := by omega
  rw [e] at h2
  have e2 : (((iU pix).take ((y + k) * n + x + cw)).drop ((y + k) * n + x)) = iU ((pix.drop ((y + k) * n + x)).take cw) := by
    rw [List.drop_take, e]
    simp only [iU, List.map_drop, List.map_take]
  rw [e2] at h2
  exact h2
theorem crop_get {n h x y i k : Nat} {pix : List Int} (hx : x + i < n) (hy : y + k < h) : atT n h pix ((x : Int) + i) ((y : Int) + k) = pix.getD ((y + k) * n + x + i) 0 := by
  unfold atT
  rw [if_pos (by omega)]
  congr 1
  rw [← Int.natCast_add, ← Int.natCast_mul, ← Int.natCast_add, ← Int.natCast_add, Int.toNat_natCast]
  omega
def CropOk (n h : Nat) (X Y CW CH : Int) : Prop := 0 ≤ X ∧ 0 ≤ Y ∧ 1 ≤ CW ∧ 1 ≤ CH ∧ X + CW ≤ n ∧ Y + CH ≤ h
instance (n h : Nat) (X Y CW CH : Int) : Decidable (CropOk n h X Y CW CH) := by unfold CropOk; infer_instance
theorem cropOk_def (n h : Nat) (X Y CW CH : Int) : CropOk n h X Y CW CH ↔ 0 ≤ X ∧ 0 ≤ Y ∧ 1 ≤ CW ∧ 1 ≤ CH ∧ X + CW ≤ n ∧ Y + CH ≤ h := Iff.rfl
set_option maxHeartbeats 1000000 in
theorem a_CropY (w : World) (pv : Value) (n h : Nat) (pix : List Int) (x y cw ch : Nat) (hn : n ≤ 256) (hh : h ≤ 256) (hx : x + cw ≤ n) (hy : y + ch ≤ h) (hcw : 1 ≤ cw) (hch : 1 ≤ ch) (hl : pix.length = n * h) (hV : RowV pv pix.length) (hcap : Capd pv) (hrow : RowAt w pv 1 pix.length (iU pix)) :
    Calls Try.prog 10 #[.agg #[.int .i64 (n : Int), .int .i64 (h : Int), pv], .int .i64 (x : Int), .int .i64 (y : Int), .int .i64 (cw : Int), .int .i64 (ch : Int)] w fun e w' => ∃ r, e = .returned (.tuple #[.agg #[.int .i64 (cw : Int), .int .i64 (ch : Int), r], .int .i64 0]) ∧ Below w.heap.size w w' ∧ OwnAt w.heap.size w' r 5 1 (cropT n pix x y cw ch).length (iU (cropT n pix x y cw ch)) := by
  have hr : ∀ w', Chg (fun _ => False) w w' → RowAt w' pv 1 pix.length (iU pix) := fun w' h => hrow.chg h (fun h => h)
  have hpb : n * h ≤ 65536 := nh_le hn hh
  obtain ⟨ap, cp, rfl⟩ := hV.sl
  refine calls_said (args := [.agg #[.int .i64 (n : Int), .int .i64 (h : Int), .slice ap pix.length cp], .int .i64 (x : Int), .int .i64 (y : Int), .int .i64 (cw : Int), .int .i64 (ch : Int)]) (fun r => .tuple #[.agg #[.int .i64 (cw : Int), .int .i64 (ch : Int), r], .int .i64 0]) (fun r w' => (Hp.own r 5 1 (cropT n pix x y cw ch).length (iU (cropT n pix x y cw ch))).ok w') (fun r b => r.ownBlock = some b) Try.func10 rfl Try.ntmps10 Try.results10 rfl ?_
  refine v_seq ?_
  refine v_region ?_
  refine l_new rfl (o_box (cs := [_, _, _]) rfl rfl) fun b5 => ?_
  refine l_new rfl o_alloc fun b10 => ?_
  refine l_val rfl (o_assign rfl) ?_
  refine l_nil ?_
  refine kt_norm ?_
  refine v_seq ?_
  refine v_seq ?_
  refine v_region ?_
  refine l_val rfl (o_move rfl) ?_
  refine l_val rfl (o_fld rfl) ?_
  refine l_val rfl (o_load1 (key := 5) rfl rfl rfl) ?_
  refine l_ans (vs := [_, _]) rfl rfl (a_within _ _) ?_
  refine lz_bool (fun hc1 => ?_) (fun hc1 => ?_)
  · skip
    refine l_val rfl (o_not rfl rfl) ?_
    refine l_val rfl (o_move rfl) ?_
    refine l_val rfl (o_move rfl) ?_
    refine l_val rfl (o_fld rfl) ?_
    refine l_val rfl (o_load1 (key := 5) rfl rfl rfl) ?_
    refine l_ans (vs := [_, _]) rfl rfl (a_within _ _) ?_
    refine lz_bool (fun hc2 => ?_) (fun hc2 => ?_)
    · skip
      refine l_val rfl (o_not rfl rfl) ?_
      refine l_val rfl (o_pickF rfl rfl) ?_
      refine l_val rfl (o_move rfl) ?_
      refine l_val rfl (o_move rfl) ?_
      refine l_val rfl (o_subi rfl rfl ?_) ?_
      · omega
      refine l_val rfl (o_fld rfl) ?_
      refine l_val rfl (o_load1 (key := 5) rfl rfl rfl) ?_
      refine l_val rfl (o_move rfl) ?_
      refine l_val rfl (o_subi rfl rfl ?_) ?_
      · omega
      refine l_ans (vs := [_, _]) rfl rfl (a_within _ _) ?_
      refine lz_bool (fun hc3 => ?_) (fun hc3 => ?_)
      · skip
        refine l_val rfl (o_not rfl rfl) ?_
        refine l_val rfl (o_pickF rfl rfl) ?_
        refine l_val rfl (o_move rfl) ?_
        refine l_val rfl (o_move rfl) ?_
        refine l_val rfl (o_subi rfl rfl ?_) ?_
        · omega
        refine l_val rfl (o_fld rfl) ?_
        refine l_val rfl (o_load1 (key := 5) rfl rfl rfl) ?_
        refine l_val rfl (o_move rfl) ?_
        refine l_val rfl (o_subi rfl rfl ?_) ?_
        · omega
        refine l_ans (vs := [_, _]) rfl rfl (a_within _ _) ?_
        refine lz_bool (fun hc4 => ?_) (fun hc4 => ?_)
        · skip
          refine l_val rfl (o_not rfl rfl) ?_
          refine l_val rfl (o_pickF rfl rfl) ?_
          refine l_nil ?_
          refine kt_norm ?_
          refine v_sel [1, 2, 3, 4, 5, 10, 45] [5, 10] rfl rfl ?_
          refine v_condF rfl ?_
          refine v_skip ?_
          refine kt_norm ?_
          refine v_seq ?_
          refine v_region ?_
          refine l_val rfl (o_move rfl) ?_
          refine l_val rfl (o_move rfl) ?_
          refine l_val rfl (o_build (vs := [_, _]) (cs := [_, _, _]) rfl rfl) ?_
          refine l_new rfl o_alloc fun b12 => ?_
          refine l_store rfl (o_storeW (key := 12) (xs := [_, _, _]) rfl rfl rfl rfl rfl rfl rfl) ?_
          refine l_nil ?_
          refine kt_norm ?_
          refine v_seq ?_
          refine v_seq ?_
          refine v_region ?_
          refine l_val rfl (o_move rfl) ?_
          refine l_val rfl (o_assign rfl) ?_
          refine l_nil ?_
          refine kt_norm ?_
          refine v_block ?_
          refine v_ghost 77 5 1 ?_
          refine v_loopS (α := Nat × Value) (fun ⟨k, rv⟩ => [(13, .int .i64 ((y + k : Nat) : Int))]) (fun ⟨k, rv⟩ => [(12, Hp.box b12 28 [.int .i64 (cw : Int), .int .i64 (ch : Int), rv]), (77, Hp.own rv 5 1 (cropT n pix x y cw k).length (iU (cropT n pix x y cw k)))])  (fun ⟨k, rv⟩ => k ≤ ch ∧ RowV rv (cropT n pix x y cw k).length) (fun ⟨k, rv⟩ => ch - k) (0, .slice none 0 0) [1, 2, 3, 4, 5, 10, 12] [5, 10] ⟨Nat.zero_le _, .nil0⟩  (And.intro (congrArg (fun z => some (Value.int .i64 z)) (by omega)) (True.intro)) rfl (And.intro rfl (And.intro rfl (True.intro))) rfl ?_
          rintro ⟨k, rv⟩ ⟨hk0, hrv⟩
          refine v_seq ?_
          refine v_seq ?_
          refine v_region ?_
          refine l_val rfl (o_move rfl) ?_
          refine l_val rfl (o_move rfl) ?_
          refine l_val rfl (o_move rfl) ?_
          refine l_val rfl (o_addi rfl rfl ?_) ?_
          · omega
          refine l_split rfl (o_lss rfl rfl) (fun q1 => ?_) (fun q1 => ?_)
          · have hk : k < ch := by omega
            have hin := crop_in (n := n) (h := h) (x := x) (y := y) (cw := cw) (k := k) hx (by omega)
            have hll := cropT_len hl hx k (show y + k ≤ h by omega)
            have hl2 := cropT_len hl hx (k + 1) (show y + (k + 1) ≤ h by omega)
            have hkb : k * cw ≤ 256 * 256 := Nat.mul_le_mul (by omega) (by omega)
            have hkb2 : (k + 1) * cw = k * cw + cw := Nat.succ_mul k cw
            have hyk : (y + k) * n ≤ 256 * 256 := Nat.mul_le_mul (by omega) (by omega)
            have hykc : (((y + k) * n : Nat) : Int) = ((y + k : Nat) : Int) * (n : Int) := Int.natCast_mul _ _
            refine l_nil ?_
            refine kt_norm ?_
            refine v_condT rfl ?_
            refine v_skip ?_
            refine kt_norm ?_
            refine v_seq ?_
            refine v_block ?_
            refine v_drawW [(77, (cropT n pix x y cw k).length + cw)] [[], [12], [], [5], [], [], [5], [], [], [], [], [], [5], [], [], [], [], [], [], [77], [], [12]] mixed ?_ (by kernel_rfl) (by kernel_rfl)
            refine d_val (fun _ => rfl) rfl rfl (fun σ7 => o_fld rfl) ?_
            refine d_val (fun _ => rfl) rfl rfl (fun σ7 => o_load1 (key := 12) rfl rfl rfl) ?_
            refine d_val (fun _ => rfl) rfl rfl (fun σ7 => o_fld rfl) ?_
            refine d_val (fun _ => rfl) rfl rfl (fun σ7 => o_load1 (key := 5) rfl rfl rfl) ?_
            refine d_val (fun _ => rfl) rfl rfl (fun σ7 => o_move rfl) ?_
            refine d_val (fun _ => rfl) rfl rfl (fun σ7 => o_fld rfl) ?_
            refine d_val (fun _ => rfl) rfl rfl (fun σ7 => o_load1 (key := 5) rfl rfl rfl) ?_
            refine d_val (fun _ => rfl) rfl rfl (fun σ7 => o_muli rfl rfl ?_) ?_
            · omega
            refine d_val (fun _ => rfl) rfl rfl (fun σ7 => o_move rfl) ?_
            refine d_val (fun _ => rfl) rfl rfl (fun σ7 => o_addi rfl rfl ?_) ?_
            · omega
            refine d_val (fun _ => rfl) rfl rfl (fun σ7 => o_move rfl) ?_
            refine d_val (fun _ => rfl) rfl rfl (fun σ7 => o_fld rfl) ?_
            refine d_val (fun _ => rfl) rfl rfl (fun σ7 => o_load1 (key := 5) rfl rfl rfl) ?_
            refine d_val (fun _ => rfl) rfl rfl (fun σ7 => o_muli rfl rfl ?_) ?_
            · omega
            refine d_val (fun _ => rfl) rfl rfl (fun σ7 => o_move rfl) ?_
            refine d_val (fun _ => rfl) rfl rfl (fun σ7 => o_addi rfl rfl ?_) ?_
            · omega
            refine d_val (fun _ => rfl) rfl rfl (fun σ7 => o_move rfl) ?_
            refine d_val (fun _ => rfl) rfl rfl (fun σ7 => o_addi rfl rfl ?_) ?_
            · omega
            refine d_val (fun _ => rfl) rfl rfl (fun _ => o_slice2 (lo := ((y + k) * n + x)) (hi := ((y + k) * n + x) + cw) rfl hV hcap rfl (by rw [← hykc]; omega) rfl (by rw [← hykc]; omega) (by omega) (by omega)) ?_
            refine d_app 77 (n := (cropT n pix x y cw k).length) (mm := cw) (κ := []) (fun _ => rfl) (fun _ => rfl) (fun _ => rfl) (fun _ => rfl) rfl (fun σ7 => (rowV_from (rowV_to hV (by omega)) (by omega)).to (by omega)) (fun σ7 => row_imm (fun w hg => crop_row (h := h) (hr w hg) hV hcap (by omega))) (by omega) (fun _ h => h) ?_
            refine d_val (fun _ => rfl) rfl rfl (fun σ7 => o_fld rfl) ?_
            refine d_store (fun _ => rfl) rfl rfl (fun σ7 => o_store1 (key := 12) (rs := [_, _, _]) rfl rfl (rowV_cells (show RowV (σ7.v 77) ((cropT n pix x y cw k).length + cw) from σ7.ok 77)) rfl rfl (rowV_one (show RowV (σ7.v 77) ((cropT n pix x y cw k).length + cw) from σ7.ok 77)) rfl) ?_
            refine d_nil (fun σ7 => ?_)
            refine l_nil ?_
            refine kb_norm ?_
            refine kt_norm ?_
            refine v_sel [13, 1, 2, 3, 4, 5, 10, 12] [5, 10, 12, 77] rfl rfl ?_
            refine v_region ?_
            refine l_val rfl (o_move rfl) ?_
            refine l_val rfl (o_addi rfl rfl ?_) ?_
            · omega
            refine l_val rfl (o_assign rfl) ?_
            refine l_nil ?_
            refine kt_norm ?_
            have hke : iU (cropT n pix x y cw k) ++ iU ((pix.drop ((y + k) * n + x)).take cw) = iU (cropT n pix x y cw (k + 1)) := by simp [cropT, iU]
            have hlk : (cropT n pix x y cw (k + 1)).length = (cropT n pix x y cw k).length + cw := by omega
            refine ⟨(k + 1, σ7.v 77), ⟨by omega, (show RowV (σ7.v 77) ((cropT n pix x y cw k).length + cw) from σ7.ok 77).to hlk.symm⟩, (by show ch - (k + 1) < ch - k; omega), le_app (And.intro (congrArg (fun z => some (Value.int .i64 z)) (by omega)) (True.intro)) [1, 2, 3, 4, 5, 10, 12] rfl (And.intro rfl (And.intro (congrArg some (own_congr hlk.symm hke)) (True.intro))) [5, 10] rfl⟩
          · skip
            refine l_nil ?_
            refine kt_norm ?_
            refine v_condF rfl ?_
            refine v_exit ?_
            refine kt_exit ?_
            refine kt_exit ?_
            refine kb_eq ?_
            refine kt_norm ?_
            refine v_sel [10, 12] [10, 12, 77] rfl rfl ?_
            refine v_seq ?_
            refine v_region ?_
            obtain rfl : k = ch := by omega
            obtain ⟨ar, cr, rfl⟩ := hrv.sl
            refine l_val rfl (o_loadW (key := 12) rfl rfl rfl) ?_
            refine l_store rfl (o_storeW (key := 10) (xs := [_, _, _]) rfl rfl rfl rfl rfl rfl rfl) ?_
            refine l_val rfl (o_assign rfl) ?_
            refine l_nil ?_
            refine kt_norm ?_
            refine v_ret ?_
            refine ⟨[_, _], .cons (.cellW (key := 10) rfl rfl rfl) (.cons (.tmp rfl) (ResAll.nil)), ?_⟩
            exact ⟨.slice ar _ cr, rfl, fun w' ho => ⟨(ho.mo 77 _ rfl).1, fun b hb => ((ho.mo 77 _ rfl).2 b hb).elim id False.elim⟩⟩
        · exfalso; omega
      · exfalso; omega
    · exfalso; omega
  · exfalso; omega
set_option maxHeartbeats 1000000 in
theorem a_CropN (w : World) (pv : Value) (n h : Nat) (pix : List Int) (X Y CW CH : Int) (hn : n ≤ 256) (hh : h ≤ 256) (hno : ¬ CropOk n h X Y CW CH) (b1 : -9223372036854775808 ≤ CW ∧ CW < 9223372036854775808) (b2 : -9223372036854775808 ≤ CH ∧ CH < 9223372036854775808) (hl : pix.length = n * h) (hV : RowV pv pix.length) (hrow : RowAt w pv 1 pix.length (iU pix)) :
    Calls Try.prog 10 #[.agg #[.int .i64 (n : Int), .int .i64 (h : Int), pv], .int .i64 X, .int .i64 Y, .int .i64 CW, .int .i64 CH] w fun e w' => e = .returned (.tuple #[.agg #[.int .i64 0, .int .i64 0, .slice none 0 0], .int .i64 1]) ∧ Below w.heap.size w w' := by
  have hr : ∀ w', Chg (fun _ => False) w w' → RowAt w' pv 1 pix.length (iU pix) := fun w' h => hrow.chg h (fun h => h)
  have hpb : n * h ≤ 65536 := nh_le hn hh
  obtain ⟨ap, cp, rfl⟩ := hV.sl
  have hnd := cropOk_def n h X Y CW CH
  refine calls_of (args := [.agg #[.int .i64 (n : Int), .int .i64 (h : Int), .slice ap pix.length cp], .int .i64 X, .int .i64 Y, .int .i64 CW, .int .i64 CH]) Try.func10 rfl Try.ntmps10 Try.results10 rfl ?_
  refine v_seq ?_
  refine v_region ?_
  refine l_new rfl (o_box (cs := [_, _, _]) rfl rfl) fun b5 => ?_
  refine l_new rfl o_alloc fun b10 => ?_
  refine l_val rfl (o_assign rfl) ?_
  refine l_nil ?_
  refine kt_norm ?_
  refine v_seq ?_
  refine v_seq ?_
  refine v_region ?_
  refine l_val rfl (o_move rfl) ?_
  refine l_val rfl (o_fld rfl) ?_
  refine l_val rfl (o_load1 (key := 5) rfl rfl rfl) ?_
  refine l_ans (vs := [_, _]) rfl rfl (a_within _ _) ?_
  refine lz_bool (fun hc1 => ?_) (fun hc1 => ?_)
  · skip
    refine l_val rfl (o_not rfl rfl) ?_
    refine l_val rfl (o_move rfl) ?_
    refine l_val rfl (o_move rfl) ?_
    refine l_val rfl (o_fld rfl) ?_
    refine l_val rfl (o_load1 (key := 5) rfl rfl rfl) ?_
    refine l_ans (vs := [_, _]) rfl rfl (a_within _ _) ?_
    refine lz_bool (fun hc2 => ?_) (fun hc2 => ?_)
    · skip
      refine l_val rfl (o_not rfl rfl) ?_
      refine l_val rfl (o_pickF rfl rfl) ?_
      refine l_val rfl (o_move rfl) ?_
      refine l_val rfl (o_move rfl) ?_
      refine l_val rfl (o_sub rfl rfl (wrap_i64m _)) ?_
      refine l_val rfl (o_fld rfl) ?_
      refine l_val rfl (o_load1 (key := 5) rfl rfl rfl) ?_
      refine l_val rfl (o_move rfl) ?_
      refine l_val rfl (o_subi rfl rfl ?_) ?_
      · omega
      refine l_ans (vs := [_, _]) rfl rfl (a_within _ _) ?_
      refine lz_bool (fun hc3 => ?_) (fun hc3 => ?_)
      · skip
        refine l_val rfl (o_not rfl rfl) ?_
        refine l_val rfl (o_pickF rfl rfl) ?_
        refine l_val rfl (o_move rfl) ?_
        refine l_val rfl (o_move rfl) ?_
        refine l_val rfl (o_sub rfl rfl (wrap_i64m _)) ?_
        refine l_val rfl (o_fld rfl) ?_
        refine l_val rfl (o_load1 (key := 5) rfl rfl rfl) ?_
        refine l_val rfl (o_move rfl) ?_
        refine l_val rfl (o_subi rfl rfl ?_) ?_
        · omega
        refine l_ans (vs := [_, _]) rfl rfl (a_within _ _) ?_
        refine lz_bool (fun hc4 => ?_) (fun hc4 => ?_)
        · exfalso; exact hno (hnd.2 (by omega))
        · skip
          refine l_val rfl (o_not rfl rfl) ?_
          refine l_val rfl (o_pickF rfl rfl) ?_
          refine l_nil ?_
          refine kt_norm ?_
          refine v_sel [1, 2, 3, 4, 5, 10, 45] [5, 10] rfl rfl ?_
          refine v_condT rfl ?_
          refine v_seq ?_
          refine v_region ?_
          refine l_val rfl (o_build (vs := []) (cs := [_, _, _]) rfl rfl) ?_
          refine l_store rfl (o_storeW (key := 10) (xs := [_, _, _]) rfl rfl rfl rfl rfl rfl rfl) ?_
          refine l_val rfl (o_assign rfl) ?_
          refine l_nil ?_
          refine kt_norm ?_
          refine v_sel [10, 11] [10] rfl rfl ?_
          refine v_ret ?_
          refine kt_ret ?_
          refine ⟨[_, _], .cons (.cellW (key := 10) rfl rfl rfl) (.cons (.tmp rfl) (ResAll.nil)), ?_⟩
          rfl
      · skip
        refine l_val rfl (o_not rfl rfl) ?_
        refine l_val rfl (o_pickF rfl rfl) ?_
        refine l_val rfl (o_move rfl) ?_
        refine l_no rfl ?_
        refine l_no rfl ?_
        refine l_no rfl ?_
        refine l_no rfl ?_
        refine l_no rfl ?_
        refine l_no rfl ?_
        refine l_no rfl ?_
        refine l_no rfl ?_
        refine l_val rfl (o_pickT rfl rfl) ?_
        refine l_nil ?_
        refine kt_norm ?_
        refine v_sel [1, 2, 3, 4, 5, 10, 45] [5, 10] rfl rfl ?_
        refine v_condT rfl ?_
        refine v_seq ?_
        refine v_region ?_
        refine l_val rfl (o_build (vs := []) (cs := [_, _, _]) rfl rfl) ?_
        refine l_store rfl (o_storeW (key := 10) (xs := [_, _, _]) rfl rfl rfl rfl rfl rfl rfl) ?_
        refine l_val rfl (o_assign rfl) ?_
        refine l_nil ?_
        refine kt_norm ?_
        refine v_sel [10, 11] [10] rfl rfl ?_
        refine v_ret ?_
        refine kt_ret ?_
        refine ⟨[_, _], .cons (.cellW (key := 10) rfl rfl rfl) (.cons (.tmp rfl) (ResAll.nil)), ?_⟩
        rfl
    · skip
      refine l_val rfl (o_not rfl rfl) ?_
      refine l_val rfl (o_pickF rfl rfl) ?_
      refine l_val rfl (o_move rfl) ?_
      refine l_no rfl ?_
      refine l_no rfl ?_
      refine l_no rfl ?_
      refine l_no rfl ?_
      refine l_no rfl ?_
      refine l_no rfl ?_
      refine l_no rfl ?_
      refine l_no rfl ?_
      refine l_val rfl (o_pickT rfl rfl) ?_
      refine l_val rfl (o_move rfl) ?_
      refine l_no rfl ?_
      refine l_no rfl ?_
      refine l_no rfl ?_
      refine l_no rfl ?_
      refine l_no rfl ?_
      refine l_no rfl ?_
      refine l_no rfl ?_
      refine l_no rfl ?_
      refine l_val rfl (o_pickT rfl rfl) ?_
      refine l_nil ?_
      refine kt_norm ?_
      refine v_sel [1, 2, 3, 4, 5, 10, 45] [5, 10] rfl rfl ?_
      refine v_condT rfl ?_
      refine v_seq ?_
      refine v_region ?_
      refine l_val rfl (o_build (vs := []) (cs := [_, _, _]) rfl rfl) ?_
      refine l_store rfl (o_storeW (key := 10) (xs := [_, _, _]) rfl rfl rfl rfl rfl rfl rfl) ?_
      refine l_val rfl (o_assign rfl) ?_
      refine l_nil ?_
      refine kt_norm ?_
      refine v_sel [10, 11] [10] rfl rfl ?_
      refine v_ret ?_
      refine kt_ret ?_
      refine ⟨[_, _], .cons (.cellW (key := 10) rfl rfl rfl) (.cons (.tmp rfl) (ResAll.nil)), ?_⟩
      rfl
  · skip
    refine l_val rfl (o_not rfl rfl) ?_
    refine l_val rfl (o_move rfl) ?_
    refine l_no rfl ?_
    refine l_no rfl ?_
    refine l_no rfl ?_
    refine l_no rfl ?_
    refine l_no rfl ?_
    refine l_val rfl (o_pickT rfl rfl) ?_
    refine l_val rfl (o_move rfl) ?_
    refine l_no rfl ?_
    refine l_no rfl ?_
    refine l_no rfl ?_
    refine l_no rfl ?_
    refine l_no rfl ?_
    refine l_no rfl ?_
    refine l_no rfl ?_
    refine l_no rfl ?_
    refine l_val rfl (o_pickT rfl rfl) ?_
    refine l_val rfl (o_move rfl) ?_
    refine l_no rfl ?_
    refine l_no rfl ?_
    refine l_no rfl ?_
    refine l_no rfl ?_
    refine l_no rfl ?_
    refine l_no rfl ?_
    refine l_no rfl ?_
    refine l_no rfl ?_
    refine l_val rfl (o_pickT rfl rfl) ?_
    refine l_nil ?_
    refine kt_norm ?_
    refine v_sel [1, 2, 3, 4, 5, 10, 45] [5, 10] rfl rfl ?_
    refine v_condT rfl ?_
    refine v_seq ?_
    refine v_region ?_
    refine l_val rfl (o_build (vs := []) (cs := [_, _, _]) rfl rfl) ?_
    refine l_store rfl (o_storeW (key := 10) (xs := [_, _, _]) rfl rfl rfl rfl rfl rfl rfl) ?_
    refine l_val rfl (o_assign rfl) ?_
    refine l_nil ?_
    refine kt_norm ?_
    refine v_sel [10, 11] [10] rfl rfl ?_
    refine v_ret ?_
    refine kt_ret ?_
    refine ⟨[_, _], .cons (.cellW (key := 10) rfl rfl rfl) (.cons (.tmp rfl) (ResAll.nil)), ?_⟩
    rfl
set_option maxHeartbeats 1000000 in
theorem r_CropN (w : World) (pv : Value) (n h : Nat) (pix : List Int) (X Y CW CH : Int) (hn : n ≤ 256) (hh : h ≤ 256) (hno : ¬ CropOk n h X Y CW CH) (b1 : -9223372036854775808 ≤ CW ∧ CW < 9223372036854775808) (b2 : -9223372036854775808 ≤ CH ∧ CH < 9223372036854775808) (hl : pix.length = n * h) (hV : RowV pv pix.length) (hrow : RowAt w pv 1 pix.length (iU pix)) :
    Calls Try.prog 11 #[.agg #[.int .i64 (n : Int), .int .i64 (h : Int), pv], .int .i64 X, .int .i64 Y, .int .i64 CW, .int .i64 CH] w fun e w' => e = .returned (.tuple #[.agg #[.int .i64 0, .int .i64 0, .slice none 0 0], .int .i64 1]) ∧ Below w.heap.size w w' := by
  have hr : ∀ w', Chg (fun _ => False) w w' → RowAt w' pv 1 pix.length (iU pix) := fun w' h => hrow.chg h (fun h => h)
  have hpb : n * h ≤ 65536 := nh_le hn hh
  obtain ⟨ap, cp, rfl⟩ := hV.sl
  have hnd := cropOk_def n h X Y CW CH
  refine calls_of (args := [.agg #[.int .i64 (n : Int), .int .i64 (h : Int), .slice ap pix.length cp], .int .i64 X, .int .i64 Y, .int .i64 CW, .int .i64 CH]) Try.func11 rfl Try.ntmps11 Try.results11 rfl ?_
  refine v_seq ?_
  refine v_region ?_
  refine l_new rfl (o_box (cs := [_, _, _]) rfl rfl) fun b5 => ?_
  refine l_new rfl o_alloc fun b10 => ?_
  refine l_val rfl (o_assign rfl) ?_
  refine l_nil ?_
  refine kt_norm ?_
  refine v_seq ?_
  refine v_seq ?_
  refine v_region ?_
  refine l_val rfl (o_move rfl) ?_
  refine l_split rfl (o_lss rfl rfl) (fun q1 => ?_) (fun q1 => ?_)
  · skip
    refine l_val rfl (o_move rfl) ?_
    refine l_no rfl ?_
    refine l_no rfl ?_
    refine l_val rfl (o_pickT rfl rfl) ?_
    refine l_val rfl (o_move rfl) ?_
    refine l_no rfl ?_
    refine l_no rfl ?_
    refine l_val rfl (o_pickT rfl rfl) ?_
    refine l_val rfl (o_move rfl) ?_
    refine l_no rfl ?_
    refine l_no rfl ?_
    refine l_val rfl (o_pickT rfl rfl) ?_
    refine l_val rfl (o_move rfl) ?_
    refine l_no rfl ?_
    refine l_no rfl ?_
    refine l_no rfl ?_
    refine l_no rfl ?_
    refine l_val rfl (o_pickT rfl rfl) ?_
    refine l_val rfl (o_move rfl) ?_
    refine l_no rfl ?_
    refine l_no rfl ?_
    refine l_no rfl ?_
    refine l_no rfl ?_
    refine l_val rfl (o_pickT rfl rfl) ?_
    refine l_val rfl (o_move rfl) ?_
    refine l_no rfl ?_
    refine l_no rfl ?_
    refine l_no rfl ?_
    refine l_no rfl ?_
    refine l_no rfl ?_
    refine l_no rfl ?_
    refine l_val rfl (o_pickT rfl rfl) ?_
    refine l_val rfl (o_move rfl) ?_
    refine l_no rfl ?_
    refine l_no rfl ?_
    refine l_no rfl ?_
    refine l_no rfl ?_
    refine l_no rfl ?_
    refine l_no rfl ?_
    refine l_val rfl (o_pickT rfl rfl) ?_
    refine l_nil ?_
    refine kt_norm ?_
    refine v_sel [1, 2, 3, 4, 5, 10, 56] [5, 10] rfl rfl ?_
    refine v_condT rfl ?_
    refine v_seq ?_
    refine v_region ?_
    refine l_val rfl (o_build (vs := []) (cs := [_, _, _]) rfl rfl) ?_
    refine l_store rfl (o_storeW (key := 10) (xs := [_, _, _]) rfl rfl rfl rfl rfl rfl rfl) ?_
    refine l_val rfl (o_assign rfl) ?_
    refine l_nil ?_
    refine kt_norm ?_
    refine v_sel [10, 11] [10] rfl rfl ?_
    refine v_ret ?_
    refine kt_ret ?_
    refine ⟨[_, _], .cons (.cellW (key := 10) rfl rfl rfl) (.cons (.tmp rfl) (ResAll.nil)), ?_⟩
    rfl
  · skip
    refine l_val rfl (o_move rfl) ?_
    refine l_val rfl (o_move rfl) ?_
    refine l_split rfl (o_lss rfl rfl) (fun q2 => ?_) (fun q2 => ?_)
    · skip
      refine l_val rfl (o_pickF rfl rfl) ?_
      refine l_val rfl (o_move rfl) ?_
      refine l_no rfl ?_
      refine l_no rfl ?_
      refine l_val rfl (o_pickT rfl rfl) ?_
      refine l_val rfl (o_move rfl) ?_
      refine l_no rfl ?_
      refine l_no rfl ?_
      refine l_val rfl (o_pickT rfl rfl) ?_
      refine l_val rfl (o_move rfl) ?_
      refine l_no rfl ?_
      refine l_no rfl ?_
      refine l_no rfl ?_
      refine l_no rfl ?_
      refine l_val rfl (o_pickT rfl rfl) ?_
      refine l_val rfl (o_move rfl) ?_
      refine l_no rfl ?_
      refine l_no rfl ?_
      refine l_no rfl ?_
      refine l_no rfl ?_
      refine l_val rfl (o_pickT rfl rfl) ?_
      refine l_val rfl (o_move rfl) ?_
      refine l_no rfl ?_
      refine l_no rfl ?_
      refine l_no rfl ?_
      refine l_no rfl ?_
      refine l_no rfl ?_
      refine l_no rfl ?_
      refine l_val rfl (o_pickT rfl rfl) ?_
      refine l_val rfl (o_move rfl) ?_
      refine l_no rfl ?_
      refine l_no rfl ?_
      refine l_no rfl ?_
      refine l_no rfl ?_
      refine l_no rfl ?_
      refine l_no rfl ?_
      refine l_val rfl (o_pickT rfl rfl) ?_
      refine l_nil ?_
      refine kt_norm ?_
      refine v_sel [1, 2, 3, 4, 5, 10, 56] [5, 10] rfl rfl ?_
      refine v_condT rfl ?_
      refine v_seq ?_
      refine v_region ?_
      refine l_val rfl (o_build (vs := []) (cs := [_, _, _]) rfl rfl) ?_
      refine l_store rfl (o_storeW (key := 10) (xs := [_, _, _]) rfl rfl rfl rfl rfl rfl rfl) ?_
      refine l_val rfl (o_assign rfl) ?_
      refine l_nil ?_
      refine kt_norm ?_
      refine v_sel [10, 11] [10] rfl rfl ?_
      refine v_ret ?_
      refine kt_ret ?_
      refine ⟨[_, _], .cons (.cellW (key := 10) rfl rfl rfl) (.cons (.tmp rfl) (ResAll.nil)), ?_⟩
      rfl
    · skip
      refine l_val rfl (o_pickF rfl rfl) ?_
      refine l_val rfl (o_move rfl) ?_
      refine l_val rfl (o_move rfl) ?_
      refine l_split rfl (o_lss rfl rfl) (fun q3 => ?_) (fun q3 => ?_)
      · skip
        refine l_val rfl (o_pickF rfl rfl) ?_
        refine l_val rfl (o_move rfl) ?_
        refine l_no rfl ?_
        refine l_no rfl ?_
        refine l_val rfl (o_pickT rfl rfl) ?_
        refine l_val rfl (o_move rfl) ?_
        refine l_no rfl ?_
        refine l_no rfl ?_
        refine l_no rfl ?_
        refine l_no rfl ?_
        refine l_val rfl (o_pickT rfl rfl) ?_
        refine l_val rfl (o_move rfl) ?_
        refine l_no rfl ?_
        refine l_no rfl ?_
        refine l_no rfl ?_
        refine l_no rfl ?_
        refine l_val rfl (o_pickT rfl rfl) ?_
        refine l_val rfl (o_move rfl) ?_
        refine l_no rfl ?_
        refine l_no rfl ?_
        refine l_no rfl ?_
        refine l_no rfl ?_
        refine l_no rfl ?_
        refine l_no rfl ?_
        refine l_val rfl (o_pickT rfl rfl) ?_
        refine l_val rfl (o_move rfl) ?_
        refine l_no rfl ?_
        refine l_no rfl ?_
        refine l_no rfl ?_
        refine l_no rfl ?_
        refine l_no rfl ?_
        refine l_no rfl ?_
        refine l_val rfl (o_pickT rfl rfl) ?_
        refine l_nil ?_
        refine kt_norm ?_
        refine v_sel [1, 2, 3, 4, 5, 10, 56] [5, 10] rfl rfl ?_
        refine v_condT rfl ?_
        refine v_seq ?_
        refine v_region ?_
        refine l_val rfl (o_build (vs := []) (cs := [_, _, _]) rfl rfl) ?_
        refine l_store rfl (o_storeW (key := 10) (xs := [_, _, _]) rfl rfl rfl rfl rfl rfl rfl) ?_
        refine l_val rfl (o_assign rfl) ?_
        refine l_nil ?_
        refine kt_norm ?_
        refine v_sel [10, 11] [10] rfl rfl ?_
        refine v_ret ?_
        refine kt_ret ?_
        refine ⟨[_, _], .cons (.cellW (key := 10) rfl rfl rfl) (.cons (.tmp rfl) (ResAll.nil)), ?_⟩
        rfl
      · skip
        refine l_val rfl (o_pickF rfl rfl) ?_
        refine l_val rfl (o_move rfl) ?_
        refine l_val rfl (o_move rfl) ?_
        refine l_split rfl (o_lss rfl rfl) (fun q4 => ?_) (fun q4 => ?_)
        · skip
          refine l_val rfl (o_pickF rfl rfl) ?_
          refine l_val rfl (o_move rfl) ?_
          refine l_no rfl ?_
          refine l_no rfl ?_
          refine l_no rfl ?_
          refine l_no rfl ?_
          refine l_val rfl (o_pickT rfl rfl) ?_
          refine l_val rfl (o_move rfl) ?_
          refine l_no rfl ?_
          refine l_no rfl ?_
          refine l_no rfl ?_
          refine l_no rfl ?_
          refine l_val rfl (o_pickT rfl rfl) ?_
          refine l_val rfl (o_move rfl) ?_
          refine l_no rfl ?_
          refine l_no rfl ?_
          refine l_no rfl ?_
          refine l_no rfl ?_
          refine l_no rfl ?_
          refine l_no rfl ?_
          refine l_val rfl (o_pickT rfl rfl) ?_
          refine l_val rfl (o_move rfl) ?_
          refine l_no rfl ?_
          refine l_no rfl ?_
          refine l_no rfl ?_
          refine l_no rfl ?_
          refine l_no rfl ?_
          refine l_no rfl ?_
          refine l_val rfl (o_pickT rfl rfl) ?_
          refine l_nil ?_
          refine kt_norm ?_
          refine v_sel [1, 2, 3, 4, 5, 10, 56] [5, 10] rfl rfl ?_
          refine v_condT rfl ?_
          refine v_seq ?_
          refine v_region ?_
          refine l_val rfl (o_build (vs := []) (cs := [_, _, _]) rfl rfl) ?_
          refine l_store rfl (o_storeW (key := 10) (xs := [_, _, _]) rfl rfl rfl rfl rfl rfl rfl) ?_
          refine l_val rfl (o_assign rfl) ?_
          refine l_nil ?_
          refine kt_norm ?_
          refine v_sel [10, 11] [10] rfl rfl ?_
          refine v_ret ?_
          refine kt_ret ?_
          refine ⟨[_, _], .cons (.cellW (key := 10) rfl rfl rfl) (.cons (.tmp rfl) (ResAll.nil)), ?_⟩
          rfl
        · skip
          refine l_val rfl (o_pickF rfl rfl) ?_
          refine l_val rfl (o_move rfl) ?_
          refine l_val rfl (o_move rfl) ?_
          refine l_val rfl (o_fld rfl) ?_
          refine l_val rfl (o_load1 (key := 5) rfl rfl rfl) ?_
          refine l_split rfl (o_gtr rfl rfl) (fun q5 => ?_) (fun q5 => ?_)
          · skip
            refine l_val rfl (o_pickF rfl rfl) ?_
            refine l_val rfl (o_move rfl) ?_
            refine l_no rfl ?_
            refine l_no rfl ?_
            refine l_no rfl ?_
            refine l_no rfl ?_
            refine l_val rfl (o_pickT rfl rfl) ?_
            refine l_val rfl (o_move rfl) ?_
            refine l_no rfl ?_
            refine l_no rfl ?_
            refine l_no rfl ?_
            refine l_no rfl ?_
            refine l_no rfl ?_
            refine l_no rfl ?_
            refine l_val rfl (o_pickT rfl rfl) ?_
            refine l_val rfl (o_move rfl) ?_
            refine l_no rfl ?_
            refine l_no rfl ?_
            refine l_no rfl ?_
            refine l_no rfl ?_
            refine l_no rfl ?_
            refine l_no rfl ?_
            refine l_val rfl (o_pickT rfl rfl) ?_
            refine l_nil ?_
            refine kt_norm ?_
            refine v_sel [1, 2, 3, 4, 5, 10, 56] [5, 10] rfl rfl ?_
            refine v_condT rfl ?_
            refine v_seq ?_
            refine v_region ?_
            refine l_val rfl (o_build (vs := []) (cs := [_, _, _]) rfl rfl) ?_
            refine l_store rfl (o_storeW (key := 10) (xs := [_, _, _]) rfl rfl rfl rfl rfl rfl rfl) ?_
            refine l_val rfl (o_assign rfl) ?_
            refine l_nil ?_
            refine kt_norm ?_
            refine v_sel [10, 11] [10] rfl rfl ?_
            refine v_ret ?_
            refine kt_ret ?_
            refine ⟨[_, _], .cons (.cellW (key := 10) rfl rfl rfl) (.cons (.tmp rfl) (ResAll.nil)), ?_⟩
            rfl
          · skip
            refine l_val rfl (o_pickF rfl rfl) ?_
            refine l_val rfl (o_move rfl) ?_
            refine l_val rfl (o_move rfl) ?_
            refine l_val rfl (o_fld rfl) ?_
            refine l_val rfl (o_load1 (key := 5) rfl rfl rfl) ?_
            refine l_split rfl (o_gtr rfl rfl) (fun q6 => ?_) (fun q6 => ?_)
            · skip
              refine l_val rfl (o_pickF rfl rfl) ?_
              refine l_val rfl (o_move rfl) ?_
              refine l_no rfl ?_
              refine l_no rfl ?_
              refine l_no rfl ?_
              refine l_no rfl ?_
              refine l_no rfl ?_
              refine l_no rfl ?_
              refine l_val rfl (o_pickT rfl rfl) ?_
              refine l_val rfl (o_move rfl) ?_
              refine l_no rfl ?_
              refine l_no rfl ?_
              refine l_no rfl ?_
              refine l_no rfl ?_
              refine l_no rfl ?_
              refine l_no rfl ?_
              refine l_val rfl (o_pickT rfl rfl) ?_
              refine l_nil ?_
              refine kt_norm ?_
              refine v_sel [1, 2, 3, 4, 5, 10, 56] [5, 10] rfl rfl ?_
              refine v_condT rfl ?_
              refine v_seq ?_
              refine v_region ?_
              refine l_val rfl (o_build (vs := []) (cs := [_, _, _]) rfl rfl) ?_
              refine l_store rfl (o_storeW (key := 10) (xs := [_, _, _]) rfl rfl rfl rfl rfl rfl rfl) ?_
              refine l_val rfl (o_assign rfl) ?_
              refine l_nil ?_
              refine kt_norm ?_
              refine v_sel [10, 11] [10] rfl rfl ?_
              refine v_ret ?_
              refine kt_ret ?_
              refine ⟨[_, _], .cons (.cellW (key := 10) rfl rfl rfl) (.cons (.tmp rfl) (ResAll.nil)), ?_⟩
              rfl
            · skip
              refine l_val rfl (o_pickF rfl rfl) ?_
              refine l_val rfl (o_move rfl) ?_
              refine l_val rfl (o_move rfl) ?_
              refine l_val rfl (o_fld rfl) ?_
              refine l_val rfl (o_load1 (key := 5) rfl rfl rfl) ?_
              refine l_val rfl (o_move rfl) ?_
              refine l_val rfl (o_subi rfl rfl ?_) ?_
              · omega
              refine l_split rfl (o_gtr rfl rfl) (fun q7 => ?_) (fun q7 => ?_)
              · skip
                refine l_val rfl (o_pickF rfl rfl) ?_
                refine l_val rfl (o_move rfl) ?_
                refine l_no rfl ?_
                refine l_no rfl ?_
                refine l_no rfl ?_
                refine l_no rfl ?_
                refine l_no rfl ?_
                refine l_no rfl ?_
                refine l_val rfl (o_pickT rfl rfl) ?_
                refine l_nil ?_
                refine kt_norm ?_
                refine v_sel [1, 2, 3, 4, 5, 10, 56] [5, 10] rfl rfl ?_
                refine v_condT rfl ?_
                refine v_seq ?_
                refine v_region ?_
                refine l_val rfl (o_build (vs := []) (cs := [_, _, _]) rfl rfl) ?_
                refine l_store rfl (o_storeW (key := 10) (xs := [_, _, _]) rfl rfl rfl rfl rfl rfl rfl) ?_
                refine l_val rfl (o_assign rfl) ?_
                refine l_nil ?_
                refine kt_norm ?_
                refine v_sel [10, 11] [10] rfl rfl ?_
                refine v_ret ?_
                refine kt_ret ?_
                refine ⟨[_, _], .cons (.cellW (key := 10) rfl rfl rfl) (.cons (.tmp rfl) (ResAll.nil)), ?_⟩
                rfl
              · skip
                refine l_val rfl (o_pickF rfl rfl) ?_
                refine l_val rfl (o_move rfl) ?_
                refine l_val rfl (o_move rfl) ?_
                refine l_val rfl (o_fld rfl) ?_
                refine l_val rfl (o_load1 (key := 5) rfl rfl rfl) ?_
                refine l_val rfl (o_move rfl) ?_
                refine l_val rfl (o_subi rfl rfl ?_) ?_
                · omega
                refine l_split rfl (o_gtr rfl rfl) (fun q8 => ?_) (fun q8 => ?_)
                · skip
                  refine l_val rfl (o_pickF rfl rfl) ?_
                  refine l_nil ?_
                  refine kt_norm ?_
                  refine v_sel [1, 2, 3, 4, 5, 10, 56] [5, 10] rfl rfl ?_
                  refine v_condT rfl ?_
                  refine v_seq ?_
                  refine v_region ?_
                  refine l_val rfl (o_build (vs := []) (cs := [_, _, _]) rfl rfl) ?_
                  refine l_store rfl (o_storeW (key := 10) (xs := [_, _, _]) rfl rfl rfl rfl rfl rfl rfl) ?_
                  refine l_val rfl (o_assign rfl) ?_
                  refine l_nil ?_
                  refine kt_norm ?_
                  refine v_sel [10, 11] [10] rfl rfl ?_
                  refine v_ret ?_
                  refine kt_ret ?_
                  refine ⟨[_, _], .cons (.cellW (key := 10) rfl rfl rfl) (.cons (.tmp rfl) (ResAll.nil)), ?_⟩
                  rfl
                · exfalso; exact hno (hnd.2 (by omega))
theorem r_AtC (w : World) (pv : Value) (n h : Nat) (pix : List Int) (x y : Int) (hnh : n * h ≤ 65536) (hl : pix.length = n * h) (hV : RowV pv pix.length) (hrow : RowAt w pv 1 pix.length (iU pix)) :
    Calls Try.prog 14 #[.agg #[.int .i64 (n : Int), .int .i64 (h : Int), pv], .int .i64 x, .int .i64 y] w fun e w' => e = .returned (.int .u8 (atT n h pix x y)) ∧ Below w.heap.size w w' := by
  have hr : ∀ w', Chg (fun _ => False) w w' → RowAt w' pv 1 pix.length (iU pix) := fun w' h => hrow.chg h (fun h => h)
  have hnn : (n : Int) ≤ 65536 ∨ h = 0 := by rcases Nat.eq_zero_or_pos h with e | e; exact .inr e; left; have := Nat.mul_le_mul_left n e; omega
  obtain ⟨ap, cp, rfl⟩ := hV.sl
  refine calls_of (args := [.agg #[.int .i64 (n : Int), .int .i64 (h : Int), .slice ap pix.length cp], .int .i64 x, .int .i64 y]) Try.func14 rfl Try.ntmps14 Try.results14 rfl ?_
  refine v_seq ?_
  refine v_region ?_
  refine l_new rfl (o_box (cs := [_, _, _]) rfl rfl) fun b3 => ?_
  refine l_val rfl (o_assign rfl) ?_
  refine l_nil ?_
  refine kt_norm ?_
  refine v_seq ?_
  refine v_seq ?_
  refine v_region ?_
  skip
  refine l_val rfl (o_move rfl) ?_
  refine l_split rfl (o_lss rfl rfl) (fun q1 => ?_) (fun q1 => ?_)
  · skip
    refine l_val rfl (o_move rfl) ?_
    refine l_no rfl ?_
    refine l_no rfl ?_
    refine l_no rfl ?_
    refine l_no rfl ?_
    refine l_val rfl (o_pickT rfl rfl) ?_
    refine l_val rfl (o_move rfl) ?_
    refine l_no rfl ?_
    refine l_no rfl ?_
    refine l_val rfl (o_pickT rfl rfl) ?_
    refine l_val rfl (o_move rfl) ?_
    refine l_no rfl ?_
    refine l_no rfl ?_
    refine l_no rfl ?_
    refine l_no rfl ?_
    refine l_val rfl (o_pickT rfl rfl) ?_
    refine l_nil ?_
    refine kt_norm ?_
    refine v_sel [1, 2, 3, 24] [3] rfl rfl ?_
    refine v_condT rfl ?_
    refine v_seq ?_
    refine v_region ?_
    refine l_val rfl (o_assign rfl) ?_
    refine l_nil ?_
    refine kt_norm ?_
    refine v_ret ?_
    refine kt_ret ?_
    refine ⟨[_], .cons (.tmp rfl) (ResAll.nil), ?_⟩
    first
      | exact congrArg (Value.int .u8) (if_pos (by omega)).symm
      | exact congrArg (Value.int .u8) (if_neg (by omega)).symm
  · skip
    refine l_val rfl (o_move rfl) ?_
    refine l_val rfl (o_move rfl) ?_
    refine l_val rfl (o_fld rfl) ?_
    refine l_val rfl (o_load1 (key := 3) rfl rfl rfl) ?_
    refine l_split rfl (o_geq rfl rfl) (fun q2 => ?_) (fun q2 => ?_)
    · skip
      refine l_val rfl (o_pickF rfl rfl) ?_
      refine l_val rfl (o_move rfl) ?_
      refine l_no rfl ?_
      refine l_no rfl ?_
      refine l_val rfl (o_pickT rfl rfl) ?_
      refine l_val rfl (o_move rfl) ?_
      refine l_no rfl ?_
      refine l_no rfl ?_
      refine l_no rfl ?_
      refine l_no rfl ?_
      refine l_val rfl (o_pickT rfl rfl) ?_
      refine l_nil ?_
      refine kt_norm ?_
      refine v_sel [1, 2, 3, 24] [3] rfl rfl ?_
      refine v_condT rfl ?_
      refine v_seq ?_
      refine v_region ?_
      refine l_val rfl (o_assign rfl) ?_
      refine l_nil ?_
      refine kt_norm ?_
      refine v_ret ?_
      refine kt_ret ?_
      refine ⟨[_], .cons (.tmp rfl) (ResAll.nil), ?_⟩
      first
        | exact congrArg (Value.int .u8) (if_pos (by omega)).symm
        | exact congrArg (Value.int .u8) (if_neg (by omega)).symm
    · skip
      refine l_val rfl (o_pickF rfl rfl) ?_
      refine l_val rfl (o_move rfl) ?_
      refine l_val rfl (o_move rfl) ?_
      refine l_split rfl (o_lss rfl rfl) (fun q3 => ?_) (fun q3 => ?_)
      · skip
        refine l_val rfl (o_pickF rfl rfl) ?_
        refine l_val rfl (o_move rfl) ?_
        refine l_no rfl ?_
        refine l_no rfl ?_
        refine l_no rfl ?_
        refine l_no rfl ?_
        refine l_val rfl (o_pickT rfl rfl) ?_
        refine l_nil ?_
        refine kt_norm ?_
        refine v_sel [1, 2, 3, 24] [3] rfl rfl ?_
        refine v_condT rfl ?_
        refine v_seq ?_
        refine v_region ?_
        refine l_val rfl (o_assign rfl) ?_
        refine l_nil ?_
        refine kt_norm ?_
        refine v_ret ?_
        refine kt_ret ?_
        refine ⟨[_], .cons (.tmp rfl) (ResAll.nil), ?_⟩
        first
          | exact congrArg (Value.int .u8) (if_pos (by omega)).symm
          | exact congrArg (Value.int .u8) (if_neg (by omega)).symm
      · skip
        refine l_val rfl (o_pickF rfl rfl) ?_
        refine l_val rfl (o_move rfl) ?_
        refine l_val rfl (o_move rfl) ?_
        refine l_val rfl (o_fld rfl) ?_
        refine l_val rfl (o_load1 (key := 3) rfl rfl rfl) ?_
        refine l_split rfl (o_geq rfl rfl) (fun q4 => ?_) (fun q4 => ?_)
        · skip
          refine l_val rfl (o_pickF rfl rfl) ?_
          refine l_nil ?_
          refine kt_norm ?_
          refine v_sel [1, 2, 3, 24] [3] rfl rfl ?_
          refine v_condT rfl ?_
          refine v_seq ?_
          refine v_region ?_
          refine l_val rfl (o_assign rfl) ?_
          refine l_nil ?_
          refine kt_norm ?_
          refine v_ret ?_
          refine kt_ret ?_
          refine ⟨[_], .cons (.tmp rfl) (ResAll.nil), ?_⟩
          first
            | exact congrArg (Value.int .u8) (if_pos (by omega)).symm
            | exact congrArg (Value.int .u8) (if_neg (by omega)).symm
        · skip
          refine l_val rfl (o_pickF rfl rfl) ?_
          refine l_nil ?_
          refine kt_norm ?_
          refine v_sel [1, 2, 3, 24] [3] rfl rfl ?_
          refine v_condF rfl ?_
          refine v_skip ?_
          refine kt_norm ?_
          refine v_seq ?_
          refine v_region ?_
          have hwx : 0 ≤ x ∧ x < n := by omega
          have hwy : 0 ≤ y ∧ y < h := by omega
          have hix := at_ix hwx hwy
          refine l_val rfl (o_fld rfl) ?_
          refine l_val rfl (o_load1 (key := 3) rfl rfl rfl) ?_
          refine l_val rfl (o_move rfl) ?_
          refine l_val rfl (o_fld rfl) ?_
          refine l_val rfl (o_load1 (key := 3) rfl rfl rfl) ?_
          refine l_val rfl (o_muli rfl rfl ?_) ?_
          · omega
          refine l_val rfl (o_move rfl) ?_
          refine l_val rfl (o_addi rfl rfl ?_) ?_
          · omega
          refine l_val rfl (o_idx ((y * n + x).toNat) rfl hV rfl (by omega) (by omega)) ?_
          refine l_val rfl (o_loadR1 rfl (row_imm hr) (el_u8 (l := pix) (i := (y * n + x).toNat) (by omega))) ?_
          refine l_val rfl (o_assign rfl) ?_
          refine l_nil ?_
          refine kt_norm ?_
          refine v_sel [6] [] rfl rfl ?_
          refine v_ret ?_
          refine ⟨[_], .cons (.tmp rfl) (ResAll.nil), ?_⟩
          first
            | exact congrArg (Value.int .u8) (if_pos (by omega)).symm
            | exact congrArg (Value.int .u8) (if_neg (by omega)).symm
set_option maxHeartbeats 1000000 in
theorem r_CropY (w : World) (pv : Value) (n h : Nat) (pix : List Int) (x y cw ch : Nat) (hn : n ≤ 256) (hh : h ≤ 256) (hx : x + cw ≤ n) (hy : y + ch ≤ h) (hcw : 1 ≤ cw) (hch : 1 ≤ ch) (hl : pix.length = n * h) (hV : RowV pv pix.length) (hrow : RowAt w pv 1 pix.length (iU pix)) :
    Calls Try.prog 11 #[.agg #[.int .i64 (n : Int), .int .i64 (h : Int), pv], .int .i64 (x : Int), .int .i64 (y : Int), .int .i64 (cw : Int), .int .i64 (ch : Int)] w fun e w' => ∃ r, e = .returned (.tuple #[.agg #[.int .i64 (cw : Int), .int .i64 (ch : Int), r], .int .i64 0]) ∧ Below w.heap.size w w' ∧ OwnAt w.heap.size w' r 5 1 (cropT n pix x y cw ch).length (iU (cropT n pix x y cw ch)) := by
  have hr : ∀ w', Chg (fun _ => False) w w' → RowAt w' pv 1 pix.length (iU pix) := fun w' h => hrow.chg h (fun h => h)
  have hpb : n * h ≤ 65536 := nh_le hn hh
  obtain ⟨ap, cp, rfl⟩ := hV.sl
  refine calls_said (args := [.agg #[.int .i64 (n : Int), .int .i64 (h : Int), .slice ap pix.length cp], .int .i64 (x : Int), .int .i64 (y : Int), .int .i64 (cw : Int), .int .i64 (ch : Int)]) (fun r => .tuple #[.agg #[.int .i64 (cw : Int), .int .i64 (ch : Int), r], .int .i64 0]) (fun r w' => (Hp.own r 5 1 (cropT n pix x y cw ch).length (iU (cropT n pix x y cw ch))).ok w') (fun r b => r.ownBlock = some b) Try.func11 rfl Try.ntmps11 Try.results11 rfl ?_
  refine v_seq ?_
  refine v_region ?_
  refine l_new rfl (o_box (cs := [_, _, _]) rfl rfl) fun b5 => ?_
  refine l_new rfl o_alloc fun b10 => ?_
  refine l_val rfl (o_assign rfl) ?_
  refine l_nil ?_
  refine kt_norm ?_
  refine v_seq ?_
  refine v_seq ?_
  refine v_region ?_
  refine l_val rfl (o_move rfl) ?_
  refine l_split rfl (o_lss rfl rfl) (fun q1 => absurd q1 (by omega)) (fun q1 => ?_)
  refine l_val rfl (o_move rfl) ?_
  refine l_val rfl (o_move rfl) ?_
  refine l_split rfl (o_lss rfl rfl) (fun q2 => absurd q2 (by omega)) (fun q2 => ?_)
  refine l_val rfl (o_pickF rfl rfl) ?_
  refine l_val rfl (o_move rfl) ?_
  refine l_val rfl (o_move rfl) ?_
  refine l_split rfl (o_lss rfl rfl) (fun q3 => absurd q3 (by omega)) (fun q3 => ?_)
  refine l_val rfl (o_pickF rfl rfl) ?_
  refine l_val rfl (o_move rfl) ?_
  refine l_val rfl (o_move rfl) ?_
  refine l_split rfl (o_lss rfl rfl) (fun q4 => absurd q4 (by omega)) (fun q4 => ?_)
  refine l_val rfl (o_pickF rfl rfl) ?_
  refine l_val rfl (o_move rfl) ?_
  refine l_val rfl (o_move rfl) ?_
  refine l_val rfl (o_fld rfl) ?_
  refine l_val rfl (o_load1 (key := 5) rfl rfl rfl) ?_
  refine l_split rfl (o_gtr rfl rfl) (fun q5 => absurd q5 (by omega)) (fun q5 => ?_)
  refine l_val rfl (o_pickF rfl rfl) ?_
  refine l_val rfl (o_move rfl) ?_
  refine l_val rfl (o_move rfl) ?_
  refine l_val rfl (o_fld rfl) ?_
  refine l_val rfl (o_load1 (key := 5) rfl rfl rfl) ?_
  refine l_split rfl (o_gtr rfl rfl) (fun q6 => absurd q6 (by omega)) (fun q6 => ?_)
  refine l_val rfl (o_pickF rfl rfl) ?_
  refine l_val rfl (o_move rfl) ?_
  refine l_val rfl (o_move rfl) ?_
  refine l_val rfl (o_fld rfl) ?_
  refine l_val rfl (o_load1 (key := 5) rfl rfl rfl) ?_
  refine l_val rfl (o_move rfl) ?_
  refine l_val rfl (o_subi rfl rfl ?_) ?_
  · omega
  refine l_split rfl (o_gtr rfl rfl) (fun q7 => absurd q7 (by omega)) (fun q7 => ?_)
  refine l_val rfl (o_pickF rfl rfl) ?_
  refine l_val rfl (o_move rfl) ?_
  refine l_val rfl (o_move rfl) ?_
  refine l_val rfl (o_fld rfl) ?_
  refine l_val rfl (o_load1 (key := 5) rfl rfl rfl) ?_
  refine l_val rfl (o_move rfl) ?_
  refine l_val rfl (o_subi rfl rfl ?_) ?_
  · omega
  refine l_split rfl (o_gtr rfl rfl) (fun q8 => absurd q8 (by omega)) (fun q8 => ?_)
  refine l_val rfl (o_pickF rfl rfl) ?_
  refine l_nil ?_
  refine kt_norm ?_
  refine v_sel [1, 2, 3, 4, 5, 10, 56] [5, 10] rfl rfl ?_
  refine v_condF rfl ?_
  refine v_skip ?_
  refine kt_norm ?_
  refine v_seq ?_
  refine v_region ?_
  refine l_val rfl (o_move rfl) ?_
  refine l_val rfl (o_move rfl) ?_
  refine l_val rfl (o_build (vs := [_, _]) (cs := [_, _, _]) rfl rfl) ?_
  refine l_new rfl o_alloc fun b12 => ?_
  refine l_store rfl (o_storeW (key := 12) (xs := [_, _, _]) rfl rfl rfl rfl rfl rfl rfl) ?_
  refine l_nil ?_
  refine kt_norm ?_
  refine v_seq ?_
  refine v_seq ?_
  refine v_region ?_
  refine l_val rfl (o_assign rfl) ?_
  refine l_nil ?_
  refine kt_norm ?_
  refine v_block ?_
  refine v_ghost 82 5 1 ?_
  refine v_loopS (α := Nat × Value) (fun ⟨k, rv⟩ => [(13, .int .i64 (k : Int))]) (fun ⟨k, rv⟩ => [(12, Hp.box b12 36 [.int .i64 (cw : Int), .int .i64 (ch : Int), rv]), (82, Hp.own rv 5 1 (cropT n pix x y cw k).length (iU (cropT n pix x y cw k)))])  (fun ⟨k, rv⟩ => k ≤ ch ∧ RowV rv (cropT n pix x y cw k).length) (fun ⟨k, rv⟩ => ch - k) (0, .slice none 0 0) [1, 2, 3, 4, 5, 10, 12] [5, 10] ⟨Nat.zero_le _, .nil0⟩  (And.intro rfl (True.intro)) rfl (And.intro rfl (And.intro rfl (True.intro))) rfl ?_
  rintro ⟨k, rv⟩ ⟨hk0, hrv⟩
  refine v_seq ?_
  refine v_seq ?_
  refine v_region ?_
  refine l_val rfl (o_move rfl) ?_
  refine l_val rfl (o_move rfl) ?_
  refine l_split rfl (o_lss rfl rfl) (fun q9 => ?_) (fun q9 => ?_)
  · have hk : k < ch := by omega
    have hin := crop_in (n := n) (h := h) (x := x) (y := y) (cw := cw) (k := k) hx (by omega)
    have hll := cropT_len hl hx k (show y + k ≤ h by omega)
    have hl2 := cropT_len hl hx (k + 1) (show y + (k + 1) ≤ h by omega)
    have hkb : k * cw ≤ 256 * 256 := Nat.mul_le_mul (by omega) (by omega)
    have hkb2 : (k + 1) * cw = k * cw + cw := Nat.succ_mul k cw
    have hyk : (y + k) * n ≤ 256 * 256 := Nat.mul_le_mul (by omega) (by omega)
    have hykc : (((y + k) * n : Nat) : Int) = ((y + k : Nat) : Int) * (n : Int) := Int.natCast_mul _ _
    refine l_nil ?_
    refine kt_norm ?_
    refine v_condT rfl ?_
    refine v_skip ?_
    refine kt_norm ?_
    refine v_seq ?_
    refine v_block ?_
    refine v_seq ?_
    refine v_region ?_
    refine l_val rfl (o_assign rfl) ?_
    refine l_nil ?_
    refine kt_norm ?_
    refine v_block ?_
    refine v_loopS (α := Nat × Value) (fun ⟨i, rv2⟩ => [(14, .int .i64 (i : Int))]) (fun ⟨i, rv2⟩ => [(12, Hp.box b12 36 [.int .i64 (cw : Int), .int .i64 (ch : Int), rv2]), (82, Hp.own rv2 5 1 ((cropT n pix x y cw k) ++ (pix.drop ((y + k) * n + x)).take i).length (iU ((cropT n pix x y cw k) ++ (pix.drop ((y + k) * n + x)).take i)))])  (fun ⟨i, rv2⟩ => i ≤ cw ∧ RowV rv2 ((cropT n pix x y cw k) ++ (pix.drop ((y + k) * n + x)).take i).length) (fun ⟨i, rv2⟩ => cw - i) (0, rv) [13, 1, 2, 3, 4, 5, 10, 12] [5, 10] ⟨Nat.zero_le _, by simpa using hrv⟩  (And.intro rfl (True.intro)) rfl (And.intro rfl (And.intro (congrArg some (own_congr (by simp) (by simp))) (True.intro))) rfl ?_
    rintro ⟨i, rv2⟩ ⟨hi0, hrv2⟩
    refine v_seq ?_
    refine v_seq ?_
    refine v_region ?_
    refine l_val rfl (o_move rfl) ?_
    refine l_val rfl (o_move rfl) ?_
    refine l_split rfl (o_lss rfl rfl) (fun q10 => ?_) (fun q10 => ?_)
    · have hi : i < cw := by omega
      have hstep := crop_step (n := n) (h := h) (o := ((y + k) * n + x)) (cw := cw) (i := i) (pix := pix) (by omega) hi
      have hpt := crop_get (n := n) (h := h) (x := x) (y := y) (i := i) (k := k) (pix := pix) (by omega) (by omega)
      have hal : ((cropT n pix x y cw k) ++ (pix.drop ((y + k) * n + x)).take i).length = k * cw + i := by rw [List.length_append, hll, List.length_take, List.length_drop]; omega
      have hal2 : ((cropT n pix x y cw k) ++ (pix.drop ((y + k) * n + x)).take (i + 1)) = ((cropT n pix x y cw k) ++ (pix.drop ((y + k) * n + x)).take i) ++ [pix.getD (((y + k) * n + x) + i) 0] := by rw [hstep, List.append_assoc]
      have hal3 : ((cropT n pix x y cw k) ++ (pix.drop ((y + k) * n + x)).take (i + 1)).length = ((cropT n pix x y cw k) ++ (pix.drop ((y + k) * n + x)).take i).length + 1 := by rw [hal2]; exact List.length_append
      refine l_nil ?_
      refine kt_norm ?_
      refine v_condT rfl ?_
      refine v_skip ?_
      refine kt_norm ?_
      refine v_seq ?_
      refine v_block ?_
      refine v_drawW [(82, ((cropT n pix x y cw k) ++ (pix.drop ((y + k) * n + x)).take i).length + 1)] [[], [12], [5], [], [], [], [], [], [], [], [], [82, 81], [], [12]] mixed ?_ (by kernel_rfl) (by kernel_rfl)
      refine d_val (fun _ => rfl) rfl rfl (fun σ10 => o_fld rfl) ?_
      refine d_val (fun _ => rfl) rfl rfl (fun σ10 => o_load1 (key := 12) rfl rfl rfl) ?_
      refine d_val (fun _ => rfl) rfl rfl (fun σ10 => o_loadW (key := 5) rfl rfl rfl) ?_
      refine d_val (fun _ => rfl) rfl rfl (fun σ10 => o_move rfl) ?_
      refine d_val (fun _ => rfl) rfl rfl (fun σ10 => o_move rfl) ?_
      refine d_val (fun _ => rfl) rfl rfl (fun σ10 => o_addi rfl rfl ?_) ?_
      · omega
      refine d_val (fun _ => rfl) rfl rfl (fun σ10 => o_move rfl) ?_
      refine d_val (fun _ => rfl) rfl rfl (fun σ10 => o_move rfl) ?_
      refine d_val (fun _ => rfl) rfl rfl (fun σ10 => o_addi rfl rfl ?_) ?_
      · omega
      refine d_gcall (y := .int .u8 (pix.getD (((y + k) * n + x) + i) 0)) (caps := #[]) (fun _ => rfl) (fun _ => rfl) (ent_of Try.func14 rfl rfl) (vs := fun _ => [_, _, _]) (fun _ => rfl) (fun σ10 w' hg hh => hpt ▸ r_AtC w' (.slice ap pix.length cp) n h pix (x + i) (y + k) (by omega) hl hV (hr w' hg)) ?_
      refine d_bsO (n := 1) (vs := fun _ => [_]) (cs := fun _ => [_]) (fun _ => rfl) (fun _ => rfl) (fun _ => rfl) rfl rfl (fun _ => rfl) (fun _ => rfl) ?_
      refine d_app 82 (n := ((cropT n pix x y cw k) ++ (pix.drop ((y + k) * n + x)).take i).length) (mm := 1) (κ := [81]) (fun _ => rfl) (fun _ => rfl) (fun _ => rfl) (fun _ => rfl) rfl (fun σ10 => .inl ⟨_, _, _, rfl⟩) (fun σ10 => row_own (key := 81) rfl) (by omega) (fun _ h => h) ?_
      refine d_val (fun _ => rfl) rfl rfl (fun σ10 => o_fld rfl) ?_
      refine d_store (fun _ => rfl) rfl rfl (fun σ10 => o_store1 (key := 12) (rs := [_, _, _]) rfl rfl (rowV_cells (show RowV (σ10.v 82) (((cropT n pix x y cw k) ++ (pix.drop ((y + k) * n + x)).take i).length + 1) from σ10.ok 82)) rfl rfl (rowV_one (show RowV (σ10.v 82) (((cropT n pix x y cw k) ++ (pix.drop ((y + k) * n + x)).take i).length + 1) from σ10.ok 82)) rfl) ?_
      refine d_nil (fun σ10 => ?_)
      refine l_nil ?_
      refine kb_norm ?_
      refine kt_norm ?_
      refine v_sel [14, 13, 1, 2, 3, 4, 5, 10, 12] [5, 10, 12, 82] rfl rfl ?_
      refine v_region ?_
      refine l_val rfl (o_move rfl) ?_
      refine l_val rfl (o_addi rfl rfl ?_) ?_
      · omega
      refine l_val rfl (o_assign rfl) ?_
      refine l_nil ?_
      refine kt_norm ?_
      refine ⟨(i + 1, σ10.v 82), ⟨by omega, (show RowV (σ10.v 82) (((cropT n pix x y cw k) ++ (pix.drop ((y + k) * n + x)).take i).length + 1) from σ10.ok 82).to hal3.symm⟩, (by show cw - (i + 1) < cw - i; omega), le_app (And.intro rfl (True.intro)) [13, 1, 2, 3, 4, 5, 10, 12] rfl (And.intro rfl (And.intro (congrArg some (own_congr hal3.symm (by rw [hal2]; simp [iU]))) (True.intro))) [5, 10] rfl⟩
    · skip
      refine l_nil ?_
      refine kt_norm ?_
      refine v_condF rfl ?_
      refine v_exit ?_
      refine kt_exit ?_
      refine kt_exit ?_
      refine kb_eq ?_
      refine kb_norm ?_
      refine kt_norm ?_
      refine v_region ?_
      refine l_val rfl (o_move rfl) ?_
      refine l_val rfl (o_addi rfl rfl ?_) ?_
      · omega
      refine l_val rfl (o_assign rfl) ?_
      refine l_nil ?_
      refine kt_norm ?_
      obtain rfl : i = cw := by omega
      have hcr : ((cropT n pix x y i k) ++ (pix.drop ((y + k) * n + x)).take i) = (cropT n pix x y i (k + 1)) := rfl
      refine ⟨(k + 1, rv2), ⟨by omega, hrv2⟩, (by show ch - (k + 1) < ch - k; omega), le_app (And.intro rfl (True.intro)) [1, 2, 3, 4, 5, 10, 12] rfl (And.intro rfl (And.intro rfl (True.intro))) [5, 10] rfl⟩
  · skip
    refine l_nil ?_
    refine kt_norm ?_
    refine v_condF rfl ?_
    refine v_exit ?_
    refine kt_exit ?_
    refine kt_exit ?_
    refine kb_eq ?_
    refine kt_norm ?_
    refine v_sel [10, 12] [10, 12, 82] rfl rfl ?_
    refine v_seq ?_
    refine v_region ?_
    obtain rfl : k = ch := by omega
    obtain ⟨ar, cr, rfl⟩ := hrv.sl
    refine l_val rfl (o_loadW (key := 12) rfl rfl rfl) ?_
    refine l_store rfl (o_storeW (key := 10) (xs := [_, _, _]) rfl rfl rfl rfl rfl rfl rfl) ?_
    refine l_val rfl (o_assign rfl) ?_
    refine l_nil ?_
    refine kt_norm ?_
    refine v_ret ?_
    refine ⟨[_, _], .cons (.cellW (key := 10) rfl rfl rfl) (.cons (.tmp rfl) (ResAll.nil)), ?_⟩
    exact ⟨.slice ar _ cr, rfl, fun w' ho => ⟨(ho.mo 82 _ rfl).1, fun b hb => ((ho.mo 82 _ rfl).2 b hb).elim id False.elim⟩⟩
end Go.Proofs.Ytllhohbenniaaaa

/- Pieces put one by one. Conditions: none. -/
namespace Go.Proofs.Ytllhohbenniaaaa
open Go.Proofs Go.RowKit Go.Shelf

variable {C : Cx} {K : Exit → St → Prop} {ops : Array Oper} {rest : List Oper} {l : List (Nat × Value)} {m : List (Nat × Hp)} {g : World → Prop} {gb : Nat → Prop} {dd : List Nat} in
theorem l_capd (key : Nat) {v : Value} {E esz n : Nat} {xs : List Value} (hk : lk m key = some (.own v E esz n xs)) (next : Capd v → VL C ops rest K (mk l m g gb dd)) : VL C ops rest K (mk l m g gb dd) :=
  fun a w hr => next (capd_own (hr.mo key _ hk).1) a w hr
def All2 (R : Value → List PtT → Prop) (vs : List Value) (ps : List (List PtT)) : Prop := vs.length = ps.length ∧ ∀ i, i < ps.length → R (vs.getD i undef) (ps.getD i [])
theorem All2.append {R : Value → List PtT → Prop} {a b : List Value} {p q : List (List PtT)} (h : All2 R a p) (k : All2 R b q) : All2 R (a ++ b) (p ++ q) := by
  refine ⟨by rw [List.length_append, List.length_append, h.1, k.1], fun i hi => ?_⟩
  rw [List.length_append] at hi
  rw [List.getD_eq_getElem?_getD, List.getD_eq_getElem?_getD, List.getElem?_append, List.getElem?_append, h.1]
  by_cases e : i < p.length
  · rw [if_pos e, if_pos e, ← List.getD_eq_getElem?_getD, ← List.getD_eq_getElem?_getD]; exact h.2 i e
  · rw [if_neg e, if_neg e, ← List.getD_eq_getElem?_getD, ← List.getD_eq_getElem?_getD]; exact k.2 _ (by omega)
theorem All2.drop {R : Value → List PtT → Prop} {a : List Value} {p : List (List PtT)} (h : All2 R a p) (k : Nat) : All2 R (a.drop k) (p.drop k) := by
  refine ⟨by rw [List.length_drop, List.length_drop, h.1], fun i hi => ?_⟩
  rw [List.length_drop] at hi
  rw [List.getD_eq_getElem?_getD, List.getD_eq_getElem?_getD, List.getElem?_drop, List.getElem?_drop, ← List.getD_eq_getElem?_getD, ← List.getD_eq_getElem?_getD]
  exact h.2 _ (by omega)
theorem All2.take {R : Value → List PtT → Prop} {a : List Value} {p : List (List PtT)} (h : All2 R a p) (k : Nat) : All2 R (a.take k) (p.take k) := by
  refine ⟨by rw [List.length_take, List.length_take, h.1], fun i hi => ?_⟩
  rw [List.length_take] at hi
  rw [List.getD_eq_getElem?_getD, List.getD_eq_getElem?_getD, List.getElem?_take_of_lt (by omega), List.getElem?_take_of_lt (by omega), ← List.getD_eq_getElem?_getD, ← List.getD_eq_getElem?_getD]
  exact h.2 _ (by omega)
theorem All2.nil {R : Value → List PtT → Prop} : All2 R [] [] := ⟨rfl, fun i hi => absurd hi (Nat.not_lt_zero i)⟩
theorem All2.one {R : Value → List PtT → Prop} {u : Value} {pc : List PtT} (h : R u pc) : All2 R [u] [pc] := ⟨rfl, fun i hi => by
  obtain rfl : i = 0 := by simpa using hi
  exact h⟩
def RV (u : Value) (pc : List PtT) : Prop := RowV u pc.length
def RP (w : World) (u : Value) (pc : List PtT) : Prop := RowAt w u 2 pc.length (pc.flatMap eP)
theorem PcsW.all {v : Value} {vs : List Value} {ps : List (List PtT)} (h : PcsW v vs ps) : All2 RV vs ps := ⟨h.lenv, h.pV⟩
theorem pcsW_of {v : Value} {vs : List Value} {ps : List (List PtT)} (h : RowV v ps.length) (hl : ps.length ≤ 1000000) (k : All2 RV vs ps) : PcsW v vs ps := ⟨h, k.1, by omega, k.2⟩
theorem PcsAt.all {w : World} {v : Value} {vs : List Value} {ps : List (List PtT)} (h : PcsAt w v vs ps) (hw : PcsW v vs ps) : All2 (RP w) vs ps := ⟨hw.lenv, h.pc⟩
theorem pcsAt_of {w : World} {v : Value} {vs : List Value} {ps : List (List PtT)} (h : RowAt w v 1 ps.length vs) (k : All2 (RP w) vs ps) : PcsAt w v vs ps := ⟨h, k.2⟩
theorem oriT_len (pc : List PtT) : (oriT pc).length = pc.length := by unfold oriT; split; exact List.length_reverse; rfl
theorem oriT_bnd {pc : List PtT} (h : BndP pc) : BndP (oriT pc) := by
  refine ⟨by rw [oriT_len]; exact h.1, fun j hj => ?_⟩
  have hm : (oriT pc).getD j dP ∈ oriT pc := pt_mem hj
  have hm2 : (oriT pc).getD j dP ∈ pc := by
    generalize (oriT pc).getD j dP = p at hm
    unfold oriT at hm
    split at hm
    · exact List.mem_reverse.1 hm
    · exact hm
  exact h.near _ hm2
theorem putT_yes {qs : List (List PtT)} {pc : List PtT} (h : convexB (oriT pc) = true) : putT qs pc = qs ++ [oriT pc] := if_pos h
theorem putT_no {qs : List (List PtT)} {pc : List PtT} (h : convexB (oriT pc) = false) : putT qs pc = qs := if_neg (by rw [h]; exact Bool.false_ne_true)
theorem put_mem {ps : List (List PtT)} : ∀ k, k ≤ ps.length → ∀ q ∈ putAll ps k, ∃ pc ∈ ps, q = oriT pc ∧ convexB (oriT pc) = true
  | 0, _, q, h => by simp [putAll] at h
  | k + 1, hk, q, h => by
    rw [putAll_succ (by omega)] at h
    have hm : ps.getD k [] ∈ ps := by
      rw [List.getD_eq_getElem?_getD, List.getElem?_eq_getElem (show k < ps.length by omega)]; exact List.getElem_mem _
    unfold putT at h
    split at h
    · rename_i hc
      rcases List.mem_append.1 h with h | h
      · exact put_mem k (by omega) q h
      · rw [List.mem_singleton.1 h]; exact ⟨_, hm, rfl, hc⟩
    · exact put_mem k (by omega) q h
theorem put_bnd {ps : List (List PtT)} (h : Bn20 ps) : Bn20 (putAll ps ps.length) := by
  have hl := putAll_len ps ps.length (Nat.le_refl _)
  refine ⟨by have := h.1; omega, fun i hi => ?_⟩
  have hm : (putAll ps ps.length).getD i [] ∈ putAll ps ps.length := by
    rw [List.getD_eq_getElem?_getD, List.getElem?_eq_getElem hi]; exact List.getElem_mem _
  obtain ⟨pc, hp, e, _⟩ := put_mem ps.length (Nat.le_refl _) _ hm
  rw [e]
  exact oriT_bnd (h.bnd.x.mem hp)
theorem ord_bnd {qs : List (List PtT)} (h : Bn20 qs) (k : Nat) (hk : k ≤ qs.length) : BndX (qs.drop k ++ qs.take k ++ qs) := by
  refine ⟨by simp only [List.length_append, List.length_drop, List.length_take]; have := h.1; omega, fun i hi => ?_⟩
  have hm : (qs.drop k ++ qs.take k ++ qs).getD i [] ∈ qs.drop k ++ qs.take k ++ qs := by
    rw [List.getD_eq_getElem?_getD, List.getElem?_eq_getElem hi]; exact List.getElem_mem _
  have : (qs.drop k ++ qs.take k ++ qs).getD i [] ∈ qs := by
    rcases List.mem_append.1 hm with h1 | h1
    · rcases List.mem_append.1 h1 with h1 | h1
      · exact List.mem_of_mem_drop h1
      · exact List.mem_of_mem_take h1
    · exact h1
  exact h.bnd.x.mem this
theorem ord_len {qs : List (List PtT)} {k : Nat} (hk : k ≤ qs.length) : (qs.drop k ++ qs.take k ++ qs).length = 0 + (qs.length - k) + k + qs.length := by
  simp only [List.length_append, List.length_drop, List.length_take]; omega
theorem rowAt_takeV {w : World} {v : Value} {esz n : Nat} {xs : List Value} (h : RowAt w v esz n xs) {hi : Nat} (hle : hi ≤ n) : RowAt w (subTo v hi) esz hi (xs.take (hi * esz)) := rowAt_to h hle
theorem o_sliceToC {C : Cx} {s : St} {d : Option Nat} {x z : Operand} {T E ty : TypeId} {pos : String} {aft : Array Edge} {gd : Option (Nat × Bool)} {v : Value} {n esz : Nat} {k : IntKind} {q : Int} (hi : Nat) [ht : TSl C.P T E esz] (h : ev C s x = some v) (hv : RowV v n) (hcap : Capd v) (h2 : ev C s z = some (.int k q)) (hq : q = ((hi : Nat) : Int)) (hle : hi ≤ n) :
    OpV C s ⟨d, .slice T x none (some z) none, ty, pos, aft, gd⟩ [] (subTo v hi) := opv _ _ (by simp) fun ρ w hr => by
  have hx := rd1 hr (x := x) (by simp [Op.operands]) h
  have hz := rd1 hr (x := z) (by simp [Op.operands]) h2
  subst hq
  obtain ⟨b, c, rfl⟩ := hv.sl
  have h6 := hcap _ _ _ rfl
  simp [execOp, hx, hz, run_sliceTo (P := C.P) (w := w) (T := T) (k := k) (b := b) n (show hi ≤ c by omega), Sem.run_bind, Result.andThen, subTo]
/-- what a put comes to: nothing, or a slice and a row -/
abbrev PutX (n m : Nat) := Option {x : Value × Value // RowV x.1 (n + 1) ∧ Capd x.1 ∧ RowV x.2 m}
def putV {n m : Nat} (v : Value) (o : PutX n m) : Value := match o with | none => v | some x => x.1.1
def putW {n m : Nat} (vs : List Value) (o : PutX n m) : List Value := match o with | none => vs | some x => vs ++ [x.1.2]
def putG {n m : Nat} (vs : List Value) (pc : List PtT) (o : PutX n m) (w : World) : Prop := match o with | none => True | some x => (Hp.own x.1.1 46 1 (n + 1) (vs ++ [x.1.2])).ok w ∧ (Hp.own x.1.2 59 2 m ((oriT pc).flatMap eP)).ok w
def putB {n m : Nat} (o : PutX n m) (b : Nat) : Prop := match o with | none => False | some x => x.1.1.ownBlock = some b ∨ x.1.2.ownBlock = some b
abbrev PutY (n : Nat) (pc : List PtT) := {o : PutX n pc.length // o.isSome = convexB (oriT pc)}
theorem putG_keep {n m : Nat} {vs : List Value} {pc : List PtT} (o : PutX n m) (w1 w2 : World) (h : putG vs pc o w1) (hb : ∀ b, putB o b → w2.heap[b]? = w1.heap[b]?) : putG vs pc o w2 := by
  match o, h, hb with
  | none, _, _ => trivial
  | some x, h, hb => exact ⟨Hp.keep h.1 fun b e => hb b (.inl e), Hp.keep h.2 fun b e => hb b (.inr e)⟩
theorem putG_lt {n m : Nat} {vs : List Value} {pc : List PtT} (o : PutX n m) (w1 : World) (b : Nat) (h : putG vs pc o w1) (hb : putB o b) : b < w1.heap.size := by
  match o, h, hb with
  | some x, h, hb => exact hb.elim (fun e => Hp.lt h.1 e) (fun e => Hp.lt h.2 e)
theorem capd_put {n m : Nat} {v : Value} (h : Capd v) (o : PutX n m) : Capd (putV v o) := by
  match o with
  | none => exact h
  | some x => exact x.2.2.1
theorem pcsW_put {v : Value} {vs : List Value} {qs : List (List PtT)} {pc : List PtT} (h : PcsW v vs qs) (hl : qs.length ≤ 100000) (o : PutY qs.length pc) : PcsW (putV v o.1) (putW vs o.1) (putT qs pc) := by
  obtain ⟨o, ho⟩ := o
  match o, ho with
  | none, ho => rw [putT_no ho.symm]; exact h
  | some x, ho =>
    rw [putT_yes ho.symm]
    exact pcsW_of (by rw [List.length_append]; exact x.2.1) (by rw [List.length_append, List.length_singleton]; omega) (h.all.append (.one (by unfold RV; rw [oriT_len]; exact x.2.2.2)))
theorem pcsAt_put {w : World} {v : Value} {vs : List Value} {qs : List (List PtT)} {pc : List PtT} (hW : PcsW v vs qs) (h : PcsAt w v vs qs) (o : PutY qs.length pc) (hg : putG vs pc o.1 w) : PcsAt w (putV v o.1) (putW vs o.1) (putT qs pc) := by
  obtain ⟨o, ho⟩ := o
  match o, ho, hg with
  | none, ho, _ => rw [putT_no ho.symm]; exact h
  | some x, ho, hg =>
    rw [putT_yes ho.symm]
    exact pcsAt_of (by rw [List.length_append]; exact rowAt_own hg.1) ((h.all hW).append (.one (by unfold RP; rw [oriT_len]; exact rowAt_own hg.2)))
theorem a_Put (w : World) (a : Option Addr) (n c : Nat) (pvs : List Value) (u : Value) (pc : List PtT) (hn : n ≤ 1000000) (hcap : n ≤ c) (hV : RowV (.slice a n c) n) (hrow : RowAt w (.slice a n c) 1 n pvs) (hs : pc.length ≤ 1000000) (hU : RowV u pc.length) (hrowU : RowAt w u 2 pc.length (pc.flatMap eP)) (hnear : ∀ p ∈ pc, NearT p) :
    Calls Try.prog 21 #[.slice a n c, u] w fun e w' => ∃ o : PutY n pc, e = .returned (putV (.slice a n c) o.1) ∧ Below w.heap.size w w' ∧ putG pvs pc o.1 w' ∧ ∀ b, putB o.1 b → w.heap.size ≤ b := by
  by_cases hcx : convexB (oriT pc) = true
  · exact (a_PutYes w a n c pvs u pc hn hcap hV hrow hs hU hrowU hnear hcx).mono fun e w2 ⟨x, h1, h2, h3, h4⟩ => ⟨⟨some ⟨x, rowV_own h3.1, capd_own h3.1, rowV_own h3.2⟩, hcx.symm⟩, h1, h2, h3, h4⟩
  · rw [Bool.not_eq_true] at hcx
    exact (a_PutNo w a n c pvs u pc hn hcap hV hrow hs hU hrowU hnear hcx).mono fun e w2 ⟨h1, h2⟩ => ⟨⟨none, hcx.symm⟩, h1, h2, trivial, fun b hb => hb.elim⟩

end Go.Proofs.Ytllhohbenniaaaa

/- Whether two images are the same; any part of an image is as the document has it. Conditions: none. -/
namespace Go.Proofs.Ytllhohbenniaaaa
open Go.Proofs Go.RowKit Go.Shelf

theorem ext_int {p q : List Int} (h : p.length = q.length) (hb : ∀ k, k < p.length → p.getD k 0 = q.getD k 0) : p = q := List.ext_getElem h fun k h1 h2 => by
  have := hb k h1
  rwa [List.getD_eq_getElem?_getD, List.getD_eq_getElem?_getD, List.getElem?_eq_getElem h1, List.getElem?_eq_getElem h2] at this
theorem rowAt_nilU (w : World) : RowAt w (.slice none 0 0) 1 ([] : List Int).length (iU []) := ⟨rfl, fun j u hu => by simp [iU] at hu, fun u hu => by simp [iU] at hu⟩
theorem a_EqualG (w : World) (v u : Value) (p q : List Int) (hn : p.length ≤ 1000000) (hn2 : q.length ≤ 1000000) (hV : RowV v p.length) (hrow : RowAt w v 1 p.length (iU p)) (hU : RowV u q.length) (hrow2 : RowAt w u 1 q.length (iU q)) :
    Calls Try.prog 34 #[v, u] w fun e w' => e = .returned (.bool (decide (p = q))) ∧ Below w.heap.size w w' := by
  have hr : ∀ w', Chg (fun _ => False) w w' → RowAt w' v 1 p.length (iU p) := fun w' h => hrow.chg h (fun h => h)
  have hr2 : ∀ w', Chg (fun _ => False) w w' → RowAt w' u 1 q.length (iU q) := fun w' h => hrow2.chg h (fun h => h)
  refine calls_of (args := [v, u]) Try.func34 rfl Try.ntmps34 Try.results34 rfl ?_
  refine v_seq ?_
  refine v_region ?_
  refine l_val rfl (o_assign rfl) ?_
  refine l_nil ?_
  refine kt_norm ?_
  refine v_seq ?_
  refine v_seq ?_
  refine v_region ?_
  refine l_val rfl (o_move rfl) ?_
  refine l_val rfl (o_len rfl hV) ?_
  refine l_val rfl (o_move rfl) ?_
  refine l_val rfl (o_len rfl hU) ?_
  refine l_split rfl (o_neq rfl rfl) (fun q1 => ?_) (fun q1 => ?_)
  · skip
    refine l_nil ?_
    refine kt_norm ?_
    refine v_condT rfl ?_
    refine v_seq ?_
    refine v_region ?_
    refine l_val rfl (o_assign rfl) ?_
    refine l_nil ?_
    refine kt_norm ?_
    refine v_sel [4] [] rfl rfl ?_
    refine v_ret ?_
    refine kt_ret ?_
    refine ⟨[_], .cons (.tmp rfl) (ResAll.nil), ?_⟩
    first
      | (exact congrArg Value.bool (decide_eq_false (fun hd => by subst hd; omega)).symm)
      | exact congrArg Value.bool (decide_eq_true (ext_int (by omega) (fun k hk => hB k (by omega)))).symm
  · skip
    refine l_nil ?_
    refine kt_norm ?_
    refine v_condF rfl ?_
    refine v_skip ?_
    refine kt_norm ?_
    refine v_sel [0, 1] [] rfl rfl ?_
    refine v_seq ?_
    refine v_seq ?_
    refine v_region ?_
    refine l_val rfl (o_move rfl) ?_
    refine l_val rfl (o_len rfl hV) ?_
    refine l_val rfl (o_move rfl) ?_
    refine l_nil ?_
    refine kt_norm ?_
    refine v_block ?_
    refine v_loopS (α := Nat) (fun i => [(13, .int .i64 (i : Int))]) (fun i => [])  (fun i => i ≤ p.length ∧ ∀ k, k < i → p.getD k 0 = q.getD k 0) (fun i => p.length - i) 0 [0, 1, 12] [] ⟨Nat.zero_le _, fun k hk => absurd hk (Nat.not_lt_zero k)⟩  (And.intro rfl (True.intro)) rfl (True.intro) rfl ?_
    rintro i ⟨hi, hB⟩
    refine v_seq ?_
    refine v_region ?_
    refine l_split rfl (o_lss rfl rfl) (fun q2 => ?_) (fun q2 => ?_)
    · skip
      refine l_nil ?_
      refine kt_norm ?_
      refine v_seq ?_
      refine v_condT rfl ?_
      refine v_skip ?_
      refine kt_norm ?_
      refine v_seq ?_
      refine v_block ?_
      refine v_seq ?_
      refine v_region ?_
      refine l_val rfl (o_move rfl) ?_
      refine l_val rfl (o_assign rfl) ?_
      refine l_nil ?_
      refine kt_norm ?_
      refine v_seq ?_
      refine v_drawZ [[], [], [], [], [], [], [], [], []] mixed ?_ (by kernel_rfl) (by kernel_rfl)
      refine d_val (fun _ => rfl) rfl rfl (fun _ => o_move rfl) ?_
      refine d_val (fun _ => rfl) rfl rfl (fun _ => o_move rfl) ?_
      refine d_val (fun _ => rfl) rfl rfl (fun _ => o_idx (i) rfl hV rfl (by first | rfl | omega) (by omega)) ?_
      refine d_val (fun _ => rfl) rfl rfl (fun _ => o_loadR1 rfl (row_imm hr) (el_u8 (l := p) (i := i) (by omega))) ?_
      refine d_val (fun _ => rfl) rfl rfl (fun _ => o_move rfl) ?_
      refine d_val (fun _ => rfl) rfl rfl (fun _ => o_move rfl) ?_
      refine d_val (fun _ => rfl) rfl rfl (fun _ => o_idx (i) rfl hU rfl (by first | rfl | omega) (by omega)) ?_
      refine d_val (fun _ => rfl) rfl rfl (fun _ => o_loadR1 rfl (row_imm hr2) (el_u8 (l := q) (i := i) (by omega))) ?_
      refine d_neq (fun _ => rfl) (fun _ => rfl) (fun _ => rfl) (fun q3 => ?_) (fun q3 => ?_)
      · skip
        refine d_nil (fun σ => ?_)
        refine l_nil ?_
        refine kt_norm ?_
        refine v_sel [13, 0, 1, 12, 24] [] rfl rfl ?_
        refine v_condT rfl ?_
        refine v_seq ?_
        refine v_region ?_
        refine l_val rfl (o_assign rfl) ?_
        refine l_nil ?_
        refine kt_norm ?_
        refine v_ret ?_
        refine kb_ret ?_
        refine kt_ret ?_
        refine kt_ret ?_
        refine kb_ret ?_
        refine kt_ret ?_
        refine ⟨[_], .cons (.tmp rfl) (ResAll.nil), ?_⟩
        first
          | (exact congrArg Value.bool (decide_eq_false (fun hd => by subst hd; omega)).symm)
          | exact congrArg Value.bool (decide_eq_true (ext_int (by omega) (fun k hk => hB k (by omega)))).symm
      · skip
        refine d_nil (fun σ => ?_)
        refine l_nil ?_
        refine kt_norm ?_
        refine v_sel [13, 0, 1, 12, 24] [] rfl rfl ?_
        refine v_condF rfl ?_
        refine v_skip ?_
        refine kb_norm ?_
        refine kt_norm ?_
        refine v_region ?_
        refine l_val rfl (o_addi rfl rfl ?_) ?_
        · omega
        refine l_val rfl (o_move rfl) ?_
        refine l_nil ?_
        refine kt_norm ?_
        refine ⟨i + 1, ⟨by omega, fun k hk => by rcases Nat.lt_or_eq_of_le (Nat.le_of_lt_succ hk) with h | h; exact hB k h; subst h; omega⟩, by omega, le_app (And.intro rfl (True.intro)) [0, 1, 12] rfl (True.intro) [] rfl⟩
    · skip
      refine l_nil ?_
      refine kt_norm ?_
      refine v_seq ?_
      refine v_condF rfl ?_
      refine v_exit ?_
      refine kt_exit ?_
      refine kt_exit ?_
      refine kb_eq ?_
      refine kt_norm ?_
      refine v_seq ?_
      refine v_region ?_
      refine l_val rfl (o_assign rfl) ?_
      refine l_nil ?_
      refine kt_norm ?_
      refine v_ret ?_
      refine ⟨[_], .cons (.tmp rfl) (ResAll.nil), ?_⟩
      first
        | (exact congrArg Value.bool (decide_eq_false (fun hd => by subst hd; omega)).symm)
        | exact congrArg Value.bool (decide_eq_true (ext_int (by omega) (fun k hk => hB k (by omega)))).symm
theorem a_SameG (w : World) (v u : Value) (N H N2 H2 : Int) (p q : List Int) (hn : p.length ≤ 1000000) (hn2 : q.length ≤ 1000000) (hV : RowV v p.length) (hrow : RowAt w v 1 p.length (iU p)) (hU : RowV u q.length) (hrow2 : RowAt w u 1 q.length (iU q)) :
    Calls Try.prog 16 #[.agg #[.int .i64 N, .int .i64 H, v], .agg #[.int .i64 N2, .int .i64 H2, u]] w fun e w' => e = .returned (.bool (decide (N = N2 ∧ H = H2 ∧ p = q))) ∧ Below w.heap.size w w' := by
  have hr : ∀ w', Chg (fun _ => False) w w' → RowAt w' v 1 p.length (iU p) := fun w' h => hrow.chg h (fun h => h)
  have hr2 : ∀ w', Chg (fun _ => False) w w' → RowAt w' u 1 q.length (iU q) := fun w' h => hrow2.chg h (fun h => h)
  obtain ⟨a1, c1, rfl⟩ := hV.sl
  obtain ⟨a2, c2, rfl⟩ := hU.sl
  refine calls_of (args := [.agg #[.int .i64 N, .int .i64 H, .slice a1 p.length c1], .agg #[.int .i64 N2, .int .i64 H2, .slice a2 q.length c2]]) Try.func16 rfl Try.ntmps16 Try.results16 rfl ?_
  refine v_seq ?_
  refine v_region ?_
  refine l_new rfl (o_box (cs := [_, _, _]) rfl rfl) fun b2 => ?_
  refine l_new rfl (o_box (cs := [_, _, _]) rfl rfl) fun b3 => ?_
  refine l_val rfl (o_assign rfl) ?_
  refine l_nil ?_
  refine kt_norm ?_
  refine v_seq ?_
  refine v_region ?_
  refine l_val rfl (o_fld rfl) ?_
  refine l_val rfl (o_load1 (key := 2) rfl rfl rfl) ?_
  refine l_val rfl (o_fld rfl) ?_
  refine l_val rfl (o_load1 (key := 3) rfl rfl rfl) ?_
  refine l_split rfl (o_eql rfl rfl) (fun q1 => ?_) (fun q1 => ?_)
  · skip
    refine l_val rfl (o_move rfl) ?_
    refine l_val rfl (o_fld rfl) ?_
    refine l_val rfl (o_load1 (key := 2) rfl rfl rfl) ?_
    refine l_val rfl (o_fld rfl) ?_
    refine l_val rfl (o_load1 (key := 3) rfl rfl rfl) ?_
    refine l_split rfl (o_eql rfl rfl) (fun q2 => ?_) (fun q2 => ?_)
    · skip
      refine l_val rfl (o_pickT rfl rfl) ?_
      refine l_val rfl (o_move rfl) ?_
      refine l_val rfl (o_fld rfl) ?_
      refine l_val rfl (o_load1 (key := 2) rfl rfl rfl) ?_
      refine l_val rfl (o_fld rfl) ?_
      refine l_val rfl (o_load1 (key := 3) rfl rfl rfl) ?_
      refine l_call (ks := []) rfl (o_callC (vs := [_, _]) (r := .bool (decide (p = q))) (ent_of Try.func34 rfl rfl) rfl (fun w' hg hh => a_EqualG w' (.slice a1 p.length c1) (.slice a2 q.length c2) p q hn hn2 hV (hr w' hg) hU (hr2 w' hg))) ?_
      refine l_val rfl (o_pickT rfl rfl) ?_
      refine l_val rfl (o_assign rfl) ?_
      refine l_nil ?_
      refine kt_norm ?_
      refine v_sel [4] [] rfl rfl ?_
      refine v_ret ?_
      refine ⟨[_], .cons (.tmp rfl) (ResAll.nil), ?_⟩
      first
        | (exact congrArg Value.bool (decide_eq_false (fun hd => by have h1 := hd.1; have h2 := hd.2.1; clear hd; omega)).symm)
        | (exact congrArg Value.bool (decide_eq_false (fun hd => by have h3 := hd.2.2; clear hd; subst h3; omega)).symm)
        | exact congrArg Value.bool (decide_congr ⟨fun h => ⟨by omega, by omega, h⟩, fun h => h.2.2⟩)
        | exact congrArg Value.bool (decide_eq_true ⟨by omega, by omega, ext_int (by omega) (fun k hk => hB k (by omega))⟩).symm
    · skip
      refine l_val rfl (o_pickT rfl rfl) ?_
      refine l_val rfl (o_move rfl) ?_
      refine l_no rfl ?_
      refine l_no rfl ?_
      refine l_no rfl ?_
      refine l_no rfl ?_
      refine l_no rfl ?_
      refine l_val rfl (o_pickF rfl rfl) ?_
      refine l_val rfl (o_assign rfl) ?_
      refine l_nil ?_
      refine kt_norm ?_
      refine v_sel [4] [] rfl rfl ?_
      refine v_ret ?_
      refine ⟨[_], .cons (.tmp rfl) (ResAll.nil), ?_⟩
      first
        | (exact congrArg Value.bool (decide_eq_false (fun hd => by have h1 := hd.1; have h2 := hd.2.1; clear hd; omega)).symm)
        | (exact congrArg Value.bool (decide_eq_false (fun hd => by have h3 := hd.2.2; clear hd; subst h3; omega)).symm)
        | exact congrArg Value.bool (decide_congr ⟨fun h => ⟨by omega, by omega, h⟩, fun h => h.2.2⟩)
        | exact congrArg Value.bool (decide_eq_true ⟨by omega, by omega, ext_int (by omega) (fun k hk => hB k (by omega))⟩).symm
  · skip
    refine l_val rfl (o_move rfl) ?_
    refine l_no rfl ?_
    refine l_no rfl ?_
    refine l_no rfl ?_
    refine l_no rfl ?_
    refine l_no rfl ?_
    refine l_val rfl (o_pickF rfl rfl) ?_
    refine l_val rfl (o_move rfl) ?_
    refine l_no rfl ?_
    refine l_no rfl ?_
    refine l_no rfl ?_
    refine l_no rfl ?_
    refine l_no rfl ?_
    refine l_val rfl (o_pickF rfl rfl) ?_
    refine l_val rfl (o_assign rfl) ?_
    refine l_nil ?_
    refine kt_norm ?_
    refine v_sel [4] [] rfl rfl ?_
    refine v_ret ?_
    refine ⟨[_], .cons (.tmp rfl) (ResAll.nil), ?_⟩
    first
      | (exact congrArg Value.bool (decide_eq_false (fun hd => by have h1 := hd.1; have h2 := hd.2.1; clear hd; omega)).symm)
      | (exact congrArg Value.bool (decide_eq_false (fun hd => by have h3 := hd.2.2; clear hd; subst h3; omega)).symm)
      | exact congrArg Value.bool (decide_congr ⟨fun h => ⟨by omega, by omega, h⟩, fun h => h.2.2⟩)
      | exact congrArg Value.bool (decide_eq_true ⟨by omega, by omega, ext_int (by omega) (fun k hk => hB k (by omega))⟩).symm
theorem r_SameG (w : World) (v u : Value) (N H N2 H2 : Int) (p q : List Int) (hn : p.length ≤ 1000000) (hn2 : q.length ≤ 1000000) (hV : RowV v p.length) (hrow : RowAt w v 1 p.length (iU p)) (hU : RowV u q.length) (hrow2 : RowAt w u 1 q.length (iU q)) :
    Calls Try.prog 15 #[.agg #[.int .i64 N, .int .i64 H, v], .agg #[.int .i64 N2, .int .i64 H2, u]] w fun e w' => e = .returned (.bool (decide (N = N2 ∧ H = H2 ∧ p = q))) ∧ Below w.heap.size w w' := by
  have hr : ∀ w', Chg (fun _ => False) w w' → RowAt w' v 1 p.length (iU p) := fun w' h => hrow.chg h (fun h => h)
  have hr2 : ∀ w', Chg (fun _ => False) w w' → RowAt w' u 1 q.length (iU q) := fun w' h => hrow2.chg h (fun h => h)
  obtain ⟨a1, c1, rfl⟩ := hV.sl
  obtain ⟨a2, c2, rfl⟩ := hU.sl
  refine calls_of (args := [.agg #[.int .i64 N, .int .i64 H, .slice a1 p.length c1], .agg #[.int .i64 N2, .int .i64 H2, .slice a2 q.length c2]]) Try.func15 rfl Try.ntmps15 Try.results15 rfl ?_
  refine v_seq ?_
  refine v_region ?_
  refine l_new rfl (o_box (cs := [_, _, _]) rfl rfl) fun b2 => ?_
  refine l_new rfl (o_box (cs := [_, _, _]) rfl rfl) fun b3 => ?_
  refine l_val rfl (o_assign rfl) ?_
  refine l_nil ?_
  refine kt_norm ?_
  refine v_seq ?_
  refine v_seq ?_
  refine v_region ?_
  skip
  refine l_val rfl (o_fld rfl) ?_
  refine l_val rfl (o_load1 (key := 2) rfl rfl rfl) ?_
  refine l_val rfl (o_fld rfl) ?_
  refine l_val rfl (o_load1 (key := 3) rfl rfl rfl) ?_
  refine l_split rfl (o_neq rfl rfl) (fun q1 => ?_) (fun q1 => ?_)
  · skip
    refine l_val rfl (o_move rfl) ?_
    refine l_no rfl ?_
    refine l_no rfl ?_
    refine l_no rfl ?_
    refine l_no rfl ?_
    refine l_no rfl ?_
    refine l_val rfl (o_pickT rfl rfl) ?_
    refine l_val rfl (o_move rfl) ?_
    refine l_no rfl ?_
    refine l_no rfl ?_
    refine l_no rfl ?_
    refine l_no rfl ?_
    refine l_no rfl ?_
    refine l_no rfl ?_
    refine l_no rfl ?_
    refine l_val rfl (o_pickT rfl rfl) ?_
    refine l_nil ?_
    refine kt_norm ?_
    refine v_sel [2, 3, 26] [2, 3] rfl rfl ?_
    refine v_condT rfl ?_
    refine v_seq ?_
    refine v_region ?_
    refine l_val rfl (o_assign rfl) ?_
    refine l_nil ?_
    refine kt_norm ?_
    refine v_ret ?_
    refine kt_ret ?_
    refine ⟨[_], .cons (.tmp rfl) (ResAll.nil), ?_⟩
    first
      | (exact congrArg Value.bool (decide_eq_false (fun hd => by have h1 := hd.1; have h2 := hd.2.1; clear hd; omega)).symm)
      | (exact congrArg Value.bool (decide_eq_false (fun hd => by have h3 := hd.2.2; clear hd; subst h3; omega)).symm)
      | exact congrArg Value.bool (decide_congr ⟨fun h => ⟨by omega, by omega, h⟩, fun h => h.2.2⟩)
      | exact congrArg Value.bool (decide_eq_true ⟨by omega, by omega, ext_int (by omega) (fun k hk => hB k (by omega))⟩).symm
  · skip
    refine l_val rfl (o_move rfl) ?_
    refine l_val rfl (o_fld rfl) ?_
    refine l_val rfl (o_load1 (key := 2) rfl rfl rfl) ?_
    refine l_val rfl (o_fld rfl) ?_
    refine l_val rfl (o_load1 (key := 3) rfl rfl rfl) ?_
    refine l_split rfl (o_neq rfl rfl) (fun q2 => ?_) (fun q2 => ?_)
    · skip
      refine l_val rfl (o_pickF rfl rfl) ?_
      refine l_val rfl (o_move rfl) ?_
      refine l_no rfl ?_
      refine l_no rfl ?_
      refine l_no rfl ?_
      refine l_no rfl ?_
      refine l_no rfl ?_
      refine l_no rfl ?_
      refine l_no rfl ?_
      refine l_val rfl (o_pickT rfl rfl) ?_
      refine l_nil ?_
      refine kt_norm ?_
      refine v_sel [2, 3, 26] [2, 3] rfl rfl ?_
      refine v_condT rfl ?_
      refine v_seq ?_
      refine v_region ?_
      refine l_val rfl (o_assign rfl) ?_
      refine l_nil ?_
      refine kt_norm ?_
      refine v_ret ?_
      refine kt_ret ?_
      refine ⟨[_], .cons (.tmp rfl) (ResAll.nil), ?_⟩
      first
        | (exact congrArg Value.bool (decide_eq_false (fun hd => by have h1 := hd.1; have h2 := hd.2.1; clear hd; omega)).symm)
        | (exact congrArg Value.bool (decide_eq_false (fun hd => by have h3 := hd.2.2; clear hd; subst h3; omega)).symm)
        | exact congrArg Value.bool (decide_congr ⟨fun h => ⟨by omega, by omega, h⟩, fun h => h.2.2⟩)
        | exact congrArg Value.bool (decide_eq_true ⟨by omega, by omega, ext_int (by omega) (fun k hk => hB k (by omega))⟩).symm
    · skip
      refine l_val rfl (o_pickF rfl rfl) ?_
      refine l_val rfl (o_move rfl) ?_
      refine l_val rfl (o_fld rfl) ?_
      refine l_val rfl (o_load1 (key := 2) rfl rfl rfl) ?_
      refine l_val rfl (o_len rfl hV) ?_
      refine l_val rfl (o_fld rfl) ?_
      refine l_val rfl (o_load1 (key := 3) rfl rfl rfl) ?_
      refine l_val rfl (o_len rfl hU) ?_
      refine l_split rfl (o_neq rfl rfl) (fun q3 => ?_) (fun q3 => ?_)
      · skip
        refine l_val rfl (o_pickF rfl rfl) ?_
        refine l_nil ?_
        refine kt_norm ?_
        refine v_sel [2, 3, 26] [2, 3] rfl rfl ?_
        refine v_condT rfl ?_
        refine v_seq ?_
        refine v_region ?_
        refine l_val rfl (o_assign rfl) ?_
        refine l_nil ?_
        refine kt_norm ?_
        refine v_ret ?_
        refine kt_ret ?_
        refine ⟨[_], .cons (.tmp rfl) (ResAll.nil), ?_⟩
        first
          | (exact congrArg Value.bool (decide_eq_false (fun hd => by have h1 := hd.1; have h2 := hd.2.1; clear hd; omega)).symm)
          | (exact congrArg Value.bool (decide_eq_false (fun hd => by have h3 := hd.2.2; clear hd; subst h3; omega)).symm)
          | exact congrArg Value.bool (decide_congr ⟨fun h => ⟨by omega, by omega, h⟩, fun h => h.2.2⟩)
          | exact congrArg Value.bool (decide_eq_true ⟨by omega, by omega, ext_int (by omega) (fun k hk => hB k (by omega))⟩).symm
      · skip
        refine l_val rfl (o_pickF rfl rfl) ?_
        refine l_nil ?_
        refine kt_norm ?_
        refine v_sel [2, 3, 26] [2, 3] rfl rfl ?_
        refine v_condF rfl ?_
        refine v_skip ?_
        refine kt_norm ?_
        refine v_seq ?_
        refine v_seq ?_
        refine v_region ?_
        refine l_val rfl (o_assign rfl) ?_
        refine l_nil ?_
        refine kt_norm ?_
        refine v_block ?_
        refine v_loopS (α := Nat) (fun i => [(5, .int .i64 (i : Int))]) (fun i => [])  (fun i => i ≤ p.length ∧ ∀ k, k < i → p.getD k 0 = q.getD k 0) (fun i => p.length - i) 0 [2, 3] [2, 3] ⟨Nat.zero_le _, fun k hk => absurd hk (Nat.not_lt_zero k)⟩  (And.intro rfl (True.intro)) rfl (True.intro) rfl ?_
        rintro i ⟨hi, hB⟩
        refine v_seq ?_
        refine v_seq ?_
        refine v_region ?_
        refine l_val rfl (o_move rfl) ?_
        refine l_val rfl (o_fld rfl) ?_
        refine l_val rfl (o_load1 (key := 2) rfl rfl rfl) ?_
        refine l_val rfl (o_len rfl hV) ?_
        refine l_split rfl (o_lss rfl rfl) (fun q4 => ?_) (fun q4 => ?_)
        · skip
          refine l_nil ?_
          refine kt_norm ?_
          refine v_condT rfl ?_
          refine v_skip ?_
          refine kt_norm ?_
          refine v_seq ?_
          refine v_block ?_
          refine v_seq ?_
          refine v_drawZ [[], [2], [], [], [], [], [3], [], [], [], []] mixed ?_ (by kernel_rfl) (by kernel_rfl)
          refine d_val (fun _ => rfl) rfl rfl (fun _ => o_fld rfl) ?_
          refine d_val (fun _ => rfl) rfl rfl (fun _ => o_load1 (key := 2) rfl rfl rfl) ?_
          refine d_val (fun _ => rfl) rfl rfl (fun _ => o_move rfl) ?_
          refine d_val (fun _ => rfl) rfl rfl (fun _ => o_idx (i) rfl hV rfl (by first | rfl | omega) (by omega)) ?_
          refine d_val (fun _ => rfl) rfl rfl (fun _ => o_loadR1 rfl (row_imm hr) (el_u8 (l := p) (i := i) (by omega))) ?_
          refine d_val (fun _ => rfl) rfl rfl (fun _ => o_fld rfl) ?_
          refine d_val (fun _ => rfl) rfl rfl (fun _ => o_load1 (key := 3) rfl rfl rfl) ?_
          refine d_val (fun _ => rfl) rfl rfl (fun _ => o_move rfl) ?_
          refine d_val (fun _ => rfl) rfl rfl (fun _ => o_idx (i) rfl hU rfl (by first | rfl | omega) (by omega)) ?_
          refine d_val (fun _ => rfl) rfl rfl (fun _ => o_loadR1 rfl (row_imm hr2) (el_u8 (l := q) (i := i) (by omega))) ?_
          refine d_neq (fun _ => rfl) (fun _ => rfl) (fun _ => rfl) (fun q5 => ?_) (fun q5 => ?_)
          · skip
            refine d_nil (fun σ => ?_)
            refine l_nil ?_
            refine kt_norm ?_
            refine v_sel [5, 2, 3, 44] [2, 3] rfl rfl ?_
            refine v_condT rfl ?_
            refine v_seq ?_
            refine v_region ?_
            refine l_val rfl (o_assign rfl) ?_
            refine l_nil ?_
            refine kt_norm ?_
            refine v_ret ?_
            refine kb_ret ?_
            refine kt_ret ?_
            refine kt_ret ?_
            refine kb_ret ?_
            refine kt_ret ?_
            refine ⟨[_], .cons (.tmp rfl) (ResAll.nil), ?_⟩
            first
              | (exact congrArg Value.bool (decide_eq_false (fun hd => by have h1 := hd.1; have h2 := hd.2.1; clear hd; omega)).symm)
              | (exact congrArg Value.bool (decide_eq_false (fun hd => by have h3 := hd.2.2; clear hd; subst h3; omega)).symm)
              | exact congrArg Value.bool (decide_congr ⟨fun h => ⟨by omega, by omega, h⟩, fun h => h.2.2⟩)
              | exact congrArg Value.bool (decide_eq_true ⟨by omega, by omega, ext_int (by omega) (fun k hk => hB k (by omega))⟩).symm
          · skip
            refine d_nil (fun σ => ?_)
            refine l_nil ?_
            refine kt_norm ?_
            refine v_sel [5, 2, 3, 44] [2, 3] rfl rfl ?_
            refine v_condF rfl ?_
            refine v_skip ?_
            refine kb_norm ?_
            refine kt_norm ?_
            refine v_region ?_
            refine l_val rfl (o_move rfl) ?_
            refine l_val rfl (o_addi rfl rfl ?_) ?_
            · omega
            refine l_val rfl (o_assign rfl) ?_
            refine l_nil ?_
            refine kt_norm ?_
            refine ⟨i + 1, ⟨by omega, fun k hk => by rcases Nat.lt_or_eq_of_le (Nat.le_of_lt_succ hk) with h | h; exact hB k h; subst h; omega⟩, by omega, le_app (And.intro rfl (True.intro)) [2, 3] rfl (True.intro) [2, 3] rfl⟩
        · skip
          refine l_nil ?_
          refine kt_norm ?_
          refine v_condF rfl ?_
          refine v_exit ?_
          refine kt_exit ?_
          refine kt_exit ?_
          refine kb_eq ?_
          refine kt_norm ?_
          refine v_sel [] [2, 3] rfl rfl ?_
          refine v_seq ?_
          refine v_region ?_
          refine l_val rfl (o_assign rfl) ?_
          refine l_nil ?_
          refine kt_norm ?_
          refine v_ret ?_
          refine ⟨[_], .cons (.tmp rfl) (ResAll.nil), ?_⟩
          first
            | (exact congrArg Value.bool (decide_eq_false (fun hd => by have h1 := hd.1; have h2 := hd.2.1; clear hd; omega)).symm)
            | (exact congrArg Value.bool (decide_eq_false (fun hd => by have h3 := hd.2.2; clear hd; subst h3; omega)).symm)
            | exact congrArg Value.bool (decide_congr ⟨fun h => ⟨by omega, by omega, h⟩, fun h => h.2.2⟩)
            | exact congrArg Value.bool (decide_eq_true ⟨by omega, by omega, ext_int (by omega) (fun k hk => hB k (by omega))⟩).symm
theorem r_its21 (N H : Int) (a : Option Addr) (m c : Nat) : Ans Try.prog 12 [.agg #[.int .i64 N, .int .i64 H, .slice a m c]] (.agg #[.int .i64 N, .int .i64 H, .slice a m c]) := by
  refine ans_of Try.func12 rfl Try.ntmps12 Try.results12 rfl rfl fun w => ?_
  refine v_seq ?_
  refine v_region ?_
  refine l_new rfl (o_box (cs := [_, _, _]) rfl rfl) fun b1 => ?_
  refine l_new rfl o_alloc fun b2 => ?_
  refine l_nil ?_
  refine kt_norm ?_
  refine v_seq ?_
  refine v_region ?_
  refine l_val rfl (o_fld rfl) ?_
  refine l_val rfl (o_load1 (key := 1) rfl rfl rfl) ?_
  refine l_val rfl (o_fld rfl) ?_
  refine l_val rfl (o_load1 (key := 1) rfl rfl rfl) ?_
  refine l_val rfl (o_fld rfl) ?_
  refine l_val rfl (o_load1 (key := 1) rfl rfl rfl) ?_
  refine l_val rfl (o_build (vs := [_, _, _]) (cs := [_, _, _]) rfl rfl) ?_
  refine l_store rfl (o_storeW (key := 2) (xs := [_, _, _]) rfl rfl rfl rfl rfl rfl rfl) ?_
  refine l_nil ?_
  refine kt_norm ?_
  refine v_sel [2] [2] rfl rfl ?_
  refine v_ret ?_
  refine ⟨[_], .cons (.cellW (key := 2) rfl rfl rfl) (ResAll.nil), ?_⟩
  rfl
set_option maxHeartbeats 4000000 in
theorem a_CoverCropsY (w : World) (v : Value) (pvs : List Value) (ps : List (List PtT)) (X Y W H : Int) (x y cw ch : Nat) (hv : PcsW v pvs ps) (hat : PcsAt w v pvs ps) (hX : -32768 ≤ X ∧ X < 32768) (hY : -32768 ≤ Y ∧ Y < 32768) (hW : 0 ≤ W ∧ W < 256) (hH : 0 ≤ H ∧ H < 256) (n h : Nat) (hnA : (n : Int) = 1 + W % 12) (hhA : (h : Int) = 1 + H % 8) (hx : x + cw ≤ n) (hy : y + ch ≤ h) (hcw : 1 ≤ cw) (hch : 1 ≤ ch)  :
    Calls Try.prog 3 #[v, .int .i16 X, .int .i16 Y, .int .u8 W, .int .u8 H, .int .i64 (x : Int), .int .i64 (y : Int), .int .i64 (cw : Int), .int .i64 (ch : Int)] w fun e w' => e = .returned (.bool true) ∧ Below w.heap.size w w' := by
  have hVp := hv.V
  have hlen := hv.len
  have hrowP : ∀ w', Chg (fun _ => False) w w' → RowAt w' v 1 ps.length pvs := fun w' h => (hat.keep h).row
  have hVA : Ans Try.prog 9 [.int .i16 X, .int .i16 Y, .int .u8 W, .int .u8 H] (.agg #[.int .i64 X, .int .i64 Y, .int .i64 (n : Int), .int .i64 (h : Int)]) := by rw [hnA, hhA]; exact a_view21 _ _ _ _ (by omega) (by omega) (by omega) (by omega)
  have hvA : ViewOk X Y (n : Int) (h : Int) := (viewOk_def _ _ _ _).2 (by omega)
  have hnh := @nh_le n h (by omega) (by omega)
  have hcc : ch * cw ≤ 256 * 256 := Nat.mul_le_mul (by omega) (by omega)
  refine calls_of (args := [v, .int .i16 X, .int .i16 Y, .int .u8 W, .int .u8 H, .int .i64 (x : Int), .int .i64 (y : Int), .int .i64 (cw : Int), .int .i64 (ch : Int)]) Try.func3 rfl Try.ntmps3 Try.results3 rfl ?_
  refine v_seq ?_
  refine v_region ?_
  refine l_val rfl (o_assign rfl) ?_
  refine l_nil ?_
  refine kt_norm ?_
  refine v_seq ?_
  refine v_seq ?_
  refine v_region ?_
  refine l_val rfl (o_move rfl) ?_
  refine l_call (ks := []) rfl (o_callC (vs := [_]) (r := .bool (decide (Bn21 ps))) (ent_of Try.func6 rfl rfl) rfl (fun w' hg hh => a_bounded21 w' _ pvs ps hv (hat.keep hg))) ?_
  refine lz_bool (fun hbb => ?_) (fun hbb => ?_)
  · have hb := hbb.bnd
    have hvp := hb.pcsV hv
    refine l_val rfl (o_not rfl rfl) ?_
    refine l_val rfl (o_move rfl) ?_
    refine l_ans (vs := []) rfl rfl (a_shown21) ?_
    refine l_val rfl (o_not rfl rfl) ?_
    refine l_val rfl (o_pickF rfl rfl) ?_
    refine l_nil ?_
    refine kt_norm ?_
    refine v_sel [0, 1, 2, 3, 4, 5, 6, 7, 8, 31] [] rfl rfl ?_
    refine v_condF rfl ?_
    refine v_skip ?_
    refine kt_norm ?_
    refine v_seq ?_
    refine v_region ?_
    refine l_val rfl (o_move rfl) ?_
    refine l_val rfl (o_move rfl) ?_
    refine l_val rfl (o_move rfl) ?_
    refine l_val rfl (o_move rfl) ?_
    refine l_val rfl (o_move rfl) ?_
    refine l_ans (vs := [_, _, _, _]) rfl rfl (hVA) ?_
    refine l_gownF (fun y => .tuple #[.agg #[.int .i64 (n : Int), .int .i64 (h : Int), y], .int .i64 0]) (ks := []) (caps := #[]) (vs := [_, _]) rfl rfl (ent_of Try.func8 rfl rfl) rfl (fun w' hg hh => a_cover w' v pvs ps X Y n h hb hvp (hat.keep hg) hvA) fun pa hpa => ?_
    refine l_capd 40 rfl fun hcap => ?_
    obtain ⟨apa, cpa, rfl⟩ := hpa.sl
    refine l_val rfl (o_move rfl) ?_
    refine l_val rfl (o_extract rfl rfl) ?_
    refine l_val rfl (o_extract rfl rfl) ?_
    refine l_new rfl o_alloc fun b19 => ?_
    refine l_store rfl (o_storeW (key := 19) (xs := [_, _, _]) rfl rfl rfl rfl rfl rfl rfl) ?_
    refine l_val rfl (o_assign rfl) ?_
    refine l_nil ?_
    refine kt_norm ?_
    refine v_sel [5, 6, 7, 8, 19, 20] [19, 40] rfl rfl ?_
    refine v_seq ?_
    refine v_region ?_
    refine l_val rfl (o_loadW (key := 19) rfl rfl rfl) ?_
    refine l_val rfl (o_move rfl) ?_
    refine l_val rfl (o_move rfl) ?_
    refine l_val rfl (o_move rfl) ?_
    refine l_val rfl (o_move rfl) ?_
    refine l_gownF (fun y => .tuple #[.agg #[.int .i64 (cw : Int), .int .i64 (ch : Int), y], .int .i64 0]) (ks := [40]) (caps := #[]) (vs := [_, _, _, _, _]) rfl rfl (ent_of Try.func10 rfl rfl) rfl (fun w' hg hh => a_CropY w' (.slice apa (pixT (tabT X Y (n : Int) (h : Int) ps) X Y n h).length cpa) n h (pixT (tabT X Y (n : Int) (h : Int) ps) X Y n h) x y cw ch (by omega) (by omega) hx hy hcw hch pix_len2 hpa hcap (rowAt_own (hh 40 (by simp) _ rfl))) fun pc hpc => ?_
    obtain ⟨apc, cpc, rfl⟩ := hpc.sl
    refine l_val rfl (o_move rfl) ?_
    refine l_val rfl (o_extract rfl rfl) ?_
    refine l_val rfl (o_extract rfl rfl) ?_
    refine l_new rfl o_alloc fun b21 => ?_
    refine l_store rfl (o_storeW (key := 21) (xs := [_, _, _]) rfl rfl rfl rfl rfl rfl rfl) ?_
    refine l_val rfl (o_assign rfl) ?_
    refine l_nil ?_
    refine kt_norm ?_
    refine v_sel [5, 6, 7, 8, 19, 20, 21, 22] [19, 21, 40, 49] rfl rfl ?_
    refine v_seq ?_
    refine v_region ?_
    refine l_val rfl (o_loadW (key := 19) rfl rfl rfl) ?_
    refine l_ans (vs := [_]) rfl rfl (r_its21 _ _ _ _ _) ?_
    refine l_val rfl (o_move rfl) ?_
    refine l_val rfl (o_move rfl) ?_
    refine l_val rfl (o_move rfl) ?_
    refine l_val rfl (o_move rfl) ?_
    refine l_gownF (fun y => .tuple #[.agg #[.int .i64 (cw : Int), .int .i64 (ch : Int), y], .int .i64 0]) (ks := [40]) (caps := #[]) (vs := [_, _, _, _, _]) rfl rfl (ent_of Try.func11 rfl rfl) rfl (fun w' hg hh => r_CropY w' (.slice apa (pixT (tabT X Y (n : Int) (h : Int) ps) X Y n h).length cpa) n h (pixT (tabT X Y (n : Int) (h : Int) ps) X Y n h) x y cw ch (by omega) (by omega) hx hy hcw hch pix_len2 hpa (rowAt_own (hh 40 (by simp) _ rfl))) fun pd hpd => ?_
    obtain ⟨apd, cpd, rfl⟩ := hpd.sl
    refine l_val rfl (o_move rfl) ?_
    refine l_val rfl (o_extract rfl rfl) ?_
    refine l_val rfl (o_extract rfl rfl) ?_
    refine l_new rfl o_alloc fun b23 => ?_
    refine l_store rfl (o_storeW (key := 23) (xs := [_, _, _]) rfl rfl rfl rfl rfl rfl rfl) ?_
    refine l_val rfl (o_assign rfl) ?_
    refine l_nil ?_
    refine kt_norm ?_
    refine v_sel [5, 6, 19, 20, 21, 22, 23, 24] [19, 21, 23, 40, 49, 59] rfl rfl ?_
    refine v_seq ?_
    refine v_drawW [] [[], [], [], [19], [], [], [40], [19], [], [], [], [40], [], [], [], [21], [], [23], [49, 59], [], [], [], [], [], [], [], [19], [19], [40], [], [], [19], [21], [40, 49], [19], [], [23], [40, 59], [], [], []] mixed ?_ (by kernel_rfl) (by kernel_rfl)
    refine d_val (fun _ => rfl) rfl rfl (fun σ6 => o_move rfl) ?_
    refine d_eql (fun _ => rfl) (fun _ => rfl) (fun _ => rfl) (fun q1 => ?_) (fun q1 => absurd (show _ by omega) q1)
    refine d_val (fun _ => rfl) rfl rfl (fun σ6 => o_move rfl) ?_
    refine d_val (fun _ => rfl) rfl rfl (fun σ6 => o_loadW (key := 19) rfl rfl rfl) ?_
    refine d_val (fun _ => rfl) rfl rfl (fun σ6 => o_move rfl) ?_
    refine d_val (fun _ => rfl) rfl rfl (fun σ6 => o_move rfl) ?_
    refine d_gcall (y := .int .u8 (atT n h (pixT (tabT X Y (n : Int) (h : Int) ps) X Y n h) x y)) (caps := #[]) (fun _ => rfl) (fun _ => rfl) (ent_of Try.func13 rfl rfl) (vs := fun _ => [_, _, _]) (fun _ => rfl) (fun σ6 w' hg hh => a_AtC w' (.slice apa (pixT (tabT X Y (n : Int) (h : Int) ps) X Y n h).length cpa) n h (pixT (tabT X Y (n : Int) (h : Int) ps) X Y n h) x y hnh pix_len2 hpa (rowAt_own (hh 40 (by simp) _ rfl))) ?_
    refine d_val (fun _ => rfl) rfl rfl (fun σ6 => o_loadW (key := 19) rfl rfl rfl) ?_
    refine d_ans (vs := [_]) (fun _ => rfl) (fun _ => rfl) (r_its21 _ _ _ _ _) ?_
    refine d_val (fun _ => rfl) rfl rfl (fun σ6 => o_move rfl) ?_
    refine d_val (fun _ => rfl) rfl rfl (fun σ6 => o_move rfl) ?_
    refine d_gcall (y := .int .u8 (atT n h (pixT (tabT X Y (n : Int) (h : Int) ps) X Y n h) x y)) (caps := #[]) (fun _ => rfl) (fun _ => rfl) (ent_of Try.func14 rfl rfl) (vs := fun _ => [_, _, _]) (fun _ => rfl) (fun σ6 w' hg hh => r_AtC w' (.slice apa (pixT (tabT X Y (n : Int) (h : Int) ps) X Y n h).length cpa) n h (pixT (tabT X Y (n : Int) (h : Int) ps) X Y n h) x y hnh pix_len2 hpa (rowAt_own (hh 40 (by simp) _ rfl))) ?_
    refine d_eql (fun _ => rfl) (fun _ => rfl) (fun _ => rfl) (fun q2 => ?_) (fun q2 => absurd (show _ by omega) q2)
    refine d_val (fun _ => rfl) rfl rfl (fun σ6 => o_pickT rfl rfl) ?_
    refine d_val (fun _ => rfl) rfl rfl (fun σ6 => o_move rfl) ?_
    refine d_val (fun _ => rfl) rfl rfl (fun σ6 => o_loadW (key := 21) rfl rfl rfl) ?_
    refine d_ans (vs := [_]) (fun _ => rfl) (fun _ => rfl) (r_its21 _ _ _ _ _) ?_
    refine d_val (fun _ => rfl) rfl rfl (fun σ6 => o_loadW (key := 23) rfl rfl rfl) ?_
    refine d_gcall (y := .bool true) (caps := #[]) (fun _ => rfl) (fun _ => rfl) (ent_of Try.func15 rfl rfl) (vs := fun _ => [_, _]) (fun _ => rfl) (fun σ6 w' hg hh => (show decide ((cw : Int) = cw ∧ (ch : Int) = ch ∧ (cropT n (pixT (tabT X Y (n : Int) (h : Int) ps) X Y n h) x y cw ch) = (cropT n (pixT (tabT X Y (n : Int) (h : Int) ps) X Y n h) x y cw ch)) = true from decide_eq_true ⟨rfl, rfl, rfl⟩) ▸ r_SameG w' (.slice apc (cropT n (pixT (tabT X Y (n : Int) (h : Int) ps) X Y n h) x y cw ch).length cpc) (.slice apd (cropT n (pixT (tabT X Y (n : Int) (h : Int) ps) X Y n h) x y cw ch).length cpd) cw ch cw ch (cropT n (pixT (tabT X Y (n : Int) (h : Int) ps) X Y n h) x y cw ch) (cropT n (pixT (tabT X Y (n : Int) (h : Int) ps) X Y n h) x y cw ch) (by rw [cropT_len pix_len2 hx ch hy]; omega) (by rw [cropT_len pix_len2 hx ch hy]; omega) hpc (rowAt_own (hh 49 (by simp) _ rfl)) hpd (rowAt_own (hh 59 (by simp) _ rfl))) ?_
    refine d_val (fun _ => rfl) rfl rfl (fun σ6 => o_pickT rfl rfl) ?_
    refine d_val (fun _ => rfl) rfl rfl (fun σ6 => o_move rfl) ?_
    refine d_val (fun _ => rfl) rfl rfl (fun σ6 => o_move rfl) ?_
    refine d_val (fun _ => rfl) rfl rfl (fun σ6 => o_move rfl) ?_
    refine d_eql (fun _ => rfl) (fun _ => rfl) (fun _ => rfl) (fun q3 => ?_) (fun q3 => absurd (show _ by omega) q3)
    refine d_val (fun _ => rfl) rfl rfl (fun σ6 => o_pickT rfl rfl) ?_
    refine d_val (fun _ => rfl) rfl rfl (fun σ6 => o_move rfl) ?_
    refine d_val (fun _ => rfl) rfl rfl (fun σ6 => o_loadW (key := 19) rfl rfl rfl) ?_
    refine d_val (fun _ => rfl) rfl rfl (fun σ6 => o_loadW (key := 19) rfl rfl rfl) ?_
    refine d_gcall (y := .bool true) (caps := #[]) (fun _ => rfl) (fun _ => rfl) (ent_of Try.func16 rfl rfl) (vs := fun _ => [_, _]) (fun _ => rfl) (fun σ6 w' hg hh => (show decide ((n : Int) = n ∧ (h : Int) = h ∧ (pixT (tabT X Y (n : Int) (h : Int) ps) X Y n h) = (pixT (tabT X Y (n : Int) (h : Int) ps) X Y n h)) = true from decide_eq_true ⟨rfl, rfl, rfl⟩) ▸ a_SameG w' (.slice apa (pixT (tabT X Y (n : Int) (h : Int) ps) X Y n h).length cpa) (.slice apa (pixT (tabT X Y (n : Int) (h : Int) ps) X Y n h).length cpa) n h n h (pixT (tabT X Y (n : Int) (h : Int) ps) X Y n h) (pixT (tabT X Y (n : Int) (h : Int) ps) X Y n h) (by rw [pix_len2]; omega) (by rw [pix_len2]; omega) hpa (rowAt_own (hh 40 (by simp) _ rfl)) hpa (rowAt_own (hh 40 (by simp) _ rfl))) ?_
    refine d_val (fun _ => rfl) rfl rfl (fun σ6 => o_pickT rfl rfl) ?_
    refine d_val (fun _ => rfl) rfl rfl (fun σ6 => o_move rfl) ?_
    refine d_val (fun _ => rfl) rfl rfl (fun σ6 => o_loadW (key := 19) rfl rfl rfl) ?_
    refine d_val (fun _ => rfl) rfl rfl (fun σ6 => o_loadW (key := 21) rfl rfl rfl) ?_
    refine d_gcall (y := .bool (decide ((n : Int) = cw ∧ (h : Int) = ch ∧ (pixT (tabT X Y (n : Int) (h : Int) ps) X Y n h) = (cropT n (pixT (tabT X Y (n : Int) (h : Int) ps) X Y n h) x y cw ch)))) (caps := #[]) (fun _ => rfl) (fun _ => rfl) (ent_of Try.func16 rfl rfl) (vs := fun _ => [_, _]) (fun _ => rfl) (fun σ6 w' hg hh => a_SameG w' (.slice apa (pixT (tabT X Y (n : Int) (h : Int) ps) X Y n h).length cpa) (.slice apc (cropT n (pixT (tabT X Y (n : Int) (h : Int) ps) X Y n h) x y cw ch).length cpc) n h cw ch (pixT (tabT X Y (n : Int) (h : Int) ps) X Y n h) (cropT n (pixT (tabT X Y (n : Int) (h : Int) ps) X Y n h) x y cw ch) (by rw [pix_len2]; omega) (by rw [cropT_len pix_len2 hx ch hy]; omega) hpa (rowAt_own (hh 40 (by simp) _ rfl)) hpc (rowAt_own (hh 49 (by simp) _ rfl))) ?_
    refine d_val (fun _ => rfl) rfl rfl (fun σ6 => o_loadW (key := 19) rfl rfl rfl) ?_
    refine d_ans (vs := [_]) (fun _ => rfl) (fun _ => rfl) (r_its21 _ _ _ _ _) ?_
    refine d_val (fun _ => rfl) rfl rfl (fun σ6 => o_loadW (key := 23) rfl rfl rfl) ?_
    refine d_gcall (y := .bool (decide ((n : Int) = cw ∧ (h : Int) = ch ∧ (pixT (tabT X Y (n : Int) (h : Int) ps) X Y n h) = (cropT n (pixT (tabT X Y (n : Int) (h : Int) ps) X Y n h) x y cw ch)))) (caps := #[]) (fun _ => rfl) (fun _ => rfl) (ent_of Try.func15 rfl rfl) (vs := fun _ => [_, _]) (fun _ => rfl) (fun σ6 w' hg hh => r_SameG w' (.slice apa (pixT (tabT X Y (n : Int) (h : Int) ps) X Y n h).length cpa) (.slice apd (cropT n (pixT (tabT X Y (n : Int) (h : Int) ps) X Y n h) x y cw ch).length cpd) n h cw ch (pixT (tabT X Y (n : Int) (h : Int) ps) X Y n h) (cropT n (pixT (tabT X Y (n : Int) (h : Int) ps) X Y n h) x y cw ch) (by rw [pix_len2]; omega) (by rw [cropT_len pix_len2 hx ch hy]; omega) hpa (rowAt_own (hh 40 (by simp) _ rfl)) hpd (rowAt_own (hh 59 (by simp) _ rfl))) ?_
    refine d_val (fun _ => rfl) rfl rfl (fun σ6 => o_eqlb rfl rfl (BEq.rfl)) ?_
    refine d_val (fun _ => rfl) rfl rfl (fun σ6 => o_pickT rfl rfl) ?_
    refine d_val (fun _ => rfl) rfl rfl (fun σ6 => o_assign rfl) ?_
    refine d_nil (fun σ6 => ?_)
    refine l_nil ?_
    refine kt_norm ?_
    refine v_sel [18] [40, 49, 59] rfl rfl ?_
    refine v_ret ?_
    refine ⟨[_], .cons (.tmp rfl) (ResAll.nil), ?_⟩
    rfl
  · skip
    refine l_val rfl (o_not rfl rfl) ?_
    refine l_val rfl (o_move rfl) ?_
    refine l_no rfl ?_
    refine l_no rfl ?_
    refine l_val rfl (o_pickT rfl rfl) ?_
    refine l_nil ?_
    refine kt_norm ?_
    refine v_sel [0, 1, 2, 3, 4, 5, 6, 7, 8, 31] [] rfl rfl ?_
    refine v_condT rfl ?_
    refine v_seq ?_
    refine v_region ?_
    refine l_ans (vs := []) rfl rfl (a_shown21) ?_
    refine l_val rfl (o_assign rfl) ?_
    refine l_nil ?_
    refine kt_norm ?_
    refine v_sel [18] [] rfl rfl ?_
    refine v_ret ?_
    refine kt_ret ?_
    refine ⟨[_], .cons (.tmp rfl) (ResAll.nil), ?_⟩
    rfl
set_option maxHeartbeats 4000000 in
theorem a_CoverCropsN (w : World) (v : Value) (pvs : List Value) (ps : List (List PtT)) (X Y W H x y cw ch : Int) (hv : PcsW v pvs ps) (hat : PcsAt w v pvs ps) (hX : -32768 ≤ X ∧ X < 32768) (hY : -32768 ≤ Y ∧ Y < 32768) (hW : 0 ≤ W ∧ W < 256) (hH : 0 ≤ H ∧ H < 256) (n h : Nat) (hnA : (n : Int) = 1 + W % 12) (hhA : (h : Int) = 1 + H % 8) (hno : ¬ CropOk n h x y cw ch) (hcw : -9223372036854775808 ≤ cw ∧ cw < 9223372036854775808) (hch : -9223372036854775808 ≤ ch ∧ ch < 9223372036854775808) :
    Calls Try.prog 3 #[v, .int .i16 X, .int .i16 Y, .int .u8 W, .int .u8 H, .int .i64 (x : Int), .int .i64 (y : Int), .int .i64 (cw : Int), .int .i64 (ch : Int)] w fun e w' => e = .returned (.bool true) ∧ Below w.heap.size w w' := by
  have hVp := hv.V
  have hlen := hv.len
  have hrowP : ∀ w', Chg (fun _ => False) w w' → RowAt w' v 1 ps.length pvs := fun w' h => (hat.keep h).row
  have hVA : Ans Try.prog 9 [.int .i16 X, .int .i16 Y, .int .u8 W, .int .u8 H] (.agg #[.int .i64 X, .int .i64 Y, .int .i64 (n : Int), .int .i64 (h : Int)]) := by rw [hnA, hhA]; exact a_view21 _ _ _ _ (by omega) (by omega) (by omega) (by omega)
  have hvA : ViewOk X Y (n : Int) (h : Int) := (viewOk_def _ _ _ _).2 (by omega)
  have hnh := @nh_le n h (by omega) (by omega)
  refine calls_of (args := [v, .int .i16 X, .int .i16 Y, .int .u8 W, .int .u8 H, .int .i64 (x : Int), .int .i64 (y : Int), .int .i64 (cw : Int), .int .i64 (ch : Int)]) Try.func3 rfl Try.ntmps3 Try.results3 rfl ?_
  refine v_seq ?_
  refine v_region ?_
  refine l_val rfl (o_assign rfl) ?_
  refine l_nil ?_
  refine kt_norm ?_
  refine v_seq ?_
  refine v_seq ?_
  refine v_region ?_
  refine l_val rfl (o_move rfl) ?_
  refine l_call (ks := []) rfl (o_callC (vs := [_]) (r := .bool (decide (Bn21 ps))) (ent_of Try.func6 rfl rfl) rfl (fun w' hg hh => a_bounded21 w' _ pvs ps hv (hat.keep hg))) ?_
  refine lz_bool (fun hbb => ?_) (fun hbb => ?_)
  · have hb := hbb.bnd
    have hvp := hb.pcsV hv
    refine l_val rfl (o_not rfl rfl) ?_
    refine l_val rfl (o_move rfl) ?_
    refine l_ans (vs := []) rfl rfl (a_shown21) ?_
    refine l_val rfl (o_not rfl rfl) ?_
    refine l_val rfl (o_pickF rfl rfl) ?_
    refine l_nil ?_
    refine kt_norm ?_
    refine v_sel [0, 1, 2, 3, 4, 5, 6, 7, 8, 31] [] rfl rfl ?_
    refine v_condF rfl ?_
    refine v_skip ?_
    refine kt_norm ?_
    refine v_seq ?_
    refine v_region ?_
    refine l_val rfl (o_move rfl) ?_
    refine l_val rfl (o_move rfl) ?_
    refine l_val rfl (o_move rfl) ?_
    refine l_val rfl (o_move rfl) ?_
    refine l_val rfl (o_move rfl) ?_
    refine l_ans (vs := [_, _, _, _]) rfl rfl (hVA) ?_
    refine l_gownF (fun y => .tuple #[.agg #[.int .i64 (n : Int), .int .i64 (h : Int), y], .int .i64 0]) (ks := []) (caps := #[]) (vs := [_, _]) rfl rfl (ent_of Try.func8 rfl rfl) rfl (fun w' hg hh => a_cover w' v pvs ps X Y n h hb hvp (hat.keep hg) hvA) fun pa hpa => ?_
    refine l_capd 40 rfl fun hcap => ?_
    obtain ⟨apa, cpa, rfl⟩ := hpa.sl
    refine l_val rfl (o_move rfl) ?_
    refine l_val rfl (o_extract rfl rfl) ?_
    refine l_val rfl (o_extract rfl rfl) ?_
    refine l_new rfl o_alloc fun b19 => ?_
    refine l_store rfl (o_storeW (key := 19) (xs := [_, _, _]) rfl rfl rfl rfl rfl rfl rfl) ?_
    refine l_val rfl (o_assign rfl) ?_
    refine l_nil ?_
    refine kt_norm ?_
    refine v_sel [5, 6, 7, 8, 19, 20] [19, 40] rfl rfl ?_
    refine v_seq ?_
    refine v_region ?_
    refine l_val rfl (o_loadW (key := 19) rfl rfl rfl) ?_
    refine l_val rfl (o_move rfl) ?_
    refine l_val rfl (o_move rfl) ?_
    refine l_val rfl (o_move rfl) ?_
    refine l_val rfl (o_move rfl) ?_
    refine l_call (ks := [40]) rfl (o_callC (vs := [_, _, _, _, _]) (r := .tuple #[.agg #[.int .i64 0, .int .i64 0, .slice none 0 0], .int .i64 1]) (ent_of Try.func10 rfl rfl) rfl (fun w' hg hh => a_CropN w' (.slice apa (pixT (tabT X Y (n : Int) (h : Int) ps) X Y n h).length cpa) n h (pixT (tabT X Y (n : Int) (h : Int) ps) X Y n h) x y cw ch (by omega) (by omega) hno hcw hch pix_len2 hpa (rowAt_own (hh 40 (by simp) _ rfl)))) ?_
    refine l_val rfl (o_move rfl) ?_
    refine l_val rfl (o_extract rfl rfl) ?_
    refine l_val rfl (o_extract rfl rfl) ?_
    refine l_new rfl o_alloc fun b21 => ?_
    refine l_store rfl (o_storeW (key := 21) (xs := [_, _, _]) rfl rfl rfl rfl rfl rfl rfl) ?_
    refine l_val rfl (o_assign rfl) ?_
    refine l_nil ?_
    refine kt_norm ?_
    refine v_sel [5, 6, 7, 8, 19, 20, 21, 22] [19, 21, 40] rfl rfl ?_
    refine v_seq ?_
    refine v_region ?_
    refine l_val rfl (o_loadW (key := 19) rfl rfl rfl) ?_
    refine l_ans (vs := [_]) rfl rfl (r_its21 _ _ _ _ _) ?_
    refine l_val rfl (o_move rfl) ?_
    refine l_val rfl (o_move rfl) ?_
    refine l_val rfl (o_move rfl) ?_
    refine l_val rfl (o_move rfl) ?_
    refine l_call (ks := [40]) rfl (o_callC (vs := [_, _, _, _, _]) (r := .tuple #[.agg #[.int .i64 0, .int .i64 0, .slice none 0 0], .int .i64 1]) (ent_of Try.func11 rfl rfl) rfl (fun w' hg hh => r_CropN w' (.slice apa (pixT (tabT X Y (n : Int) (h : Int) ps) X Y n h).length cpa) n h (pixT (tabT X Y (n : Int) (h : Int) ps) X Y n h) x y cw ch (by omega) (by omega) hno hcw hch pix_len2 hpa (rowAt_own (hh 40 (by simp) _ rfl)))) ?_
    refine l_val rfl (o_move rfl) ?_
    refine l_val rfl (o_extract rfl rfl) ?_
    refine l_val rfl (o_extract rfl rfl) ?_
    refine l_new rfl o_alloc fun b23 => ?_
    refine l_store rfl (o_storeW (key := 23) (xs := [_, _, _]) rfl rfl rfl rfl rfl rfl rfl) ?_
    refine l_val rfl (o_assign rfl) ?_
    refine l_nil ?_
    refine kt_norm ?_
    refine v_sel [5, 6, 19, 20, 21, 22, 23, 24] [19, 21, 23, 40] rfl rfl ?_
    refine v_seq ?_
    refine v_drawW [] [[], [], [], [19], [], [], [40], [19], [], [], [], [40], [], [], [], [21], [], [23], [], [], [], [], [], [], [], [], [19], [19], [40], [], [], [19], [21], [40], [19], [], [23], [40], [], [], []] mixed ?_ (by kernel_rfl) (by kernel_rfl)
    refine d_val (fun _ => rfl) rfl rfl (fun σ6 => o_move rfl) ?_
    refine d_eql (fun _ => rfl) (fun _ => rfl) (fun _ => rfl) (fun q1 => ?_) (fun q1 => absurd (show _ by omega) q1)
    refine d_val (fun _ => rfl) rfl rfl (fun σ6 => o_move rfl) ?_
    refine d_val (fun _ => rfl) rfl rfl (fun σ6 => o_loadW (key := 19) rfl rfl rfl) ?_
    refine d_val (fun _ => rfl) rfl rfl (fun σ6 => o_move rfl) ?_
    refine d_val (fun _ => rfl) rfl rfl (fun σ6 => o_move rfl) ?_
    refine d_gcall (y := .int .u8 (atT n h (pixT (tabT X Y (n : Int) (h : Int) ps) X Y n h) x y)) (caps := #[]) (fun _ => rfl) (fun _ => rfl) (ent_of Try.func13 rfl rfl) (vs := fun _ => [_, _, _]) (fun _ => rfl) (fun σ6 w' hg hh => a_AtC w' (.slice apa (pixT (tabT X Y (n : Int) (h : Int) ps) X Y n h).length cpa) n h (pixT (tabT X Y (n : Int) (h : Int) ps) X Y n h) x y hnh pix_len2 hpa (rowAt_own (hh 40 (by simp) _ rfl))) ?_
    refine d_val (fun _ => rfl) rfl rfl (fun σ6 => o_loadW (key := 19) rfl rfl rfl) ?_
    refine d_ans (vs := [_]) (fun _ => rfl) (fun _ => rfl) (r_its21 _ _ _ _ _) ?_
    refine d_val (fun _ => rfl) rfl rfl (fun σ6 => o_move rfl) ?_
    refine d_val (fun _ => rfl) rfl rfl (fun σ6 => o_move rfl) ?_
    refine d_gcall (y := .int .u8 (atT n h (pixT (tabT X Y (n : Int) (h : Int) ps) X Y n h) x y)) (caps := #[]) (fun _ => rfl) (fun _ => rfl) (ent_of Try.func14 rfl rfl) (vs := fun _ => [_, _, _]) (fun _ => rfl) (fun σ6 w' hg hh => r_AtC w' (.slice apa (pixT (tabT X Y (n : Int) (h : Int) ps) X Y n h).length cpa) n h (pixT (tabT X Y (n : Int) (h : Int) ps) X Y n h) x y hnh pix_len2 hpa (rowAt_own (hh 40 (by simp) _ rfl))) ?_
    refine d_eql (fun _ => rfl) (fun _ => rfl) (fun _ => rfl) (fun q2 => ?_) (fun q2 => absurd (show _ by omega) q2)
    refine d_val (fun _ => rfl) rfl rfl (fun σ6 => o_pickT rfl rfl) ?_
    refine d_val (fun _ => rfl) rfl rfl (fun σ6 => o_move rfl) ?_
    refine d_val (fun _ => rfl) rfl rfl (fun σ6 => o_loadW (key := 21) rfl rfl rfl) ?_
    refine d_ans (vs := [_]) (fun _ => rfl) (fun _ => rfl) (r_its21 _ _ _ _ _) ?_
    refine d_val (fun _ => rfl) rfl rfl (fun σ6 => o_loadW (key := 23) rfl rfl rfl) ?_
    refine d_gcall (y := .bool true) (caps := #[]) (fun _ => rfl) (fun _ => rfl) (ent_of Try.func15 rfl rfl) (vs := fun _ => [_, _]) (fun _ => rfl) (fun σ6 w' hg hh => (show decide ((0 : Int) = 0 ∧ (0 : Int) = 0 ∧ [] = []) = true from decide_eq_true ⟨rfl, rfl, rfl⟩) ▸ r_SameG w' (.slice none 0 0) (.slice none 0 0) 0 0 0 0 [] [] (Nat.zero_le _) (Nat.zero_le _) .nil0 (rowAt_nilU w') .nil0 (rowAt_nilU w')) ?_
    refine d_val (fun _ => rfl) rfl rfl (fun σ6 => o_pickT rfl rfl) ?_
    refine d_val (fun _ => rfl) rfl rfl (fun σ6 => o_move rfl) ?_
    refine d_val (fun _ => rfl) rfl rfl (fun σ6 => o_move rfl) ?_
    refine d_val (fun _ => rfl) rfl rfl (fun σ6 => o_move rfl) ?_
    refine d_eql (fun _ => rfl) (fun _ => rfl) (fun _ => rfl) (fun q3 => ?_) (fun q3 => absurd (show _ by omega) q3)
    refine d_val (fun _ => rfl) rfl rfl (fun σ6 => o_pickT rfl rfl) ?_
    refine d_val (fun _ => rfl) rfl rfl (fun σ6 => o_move rfl) ?_
    refine d_val (fun _ => rfl) rfl rfl (fun σ6 => o_loadW (key := 19) rfl rfl rfl) ?_
    refine d_val (fun _ => rfl) rfl rfl (fun σ6 => o_loadW (key := 19) rfl rfl rfl) ?_
    refine d_gcall (y := .bool true) (caps := #[]) (fun _ => rfl) (fun _ => rfl) (ent_of Try.func16 rfl rfl) (vs := fun _ => [_, _]) (fun _ => rfl) (fun σ6 w' hg hh => (show decide ((n : Int) = n ∧ (h : Int) = h ∧ (pixT (tabT X Y (n : Int) (h : Int) ps) X Y n h) = (pixT (tabT X Y (n : Int) (h : Int) ps) X Y n h)) = true from decide_eq_true ⟨rfl, rfl, rfl⟩) ▸ a_SameG w' (.slice apa (pixT (tabT X Y (n : Int) (h : Int) ps) X Y n h).length cpa) (.slice apa (pixT (tabT X Y (n : Int) (h : Int) ps) X Y n h).length cpa) n h n h (pixT (tabT X Y (n : Int) (h : Int) ps) X Y n h) (pixT (tabT X Y (n : Int) (h : Int) ps) X Y n h) (by rw [pix_len2]; omega) (by rw [pix_len2]; omega) hpa (rowAt_own (hh 40 (by simp) _ rfl)) hpa (rowAt_own (hh 40 (by simp) _ rfl))) ?_
    refine d_val (fun _ => rfl) rfl rfl (fun σ6 => o_pickT rfl rfl) ?_
    refine d_val (fun _ => rfl) rfl rfl (fun σ6 => o_move rfl) ?_
    refine d_val (fun _ => rfl) rfl rfl (fun σ6 => o_loadW (key := 19) rfl rfl rfl) ?_
    refine d_val (fun _ => rfl) rfl rfl (fun σ6 => o_loadW (key := 21) rfl rfl rfl) ?_
    refine d_gcall (y := .bool (decide ((n : Int) = 0 ∧ (h : Int) = 0 ∧ (pixT (tabT X Y (n : Int) (h : Int) ps) X Y n h) = []))) (caps := #[]) (fun _ => rfl) (fun _ => rfl) (ent_of Try.func16 rfl rfl) (vs := fun _ => [_, _]) (fun _ => rfl) (fun σ6 w' hg hh => a_SameG w' (.slice apa (pixT (tabT X Y (n : Int) (h : Int) ps) X Y n h).length cpa) (.slice none 0 0) n h 0 0 (pixT (tabT X Y (n : Int) (h : Int) ps) X Y n h) [] (by rw [pix_len2]; omega) (Nat.zero_le _) hpa (rowAt_own (hh 40 (by simp) _ rfl)) .nil0 (rowAt_nilU w')) ?_
    refine d_val (fun _ => rfl) rfl rfl (fun σ6 => o_loadW (key := 19) rfl rfl rfl) ?_
    refine d_ans (vs := [_]) (fun _ => rfl) (fun _ => rfl) (r_its21 _ _ _ _ _) ?_
    refine d_val (fun _ => rfl) rfl rfl (fun σ6 => o_loadW (key := 23) rfl rfl rfl) ?_
    refine d_gcall (y := .bool (decide ((n : Int) = 0 ∧ (h : Int) = 0 ∧ (pixT (tabT X Y (n : Int) (h : Int) ps) X Y n h) = []))) (caps := #[]) (fun _ => rfl) (fun _ => rfl) (ent_of Try.func15 rfl rfl) (vs := fun _ => [_, _]) (fun _ => rfl) (fun σ6 w' hg hh => r_SameG w' (.slice apa (pixT (tabT X Y (n : Int) (h : Int) ps) X Y n h).length cpa) (.slice none 0 0) n h 0 0 (pixT (tabT X Y (n : Int) (h : Int) ps) X Y n h) [] (by rw [pix_len2]; omega) (Nat.zero_le _) hpa (rowAt_own (hh 40 (by simp) _ rfl)) .nil0 (rowAt_nilU w')) ?_
    refine d_val (fun _ => rfl) rfl rfl (fun σ6 => o_eqlb rfl rfl (BEq.rfl)) ?_
    refine d_val (fun _ => rfl) rfl rfl (fun σ6 => o_pickT rfl rfl) ?_
    refine d_val (fun _ => rfl) rfl rfl (fun σ6 => o_assign rfl) ?_
    refine d_nil (fun σ6 => ?_)
    refine l_nil ?_
    refine kt_norm ?_
    refine v_sel [18] [40] rfl rfl ?_
    refine v_ret ?_
    refine ⟨[_], .cons (.tmp rfl) (ResAll.nil), ?_⟩
    rfl
  · skip
    refine l_val rfl (o_not rfl rfl) ?_
    refine l_val rfl (o_move rfl) ?_
    refine l_no rfl ?_
    refine l_no rfl ?_
    refine l_val rfl (o_pickT rfl rfl) ?_
    refine l_nil ?_
    refine kt_norm ?_
    refine v_sel [0, 1, 2, 3, 4, 5, 6, 7, 8, 31] [] rfl rfl ?_
    refine v_condT rfl ?_
    refine v_seq ?_
    refine v_region ?_
    refine l_ans (vs := []) rfl rfl (a_shown21) ?_
    refine l_val rfl (o_assign rfl) ?_
    refine l_nil ?_
    refine kt_norm ?_
    refine v_sel [18] [] rfl rfl ?_
    refine v_ret ?_
    refine kt_ret ?_
    refine ⟨[_], .cons (.tmp rfl) (ResAll.nil), ?_⟩
    rfl
theorem a_CoverCrops (w : World) (v : Value) (pvs : List Value) (ps : List (List PtT)) (X Y W H x y cw ch : Int) (hv : PcsW v pvs ps) (hat : PcsAt w v pvs ps) (hX : -32768 ≤ X ∧ X < 32768) (hY : -32768 ≤ Y ∧ Y < 32768) (hW : 0 ≤ W ∧ W < 256) (hH : 0 ≤ H ∧ H < 256) (hcw : -9223372036854775808 ≤ cw ∧ cw < 9223372036854775808) (hch : -9223372036854775808 ≤ ch ∧ ch < 9223372036854775808) :
    Calls Try.prog 3 #[v, .int .i16 X, .int .i16 Y, .int .u8 W, .int .u8 H, .int .i64 x, .int .i64 y, .int .i64 cw, .int .i64 ch] w fun e w' => e = .returned (.bool true) ∧ Below w.heap.size w w' := by
  obtain ⟨n, hn⟩ : ∃ k : Nat, (k : Int) = 1 + W % 12 := ⟨(1 + W % 12).toNat, by omega⟩
  obtain ⟨h, hh⟩ : ∃ k : Nat, (k : Int) = 1 + H % 8 := ⟨(1 + H % 8).toNat, by omega⟩
  by_cases hc : CropOk n h x y cw ch
  · have hd := (cropOk_def n h x y cw ch).1 hc
    obtain ⟨x, rfl⟩ : ∃ k : Nat, (k : Int) = x := ⟨x.toNat, by omega⟩
    obtain ⟨y, rfl⟩ : ∃ k : Nat, (k : Int) = y := ⟨y.toNat, by omega⟩
    obtain ⟨cw, rfl⟩ : ∃ k : Nat, (k : Int) = cw := ⟨cw.toNat, by omega⟩
    obtain ⟨ch, rfl⟩ : ∃ k : Nat, (k : Int) = ch := ⟨ch.toNat, by omega⟩
    exact a_CoverCropsY w v pvs ps X Y W H x y cw ch hv hat hX hY hW hH n h hn hh (by omega) (by omega) (by omega) (by omega)
  · exact a_CoverCropsN w v pvs ps X Y W H x y cw ch hv hat hX hY hW hH n h hn hh hc hcw hch
end Go.Proofs.Ytllhohbenniaaaa
