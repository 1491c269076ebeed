import Derived.Test.YtllhohbenniaaaaM1
import Derived.Test.YtllhohbenniaaaaM2
import Derived.Test.YtllhohbenniaaaaM3
import Derived.Test.YtllhohbenniaaaaM4
/- The sides of a piece; its area; what lies left of all its sides. Conditions: none. -/
namespace Go.Proofs.Ytllhohbenniaaaa
open Go.Proofs Go.RowKit Go.Shelf

instance : TZero Try.prog 114 [.int .i64 0, .int .i64 0] := .of (by kernel_rfl)
instance : TElem Try.prog 114 (.agg #[.int .i64 0, .int .i64 0]) 2 16 := .of (by kernel_rfl) rfl (by decide)
instance : TAgg Try.prog 114 2 := .of (by kernel_rfl) (by kernel_rfl)
instance : TBuild Try.prog 114 [(0, 1), (1, 1)] [.int .i64 0, .int .i64 0] := .of (by kernel_rfl) (by kernel_rfl)
instance : TEqs Try.prog 114 2 := ⟨by kernel_rfl, by kernel_rfl, by kernel_rfl, by kernel_rfl⟩
instance : TFld Try.prog 114 0 0 := .of (by kernel_rfl)
instance : TFld Try.prog 114 1 1 := .of (by kernel_rfl)
instance : TZero Try.prog 116 [.int .i64 0, .int .i64 0, .int .i64 0, .int .i64 0] := .of (by kernel_rfl)
instance : TElem Try.prog 116 (.agg #[.int .i64 0, .int .i64 0, .int .i64 0, .int .i64 0]) 4 32 := .of (by kernel_rfl) rfl (by decide)
instance : TAgg Try.prog 116 4 := .of (by kernel_rfl) (by kernel_rfl)
instance : TBuild Try.prog 116 [(0, 2), (2, 2)] [.int .i64 0, .int .i64 0, .int .i64 0, .int .i64 0] := .of (by kernel_rfl) (by kernel_rfl)
instance : TFld Try.prog 116 0 0 := .of (by kernel_rfl)
instance : TFld Try.prog 116 1 2 := .of (by kernel_rfl)
def crossT (p q : PtT) : Int := p.x * q.y - p.y * q.x
def wr (x : Int) : Int := (x + 9223372036854775808) % 18446744073709551616 - 9223372036854775808
def sidesT (pc : List PtT) : List (PtT × PtT) := (List.range pc.length).map fun i => (pc.getD i dP, pc.getD ((i + 1) % pc.length) dP)
theorem sides_len (pc : List PtT) : (sidesT pc).length = pc.length := by simp [sidesT]
theorem sides_at {pc : List PtT} {i : Nat} (h : i < pc.length) : (sidesT pc)[i]? = some (pc.getD i dP, pc.getD ((i + 1) % pc.length) dP) := by
  unfold sidesT
  rw [List.getElem?_map, List.getElem?_range h]; rfl
theorem sides_get {pc : List PtT} {i : Nat} {p : PtT × PtT} (h : (sidesT pc)[i]? = some p) : i < pc.length ∧ p = (pc.getD i dP, pc.getD ((i + 1) % pc.length) dP) := by
  have h1 : i < (sidesT pc).length := (List.getElem?_eq_some_iff.1 h).1
  rw [sides_len] at h1
  rw [sides_at h1] at h
  exact ⟨h1, (Option.some.inj h).symm⟩
def areaTo (pc : List PtT) : Nat → Int
  | 0 => 0
  | k + 1 => wr (areaTo pc k + crossT (pc.getD k dP) (pc.getD ((k + 1) % pc.length) dP))
def areaT (pc : List PtT) : Int := areaTo pc pc.length
def sideT (a b c : PtT) : Int := sg (crossT ⟨b.x - a.x, b.y - a.y⟩ ⟨c.x - a.x, c.y - a.y⟩)
/-- p lies left of the first k sides -/
def leftTo (pc : List PtT) (p : PtT) (k : Nat) : Prop := ∀ i, i < k → ¬ sideT (pc.getD i dP) (pc.getD ((i + 1) % pc.length) dP) p < 0
theorem near_at {pc : List PtT} (h : ∀ p ∈ pc, NearT p) {i : Nat} (hi : i < pc.length) : NearT (pc.getD i dP) ∧ NearT (pc.getD ((i + 1) % pc.length) dP) := ⟨near_getD h hi, near_getD h (Nat.mod_lt _ (by omega))⟩
theorem a_PairCross (x y u v : Int) (hx : -1073741824 ≤ x ∧ x ≤ 1073741824) (hy : -1073741824 ≤ y ∧ y ≤ 1073741824) (hu : -1073741824 ≤ u ∧ u ≤ 1073741824) (hv : -1073741824 ≤ v ∧ v ≤ 1073741824) : Ans Try.prog 69 [.agg #[.int .i64 x, .int .i64 y, .int .i64 u, .int .i64 v]] (.int .i64 (x * v - y * u)) := by
  have m1 := mul_bound (A := 1073741824) (B := 1073741824) (x := x) (y := v) (by omega) (by omega) (by omega) (by omega)
  have m2 := mul_bound (A := 1073741824) (B := 1073741824) (x := y) (y := u) (by omega) (by omega) (by omega) (by omega)
  refine ans_of Try.func69 rfl Try.ntmps69 Try.results69 rfl rfl fun w => ?_
  refine v_seq ?_
  refine v_region ?_
  refine l_new rfl (o_box (cs := [_, _, _, _]) rfl rfl) fun b1 => ?_
  refine l_val rfl (o_assign rfl) ?_
  refine l_nil ?_
  refine kt_norm ?_
  refine v_seq ?_
  refine v_region ?_
  refine l_val rfl (o_fld rfl) ?_
  refine l_val rfl (o_fld rfl) ?_
  refine l_val rfl (o_load1 (key := 1) rfl rfl rfl) ?_
  refine l_val rfl (o_fld rfl) ?_
  refine l_val rfl (o_fld rfl) ?_
  refine l_val rfl (o_load1 (key := 1) rfl rfl rfl) ?_
  refine l_val rfl (o_muli rfl rfl ?_) ?_
  · omega
  refine l_val rfl (o_fld rfl) ?_
  refine l_val rfl (o_fld rfl) ?_
  refine l_val rfl (o_load1 (key := 1) rfl rfl rfl) ?_
  refine l_val rfl (o_fld rfl) ?_
  refine l_val rfl (o_fld rfl) ?_
  refine l_val rfl (o_load1 (key := 1) rfl rfl rfl) ?_
  refine l_val rfl (o_muli rfl rfl ?_) ?_
  · omega
  refine l_val rfl (o_subi rfl rfl ?_) ?_
  · omega
  refine l_val rfl (o_assign rfl) ?_
  refine l_nil ?_
  refine kt_norm ?_
  refine v_sel [2] [] rfl rfl ?_
  refine v_ret ?_
  refine ⟨[_], .cons (.tmp rfl) (ResAll.nil), ?_⟩
  rfl
theorem a_Cross (x y u v : Int) (hx : -1073741824 ≤ x ∧ x ≤ 1073741824) (hy : -1073741824 ≤ y ∧ y ≤ 1073741824) (hu : -1073741824 ≤ u ∧ u ≤ 1073741824) (hv : -1073741824 ≤ v ∧ v ≤ 1073741824) : Ans Try.prog 54 [.agg #[.int .i64 x, .int .i64 y], .agg #[.int .i64 u, .int .i64 v]] (.int .i64 (x * v - y * u)) := by
  refine ans_of Try.func54 rfl Try.ntmps54 Try.results54 rfl rfl fun w => ?_
  refine v_seq ?_
  refine v_region ?_
  refine l_new rfl (o_box (cs := [_, _]) rfl rfl) fun b2 => ?_
  refine l_new rfl (o_box (cs := [_, _]) rfl rfl) fun b3 => ?_
  refine l_val rfl (o_assign rfl) ?_
  refine l_nil ?_
  refine kt_norm ?_
  refine v_seq ?_
  refine v_region ?_
  refine l_val rfl (o_loadW (key := 2) rfl rfl rfl) ?_
  refine l_val rfl (o_loadW (key := 3) rfl rfl rfl) ?_
  refine l_val rfl (o_build (vs := [_, _]) (cs := [_, _, _, _]) rfl rfl) ?_
  refine l_ans (vs := [_]) rfl rfl (a_PairCross _ _ _ _ ?_ ?_ ?_ ?_) ?_
  · omega
  · omega
  · omega
  · omega
  refine l_val rfl (o_assign rfl) ?_
  refine l_nil ?_
  refine kt_norm ?_
  refine v_sel [4] [] rfl rfl ?_
  refine v_ret ?_
  refine ⟨[_], .cons (.tmp rfl) (ResAll.nil), ?_⟩
  rfl
theorem a_SCross (x y u v : Int) (hx : -2147483648 ≤ x ∧ x ≤ 2147483648) (hy : -2147483648 ≤ y ∧ y ≤ 2147483648) (hu : -2147483648 ≤ u ∧ u ≤ 2147483648) (hv : -2147483648 ≤ v ∧ v ≤ 2147483648) : Ans Try.prog 81 [.agg #[.int .i64 x, .int .i64 y], .agg #[.int .i64 u, .int .i64 v]] (wideV (x * v - y * u)) := by
  have m1 := mul_bound (A := 2147483648) (B := 2147483648) (x := x) (y := v) (by omega) (by omega) (by omega) (by omega)
  have m2 := mul_bound (A := 2147483648) (B := 2147483648) (x := y) (y := u) (by omega) (by omega) (by omega) (by omega)
  refine ans_of Try.func81 rfl Try.ntmps81 Try.results81 rfl rfl fun w => ?_
  refine v_seq ?_
  refine v_region ?_
  refine l_new rfl (o_box (cs := [_, _]) rfl rfl) fun b2 => ?_
  refine l_new rfl (o_box (cs := [_, _]) rfl rfl) fun b3 => ?_
  refine l_new rfl o_alloc fun b4 => ?_
  refine l_nil ?_
  refine kt_norm ?_
  refine v_seq ?_
  refine v_drawZ [[], [2], [], [3], [], [], [2], [], [3], [], [], [4]] mixed ?_ (by kernel_rfl) (by kernel_rfl)
  refine d_val (fun _ => rfl) rfl rfl (fun _ => o_fld rfl) ?_
  refine d_val (fun _ => rfl) rfl rfl (fun _ => o_load1 (key := 2) rfl rfl rfl) ?_
  refine d_val (fun _ => rfl) rfl rfl (fun _ => o_fld rfl) ?_
  refine d_val (fun _ => rfl) rfl rfl (fun _ => o_load1 (key := 3) rfl rfl rfl) ?_
  refine d_ans (vs := [_, _]) (fun _ => rfl) (fun _ => rfl) (a_Mul _ _ ?_ ?_) ?_
  · omega
  · omega
  refine d_val (fun _ => rfl) rfl rfl (fun _ => o_fld rfl) ?_
  refine d_val (fun _ => rfl) rfl rfl (fun _ => o_load1 (key := 2) rfl rfl rfl) ?_
  refine d_val (fun _ => rfl) rfl rfl (fun _ => o_fld rfl) ?_
  refine d_val (fun _ => rfl) rfl rfl (fun _ => o_load1 (key := 3) rfl rfl rfl) ?_
  refine d_ans (vs := [_, _]) (fun _ => rfl) (fun _ => rfl) (a_Mul _ _ ?_ ?_) ?_
  · omega
  · omega
  refine d_ans (vs := [_, _]) (fun _ => rfl) (fun _ => rfl) (a_Sub _ _ ?_ ?_) ?_
  · omega
  · omega
  refine d_store (fun _ => rfl) rfl rfl (fun _ => o_storeW (key := 4) (xs := [_, _]) rfl rfl rfl rfl rfl rfl rfl) ?_
  refine d_nil (fun σ => ?_)
  refine l_nil ?_
  refine kt_norm ?_
  refine v_sel [4] [4] rfl rfl ?_
  refine v_ret ?_
  refine ⟨[_], .cons (.cellW (key := 4) rfl rfl rfl) (ResAll.nil), ?_⟩
  rfl
theorem a_Side (a b c : PtT) (ha : NearT a) (hb : NearT b) (hc : NearT c) : Ans Try.prog 71 [.agg #[.int .i64 a.x, .int .i64 a.y], .agg #[.int .i64 b.x, .int .i64 b.y], .agg #[.int .i64 c.x, .int .i64 c.y]] (.int .i64 (sideT a b c)) := by
  unfold NearT at ha hb hc
  refine ans_of Try.func71 rfl Try.ntmps71 Try.results71 rfl rfl fun w => ?_
  refine v_seq ?_
  refine v_region ?_
  refine l_new rfl (o_box (cs := [_, _]) rfl rfl) fun b3 => ?_
  refine l_new rfl (o_box (cs := [_, _]) rfl rfl) fun b4 => ?_
  refine l_new rfl (o_box (cs := [_, _]) rfl rfl) fun b5 => ?_
  refine l_val rfl (o_assign rfl) ?_
  refine l_nil ?_
  refine kt_norm ?_
  refine v_seq ?_
  refine v_drawZ [[4], [3], [], [5], [3], [], [], [], []] mixed ?_ (by kernel_rfl) (by kernel_rfl)
  refine d_val (fun _ => rfl) rfl rfl (fun _ => o_loadW (key := 4) rfl rfl rfl) ?_
  refine d_val (fun _ => rfl) rfl rfl (fun _ => o_loadW (key := 3) rfl rfl rfl) ?_
  refine d_ans (vs := [_, _]) (fun _ => rfl) (fun _ => rfl) (a_PSub _ _ _ _ ?_ ?_ ?_ ?_) ?_
  · omega
  · omega
  · omega
  · omega
  refine d_val (fun _ => rfl) rfl rfl (fun _ => o_loadW (key := 5) rfl rfl rfl) ?_
  refine d_val (fun _ => rfl) rfl rfl (fun _ => o_loadW (key := 3) rfl rfl rfl) ?_
  refine d_ans (vs := [_, _]) (fun _ => rfl) (fun _ => rfl) (a_PSub _ _ _ _ ?_ ?_ ?_ ?_) ?_
  · omega
  · omega
  · omega
  · omega
  refine d_ans (vs := [_, _]) (fun _ => rfl) (fun _ => rfl) (a_SCross _ _ _ _ ?_ ?_ ?_ ?_) ?_
  · omega
  · omega
  · omega
  · omega
  refine d_ans (vs := [_]) (fun _ => rfl) (fun _ => rfl) (a_Sign _) ?_
  refine d_val (fun _ => rfl) rfl rfl (fun _ => o_assign rfl) ?_
  refine d_nil (fun σ => ?_)
  refine l_nil ?_
  refine kt_norm ?_
  refine v_sel [6] [] rfl rfl ?_
  refine v_ret ?_
  refine ⟨[_], .cons (.tmp rfl) (ResAll.nil), ?_⟩
  rfl
theorem a_sides (w : World) (a : Option Addr) (n c : Nat) : Calls Try.prog 53 #[.slice a n c] w fun e w' => ∃ b, e = .returned (.func (.func 68) #[] #[.pointer (some ⟨b, 0, none⟩)]) ∧ Below w.heap.size w w' ∧ Blk w' b #[.slice a n c] 46 ∧ w.heap.size ≤ b := by
  refine calls_box (args := [.slice a n c]) (X := fun b => .func (.func 68) #[] #[.pointer (some ⟨b, 0, none⟩)]) (cs := [.slice a n c]) Try.func53 rfl Try.ntmps53 Try.results53 rfl ?_
  refine v_seq ?_
  refine v_region ?_
  refine l_new rfl (o_box (cs := [_]) rfl rfl) fun b1 => ?_
  refine l_val rfl (o_assign rfl) ?_
  refine l_nil ?_
  refine kt_norm ?_
  refine v_seq ?_
  refine v_region ?_
  refine l_val rfl (o_makeFunc (vs := [_]) rfl) ?_
  refine l_val rfl (o_assign rfl) ?_
  refine l_nil ?_
  refine kt_norm ?_
  refine v_ret ?_
  refine ⟨[_], .cons (.tmp rfl) (ResAll.nil), ?_⟩
  exact ⟨1, b1, rfl, rfl⟩
theorem a_sides1 (b : Nat) (pv : Value) (pc : List PtT) (hs : pc.length ≤ 1000000) (hV : RowV pv pc.length) : Iter Try.prog 68 #[.pointer (some ⟨b, 0, none⟩)] (fun p : PtT × PtT => [.agg (eP p.1).toArray, .agg (eP p.2).toArray]) (sidesT pc) (fun w => Blk w b #[pv] 46 ∧ RowAt w pv 2 pc.length (pc.flatMap eP)) := by
  intro lp J Jx O0 W hJ hJx hJG hround hJ0
  have gst : ∀ {w w' : World}, Blk w b #[pv] 46 ∧ RowAt w pv 2 pc.length (pc.flatMap eP) → Chg (fun _ => False) w w' → Blk w' b #[pv] 46 ∧ RowAt w' pv 2 pc.length (pc.flatMap eP) := fun h hc => ⟨(hc.block b (Blk.lt h.1) (fun h => h)).trans h.1, h.2.chg hc (fun h => h)⟩
  have hG0 := (hJG _ _ _ hJ0).1
  refine enterI (A := fun W' => (∃ O', J (sidesT pc).length O' W') ∨ Jx W') (args := [.func (.yield lp) #[] #[], .pointer (some ⟨b, 0, none⟩)]) Try.func68 rfl Try.ntmps68 Try.results68 rfl (fun w w' h hc => h.imp (fun ⟨O, h⟩ => ⟨O, hJ _ _ _ _ h hc⟩) (fun h => hJx _ _ h hc)) ?_
  refine v_seq ?_
  refine v_region ?_
  refine l_val rfl (o_loadG1 rfl (fun w hg => (gst hG0 hg).1.cell 0 _ rfl)) ?_
  refine l_val rfl (o_len rfl hV) ?_
  refine l_val rfl (o_move rfl) ?_
  refine l_nil ?_
  refine kt_norm ?_
  refine v_block ?_
  refine v_loopL (α := Nat × World) (fun ⟨i, W2⟩ => [(8, .int .i64 (i : Int))]) (fun ⟨i, W2⟩ => []) (fun ⟨i, W2⟩ => fun w => Chg (fun _ => False) W2 w) (fun ⟨i, W2⟩ => fun b => b < W2.heap.size) (fun ⟨i, W2⟩ => i ≤ pc.length ∧ ∃ O2, J i O2 W2) (fun ⟨i, W2⟩ => pc.length - i) (0, W) [0, 1, 6, 7] [] ⟨Nat.zero_le _, O0, hJ0⟩ rfl rfl (And.intro rfl (True.intro)) rfl (True.intro) rfl ?_
  rintro ⟨i, W2⟩ ⟨hi, O2, hJ2⟩
  have hGk := fun w (hg : Chg (fun _ => False) W2 w) => gst (hJG _ _ _ hJ2).1 hg
  refine v_seq ?_
  refine v_region ?_
  refine l_split rfl (o_lss rfl rfl) (fun q1 => ?_) (fun q1 => ?_)
  · have hil : i < pc.length := by omega
    refine l_nil ?_
    refine kt_norm ?_
    refine v_seq ?_
    refine v_condT rfl ?_
    refine v_skip ?_
    refine kt_norm ?_
    refine v_seq ?_
    refine v_block ?_
    refine v_seq ?_
    refine v_region ?_
    refine l_val rfl (o_move rfl) ?_
    refine l_val rfl (o_idx (i) rfl hV rfl (by first | rfl | omega) (by omega)) ?_
    refine l_val rfl (o_loadRE (c' := [_, _]) rfl (row_imm (fun w hg => (hGk w hg).2)) (el_flat eP_len dP pc (i) (by omega)) rfl) ?_
    refine l_new rfl o_alloc fun b4 => ?_
    refine l_val rfl (o_assign rfl) ?_
    refine l_store rfl (o_storeW (key := 4) (xs := [_, _]) rfl rfl rfl rfl rfl rfl rfl) ?_
    refine l_nil ?_
    refine kt_norm ?_
    refine v_seq ?_
    refine v_drawZ [[], [], [], [], [], [], [], [], [], [5]] mixed ?_ (by kernel_rfl) (by kernel_rfl)
    refine d_val (fun _ => rfl) rfl rfl (fun _ => o_loadG1 rfl (fun w hg => (hGk w hg).1.cell 0 _ rfl)) ?_
    refine d_val (fun _ => rfl) rfl rfl (fun _ => o_move rfl) ?_
    refine d_val (fun _ => rfl) rfl rfl (fun _ => o_addi rfl rfl ?_) ?_
    · omega
    refine d_val (fun _ => rfl) rfl rfl (fun _ => o_loadG1 rfl (fun w hg => (hGk w hg).1.cell 0 _ rfl)) ?_
    refine d_val (fun _ => rfl) rfl rfl (fun _ => o_len rfl hV) ?_
    refine d_val (fun _ => rfl) rfl rfl (fun _ => o_remn rfl rfl ?_) ?_
    · omega
    refine d_val (fun _ => rfl) rfl rfl (fun _ => o_idx ((i + 1) % pc.length) rfl hV rfl (by first | rfl | omega) (Nat.mod_lt _ (by omega))) ?_
    refine d_val (fun _ => rfl) rfl rfl (fun _ => o_loadRE (c' := [_, _]) rfl (row_imm (fun w hg => (hGk w hg).2)) (el_flat eP_len dP pc ((i + 1) % pc.length) (Nat.mod_lt _ (by omega))) rfl) ?_
    refine d_new (fun _ => rfl) rfl rfl (fun _ => o_alloc) ?_
    refine d_store (fun _ => rfl) rfl rfl (fun _ => o_storeW (key := 5) (xs := [_, _]) rfl rfl rfl rfl rfl rfl rfl) ?_
    refine d_nil (fun σ => ?_)
    refine l_nil ?_
    refine kt_norm ?_
    refine v_sel [8, 0, 1, 6, 7, 4, 5] [4, 5] rfl rfl ?_
    refine v_seq ?_
    refine v_region ?_
    refine l_val rfl (o_move rfl) ?_
    refine l_val rfl (o_loadW (key := 4) rfl rfl rfl) ?_
    refine l_val rfl (o_loadW (key := 5) rfl rfl rfl) ?_
    refine l_yield (k := 0) (vs := [_, _]) (A := fun W3 => ∃ O3, J (i + 1) O3 W3) (B := Jx) rfl rfl (fun _ => trivial) (fun h => h) rfl rfl rfl (fun w hg => ⟨O2, yieldAt_mono (hround _ _ O2 w (sides_at hil) (hJ _ _ _ _ hJ2 hg)) (fun e w2 h => h.imp (fun h => ⟨h.1, h.2.1, h.2.2.imp fun O h => h.1⟩) id)⟩) (fun W3 hA => ?_) (fun W3 hBx => ?_)
    · obtain ⟨O3, hJ3⟩ := hA
      refine l_val rfl (o_not rfl rfl) ?_
      refine l_nil ?_
      refine kt_norm ?_
      refine v_sel [8, 0, 1, 6, 7, 25] [] rfl rfl ?_
      refine v_condF rfl ?_
      refine v_skip ?_
      refine kb_norm ?_
      refine kt_norm ?_
      refine v_region ?_
      refine l_val rfl (o_addi rfl rfl ?_) ?_
      · omega
      refine l_val rfl (o_move rfl) ?_
      refine l_nil ?_
      refine kt_norm ?_
      refine ⟨(i + 1, W3), ⟨hil, O3, hJ3⟩, (by show pc.length - (i + 1) < pc.length - i; omega), le_app (And.intro rfl (True.intro)) [0, 1, 6, 7] rfl (True.intro) [] rfl⟩
    · skip
      refine l_val rfl (o_not rfl rfl) ?_
      refine l_nil ?_
      refine kt_norm ?_
      refine v_sel [8, 0, 1, 6, 7, 25] [] rfl rfl ?_
      refine v_condT rfl ?_
      refine v_ret ?_
      refine kb_ret ?_
      refine kt_ret ?_
      refine kt_ret ?_
      refine kb_ret ?_
      refine ⟨[], ResAll.nil, ?_⟩
      first
        | exact ⟨rfl, fun w hg => .inr (hJx _ _ hBx hg)⟩
        | exact ⟨rfl, fun w hg => .inl ⟨O2, hJ _ _ _ _ (by rw [sides_len, show pc.length = i by omega]; exact hJ2) hg⟩⟩
  · skip
    refine l_nil ?_
    refine kt_norm ?_
    refine v_seq ?_
    refine v_condF rfl ?_
    refine v_exit ?_
    refine kt_exit ?_
    refine kt_exit ?_
    refine kb_eq ?_
    refine ⟨[], ResAll.nil, ?_⟩
    first
      | exact ⟨rfl, fun w hg => .inr (hJx _ _ hBx hg)⟩
      | exact ⟨rfl, fun w hg => .inl ⟨O2, hJ _ _ _ _ (by rw [sides_len, show pc.length = i by omega]; exact hJ2) hg⟩⟩
end Go.Proofs.Ytllhohbenniaaaa

/- The area of a piece; what lies left of all its sides. Conditions: none. -/
namespace Go.Proofs.Ytllhohbenniaaaa
open Go.Proofs Go.RowKit Go.Shelf

def leftB (pc : List PtT) (p : PtT) : Bool := (sidesT pc).all fun s => !(decide (sideT s.1 s.2 p < 0))
theorem left_no {pc : List PtT} {p : PtT} {i : Nat} (hi : i < pc.length) (h : sideT (pc.getD i dP) (pc.getD ((i + 1) % pc.length) dP) p < 0) : leftB pc p = false := by
  unfold leftB
  rw [List.all_eq_false]
  exact ⟨_, List.mem_of_getElem? (sides_at hi), by simp only [h, decide_true, Bool.not_true]; simp⟩
theorem left_yes {pc : List PtT} {p : PtT} (h : ∀ i, i < pc.length → ¬ sideT (pc.getD i dP) (pc.getD ((i + 1) % pc.length) dP) p < 0) : leftB pc p = true := by
  unfold leftB
  rw [List.all_eq_true]
  intro s hs
  obtain ⟨i, hi, rfl⟩ := List.getElem_of_mem hs
  obtain ⟨h1, h2⟩ := sides_get (pc := pc) (i := i) (List.getElem?_eq_getElem hi)
  rw [h2]
  have := h i h1
  simp only [this, decide_false, Bool.not_false]
theorem a_Area (w : World) (v : Value) (pc : List PtT) (hs : pc.length ≤ 1000000) (hV : RowV v pc.length) (hrow : RowAt w v 2 pc.length (pc.flatMap eP)) (hnear : ∀ p ∈ pc, NearT p) :
    Calls Try.prog 37 #[v] w fun e w' => e = .returned (.int .i64 (areaT pc)) ∧ Below w.heap.size w w' := by
  have hr : ∀ w', Chg (fun _ => False) w w' → RowAt w' v 2 pc.length (pc.flatMap eP) := fun w' h => hrow.chg h (fun h => h)
  obtain ⟨a0, c0, rfl⟩ := hV.sl
  refine calls_of (args := [.slice a0 pc.length c0]) Try.func37 rfl Try.ntmps37 Try.results37 rfl ?_
  refine v_seq ?_
  refine v_region ?_
  refine l_new rfl o_alloc fun b2 => ?_
  refine l_nil ?_
  refine kt_norm ?_
  refine v_seq ?_
  refine v_seq ?_
  refine v_region ?_
  refine l_val rfl (o_move rfl) ?_
  refine l_gbox (ks := []) (caps := #[]) (vs := [_]) (T := 46) (cs := [_]) rfl rfl (ent_of Try.func53 rfl rfl) rfl (fun w' _ _ => a_sides w' a0 pc.length c0) fun b6 => ?_
  refine l_nil ?_
  refine kt_norm ?_
  refine v_block ?_
  refine v_freeze 6 [2] rfl rfl rfl ?_
  refine v_range (τ := Int) rfl rfl rfl (ent_of Try.func68 rfl rfl) (a_sides1 b6 (.slice a0 pc.length c0) pc hs hV) (fun w' hg => ⟨hg.2, hr w' hg.1⟩) (fun _ => rfl) (fun t => [(2, .box b2 3 [.int .i64 t])]) (fun k t => t = areaTo pc k) 0 rfl [2] rfl ?_ ?_
  · rintro k x t lp W1 Wa hx rfl
    obtain ⟨hk, rfl⟩ := sides_get hx
    have hn := near_at hnear hk
    unfold NearT at hn
    dsimp only
    refine v_seq ?_
    refine v_region ?_
    refine l_new rfl o_alloc fun b3 => ?_
    refine l_store rfl (o_storeW (key := 3) (xs := [_, _]) rfl rfl rfl rfl rfl rfl rfl) ?_
    refine l_nil ?_
    refine kt_norm ?_
    refine v_region ?_
    refine l_new rfl o_alloc fun b4 => ?_
    refine l_store rfl (o_storeW (key := 4) (xs := [_, _]) rfl rfl rfl rfl rfl rfl rfl) ?_
    refine l_nil ?_
    refine ⟨rfl, rfl, rfl, rfl, fun W2 Wb => ?_⟩
    refine v_block ?_
    refine v_drawZ [[2], [3], [4], [], [], [2]] mixed ?_ (by kernel_rfl) (by kernel_rfl)
    refine d_val (fun _ => rfl) rfl rfl (fun _ => o_load1 (key := 2) rfl rfl rfl) ?_
    refine d_val (fun _ => rfl) rfl rfl (fun _ => o_loadW (key := 3) rfl rfl rfl) ?_
    refine d_val (fun _ => rfl) rfl rfl (fun _ => o_loadW (key := 4) rfl rfl rfl) ?_
    refine d_ans (vs := [_, _]) (fun _ => rfl) (fun _ => rfl) (a_Cross _ _ _ _ ?_ ?_ ?_ ?_) ?_
    · omega
    · omega
    · omega
    · omega
    refine d_val (fun _ => rfl) rfl rfl (fun _ => o_add rfl rfl (wrap_i64m _)) ?_
    refine d_store (fun _ => rfl) rfl rfl (fun _ => o_store1 (key := 2) (rs := [_]) rfl rfl rfl rfl rfl rfl rfl) ?_
    refine d_nil (fun σ => ?_)
    refine l_nil ?_
    refine kb_norm ?_
    exact ⟨rfl, areaTo pc (k + 1), rfl, ⟨fun _ _ h => (by cases h), leL_ok _ (And.intro rfl True.intro), rfl, rfl, rfl⟩⟩
  · rintro t D hQ
    rw [sides_len] at hQ
    subst hQ
    refine kb_norm ?_
    refine kt_norm ?_
    refine v_seq ?_
    refine v_region ?_
    refine l_val rfl (o_load1 (key := 2) rfl rfl rfl) ?_
    refine l_store rfl (o_store1 (key := 2) (rs := [_]) rfl rfl rfl rfl rfl rfl rfl) ?_
    refine l_nil ?_
    refine kt_norm ?_
    refine v_ret ?_
    refine ⟨[_], .cons (.cell1 (key := 2) rfl rfl) (ResAll.nil), ?_⟩
    rfl
theorem a_left (w : World) (v : Value) (pc : List PtT) (p : PtT) (hs : pc.length ≤ 1000000) (hV : RowV v pc.length) (hrow : RowAt w v 2 pc.length (pc.flatMap eP)) (hnear : ∀ p ∈ pc, NearT p) (hp : NearT p) :
    Calls Try.prog 57 #[v, .agg #[.int .i64 p.x, .int .i64 p.y]] w fun e w' => e = .returned (.bool (leftB pc p)) ∧ Below w.heap.size w w' := by
  have hr : ∀ w', Chg (fun _ => False) w w' → RowAt w' v 2 pc.length (pc.flatMap eP) := fun w' h => hrow.chg h (fun h => h)
  obtain ⟨a0, c0, rfl⟩ := hV.sl
  refine calls_of (args := [.slice a0 pc.length c0, .agg #[.int .i64 p.x, .int .i64 p.y]]) Try.func57 rfl Try.ntmps57 Try.results57 rfl ?_
  refine v_seq ?_
  refine v_region ?_
  refine l_new rfl (o_box (cs := [_, _]) rfl rfl) fun b3 => ?_
  refine l_new rfl o_alloc fun b4 => ?_
  refine l_nil ?_
  refine kt_norm ?_
  refine v_seq ?_
  refine v_seq ?_
  refine v_region ?_
  refine l_val rfl (o_move rfl) ?_
  refine l_gbox (ks := []) (caps := #[]) (vs := [_]) (T := 46) (cs := [_]) rfl rfl (ent_of Try.func53 rfl rfl) rfl (fun w' _ _ => a_sides w' a0 pc.length c0) fun b8 => ?_
  refine l_nil ?_
  refine kt_norm ?_
  refine v_block ?_
  refine v_freeze 8 [3, 4] rfl rfl rfl ?_
  refine v_rangeR (τ := Bool) rfl rfl rfl (ent_of Try.func68 rfl rfl) (a_sides1 b8 (.slice a0 pc.length c0) pc hs hV) (fun w' hg => ⟨hg.2, hr w' hg.1⟩) (fun _ => rfl) (fun t => [(3, .box b3 59 [.int .i64 p.x, .int .i64 p.y]), (4, .box b4 4 [.bool t])]) (fun k t => t = false ∧ ∀ i, i < k → ¬ sideT (pc.getD i dP) (pc.getD ((i + 1) % pc.length) dP) p < 0) (fun t => t = false ∧ leftB pc p = false) false ⟨rfl, fun i hi => absurd hi (Nat.not_lt_zero i)⟩ [3, 4] rfl ?_ ?_ ?_
  · rintro k x t lp W1 Wa hx ⟨rfl, hB⟩
    obtain ⟨hk, rfl⟩ := sides_get hx
    have hn := near_at hnear hk
    dsimp only
    refine v_seq ?_
    refine v_region ?_
    refine l_new rfl o_alloc fun b5 => ?_
    refine l_store rfl (o_storeW (key := 5) (xs := [_, _]) rfl rfl rfl rfl rfl rfl rfl) ?_
    refine l_nil ?_
    refine kt_norm ?_
    refine v_region ?_
    refine l_new rfl o_alloc fun b6 => ?_
    refine l_store rfl (o_storeW (key := 6) (xs := [_, _]) rfl rfl rfl rfl rfl rfl rfl) ?_
    refine l_nil ?_
    refine ⟨rfl, rfl, rfl, rfl, fun W2 Wb => ?_⟩
    refine v_block ?_
    refine v_seq ?_
    refine v_region ?_
    refine l_val rfl (o_loadW (key := 5) rfl rfl rfl) ?_
    refine l_val rfl (o_loadW (key := 6) rfl rfl rfl) ?_
    refine l_val rfl (o_loadW (key := 3) rfl rfl rfl) ?_
    refine l_ans (vs := [_, _, _]) rfl rfl (a_Side (pc.getD k dP) (pc.getD ((k + 1) % pc.length) dP) p hn.1 hn.2 hp) ?_
    refine l_split rfl (o_lss rfl rfl) (fun h44 => ?_) (fun h44 => ?_)
    · skip
      refine l_nil ?_
      refine kt_norm ?_
      refine v_sel [0, 1, 3, 4, 7, 8, 5, 6, 15] [3, 4, 5, 6] rfl rfl ?_
      refine v_condT rfl ?_
      refine v_seq ?_
      refine v_region ?_
      refine l_store rfl (o_store1 (key := 4) (rs := [_]) rfl rfl rfl rfl rfl rfl rfl) ?_
      refine l_nil ?_
      refine kt_norm ?_
      refine v_sel [4] [3, 4] rfl rfl ?_
      refine v_ret ?_
      refine kb_ret ?_
      exact .inr ⟨rfl, false, ⟨rfl, left_no hk h44⟩, ⟨fun _ _ h => (by cases h), leL_ok _ (And.intro rfl (And.intro rfl True.intro)), rfl, rfl, rfl⟩⟩
    · skip
      refine l_nil ?_
      refine kt_norm ?_
      refine v_sel [0, 1, 3, 4, 7, 8, 5, 6, 15] [3, 4, 5, 6] rfl rfl ?_
      refine v_condF rfl ?_
      refine v_skip ?_
      refine kb_norm ?_
      exact .inl ⟨rfl, false, ⟨rfl, fun i hi => by rcases Nat.lt_or_eq_of_le (Nat.le_of_lt_succ hi) with h | h; exact hB i h; subst h; exact h44⟩, ⟨fun _ _ h => (by cases h), leL_ok _ (And.intro rfl (And.intro rfl True.intro)), rfl, rfl, rfl⟩⟩
  · rintro t D ⟨rfl, hB⟩
    rw [sides_len] at hB
    refine kb_norm ?_
    refine kt_norm ?_
    refine v_seq ?_
    refine v_region ?_
    refine l_store rfl (o_store1 (key := 4) (rs := [_]) rfl rfl rfl rfl rfl rfl rfl) ?_
    refine l_nil ?_
    refine kt_norm ?_
    refine v_ret ?_
    refine ⟨[_], .cons (.cell1 (key := 4) rfl rfl) (ResAll.nil), ?_⟩
    first
      | exact congrArg Value.bool (left_yes hB).symm
      | exact congrArg Value.bool hL.symm
  · rintro t D ⟨rfl, hL⟩
    refine kb_ret ?_
    refine kt_ret ?_
    refine ⟨[_], .cons (.cell1 (key := 4) rfl rfl) (ResAll.nil), ?_⟩
    first
      | exact congrArg Value.bool (left_yes hB).symm
      | exact congrArg Value.bool hL.symm
end Go.Proofs.Ytllhohbenniaaaa

/- Whether a piece is convex. Conditions: none. -/
namespace Go.Proofs.Ytllhohbenniaaaa
open Go.Proofs Go.RowKit Go.Shelf

def idxG {α : Type} (p : α → Bool) (l : List α) : Int := if l.findIdx p = l.length then -1 else ((l.findIdx p : Nat) : Int)
theorem idxG_yes {α : Type} {d : α} {p : α → Bool} {l : List α} {i : Nat} (hi : i < l.length) (hb : ∀ j, j < i → p (l.getD j d) = false) (h : p (l.getD i d) = true) : idxG p l = i := by
  have e : l.findIdx p = i := (List.findIdx_eq hi).2 ⟨by simpa [List.getD_eq_getElem?_getD, hi] using h, fun j hj => by
    have := hb j hj
    simpa [List.getD_eq_getElem?_getD, show j < l.length by omega] using this⟩
  unfold idxG; rw [e, if_neg (by omega)]
theorem idxG_no {α : Type} {d : α} {p : α → Bool} {l : List α} (hb : ∀ j, j < l.length → p (l.getD j d) = false) : idxG p l = -1 := by
  have e : l.findIdx p = l.length := List.findIdx_eq_length.2 fun x hx => by
    obtain ⟨j, hj, rfl⟩ := List.getElem_of_mem hx
    simpa [List.getD_eq_getElem?_getD, hj] using hb j hj
  unfold idxG; rw [if_pos e]
theorem idxG_any {α : Type} (p : α → Bool) (l : List α) : decide (0 ≤ idxG p l) = l.any p := by
  unfold idxG
  by_cases h : l.findIdx p = l.length
  · rw [if_pos h]
    have := List.findIdx_eq_length.1 h
    rw [Bool.eq_iff_iff]
    simp only [decide_eq_true_eq, List.any_eq_true]
    exact ⟨fun h => by omega, fun ⟨x, hx, e⟩ => by have := this x hx; rw [e] at this; cases this⟩
  · rw [if_neg h]
    have hlt : l.findIdx p < l.length := by have := List.findIdx_le_length (p := p) (xs := l); omega
    have := (List.findIdx_eq hlt).1 rfl
    rw [Bool.eq_iff_iff]
    simp only [decide_eq_true_eq, List.any_eq_true]
    exact ⟨fun _ => ⟨_, List.getElem_mem hlt, this.1⟩, fun _ => by omega⟩
theorem pt_mem {pc : List PtT} {i : Nat} (h : i < pc.length) : pc.getD i dP ∈ pc := by
  rw [List.getD_eq_getElem?_getD, List.getElem?_eq_getElem h]; exact List.getElem_mem h
def convexB (pc : List PtT) : Bool := decide (3 ≤ pc.length) && (decide (0 < areaT pc) && !(pc.any fun p => !leftB pc p))
theorem a_IndexP {f : Nat} {caps : Array Value} {p : PtT → Bool} (w : World) (v : Value) (l : List PtT) (hn : l.length ≤ 1000000) (hV : RowV v l.length) (hrow : RowAt w v 2 l.length (l.flatMap eP)) (hent : ∀ args w, (callFunc f args).run Try.prog w = .ok (.enter f args) w) (hp : ∀ (w' : World) (x : PtT), x ∈ l → Chg (fun _ => False) w w' → Calls Try.prog f (#[.agg (eP x).toArray] ++ caps) w' fun e w2 => e = .returned (.bool (p x)) ∧ Below w'.heap.size w' w2) :
    Calls Try.prog 70 #[v, .func (.func f) #[] caps] w fun e w' => e = .returned (.int .i64 (idxG p l)) ∧ Below w.heap.size w w' := by
  have hr : ∀ w', Chg (fun _ => False) w w' → RowAt w' v 2 l.length (l.flatMap eP) := fun w' h => hrow.chg h (fun h => h)
  refine calls_of (args := [v, .func (.func f) #[] caps]) Try.func70 rfl Try.ntmps70 Try.results70 rfl ?_
  refine v_seq ?_
  refine v_region ?_
  refine l_val rfl (o_assign rfl) ?_
  refine l_nil ?_
  refine kt_norm ?_
  refine v_seq ?_
  refine v_seq ?_
  refine v_region ?_
  refine l_val rfl (o_move rfl) ?_
  refine l_val rfl (o_len rfl hV) ?_
  refine l_val rfl (o_move rfl) ?_
  refine l_nil ?_
  refine kt_norm ?_
  refine v_block ?_
  refine v_loopS (α := Nat) (fun i => [(8, .int .i64 (i : Int))]) (fun i => [])  (fun i => i ≤ l.length ∧ ∀ j, j < i → p (l.getD j dP) = false) (fun i => l.length - i) 0 [0, 1, 7] [] ⟨by omega, fun j h => by omega⟩  (And.intro rfl (True.intro)) rfl (True.intro) rfl ?_
  rintro i ⟨hi, hb⟩
  refine v_seq ?_
  refine v_region ?_
  refine l_split rfl (o_lss rfl rfl) (fun q1 => ?_) (fun q1 => ?_)
  · first
    | (exfalso; assumption; done)
    | (
        refine l_nil ?_
        refine kt_norm ?_
        refine v_seq ?_
        refine v_condT rfl ?_
        refine v_skip ?_
        refine kt_norm ?_
        refine v_seq ?_
        refine v_block ?_
        refine v_seq ?_
        refine v_region ?_
        refine l_val rfl (o_move rfl) ?_
        refine l_val rfl (o_assign rfl) ?_
        refine l_nil ?_
        refine kt_norm ?_
        refine v_seq ?_
        refine v_region ?_
        refine l_val rfl (o_move rfl) ?_
        refine l_val rfl (o_move rfl) ?_
        refine l_val rfl (o_move rfl) ?_
        refine l_val rfl (o_idx (i) rfl hV rfl (by first | rfl | omega) (by omega)) ?_
        refine l_val rfl (o_loadRE (c' := [_, _]) rfl (row_imm hr) (el_flat eP_len dP l (i) (by omega)) rfl) ?_
        refine l_call (ks := []) rfl (o_callF (caps := caps) (vs := [_]) (r := .bool (p (l.getD i dP))) rfl hent rfl (fun w' hg _ => hp w' (l.getD i dP) (pt_mem (by omega)) hg)) ?_
        refine lz_cases (fun q2 => ?_) (fun q2 => ?_)
        · first
          | (exfalso; assumption; done)
          | (
              refine l_nil ?_
              refine kt_norm ?_
              refine v_sel [8, 0, 1, 7, 5, 16] [] rfl rfl ?_
              refine v_condT rfl ?_
              refine v_seq ?_
              refine v_region ?_
              refine l_val rfl (o_move rfl) ?_
              refine l_val rfl (o_assign rfl) ?_
              refine l_nil ?_
              refine kt_norm ?_
              refine v_sel [4] [] rfl rfl ?_
              refine v_ret ?_
              refine kb_ret ?_
              refine kt_ret ?_
              refine kt_ret ?_
              refine kb_ret ?_
              refine kt_ret ?_
              refine ⟨[_], .cons (.tmp rfl) (ResAll.nil), ?_⟩
              first
                | exact congrArg (Value.int .i64) (idxG_yes (d := dP) (by omega) hb (by assumption)).symm
                | exact congrArg (Value.int .i64) (idxG_no (d := dP) (fun j hj => hb j (by omega))).symm)
        · first
          | (exfalso; assumption; done)
          | (
              refine l_nil ?_
              refine kt_norm ?_
              refine v_sel [8, 0, 1, 7, 5, 16] [] rfl rfl ?_
              refine v_condF rfl ?_
              refine v_skip ?_
              refine kb_norm ?_
              refine kt_norm ?_
              refine v_region ?_
              refine l_val rfl (o_addi rfl rfl ?_) ?_
              · omega
              refine l_val rfl (o_move rfl) ?_
              refine l_nil ?_
              refine kt_norm ?_
              refine ⟨i + 1, ⟨by omega, fun j hj => by rcases Nat.lt_or_eq_of_le (Nat.le_of_lt_succ hj) with h | h; exact hb j h; subst h; assumption⟩, by omega, le_app (And.intro rfl (True.intro)) [0, 1, 7] rfl (True.intro) [] rfl⟩))
  · first
    | (exfalso; assumption; done)
    | (
        refine l_nil ?_
        refine kt_norm ?_
        refine v_seq ?_
        refine v_condF rfl ?_
        refine v_exit ?_
        refine kt_exit ?_
        refine kt_exit ?_
        refine kb_eq ?_
        refine kt_norm ?_
        refine v_seq ?_
        refine v_region ?_
        refine l_val rfl (o_assign rfl) ?_
        refine l_nil ?_
        refine kt_norm ?_
        refine v_ret ?_
        refine ⟨[_], .cons (.tmp rfl) (ResAll.nil), ?_⟩
        first
          | exact congrArg (Value.int .i64) (idxG_yes (d := dP) (by omega) hb (by assumption)).symm
          | exact congrArg (Value.int .i64) (idxG_no (d := dP) (fun j hj => hb j (by omega))).symm)
theorem a_ContP {f : Nat} {caps : Array Value} {p : PtT → Bool} (w : World) (v : Value) (l : List PtT) (hn : l.length ≤ 1000000) (hV : RowV v l.length) (hrow : RowAt w v 2 l.length (l.flatMap eP)) (hent : ∀ args w, (callFunc f args).run Try.prog w = .ok (.enter f args) w) (hp : ∀ (w' : World) (x : PtT), x ∈ l → Chg (fun _ => False) w w' → Calls Try.prog f (#[.agg (eP x).toArray] ++ caps) w' fun e w2 => e = .returned (.bool (p x)) ∧ Below w'.heap.size w' w2) :
    Calls Try.prog 55 #[v, .func (.func f) #[] caps] w fun e w' => e = .returned (.bool (l.any p)) ∧ Below w.heap.size w w' := by
  have hr : ∀ w', Chg (fun _ => False) w w' → RowAt w' v 2 l.length (l.flatMap eP) := fun w' h => hrow.chg h (fun h => h)
  refine calls_of (args := [v, .func (.func f) #[] caps]) Try.func55 rfl Try.ntmps55 Try.results55 rfl ?_
  refine v_seq ?_
  refine v_region ?_
  refine l_val rfl (o_assign rfl) ?_
  refine l_nil ?_
  refine kt_norm ?_
  refine v_seq ?_
  refine v_region ?_
  refine l_val rfl (o_move rfl) ?_
  refine l_val rfl (o_move rfl) ?_
  refine l_call (ks := []) rfl (o_callC (vs := [_, _]) (r := .int .i64 (idxG p l)) (ent_of Try.func70 rfl rfl) rfl (fun w' hg hh => a_IndexP w' v l hn hV (hr w' hg) hent (fun w2 x hx hc => hp w2 x hx (hg.trans (hc.mono fun k _ h => h.elim))))) ?_
  refine l_val rfl (o_geq rfl rfl) ?_
  refine l_val rfl (o_assign rfl) ?_
  refine l_nil ?_
  refine kt_norm ?_
  refine v_sel [4] [] rfl rfl ?_
  refine v_ret ?_
  refine ⟨[_], .cons (.tmp rfl) (ResAll.nil), ?_⟩
  exact congrArg Value.bool (idxG_any p l)
theorem a_Convex1 (w : World) (b : Nat) (v : Value) (pc : List PtT) (x : PtT) (hs : pc.length ≤ 1000000) (hV : RowV v pc.length) (hrow : RowAt w v 2 pc.length (pc.flatMap eP)) (hnear : ∀ p ∈ pc, NearT p) (hx : NearT x) (hG : Blk w b #[v] 46) :
    Calls Try.prog 56 #[.agg #[.int .i64 x.x, .int .i64 x.y], .pointer (some ⟨b, 0, none⟩)] w fun e w' => e = .returned (.bool (!leftB pc x)) ∧ Below w.heap.size w w' := by
  have hr : ∀ w', Chg (fun _ => False) w w' → RowAt w' v 2 pc.length (pc.flatMap eP) := fun w' h => hrow.chg h (fun h => h)
  have hGk : ∀ w', Chg (fun _ => False) w w' → Blk w' b #[v] 46 := fun w' h => (h.block b (Blk.lt hG) (fun h => h)).trans hG
  refine calls_of (args := [.agg #[.int .i64 x.x, .int .i64 x.y], .pointer (some ⟨b, 0, none⟩)]) Try.func56 rfl Try.ntmps56 Try.results56 rfl ?_
  refine v_seq ?_
  refine v_region ?_
  refine l_new rfl (o_box (cs := [_, _]) rfl rfl) fun b2 => ?_
  refine l_val rfl (o_assign rfl) ?_
  refine l_nil ?_
  refine kt_norm ?_
  refine v_seq ?_
  refine v_region ?_
  refine l_val rfl (o_loadG1 rfl (fun w hg => (hGk w hg).cell 0 _ rfl)) ?_
  refine l_val rfl (o_loadW (key := 2) rfl rfl rfl) ?_
  refine l_call (ks := []) rfl (o_callC (vs := [_, _]) (r := .bool (leftB pc x)) (ent_of Try.func57 rfl rfl) rfl (fun w' hg hh => a_left w' v pc x hs hV (hr w' hg) hnear hx)) ?_
  refine l_val rfl (o_not rfl rfl) ?_
  refine l_val rfl (o_assign rfl) ?_
  refine l_nil ?_
  refine kt_norm ?_
  refine v_sel [3] [] rfl rfl ?_
  refine v_ret ?_
  refine ⟨[_], .cons (.tmp rfl) (ResAll.nil), ?_⟩
  rfl
theorem a_Convex (w : World) (v : Value) (pc : List PtT) (hs : pc.length ≤ 1000000) (hV : RowV v pc.length) (hrow : RowAt w v 2 pc.length (pc.flatMap eP)) (hnear : ∀ p ∈ pc, NearT p) :
    Calls Try.prog 39 #[v] w fun e w' => e = .returned (.bool (convexB pc)) ∧ Below w.heap.size w w' := by
  have hr : ∀ w', Chg (fun _ => False) w w' → RowAt w' v 2 pc.length (pc.flatMap eP) := fun w' h => hrow.chg h (fun h => h)
  obtain ⟨a0, c0, rfl⟩ := hV.sl
  refine calls_of (args := [.slice a0 pc.length c0]) Try.func39 rfl Try.ntmps39 Try.results39 rfl ?_
  refine v_seq ?_
  refine v_region ?_
  refine l_new rfl (o_box (cs := [_]) rfl rfl) fun b1 => ?_
  refine l_val rfl (o_assign rfl) ?_
  refine l_nil ?_
  refine kt_norm ?_
  refine v_seq ?_
  refine v_region ?_
  skip
  refine l_val rfl (o_load1 (key := 1) rfl rfl rfl) ?_
  refine l_val rfl (o_len rfl hV) ?_
  refine l_split rfl (o_geq rfl rfl) (fun h3 => ?_) (fun h3 => ?_)
  · skip
    refine l_val rfl (o_move rfl) ?_
    refine l_val rfl (o_load1 (key := 1) rfl rfl rfl) ?_
    refine l_call (ks := []) rfl (o_callC (vs := [_]) (r := .int .i64 (areaT pc)) (ent_of Try.func37 rfl rfl) rfl (fun w' hg hh => a_Area w' (.slice a0 pc.length c0) pc hs hV (hr w' hg) hnear)) ?_
    refine l_split rfl (o_gtr rfl rfl) (fun ha => ?_) (fun ha => ?_)
    · skip
      refine l_val rfl (o_pickT rfl rfl) ?_
      refine l_val rfl (o_move rfl) ?_
      refine l_val rfl (o_load1 (key := 1) rfl rfl rfl) ?_
      refine l_val rfl (o_makeFunc (vs := [_]) rfl) ?_
      refine l_call (ks := [1]) rfl (o_callC (vs := [_, _]) (r := .bool (pc.any fun p => !leftB pc p)) (ent_of Try.func55 rfl rfl) rfl (fun w' hg hh => a_ContP w' (.slice a0 pc.length c0) pc hs hV (hr w' hg) (ent_of Try.func56 rfl rfl) (fun w2 x hx hc => a_Convex1 w2 b1 (.slice a0 pc.length c0) pc x hs hV ((hr w' hg).chg hc (fun h => h)) hnear (hnear x hx) ((hc.block b1 (Blk.lt (hh 1 (by simp) _ rfl)) (fun h => h)).trans (hh 1 (by simp) _ rfl))))) ?_
      refine l_val rfl (o_not rfl rfl) ?_
      refine l_val rfl (o_pickT rfl rfl) ?_
      refine l_val rfl (o_assign rfl) ?_
      refine l_nil ?_
      refine kt_norm ?_
      refine v_sel [2] [1] rfl rfl ?_
      refine v_ret ?_
      refine ⟨[_], .cons (.tmp rfl) (ResAll.nil), ?_⟩
      refine congrArg Value.bool ?_
      unfold convexB
      first
        | (rw [decide_eq_false (show ¬ 3 ≤ pc.length by omega)]; rfl)
        | (rw [decide_eq_true (show 3 ≤ pc.length by omega), decide_eq_false (show ¬ 0 < areaT pc by omega)]; rfl)
        | (rw [decide_eq_true (show 3 ≤ pc.length by omega), decide_eq_true (show 0 < areaT pc by omega)]; rfl)
    · skip
      refine l_val rfl (o_pickT rfl rfl) ?_
      refine l_val rfl (o_move rfl) ?_
      refine l_no rfl ?_
      refine l_no rfl ?_
      refine l_no rfl ?_
      refine l_no rfl ?_
      refine l_val rfl (o_pickF rfl rfl) ?_
      refine l_val rfl (o_assign rfl) ?_
      refine l_nil ?_
      refine kt_norm ?_
      refine v_sel [2] [1] rfl rfl ?_
      refine v_ret ?_
      refine ⟨[_], .cons (.tmp rfl) (ResAll.nil), ?_⟩
      refine congrArg Value.bool ?_
      unfold convexB
      first
        | (rw [decide_eq_false (show ¬ 3 ≤ pc.length by omega)]; rfl)
        | (rw [decide_eq_true (show 3 ≤ pc.length by omega), decide_eq_false (show ¬ 0 < areaT pc by omega)]; rfl)
        | (rw [decide_eq_true (show 3 ≤ pc.length by omega), decide_eq_true (show 0 < areaT pc by omega)]; rfl)
  · skip
    refine l_val rfl (o_move rfl) ?_
    refine l_no rfl ?_
    refine l_no rfl ?_
    refine l_no rfl ?_
    refine l_val rfl (o_pickF rfl rfl) ?_
    refine l_val rfl (o_move rfl) ?_
    refine l_no rfl ?_
    refine l_no rfl ?_
    refine l_no rfl ?_
    refine l_no rfl ?_
    refine l_val rfl (o_pickF rfl rfl) ?_
    refine l_val rfl (o_assign rfl) ?_
    refine l_nil ?_
    refine kt_norm ?_
    refine v_sel [2] [1] rfl rfl ?_
    refine v_ret ?_
    refine ⟨[_], .cons (.tmp rfl) (ResAll.nil), ?_⟩
    refine congrArg Value.bool ?_
    unfold convexB
    first
      | (rw [decide_eq_false (show ¬ 3 ≤ pc.length by omega)]; rfl)
      | (rw [decide_eq_true (show 3 ≤ pc.length by omega), decide_eq_false (show ¬ 0 < areaT pc by omega)]; rfl)
      | (rw [decide_eq_true (show 3 ≤ pc.length by omega), decide_eq_true (show 0 < areaT pc by omega)]; rfl)
end Go.Proofs.Ytllhohbenniaaaa

/- Points that are copied, and told backwards. Conditions: none. -/
namespace Go.Proofs.Ytllhohbenniaaaa
open Go.Proofs Go.RowKit Go.Shelf

def swapP (l : List PtT) (i j : Nat) : List PtT := (l.set i (l.getD j dP)).set j (l.getD i dP)
theorem flat_swapP {l : List PtT} {i j : Nat} (hi : i < l.length) (hj : j < l.length) : ((l.flatMap eP).take (i * 2) ++ eP (l.getD j dP) ++ (l.flatMap eP).drop (i * 2 + 2)).take (j * 2) ++ eP (l.getD i dP) ++ ((l.flatMap eP).take (i * 2) ++ eP (l.getD j dP) ++ (l.flatMap eP).drop (i * 2 + 2)).drop (j * 2 + 2) = (swapP l i j).flatMap eP := by
  rw [flat_set eP_len l i _ hi, flat_set eP_len _ j _ (by simpa using hj)]; rfl
theorem setP {l : List PtT} {i k : Nat} {x : PtT} (hi : i < l.length) : (l.set i x).getD k dP = if k = i then x else l.getD k dP := by
  rw [List.getD_eq_getElem?_getD, List.getElem?_set]
  by_cases e : i = k
  · subst e; rw [if_pos rfl, if_pos hi, if_pos rfl]; rfl
  · rw [if_neg e, if_neg (fun h => e h.symm), List.getD_eq_getElem?_getD]
/-- i points from each end have changed places -/
structure RevQ (pc : List PtT) (i : Nat) (cur : List PtT) : Prop where
  len : cur.length = pc.length
  at_ : ∀ k, k < pc.length → cur.getD k dP = if k < i ∨ pc.length - i ≤ k then pc.getD (pc.length - 1 - k) dP else pc.getD k dP
theorem RevQ.start (pc : List PtT) : RevQ pc 0 pc := ⟨rfl, fun k hk => by rw [if_neg (by omega)]⟩
theorem RevQ.step {pc cur : List PtT} {i : Nat} (h : RevQ pc i cur) (hi : 2 * i + 1 < pc.length) : RevQ pc (i + 1) (swapP cur i (pc.length - 1 - i)) := by
  have hl := h.len
  refine ⟨by simp [swapP, hl], fun k hk => ?_⟩
  unfold swapP
  rw [setP (by simp; omega), setP (by omega)]
  have h1 := h.at_ i (by omega)
  have h2 := h.at_ (pc.length - 1 - i) (by omega)
  rw [if_neg (by omega)] at h1 h2
  by_cases e1 : k = pc.length - 1 - i
  · rw [if_pos e1, if_pos (by omega), h1, e1, show pc.length - 1 - (pc.length - 1 - i) = i by omega]
  · rw [if_neg e1]
    by_cases e2 : k = i
    · rw [if_pos e2, if_pos (by omega), h2, e2]
    · rw [if_neg e2, h.at_ k hk]
      by_cases c : k < i ∨ pc.length - i ≤ k
      · rw [if_pos c, if_pos (by omega)]
      · rw [if_neg c, if_neg (by omega)]
theorem RevQ.done {pc cur : List PtT} {i : Nat} (h : RevQ pc i cur) (h1 : 2 * i ≤ pc.length) (h2 : pc.length ≤ 2 * i + 1) : cur = pc.reverse := by
  have hl := h.len
  apply List.ext_getElem
  · simp [hl]
  · intro k hk1 hk2
    have hk : k < pc.length := by omega
    have h3 := h.at_ k hk
    have e : cur.getD k dP = pc.getD (pc.length - 1 - k) dP := by
      by_cases c : k < i ∨ pc.length - i ≤ k
      · rw [h3, if_pos c]
      · rw [h3, if_neg c, show pc.length - 1 - k = k by omega]
    rw [List.getElem_reverse]
    rw [List.getD_eq_getElem?_getD, List.getElem?_eq_getElem hk1, List.getD_eq_getElem?_getD, List.getElem?_eq_getElem (show pc.length - 1 - k < pc.length by omega)] at e
    exact e
theorem a_CloneP (w : World) (v : Value) (es : List PtT) (hn : es.length ≤ 1099511627776) (hV : RowV v es.length) (hrow : RowAt w v 2 es.length (es.flatMap eP)) :
    Calls Try.prog 36 #[v] w fun e w' => ∃ y, e = .returned y ∧ Below w.heap.size w w' ∧ OwnAt w.heap.size w' y 59 2 es.length (es.flatMap eP) := by
  have hr : ∀ w', Chg (fun _ => False) w w' → RowAt w' v 2 es.length (es.flatMap eP) := fun w' h => hrow.chg h (fun h => h)
  have hV0 := hV
  have hV1 : (∃ a c, v = .slice (some a) es.length c) ∨ (v = .slice none 0 0 ∧ es.length = 0) := by
    rcases hV0 with ⟨b, o, c, h⟩ | h | ⟨a, c, h, e⟩
    · exact .inl ⟨_, c, h⟩
    · exact .inr h
    · exact .inl ⟨a, c, by rw [e]; exact h⟩
  rcases hV1 with ⟨aa, cc, rfl⟩ | ⟨rfl, h0⟩
  · refine calls_own (args := [.slice (some aa) es.length cc]) Try.func36 rfl Try.ntmps36 Try.results36 rfl ?_
    refine v_seq ?_
    refine v_region ?_
    refine l_val rfl (o_assign rfl) ?_
    refine l_nil ?_
    refine kt_norm ?_
    refine v_seq ?_
    refine v_seq ?_
    refine v_region ?_
    refine l_val rfl (o_move rfl) ?_
    refine l_val rfl (o_eqnil rfl) ?_
    refine l_nil ?_
    refine kt_norm ?_
    refine v_condF rfl ?_
    refine v_skip ?_
    refine kt_norm ?_
    refine v_seq ?_
    refine v_region ?_
    refine l_buildSlice (vs := []) (cs := []) rfl rfl rfl rfl rfl rfl fun v1 hv1 => ?_
    refine l_val rfl (o_move rfl) ?_
    refine l_append 5 [] rfl rfl rfl rfl rfl rfl rfl hV (row_imm hr) (by omega) fun v2 hv2 => ?_
    refine l_val rfl (o_assign rfl) ?_
    refine l_nil ?_
    refine kt_norm ?_
    refine v_sel [2] [7] rfl rfl ?_
    refine v_ret ?_
    refine ⟨[_], .cons (.tmp rfl) (ResAll.nil), ?_⟩
    exact ⟨7, congrArg some (own_congr (Nat.zero_add _) (List.nil_append _))⟩
  · have : es = [] := List.length_eq_zero_iff.1 h0
    subst this
    refine calls_own (args := [.slice none 0 0]) Try.func36 rfl Try.ntmps36 Try.results36 rfl ?_
    refine v_ghost 77 59 2 ?_
    refine v_seq ?_
    refine v_region ?_
    refine l_val rfl (o_assign rfl) ?_
    refine l_nil ?_
    refine kt_norm ?_
    refine v_seq ?_
    refine v_seq ?_
    refine v_region ?_
    refine l_val rfl (o_move rfl) ?_
    refine l_val rfl (o_eqnil rfl) ?_
    refine l_nil ?_
    refine kt_norm ?_
    refine v_condT rfl ?_
    refine v_seq ?_
    refine v_region ?_
    refine l_val rfl (o_assign rfl) ?_
    refine l_nil ?_
    refine kt_norm ?_
    refine v_ret ?_
    refine kt_ret ?_
    refine ⟨[_], .cons (.tmp rfl) (ResAll.nil), ?_⟩
    exact ⟨77, rfl⟩
theorem a_ReverseP (w : World) (v : Value) (pc : List PtT) (hs : pc.length ≤ 1000000) (hok : (Hp.own v 59 2 pc.length (pc.flatMap eP)).ok w) :
    Calls Try.prog 38 #[v] w fun e w' => (∃ y, e = .returned y) ∧ ∃ l' : List PtT, l' = pc.reverse ∧ Chg (fun b => v.ownBlock = some b) w w' ∧ (Hp.own v 59 2 pc.length (l'.flatMap eP)).ok w' := by
  have hV := rowV_own hok
  refine calls_mutX (args := [v]) v (fun l' => l' = pc.reverse) (fun l' => l'.flatMap eP) Try.func38 rfl Try.ntmps38 Try.results38 rfl hok ?_
  refine v_seq ?_
  refine v_region ?_
  refine l_val rfl (o_move rfl) ?_
  refine l_val rfl (o_len rfl hV) ?_
  refine l_val rfl (o_subi rfl rfl ?_) ?_
  · omega
  refine l_val rfl (o_assign rfl) ?_
  refine l_val rfl (o_assign rfl) ?_
  refine l_nil ?_
  refine kt_norm ?_
  refine v_block ?_
  refine v_loopS (α := Nat × List PtT) (fun ⟨i, cur⟩ => [(2, .int .i64 (i : Int)), (3, .int .i64 ((pc.length : Int) - 1 - i))]) (fun ⟨i, cur⟩ => [(1000, Hp.own v 59 2 pc.length (cur.flatMap eP))])  (fun ⟨i, cur⟩ => 2 * i ≤ pc.length ∧ RevQ pc i cur) (fun ⟨i, cur⟩ => pc.length - i) (0, pc) [0] [] ⟨Nat.zero_le _, RevQ.start pc⟩  (And.intro rfl (And.intro (congrArg (fun q => some (Value.int .i64 q)) (by omega)) (True.intro))) rfl (And.intro rfl (True.intro)) rfl ?_
  rintro ⟨i, cur⟩ ⟨hi, hQ⟩
  have hcl := hQ.len
  refine v_seq ?_
  refine v_seq ?_
  refine v_region ?_
  refine l_val rfl (o_move rfl) ?_
  refine l_val rfl (o_move rfl) ?_
  refine l_split rfl (o_lss rfl rfl) (fun q1 => ?_) (fun q1 => ?_)
  · skip
    refine l_nil ?_
    refine kt_norm ?_
    refine v_condT rfl ?_
    refine v_skip ?_
    refine kt_norm ?_
    refine v_seq ?_
    refine v_block ?_
    refine v_drawZ [[], [], [], [], [], [], [], [1000], [], [], [], [1000], [], [1000], [], [1000]] mixed ?_ (by kernel_rfl) (by kernel_rfl)
    refine d_val (fun _ => rfl) rfl rfl (fun _ => o_move rfl) ?_
    refine d_val (fun _ => rfl) rfl rfl (fun _ => o_move rfl) ?_
    refine d_val (fun _ => rfl) rfl rfl (fun _ => o_move rfl) ?_
    refine d_val (fun _ => rfl) rfl rfl (fun _ => o_move rfl) ?_
    refine d_val (fun _ => rfl) rfl rfl (fun _ => o_move rfl) ?_
    refine d_val (fun _ => rfl) rfl rfl (fun _ => o_move rfl) ?_
    refine d_val (fun _ => rfl) rfl rfl (fun _ => o_idx ((pc.length - 1 - i)) rfl hV rfl (by omega) (by omega)) ?_
    refine d_val (fun _ => rfl) rfl rfl (fun _ => o_loadRE (c' := [_, _]) rfl (row_own (key := 1000) rfl) (el_flat eP_len dP cur ((pc.length - 1 - i)) (by have := hQ.len; omega)) rfl) ?_
    refine d_val (fun _ => rfl) rfl rfl (fun _ => o_move rfl) ?_
    refine d_val (fun _ => rfl) rfl rfl (fun _ => o_move rfl) ?_
    refine d_val (fun _ => rfl) rfl rfl (fun _ => o_idx (i) rfl hV rfl (by first | rfl | omega) (by omega)) ?_
    refine d_val (fun _ => rfl) rfl rfl (fun _ => o_loadRE (c' := [_, _]) rfl (row_own (key := 1000) rfl) (el_flat eP_len dP cur (i) (by have := hQ.len; omega)) rfl) ?_
    refine d_val (fun _ => rfl) rfl rfl (fun _ => o_idx (i) rfl hV rfl (by first | rfl | omega) (by omega)) ?_
    refine d_store (fun _ => rfl) rfl rfl (fun _ => o_storeRE (key := 1000) (c := [_, _]) (by decide) rfl rfl rfl rfl rfl rfl (by omega)) ?_
    refine d_val (fun _ => rfl) rfl rfl (fun _ => o_idx ((pc.length - 1 - i)) rfl hV rfl (by omega) (by omega)) ?_
    refine d_store (fun _ => rfl) rfl rfl (fun _ => o_storeRE (key := 1000) (c := [_, _]) (by decide) rfl rfl rfl rfl rfl rfl (by omega)) ?_
    refine d_nil (fun σ => ?_)
    refine l_nil ?_
    refine kb_norm ?_
    refine kt_norm ?_
    refine v_sel [2, 3, 0] [1000] rfl rfl ?_
    refine v_region ?_
    refine l_val rfl (o_move rfl) ?_
    refine l_val rfl (o_addi rfl rfl ?_) ?_
    · omega
    refine l_val rfl (o_move rfl) ?_
    refine l_val rfl (o_subi rfl rfl ?_) ?_
    · omega
    refine l_val rfl (o_assign rfl) ?_
    refine l_val rfl (o_assign rfl) ?_
    refine l_nil ?_
    refine kt_norm ?_
    refine ⟨(i + 1, swapP cur i (pc.length - 1 - i)), ⟨by omega, hQ.step (by omega)⟩, (by show pc.length - (i + 1) < pc.length - i; omega), le_app (And.intro rfl (And.intro (congrArg (fun q => some (Value.int .i64 q)) (by omega)) (True.intro))) [0] rfl (And.intro (congrArg some (own_congr rfl (flat_swapP (by omega) (by omega)))) (True.intro)) [] rfl⟩
  · skip
    refine l_nil ?_
    refine kt_norm ?_
    refine v_condF rfl ?_
    refine v_exit ?_
    refine kt_exit ?_
    refine kt_exit ?_
    refine kb_eq ?_
    refine ⟨[], ResAll.nil, ?_⟩
    exact ⟨cur, hQ.done hi (by omega), rfl⟩
end Go.Proofs.Ytllhohbenniaaaa

/- A slice whose capacity is cut to its length. Conditions: none. -/
namespace Go.Proofs.Ytllhohbenniaaaa
open Go.Proofs Go.RowKit Go.Shelf

theorem addr_add0 (a : Addr) : a.add 0 = a := by cases a; simp [Addr.add]
theorem o_slice3 {C : Cx} {s : St} {d : Option Nat} {x z z' : Operand} {T E ty : TypeId} {pos : String} {aft : Array Edge} {gd : Option (Nat × Bool)} {a : Option Addr} {n c esz : Nat} {k k' : IntKind} [ht : TSl C.P T E esz] (h : ev C s x = some (.slice a n c)) (hcap : n ≤ c) (h2 : ev C s z = some (.int k (n : Int))) (h3 : ev C s z' = some (.int k' (n : Int))) :
    OpV C s ⟨d, .slice T x none (some z) (some z'), ty, pos, aft, gd⟩ [] (.slice a n n) := opv _ _ (by simp) fun ρ w hr => by
  have hx := rd1 hr (x := x) (by simp [Op.operands]) h
  have hz := rd1 hr (x := z) (by simp [Op.operands]) h2
  have hz' := rd1 hr (x := z') (by simp [Op.operands]) h3
  have e1 : (if n = 0 then a else a.map (·.add 0)) = a := by
    split
    · rfl
    · cases a with
      | none => rfl
      | some b => simp [addr_add0]
  simp [execOp, hx, hz, hz', Instr.sliceAt, Instr.slice, Instr.sliceBounds, Instr.sliceBound, asIntOf, Sem.run_bind, run_underlying ht.h, hcap, ht.sz, Result.andThen, e1]
theorem a_ClipP (w : World) (a : Option Addr) (n c : Nat) (hn : n ≤ 1000000) (hcap : n ≤ c) (hV : RowV (.slice a n c) n) :
    Calls Try.prog 40 #[.slice a n c] w fun e w' => e = .returned (.slice a n n) ∧ Below w.heap.size w w' := by
  refine calls_of (args := [.slice a n c]) Try.func40 rfl Try.ntmps40 Try.results40 rfl ?_
  refine v_seq ?_
  refine v_region ?_
  refine l_val rfl (o_assign rfl) ?_
  refine l_nil ?_
  refine kt_norm ?_
  refine v_seq ?_
  refine v_region ?_
  refine l_val rfl (o_move rfl) ?_
  refine l_val rfl (o_move rfl) ?_
  refine l_val rfl (o_len rfl hV) ?_
  refine l_val rfl (o_move rfl) ?_
  refine l_val rfl (o_len rfl hV) ?_
  refine l_val rfl (o_slice3 rfl hcap rfl rfl) ?_
  refine l_val rfl (o_assign rfl) ?_
  refine l_nil ?_
  refine kt_norm ?_
  refine v_sel [2] [] rfl rfl ?_
  refine v_ret ?_
  refine ⟨[_], .cons (.tmp rfl) (ResAll.nil), ?_⟩
  rfl
end Go.Proofs.Ytllhohbenniaaaa

/- A piece is put to others, if it is convex. Conditions: none. -/
namespace Go.Proofs.Ytllhohbenniaaaa
open Go.Proofs Go.RowKit Go.Shelf

def oriT (pc : List PtT) : List PtT := if areaT pc < 0 then pc.reverse else pc
theorem rowAt_cap {w : World} {a : Option Addr} {n c c' esz : Nat} {xs : List Value} (h : RowAt w (.slice a n c) esz n xs) : RowAt w (.slice a n c') esz n xs := by
  refine ⟨h.len, fun j u hu => ?_, h.one⟩
  have := h.at_ j u hu
  cases a <;> exact this
theorem rowV_cap {a : Option Addr} {n c : Nat} (h : RowV (.slice a n c) n) : RowV (.slice a n n) n := by
  rcases h with ⟨b, o, c', h⟩ | ⟨h, h0⟩ | ⟨a', c', h, h0⟩
  · cases h; exact .inl ⟨b, o, n, rfl⟩
  · cases h; exact .inr (.inl ⟨rfl, rfl⟩)
  · cases h; exact .inr (.inr ⟨a', 0, rfl, rfl⟩)
theorem full_cap {a : Option Addr} {n : Nat} : ∀ a' n' c', Value.slice a n n = .slice a' n' c' → c' = n' := fun _ _ _ h => by cases h; rfl
theorem a_PutNo (w : World) (a : Option Addr) (n c : Nat) (pvs : List Value) (u : Value) (pc : List PtT) (hn : n ≤ 1000000) (hcap : n ≤ c) (hV : RowV (.slice a n c) n) (hrow : RowAt w (.slice a n c) 1 n pvs) (hs : pc.length ≤ 1000000) (hU : RowV u pc.length) (hrowU : RowAt w u 2 pc.length (pc.flatMap eP)) (hnear : ∀ p ∈ pc, NearT p) (hcx : convexB (oriT pc) = false) :
    Calls Try.prog 21 #[.slice a n c, u] w fun e w' => e = .returned (.slice a n c) ∧ Below w.heap.size w w' := by
  have hr : ∀ w', Chg (fun _ => False) w w' → RowAt w' (.slice a n c) 1 n pvs := fun w' h => hrow.chg h (fun h => h)
  have hrU : ∀ w', Chg (fun _ => False) w w' → RowAt w' u 2 pc.length (pc.flatMap eP) := fun w' h => hrowU.chg h (fun h => h)
  refine calls_of (args := [.slice a n c, u]) Try.func21 rfl Try.ntmps21 Try.results21 rfl ?_
  refine v_seq ?_
  refine v_region ?_
  refine l_val rfl (o_assign rfl) ?_
  refine l_nil ?_
  refine kt_norm ?_
  refine v_seq ?_
  refine v_region ?_
  refine l_val rfl (o_move rfl) ?_
  refine l_gown (ks := []) (caps := #[]) (vs := [_]) rfl rfl (ent_of Try.func36 rfl rfl) rfl (fun w' hg hh => a_CloneP w' u pc (by omega) hU (hrU w' hg)) fun cv hcv => ?_
  obtain ⟨ac, cc, rfl⟩ := hcv.sl
  refine l_val rfl (o_assign rfl) ?_
  refine l_nil ?_
  refine kt_norm ?_
  refine v_seq ?_
  refine v_seq ?_
  refine v_region ?_
  refine l_val rfl (o_move rfl) ?_
  refine l_call (ks := [7]) rfl (o_callC (vs := [_]) (r := .int .i64 (areaT pc)) (ent_of Try.func37 rfl rfl) rfl (fun w' hg hh => a_Area w' (.slice ac pc.length cc) pc hs hcv (rowAt_own (hh 7 (by simp) _ rfl)) hnear)) ?_
  refine l_split rfl (o_lss rfl rfl) (fun ha => ?_) (fun ha => ?_)
  · skip
    refine l_nil ?_
    refine kt_norm ?_
    refine v_sel [0, 5, 10] [7] rfl rfl ?_
    refine v_condT rfl ?_
    refine v_region ?_
    refine l_val rfl (o_move rfl) ?_
    refine l_gmutX (ks := []) 7 (fun l2 => l2 = pc.reverse) (fun l2 => l2.flatMap eP) (n := pc.length) (caps := #[]) (vs := [_]) rfl rfl (ent_of Try.func38 rfl rfl) rfl rfl (fun w' hg hh hok => a_ReverseP w' (.slice ac pc.length cc) pc hs hok) (fun l2 y12 hl2 => ?_)
    subst hl2
    refine l_nil ?_
    refine kt_norm ?_
    refine v_seq ?_
    refine v_seq ?_
    refine v_region ?_
    refine l_val rfl (o_move rfl) ?_
    have hL : oriT pc = pc.reverse := if_pos ha
    rw [hL] at hcx
    refine l_call (ks := [7]) rfl (o_callC (vs := [_]) (r := .bool false) (ent_of Try.func39 rfl rfl) rfl (fun w' hg hh => hcx ▸ a_Convex w' (.slice ac pc.length cc) pc.reverse (by rw [List.length_reverse]; exact hs) (by rw [List.length_reverse]; exact hcv) (by rw [List.length_reverse]; exact rowAt_own (hh 7 (by simp) _ rfl)) (fun p hp => hnear p (List.mem_reverse.1 hp)))) ?_
    refine l_val rfl (o_not rfl rfl) ?_
    refine l_nil ?_
    refine kt_norm ?_
    refine v_condT rfl ?_
    refine v_seq ?_
    refine v_region ?_
    refine l_val rfl (o_move rfl) ?_
    refine l_val rfl (o_assign rfl) ?_
    refine l_nil ?_
    refine kt_norm ?_
    refine v_sel [4] [7] rfl rfl ?_
    refine v_ret ?_
    refine kt_ret ?_
    refine ⟨[_], .cons (.tmp rfl) (ResAll.nil), ?_⟩
    rfl
  · skip
    refine l_nil ?_
    refine kt_norm ?_
    refine v_sel [0, 5, 10] [7] rfl rfl ?_
    refine v_condF rfl ?_
    refine v_skip ?_
    refine kt_norm ?_
    refine v_seq ?_
    refine v_seq ?_
    refine v_region ?_
    refine l_val rfl (o_move rfl) ?_
    have hL : oriT pc = pc := if_neg ha
    rw [hL] at hcx
    refine l_call (ks := [7]) rfl (o_callC (vs := [_]) (r := .bool false) (ent_of Try.func39 rfl rfl) rfl (fun w' hg hh => hcx ▸ a_Convex w' (.slice ac pc.length cc) pc hs hcv (rowAt_own (hh 7 (by simp) _ rfl)) hnear)) ?_
    refine l_val rfl (o_not rfl rfl) ?_
    refine l_nil ?_
    refine kt_norm ?_
    refine v_condT rfl ?_
    refine v_seq ?_
    refine v_region ?_
    refine l_val rfl (o_move rfl) ?_
    refine l_val rfl (o_assign rfl) ?_
    refine l_nil ?_
    refine kt_norm ?_
    refine v_sel [4] [7] rfl rfl ?_
    refine v_ret ?_
    refine kt_ret ?_
    refine ⟨[_], .cons (.tmp rfl) (ResAll.nil), ?_⟩
    rfl
theorem a_PutYes (w : World) (a : Option Addr) (n c : Nat) (pvs : List Value) (u : Value) (pc : List PtT) (hn : n ≤ 1000000) (hcap : n ≤ c) (hV : RowV (.slice a n c) n) (hrow : RowAt w (.slice a n c) 1 n pvs) (hs : pc.length ≤ 1000000) (hU : RowV u pc.length) (hrowU : RowAt w u 2 pc.length (pc.flatMap eP)) (hnear : ∀ p ∈ pc, NearT p) (hcx : convexB (oriT pc) = true) :
    Calls Try.prog 21 #[.slice a n c, u] w fun e w' => ∃ x : Value × Value, e = .returned x.1 ∧ Below w.heap.size w w' ∧ ((Hp.own x.1 46 1 (n + 1) (pvs ++ [x.2])).ok w' ∧ (Hp.own x.2 59 2 pc.length ((oriT pc).flatMap eP)).ok w') ∧ ∀ b, (x.1.ownBlock = some b ∨ x.2.ownBlock = some b) → w.heap.size ≤ b := by
  have hr : ∀ w', Chg (fun _ => False) w w' → RowAt w' (.slice a n c) 1 n pvs := fun w' h => hrow.chg h (fun h => h)
  have hrU : ∀ w', Chg (fun _ => False) w w' → RowAt w' u 2 pc.length (pc.flatMap eP) := fun w' h => hrowU.chg h (fun h => h)
  refine calls_said (args := [.slice a n c, u]) (fun x : Value × Value => x.1) (fun x w' => (Hp.own x.1 46 1 (n + 1) (pvs ++ [x.2])).ok w' ∧ (Hp.own x.2 59 2 pc.length ((oriT pc).flatMap eP)).ok w') (fun x b => x.1.ownBlock = some b ∨ x.2.ownBlock = some b) Try.func21 rfl Try.ntmps21 Try.results21 rfl ?_
  refine v_seq ?_
  refine v_region ?_
  refine l_val rfl (o_assign rfl) ?_
  refine l_nil ?_
  refine kt_norm ?_
  refine v_seq ?_
  refine v_region ?_
  refine l_val rfl (o_move rfl) ?_
  refine l_gown (ks := []) (caps := #[]) (vs := [_]) rfl rfl (ent_of Try.func36 rfl rfl) rfl (fun w' hg hh => a_CloneP w' u pc (by omega) hU (hrU w' hg)) fun cv hcv => ?_
  obtain ⟨ac, cc, rfl⟩ := hcv.sl
  refine l_val rfl (o_assign rfl) ?_
  refine l_nil ?_
  refine kt_norm ?_
  refine v_seq ?_
  refine v_seq ?_
  refine v_region ?_
  refine l_val rfl (o_move rfl) ?_
  refine l_call (ks := [7]) rfl (o_callC (vs := [_]) (r := .int .i64 (areaT pc)) (ent_of Try.func37 rfl rfl) rfl (fun w' hg hh => a_Area w' (.slice ac pc.length cc) pc hs hcv (rowAt_own (hh 7 (by simp) _ rfl)) hnear)) ?_
  refine l_split rfl (o_lss rfl rfl) (fun ha => ?_) (fun ha => ?_)
  · skip
    refine l_nil ?_
    refine kt_norm ?_
    refine v_sel [0, 5, 10] [7] rfl rfl ?_
    refine v_condT rfl ?_
    refine v_region ?_
    refine l_val rfl (o_move rfl) ?_
    refine l_gmutX (ks := []) 7 (fun l2 => l2 = pc.reverse) (fun l2 => l2.flatMap eP) (n := pc.length) (caps := #[]) (vs := [_]) rfl rfl (ent_of Try.func38 rfl rfl) rfl rfl (fun w' hg hh hok => a_ReverseP w' (.slice ac pc.length cc) pc hs hok) (fun l2 y12 hl2 => ?_)
    subst hl2
    refine l_nil ?_
    refine kt_norm ?_
    refine v_seq ?_
    refine v_seq ?_
    refine v_region ?_
    refine l_val rfl (o_move rfl) ?_
    have hL : oriT pc = pc.reverse := if_pos ha
    rw [hL] at hcx
    refine l_call (ks := [7]) rfl (o_callC (vs := [_]) (r := .bool true) (ent_of Try.func39 rfl rfl) rfl (fun w' hg hh => hcx ▸ a_Convex w' (.slice ac pc.length cc) pc.reverse (by rw [List.length_reverse]; exact hs) (by rw [List.length_reverse]; exact hcv) (by rw [List.length_reverse]; exact rowAt_own (hh 7 (by simp) _ rfl)) (fun p hp => hnear p (List.mem_reverse.1 hp)))) ?_
    refine l_val rfl (o_not rfl rfl) ?_
    refine l_nil ?_
    refine kt_norm ?_
    refine v_condF rfl ?_
    refine v_skip ?_
    refine kt_norm ?_
    refine v_sel [0, 5] [7] rfl rfl ?_
    refine v_seq ?_
    refine v_region ?_
    refine l_val rfl (o_move rfl) ?_
    refine l_call (ks := []) rfl (o_callC (vs := [_]) (r := .slice a n n) (ent_of Try.func40 rfl rfl) rfl (fun w' hg hh => a_ClipP w' a n c hn hcap hV)) ?_
    refine l_val rfl (o_move rfl) ?_
    refine l_buildSlice (vs := [_]) (cs := [_]) rfl rfl rfl rfl rfl rfl fun v20 hv20 => ?_
    refine l_appendF (n := n) (xs := pvs) (ks2 := []) rfl rfl rfl (row_imm (fun w hg => rowAt_cap (hr w hg))) (rowV_cap hV) full_cap hv20 (by omega) (row_own (key := 20) rfl) (by omega) rfl fun v21 hv21 => ?_
    refine l_val rfl (o_assign rfl) ?_
    refine l_nil ?_
    refine kt_norm ?_
    refine v_sel [4] [7, 20, 21] rfl rfl ?_
    refine v_ret ?_
    refine ⟨[_], .cons (.tmp rfl) (ResAll.nil), ?_⟩
    exact ⟨(v21, .slice ac pc.length cc), rfl, fun w2 ho => ⟨⟨(ho.mo 21 _ rfl).1, by rw [hL]; exact (ho.mo 7 _ rfl).1⟩, fun b hb => by rcases hb with hb | hb; exact ((ho.mo 21 _ rfl).2 b hb).elim id False.elim; exact ((ho.mo 7 _ rfl).2 b hb).elim id False.elim⟩⟩
  · skip
    refine l_nil ?_
    refine kt_norm ?_
    refine v_sel [0, 5, 10] [7] rfl rfl ?_
    refine v_condF rfl ?_
    refine v_skip ?_
    refine kt_norm ?_
    refine v_seq ?_
    refine v_seq ?_
    refine v_region ?_
    refine l_val rfl (o_move rfl) ?_
    have hL : oriT pc = pc := if_neg ha
    rw [hL] at hcx
    refine l_call (ks := [7]) rfl (o_callC (vs := [_]) (r := .bool true) (ent_of Try.func39 rfl rfl) rfl (fun w' hg hh => hcx ▸ a_Convex w' (.slice ac pc.length cc) pc hs hcv (rowAt_own (hh 7 (by simp) _ rfl)) hnear)) ?_
    refine l_val rfl (o_not rfl rfl) ?_
    refine l_nil ?_
    refine kt_norm ?_
    refine v_condF rfl ?_
    refine v_skip ?_
    refine kt_norm ?_
    refine v_seq ?_
    refine v_region ?_
    refine l_val rfl (o_move rfl) ?_
    refine l_call (ks := []) rfl (o_callC (vs := [_]) (r := .slice a n n) (ent_of Try.func40 rfl rfl) rfl (fun w' hg hh => a_ClipP w' a n c hn hcap hV)) ?_
    refine l_val rfl (o_move rfl) ?_
    refine l_buildSlice (vs := [_]) (cs := [_]) rfl rfl rfl rfl rfl rfl fun v20 hv20 => ?_
    refine l_appendF (n := n) (xs := pvs) (ks2 := []) rfl rfl rfl (row_imm (fun w hg => rowAt_cap (hr w hg))) (rowV_cap hV) full_cap hv20 (by omega) (row_own (key := 20) rfl) (by omega) rfl fun v21 hv21 => ?_
    refine l_val rfl (o_assign rfl) ?_
    refine l_nil ?_
    refine kt_norm ?_
    refine v_sel [4] [7, 20, 21] rfl rfl ?_
    refine v_ret ?_
    refine ⟨[_], .cons (.tmp rfl) (ResAll.nil), ?_⟩
    exact ⟨(v21, .slice ac pc.length cc), rfl, fun w2 ho => ⟨⟨(ho.mo 21 _ rfl).1, by rw [hL]; exact (ho.mo 7 _ rfl).1⟩, fun b hb => by rcases hb with hb | hb; exact ((ho.mo 21 _ rfl).2 b hb).elim id False.elim; exact ((ho.mo 7 _ rfl).2 b hb).elim id False.elim⟩⟩
end Go.Proofs.Ytllhohbenniaaaa

/- Rows of pieces that are told in another order, and twice. Conditions: none. -/
namespace Go.Proofs.Ytllhohbenniaaaa
open Go.Proofs Go.RowKit Go.Shelf

theorem keysOf_double (cs : List (Int × Int)) : keysOf (cs ++ cs) = keysOf cs :=
  keysOf_congr fun x => ⟨fun ⟨c, h1, h2⟩ => ⟨c, (List.mem_append.1 h1).elim id id, h2⟩, fun ⟨c, h1, h2⟩ => ⟨c, List.mem_append.2 (.inl h1), h2⟩⟩
theorem sumAt_double (cs : List (Int × Int)) (x : Int) : sumAt (cs ++ cs) x = 2 * sumAt cs x := by
  unfold sumAt; rw [sumF_append]; omega
theorem rowTo_double (cs : List (Int × Int)) : ∀ k, k ≤ (keysOf cs).length → rowTo (cs ++ cs) k = (2 * (rowTo cs k).1, (rowTo cs k).2.1, (rowTo cs k).2.2)
  | 0, _ => by simp [rowTo]
  | k + 1, h => by
    have ih := rowTo_double cs k (by omega)
    rw [rowTo_succ (by rw [keysOf_double]; omega), rowTo_succ (by omega), ih, keysOf_double]
    simp only [stepR, sumAt_double]
    by_cases h0 : (rowTo cs k).1 = 0
    · rw [if_pos h0, if_pos h0, if_pos (by omega), if_pos (by omega)]
      congr 1; omega
    · rw [if_neg h0, if_neg h0, if_neg (by omega), if_neg (by omega)]
      by_cases h1 : (rowTo cs k).1 + sumAt cs ((keysOf cs).getD k 0) = 0
      · rw [if_pos h1, if_pos (by omega)]; congr 1; omega
      · rw [if_neg h1, if_neg (by omega)]; congr 1; omega
theorem rowS_double {cs ds : List (Int × Int)} (hp : ds.Perm (cs ++ cs)) : rowS ds = rowS cs := by
  rw [rowS_perm hp]
  unfold rowS
  rw [keysOf_double, rowTo_double cs _ (Nat.le_refl _)]
theorem all_append (a b : List (List PtT)) : edgesAll (a ++ b) = edgesAll a ++ edgesAll b := by simp [edgesAll]
/-- the pieces from one on, then those ahead of it, then all again: the rows are the same -/
theorem row_order (r : Int) (qs : List (List PtT)) (k : Nat) : rowS (crs r (liveT r (edgesAll (qs.drop k ++ qs.take k ++ qs)))) = rowS (crs r (liveT r (edgesAll qs))) := by
  refine rowS_double ?_
  have c1 : ∀ a b : List EdgeT, crs r (a ++ b) = crs r a ++ crs r b := fun a b => by simp [crs]
  rw [all_append, live_append, c1]
  refine List.Perm.append_right _ ?_
  rw [all_append, live_append, c1]
  have h : crs r (liveT r (edgesAll qs)) = crs r (liveT r (edgesAll (qs.take k))) ++ crs r (liveT r (edgesAll (qs.drop k))) := by
    rw [← c1, ← live_append, ← all_append, List.take_append_drop]
  rw [h]
  exact List.perm_append_comm
/-- what pieces come to be, put one by one -/
def putT (qs : List (List PtT)) (pc : List PtT) : List (List PtT) := if convexB (oriT pc) = true then qs ++ [oriT pc] else qs
def putAll (ps : List (List PtT)) (k : Nat) : List (List PtT) := (ps.take k).foldl putT []
theorem putAll_succ {ps : List (List PtT)} {k : Nat} (h : k < ps.length) : putAll ps (k + 1) = putT (putAll ps k) (ps.getD k []) := by
  unfold putAll
  rw [List.take_add_one, List.getElem?_eq_getElem h, List.getD_eq_getElem?_getD, List.getElem?_eq_getElem h, List.foldl_append]; rfl
theorem putT_len (qs : List (List PtT)) (pc : List PtT) : (putT qs pc).length ≤ qs.length + 1 := by
  unfold putT; split
  · rw [List.length_append]; exact Nat.le_refl _
  · omega
theorem putAll_len (ps : List (List PtT)) : ∀ k, k ≤ ps.length → (putAll ps k).length ≤ k
  | 0, _ => by simp [putAll]
  | k + 1, h => by
    have h1 := putAll_len ps k (by omega)
    have h2 := putT_len (putAll ps k) (ps.getD k [])
    rw [putAll_succ (by omega)]; omega
end Go.Proofs.Ytllhohbenniaaaa
