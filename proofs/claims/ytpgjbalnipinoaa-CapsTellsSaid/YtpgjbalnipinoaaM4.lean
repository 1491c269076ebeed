import Derived.Test.YtpgjbalnipinoaaM1
import Derived.Test.YtpgjbalnipinoaaM2
import Derived.Test.YtpgjbalnipinoaaM3
/- The chords of an arc, by halves. Conditions: none. -/
namespace Go.Proofs.Ytpgjbalnipinoaa
open Go.Proofs Go.RowKit Go.Shelf

instance : TOne Try.prog 79 := .of (by kernel_rfl) (by kernel_rfl)
instance : TZero Try.prog 80 [.int .i64 0, .int .i64 0, .int .i64 0, .int .i64 0] := .of (by kernel_rfl)
instance : TAgg Try.prog 80 4 := .of (by kernel_rfl) (by kernel_rfl)
instance : TAgg Try.prog 81 8 := .of (by kernel_rfl) (by kernel_rfl)
instance : TArr Try.prog 80 23 2 2 [.int .i64 0, .int .i64 0, .int .i64 0, .int .i64 0] := .of (by kernel_rfl) (by kernel_rfl) (by kernel_rfl) (by decide)
instance : TArr Try.prog 81 80 4 2 [.int .i64 0, .int .i64 0, .int .i64 0, .int .i64 0, .int .i64 0, .int .i64 0, .int .i64 0, .int .i64 0] := .of (by kernel_rfl) (by kernel_rfl) (by kernel_rfl) (by decide)
/-- near enough -/
def BdT (p : PtT) : Prop := (-262144 ≤ p.x ∧ p.x ≤ 262144) ∧ (-262144 ≤ p.y ∧ p.y ≤ 262144)
def midT (r : Int) (u v : PtT) : PtT := normT ⟨u.x + v.x, u.y + v.y⟩ r
/-- whether a chord is not halved any more -/
def stopT (r : Int) (u v : PtT) : Prop := (v.x - u.x) * (v.x - u.x) + (v.y - u.y) * (v.y - u.y) ≤ 128 * r ∨ midT r u v = ⟨0, 0⟩ ∨ midT r u v = u ∨ midT r u v = v
instance : DecidableEq PtT := fun p q => if h : p.x = q.x ∧ p.y = q.y then isTrue (by cases p; cases q; simp_all) else isFalse (fun e => h (by subst e; exact ⟨rfl, rfl⟩))
instance (r : Int) (u v : PtT) : Decidable (stopT r u v) := by unfold stopT; infer_instance
def chordsT (r : Int) : Nat → PtT → PtT → List (PtT × PtT)
  | 0, u, v => [(u, v)]
  | d + 1, u, v => if stopT r u v then [(u, v)] else chordsT r d u (midT r u v) ++ chordsT r d (midT r u v) v
theorem chords_stop {r : Int} {u v : PtT} (h : stopT r u v) (d : Nat) : chordsT r d u v = [(u, v)] := by
  cases d with
  | zero => rfl
  | succ d => rw [chordsT, if_pos h]
theorem chords_go {r : Int} {u v : PtT} (h : ¬ stopT r u v) (d : Nat) : chordsT r (d + 1) u v = chordsT r d u (midT r u v) ++ chordsT r d (midT r u v) v := by rw [chordsT, if_neg h]
theorem chords_zero {r : Int} {u v : PtT} {d : Nat} (h : d = 0) : chordsT r d u v = [(u, v)] := by subst h; rfl
theorem cnt_two {i a b : Nat} (h : i = 2) : (if i = 0 then 0 else if i = 1 then a else b) = b := by subst h; rfl
theorem pt_ext {p q : PtT} (h : p.x = q.x ∧ p.y = q.y) : p = q := by cases p; cases q; simp_all
theorem BdT.mid {u v : PtT} (hu : BdT u) (hv : BdT v) {r : Int} (hr : 1 ≤ r ∧ r ≤ 131072) : BdT (midT r u v) := by
  unfold BdT at *
  have := norm_bound (p := ⟨u.x + v.x, u.y + v.y⟩) (r := r) (by dsimp only; omega) (by dsimp only; omega) (by omega)
  unfold midT; omega
theorem four_keep {w w' : World} {x : Nat × Nat × Nat × Nat} {u v : PtT} {r d : Int} (h : (Blk w x.1 #[.int .i64 v.x, .int .i64 v.y] 23 ∧ Blk w x.2.1 #[.int .i64 u.x, .int .i64 u.y] 23 ∧ Blk w x.2.2.1 #[.int .i64 r] 3 ∧ Blk w x.2.2.2 #[.int .i64 d] 3)) (hb : ∀ b, (b = x.1 ∨ b = x.2.1 ∨ b = x.2.2.1 ∨ b = x.2.2.2) → w'.heap[b]? = w.heap[b]?) : (Blk w' x.1 #[.int .i64 v.x, .int .i64 v.y] 23 ∧ Blk w' x.2.1 #[.int .i64 u.x, .int .i64 u.y] 23 ∧ Blk w' x.2.2.1 #[.int .i64 r] 3 ∧ Blk w' x.2.2.2 #[.int .i64 d] 3) :=
  ⟨(hb _ (.inl rfl)).trans h.1, (hb _ (.inr (.inl rfl))).trans h.2.1, (hb _ (.inr (.inr (.inl rfl)))).trans h.2.2.1, (hb _ (.inr (.inr (.inr rfl)))).trans h.2.2.2⟩
theorem four_lt {w : World} {x : Nat × Nat × Nat × Nat} {u v : PtT} {r d : Int} (h : (Blk w x.1 #[.int .i64 v.x, .int .i64 v.y] 23 ∧ Blk w x.2.1 #[.int .i64 u.x, .int .i64 u.y] 23 ∧ Blk w x.2.2.1 #[.int .i64 r] 3 ∧ Blk w x.2.2.2 #[.int .i64 d] 3)) {b : Nat} (hb : b = x.1 ∨ b = x.2.1 ∨ b = x.2.2.1 ∨ b = x.2.2.2) : b < w.heap.size := by
  rcases hb with rfl | rfl | rfl | rfl
  · exact Blk.lt h.1
  · exact Blk.lt h.2.1
  · exact Blk.lt h.2.2.1
  · exact Blk.lt h.2.2.2
def encC (p : PtT × PtT) : List Value := [.agg (eP p.1).toArray, .agg (eP p.2).toArray]
theorem a_chords (w : World) (u v : PtT) (r d : Int) : Calls Try.prog 45 #[.agg #[.int .i64 u.x, .int .i64 u.y], .agg #[.int .i64 v.x, .int .i64 v.y], .int .i64 r, .int .i64 d] w fun e w' => ∃ x : Nat × Nat × Nat × Nat, e = .returned (.func (.func 63) #[] #[.pointer (some ⟨x.1, 0, none⟩), .pointer (some ⟨x.2.1, 0, none⟩), .pointer (some ⟨x.2.2.1, 0, none⟩), .pointer (some ⟨x.2.2.2, 0, none⟩)]) ∧ Below w.heap.size w w' ∧ (Blk w' x.1 #[.int .i64 v.x, .int .i64 v.y] 23 ∧ Blk w' x.2.1 #[.int .i64 u.x, .int .i64 u.y] 23 ∧ Blk w' x.2.2.1 #[.int .i64 r] 3 ∧ Blk w' x.2.2.2 #[.int .i64 d] 3) ∧ ∀ b, (b = x.1 ∨ b = x.2.1 ∨ b = x.2.2.1 ∨ b = x.2.2.2) → w.heap.size ≤ b := by
  refine calls_said (args := [.agg #[.int .i64 u.x, .int .i64 u.y], .agg #[.int .i64 v.x, .int .i64 v.y], .int .i64 r, .int .i64 d]) (fun x : Nat × Nat × Nat × Nat => .func (.func 63) #[] #[.pointer (some ⟨x.1, 0, none⟩), .pointer (some ⟨x.2.1, 0, none⟩), .pointer (some ⟨x.2.2.1, 0, none⟩), .pointer (some ⟨x.2.2.2, 0, none⟩)]) (fun x w' => (Blk w' x.1 #[.int .i64 v.x, .int .i64 v.y] 23 ∧ Blk w' x.2.1 #[.int .i64 u.x, .int .i64 u.y] 23 ∧ Blk w' x.2.2.1 #[.int .i64 r] 3 ∧ Blk w' x.2.2.2 #[.int .i64 d] 3)) (fun x b => b = x.1 ∨ b = x.2.1 ∨ b = x.2.2.1 ∨ b = x.2.2.2) Try.func45 rfl Try.ntmps45 Try.results45 rfl ?_
  refine v_seq ?_
  refine v_region ?_
  refine l_new rfl (o_box (cs := [_, _]) rfl rfl) fun b4 => ?_
  refine l_new rfl (o_box (cs := [_, _]) rfl rfl) fun b5 => ?_
  refine l_new rfl (o_box (cs := [_]) rfl rfl) fun b6 => ?_
  refine l_new rfl (o_box (cs := [_]) rfl rfl) fun b7 => ?_
  skip
  refine l_val rfl (o_assign rfl) ?_
  refine l_nil ?_
  refine kt_norm ?_
  refine v_seq ?_
  refine v_region ?_
  refine l_val rfl (o_makeFunc (vs := [_, _, _, _]) rfl) ?_
  refine l_val rfl (o_assign rfl) ?_
  refine l_nil ?_
  refine kt_norm ?_
  refine v_sel [8] [4, 5, 6, 7] rfl rfl ?_
  refine v_ret ?_
  refine ⟨[_], .cons (.tmp rfl) (ResAll.nil), ?_⟩
  exact ⟨(b5, b4, b6, b7), rfl, fun w' ho => ⟨⟨(ho.mo 5 _ rfl).1, (ho.mo 4 _ rfl).1, (ho.mo 6 _ rfl).1, (ho.mo 7 _ rfl).1⟩, fun b hb => by
    rcases hb with hb | hb | hb | hb
    · exact ((ho.mo 5 _ rfl).2 b (congrArg some hb.symm)).elim id False.elim
    · exact ((ho.mo 4 _ rfl).2 b (congrArg some hb.symm)).elim id False.elim
    · exact ((ho.mo 6 _ rfl).2 b (congrArg some hb.symm)).elim id False.elim
    · exact ((ho.mo 7 _ rfl).2 b (congrArg some hb.symm)).elim id False.elim⟩⟩
theorem gI_sz {W : World} {dd : List Nat} {w : World} (h : gI W dd w) : W.heap.size ≤ w.heap.size := Chg.size h
theorem a_mid {r : Int} {u v m : PtT} (hr : 1 ≤ r ∧ r ≤ 131072) (hu : BdT u) (hv : BdT v) (hm : midT r u v = m) : Ans Try.prog 46 [.agg #[.int .i64 (u.x + v.x), .int .i64 (u.y + v.y)], .int .i64 r] (.agg #[.int .i64 m.x, .int .i64 m.y]) := by
  unfold BdT at hu hv
  subst hm
  exact a_Norm ⟨u.x + v.x, u.y + v.y⟩ r (by dsimp only; omega) (by dsimp only; omega) (by omega)
theorem stop_of {r : Int} {u v m : PtT} (hm : midT r u v = m) (h : (v.x - u.x) * (v.x - u.x) + (v.y - u.y) * (v.y - u.y) ≤ 128 * r ∨ (m.x = 0 ∧ m.y = 0) ∨ (m.x = u.x ∧ m.y = u.y) ∨ (m.x = v.x ∧ m.y = v.y)) : stopT r u v := by
  unfold stopT; rw [hm]
  exact h.imp id fun h => h.imp pt_ext fun h => h.imp pt_ext pt_ext
theorem stop_not {r : Int} {u v m : PtT} (hm : midT r u v = m) (h : stopT r u v) : (v.x - u.x) * (v.x - u.x) + (v.y - u.y) * (v.y - u.y) ≤ 128 * r ∨ (m.x = 0 ∧ m.y = 0) ∨ (m.x = u.x ∧ m.y = u.y) ∨ (m.x = v.x ∧ m.y = v.y) := by
  unfold stopT at h; rw [hm] at h
  exact h.imp id fun h => h.imp (fun h => by rw [h]; exact ⟨rfl, rfl⟩) fun h => h.imp (fun h => by rw [h]; exact ⟨rfl, rfl⟩) (fun h => by rw [h]; exact ⟨rfl, rfl⟩)
theorem cast_pred {k : Nat} {p : Int → Prop} (h : p (((k + 1 : Nat) : Int) - 1)) : p (k : Int) := by
  have hk : ((k + 1 : Nat) : Int) - 1 = (k : Int) := by omega
  rw [hk] at h; exact h
set_option maxHeartbeats 4000000 in
theorem a_chordsStep (r : Int) (hr : 1 ≤ r ∧ r ≤ 131072) (d : Nat) (hd6 : d ≤ 6) (ih : ∀ k, d = k + 1 → ∀ (xb : Nat × Nat × Nat × Nat) (u v : PtT), BdT u → BdT v → Iter2 Try.prog 63 #[.pointer (some ⟨xb.1, 0, none⟩), .pointer (some ⟨xb.2.1, 0, none⟩), .pointer (some ⟨xb.2.2.1, 0, none⟩), .pointer (some ⟨xb.2.2.2, 0, none⟩)] encC (chordsT r k u v) (fun w => (Blk w xb.1 #[.int .i64 v.x, .int .i64 v.y] 23 ∧ Blk w xb.2.1 #[.int .i64 u.x, .int .i64 u.y] 23 ∧ Blk w xb.2.2.1 #[.int .i64 r] 3 ∧ Blk w xb.2.2.2 #[.int .i64 (k : Int)] 3))) (xb : Nat × Nat × Nat × Nat) (u v : PtT) (hu : BdT u) (hv : BdT v) :
    Iter2 Try.prog 63 #[.pointer (some ⟨xb.1, 0, none⟩), .pointer (some ⟨xb.2.1, 0, none⟩), .pointer (some ⟨xb.2.2.1, 0, none⟩), .pointer (some ⟨xb.2.2.2, 0, none⟩)] encC (chordsT r d u v) (fun w => (Blk w xb.1 #[.int .i64 v.x, .int .i64 v.y] 23 ∧ Blk w xb.2.1 #[.int .i64 u.x, .int .i64 u.y] 23 ∧ Blk w xb.2.2.1 #[.int .i64 r] 3 ∧ Blk w xb.2.2.2 #[.int .i64 (d : Int)] 3)) := by
  intro lp J Jx O0 W hJ hJx hJG hround hJ0
  have hG0 := (hJG _ _ _ hJ0).1
  have hO0 := (hJG _ _ _ hJ0).2
  have hGk : ∀ w, gI W [] w → (Blk w xb.1 #[.int .i64 v.x, .int .i64 v.y] 23 ∧ Blk w xb.2.1 #[.int .i64 u.x, .int .i64 u.y] 23 ∧ Blk w xb.2.2.1 #[.int .i64 r] 3 ∧ Blk w xb.2.2.2 #[.int .i64 (d : Int)] 3) := fun w hg => four_keep hG0 fun b hb => Chg.block hg b (four_lt hG0 hb) (fun h => by cases h)
  have hu0 := hu
  have hv0 := hv
  obtain ⟨m, hm⟩ : ∃ m, midT r u v = m := ⟨_, rfl⟩
  have hbm : BdT m := hm ▸ hu.mid hv hr
  have hmb := hbm
  unfold BdT at hu hv hmb
  have m1 := mul_bound (A := 524288) (B := 524288) (x := (v.x - u.x)) (y := (v.x - u.x)) (by omega) (by omega) (by omega) (by omega)
  have m2 := mul_bound (A := 524288) (B := 524288) (x := (v.y - u.y)) (y := (v.y - u.y)) (by omega) (by omega) (by omega) (by omega)
  obtain ⟨XS, hXS⟩ : ∃ XS, (chordsT r d u v) = XS := ⟨_, rfl⟩
  rw [hXS] at hround ⊢
  refine enterI2 (A := fun W' => (∃ O', J XS.length O' W') ∨ ∃ O', Jx O' W') (args := [.func (.yield lp) #[] #[], .pointer (some ⟨xb.1, 0, none⟩), .pointer (some ⟨xb.2.1, 0, none⟩), .pointer (some ⟨xb.2.2.1, 0, none⟩), .pointer (some ⟨xb.2.2.2, 0, none⟩)]) Try.func63 rfl Try.ntmps63 Try.results63 rfl ?_
  refine v_seq ?_
  refine v_region ?_
  refine l_newB rfl (o_box (cs := [_]) rfl rfl) fun b5 hb5 => ?_
  refine l_nil ?_
  refine kt_norm ?_
  refine v_seq ?_
  refine v_region ?_
  refine l_val rfl (o_loadGW rfl (fun w hg => (hGk w hg).1) rfl) ?_
  refine l_val rfl (o_loadGW rfl (fun w hg => (hGk w hg).2.1) rfl) ?_
  refine l_ans (vs := [_, _]) rfl rfl (a_PSub _ _ _ _ ?_ ?_ ?_ ?_) ?_
  · omega
  · omega
  · omega
  · omega
  refine l_new rfl o_alloc fun b6 => ?_
  refine l_store rfl (o_storeW (key := 6) (xs := [_, _]) rfl rfl rfl rfl rfl rfl rfl) ?_
  refine l_nil ?_
  refine kt_norm ?_
  refine v_seq ?_
  refine v_drawZ [[], [], [], [], [], [], [7]] mixed ?_ (by kernel_rfl) (by kernel_rfl)
  refine d_val (fun _ => rfl) rfl rfl (fun _ => o_loadGW rfl (fun w hg => (hGk w hg).2.1) rfl) ?_
  refine d_val (fun _ => rfl) rfl rfl (fun _ => o_loadGW rfl (fun w hg => (hGk w hg).1) rfl) ?_
  refine d_ans (vs := [_, _]) (fun _ => rfl) (fun _ => rfl) (a_PAdd _ _ _ _ ?_ ?_ ?_ ?_) ?_
  · omega
  · omega
  · omega
  · omega
  refine d_val (fun _ => rfl) rfl rfl (fun _ => o_loadG1 rfl (fun w hg => (hGk w hg).2.2.1.cell 0 _ rfl)) ?_
  refine d_ans (vs := [_, _]) (fun _ => rfl) (fun _ => rfl) (a_mid hr hu0 hv0 hm) ?_
  refine d_new (fun _ => rfl) rfl rfl (fun _ => o_alloc) ?_
  refine d_store (fun _ => rfl) rfl rfl (fun _ => o_storeW (key := 7) (xs := [_, _]) rfl rfl rfl rfl rfl rfl rfl) ?_
  refine d_nil (fun σ => ?_)
  refine l_nil ?_
  refine kt_norm ?_
  refine v_sel [1, 2, 3, 4, 5, 6, 7] [5, 6, 7] rfl rfl ?_
  refine v_seq ?_
  refine v_seq ?_
  refine v_drawZ [[], [], [], [6], [6], [], [], [], [], [], [], [7], [], [], [], [], [7], [], [], [], [], [7], [], [], []] mixed ?_ (by kernel_rfl) (by kernel_rfl)
  refine d_val (fun _ => rfl) rfl rfl (fun _ => o_loadG1 rfl (fun w hg => (hGk w hg).2.2.2.cell 0 _ rfl)) ?_
  refine d_eql (fun _ => rfl) (fun _ => rfl) (fun _ => rfl) (fun hd0 => ?_) (fun hd0 => ?_)
  · skip
    refine d_val (fun _ => rfl) rfl rfl (fun _ => o_move rfl) ?_
    refine d_no (fun _ => rfl) ?_
    refine d_no (fun _ => rfl) ?_
    refine d_no (fun _ => rfl) ?_
    refine d_no (fun _ => rfl) ?_
    refine d_no (fun _ => rfl) ?_
    refine d_no (fun _ => rfl) ?_
    refine d_val (fun _ => rfl) rfl rfl (fun _ => o_pickT rfl rfl) ?_
    refine d_val (fun _ => rfl) rfl rfl (fun _ => o_move rfl) ?_
    refine d_no (fun _ => rfl) ?_
    refine d_no (fun _ => rfl) ?_
    refine d_no (fun _ => rfl) ?_
    refine d_val (fun _ => rfl) rfl rfl (fun _ => o_pickT rfl rfl) ?_
    refine d_val (fun _ => rfl) rfl rfl (fun _ => o_move rfl) ?_
    refine d_no (fun _ => rfl) ?_
    refine d_no (fun _ => rfl) ?_
    refine d_no (fun _ => rfl) ?_
    refine d_val (fun _ => rfl) rfl rfl (fun _ => o_pickT rfl rfl) ?_
    refine d_val (fun _ => rfl) rfl rfl (fun _ => o_move rfl) ?_
    refine d_no (fun _ => rfl) ?_
    refine d_no (fun _ => rfl) ?_
    refine d_no (fun _ => rfl) ?_
    refine d_val (fun _ => rfl) rfl rfl (fun _ => o_pickT rfl rfl) ?_
    refine d_nil (fun σ => ?_)
    refine l_nil ?_
    refine kt_norm ?_
    refine v_sel [1, 2, 3, 4, 5, 7, 44] [5, 7] rfl rfl ?_
    refine v_condT rfl ?_
    refine v_seq ?_
    refine v_region ?_
    refine l_val rfl (o_load1 (key := 5) rfl rfl rfl) ?_
    refine l_val rfl (o_loadGW rfl (fun w hg => (hGk w hg).2.1) rfl) ?_
    refine l_val rfl (o_loadGW rfl (fun w hg => (hGk w hg).1) rfl) ?_
    skip
    have hXe : XS = [(u, v)] := by rw [← hXS]; exact chords_zero (by omega)
    refine l_yield2 (k := 0) (vs := [_, _]) (A := fun W3 => ∃ O', J 1 O' W3) (B := fun W3 => ∃ O', Jx O' W3) (fun _ => trivial) (fun h => h) rfl rfl rfl (fun w hg => ⟨O0, yieldAt_mono (hround 0 (u, v) O0 w (by rw [hXe]; rfl) (hJ _ _ _ _ hJ0 (hg.mono fun _ _ h => (by cases h)))) (fun e w2 h => h.imp (fun h => ⟨h.1, h.2.1, h.2.2.imp fun O h => h.1⟩) (fun h => ⟨h.1, h.2.1, h.2.2.imp fun O h => h.1⟩))⟩) (fun W3 hA => ?_) (fun W3 hB => ?_)
    · skip
      refine l_nil ?_
      refine kt_norm ?_
      refine v_sel [] [] rfl rfl ?_
      refine v_ret ?_
      refine kt_ret ?_
      refine ⟨[], ResAll.nil, ?_⟩
      first
        | exact fun w hg => .inl (hA.imp fun O' h => hXe ▸ hJ _ _ _ _ h (Chg.mono hg fun _ _ h => h.elim))
        | exact fun w hg => .inr (hB.imp fun O' h => hJx _ _ _ h (Chg.mono hg fun _ _ h => h.elim))
        | exact fun w hg => .inr (hx3.imp fun O' h => hJx _ _ _ h.1 (Chg.mono hg fun b _ hb => ⟨(h.2 b hb).2, (h.2 b hb).1⟩))
        | exact fun w hg => .inl ⟨O2, hJ _ _ _ _ (by rw [cnt_two (show i = 2 by omega)] at hJ2; exact hJ2) (Chg.mono hg fun b _ hb => ⟨(hdd b hb).2.1, (hdd b hb).1⟩)⟩
    · skip
      refine l_nil ?_
      refine kt_norm ?_
      refine v_sel [] [] rfl rfl ?_
      refine v_ret ?_
      refine kt_ret ?_
      refine ⟨[], ResAll.nil, ?_⟩
      first
        | exact fun w hg => .inl (hA.imp fun O' h => hXe ▸ hJ _ _ _ _ h (Chg.mono hg fun _ _ h => h.elim))
        | exact fun w hg => .inr (hB.imp fun O' h => hJx _ _ _ h (Chg.mono hg fun _ _ h => h.elim))
        | exact fun w hg => .inr (hx3.imp fun O' h => hJx _ _ _ h.1 (Chg.mono hg fun b _ hb => ⟨(h.2 b hb).2, (h.2 b hb).1⟩))
        | exact fun w hg => .inl ⟨O2, hJ _ _ _ _ (by rw [cnt_two (show i = 2 by omega)] at hJ2; exact hJ2) (Chg.mono hg fun b _ hb => ⟨(hdd b hb).2.1, (hdd b hb).1⟩)⟩
  · skip
    refine d_val (fun _ => rfl) rfl rfl (fun _ => o_move rfl) ?_
    refine d_val (fun _ => rfl) rfl rfl (fun _ => o_loadW (key := 6) rfl rfl rfl) ?_
    refine d_val (fun _ => rfl) rfl rfl (fun _ => o_loadW (key := 6) rfl rfl rfl) ?_
    refine d_ans (vs := [_, _]) (fun _ => rfl) (fun _ => rfl) (a_Dot _ _ _ _ ?_ ?_ ?_ ?_) ?_
    · omega
    · omega
    · omega
    · omega
    refine d_val (fun _ => rfl) rfl rfl (fun _ => o_loadG1 rfl (fun w hg => (hGk w hg).2.2.1.cell 0 _ rfl)) ?_
    refine d_val (fun _ => rfl) rfl rfl (fun _ => o_muli rfl rfl ?_) ?_
    · omega
    refine d_leq (fun _ => rfl) (fun _ => rfl) (fun _ => rfl) (fun hsh => ?_) (fun hsh => ?_)
    · skip
      refine d_val (fun _ => rfl) rfl rfl (fun _ => o_pickF rfl rfl) ?_
      refine d_val (fun _ => rfl) rfl rfl (fun _ => o_move rfl) ?_
      refine d_no (fun _ => rfl) ?_
      refine d_no (fun _ => rfl) ?_
      refine d_no (fun _ => rfl) ?_
      refine d_val (fun _ => rfl) rfl rfl (fun _ => o_pickT rfl rfl) ?_
      refine d_val (fun _ => rfl) rfl rfl (fun _ => o_move rfl) ?_
      refine d_no (fun _ => rfl) ?_
      refine d_no (fun _ => rfl) ?_
      refine d_no (fun _ => rfl) ?_
      refine d_val (fun _ => rfl) rfl rfl (fun _ => o_pickT rfl rfl) ?_
      refine d_val (fun _ => rfl) rfl rfl (fun _ => o_move rfl) ?_
      refine d_no (fun _ => rfl) ?_
      refine d_no (fun _ => rfl) ?_
      refine d_no (fun _ => rfl) ?_
      refine d_val (fun _ => rfl) rfl rfl (fun _ => o_pickT rfl rfl) ?_
      refine d_nil (fun σ => ?_)
      refine l_nil ?_
      refine kt_norm ?_
      refine v_sel [1, 2, 3, 4, 5, 7, 44] [5, 7] rfl rfl ?_
      refine v_condT rfl ?_
      refine v_seq ?_
      refine v_region ?_
      refine l_val rfl (o_load1 (key := 5) rfl rfl rfl) ?_
      refine l_val rfl (o_loadGW rfl (fun w hg => (hGk w hg).2.1) rfl) ?_
      refine l_val rfl (o_loadGW rfl (fun w hg => (hGk w hg).1) rfl) ?_
      have hst : stopT r u v := stop_of hm (by first | exact .inl hsh | exact .inr (.inl hm0) | exact .inr (.inr (.inl hmu)) | exact .inr (.inr (.inr hmv)))
      have hXe : XS = [(u, v)] := by rw [← hXS]; exact chords_stop hst d
      refine l_yield2 (k := 0) (vs := [_, _]) (A := fun W3 => ∃ O', J 1 O' W3) (B := fun W3 => ∃ O', Jx O' W3) (fun _ => trivial) (fun h => h) rfl rfl rfl (fun w hg => ⟨O0, yieldAt_mono (hround 0 (u, v) O0 w (by rw [hXe]; rfl) (hJ _ _ _ _ hJ0 (hg.mono fun _ _ h => (by cases h)))) (fun e w2 h => h.imp (fun h => ⟨h.1, h.2.1, h.2.2.imp fun O h => h.1⟩) (fun h => ⟨h.1, h.2.1, h.2.2.imp fun O h => h.1⟩))⟩) (fun W3 hA => ?_) (fun W3 hB => ?_)
      · skip
        refine l_nil ?_
        refine kt_norm ?_
        refine v_sel [] [] rfl rfl ?_
        refine v_ret ?_
        refine kt_ret ?_
        refine ⟨[], ResAll.nil, ?_⟩
        first
          | exact fun w hg => .inl (hA.imp fun O' h => hXe ▸ hJ _ _ _ _ h (Chg.mono hg fun _ _ h => h.elim))
          | exact fun w hg => .inr (hB.imp fun O' h => hJx _ _ _ h (Chg.mono hg fun _ _ h => h.elim))
          | exact fun w hg => .inr (hx3.imp fun O' h => hJx _ _ _ h.1 (Chg.mono hg fun b _ hb => ⟨(h.2 b hb).2, (h.2 b hb).1⟩))
          | exact fun w hg => .inl ⟨O2, hJ _ _ _ _ (by rw [cnt_two (show i = 2 by omega)] at hJ2; exact hJ2) (Chg.mono hg fun b _ hb => ⟨(hdd b hb).2.1, (hdd b hb).1⟩)⟩
      · skip
        refine l_nil ?_
        refine kt_norm ?_
        refine v_sel [] [] rfl rfl ?_
        refine v_ret ?_
        refine kt_ret ?_
        refine ⟨[], ResAll.nil, ?_⟩
        first
          | exact fun w hg => .inl (hA.imp fun O' h => hXe ▸ hJ _ _ _ _ h (Chg.mono hg fun _ _ h => h.elim))
          | exact fun w hg => .inr (hB.imp fun O' h => hJx _ _ _ h (Chg.mono hg fun _ _ h => h.elim))
          | exact fun w hg => .inr (hx3.imp fun O' h => hJx _ _ _ h.1 (Chg.mono hg fun b _ hb => ⟨(h.2 b hb).2, (h.2 b hb).1⟩))
          | exact fun w hg => .inl ⟨O2, hJ _ _ _ _ (by rw [cnt_two (show i = 2 by omega)] at hJ2; exact hJ2) (Chg.mono hg fun b _ hb => ⟨(hdd b hb).2.1, (hdd b hb).1⟩)⟩
    · skip
      refine d_val (fun _ => rfl) rfl rfl (fun _ => o_pickF rfl rfl) ?_
      refine d_val (fun _ => rfl) rfl rfl (fun _ => o_move rfl) ?_
      refine d_val (fun _ => rfl) rfl rfl (fun _ => o_loadW (key := 7) rfl rfl rfl) ?_
      refine d_val (fun _ => rfl) rfl rfl (fun _ => o_build (vs := []) (cs := [_, _]) rfl rfl) ?_
      refine d_eqs (xl := [_, _]) (yl := [_, _]) (az := [_, _]) (bz := [_, _]) (fun _ => rfl) (fun _ => rfl) (fun _ => rfl) rfl rfl rfl rfl (fun hm0 => ?_) (fun hm0 => ?_)
      · simp only [List.map_cons, List.map_nil, List.cons.injEq, and_true] at hm0
        refine d_val (fun _ => rfl) rfl rfl (fun _ => o_pickF rfl rfl) ?_
        refine d_val (fun _ => rfl) rfl rfl (fun _ => o_move rfl) ?_
        refine d_no (fun _ => rfl) ?_
        refine d_no (fun _ => rfl) ?_
        refine d_no (fun _ => rfl) ?_
        refine d_val (fun _ => rfl) rfl rfl (fun _ => o_pickT rfl rfl) ?_
        refine d_val (fun _ => rfl) rfl rfl (fun _ => o_move rfl) ?_
        refine d_no (fun _ => rfl) ?_
        refine d_no (fun _ => rfl) ?_
        refine d_no (fun _ => rfl) ?_
        refine d_val (fun _ => rfl) rfl rfl (fun _ => o_pickT rfl rfl) ?_
        refine d_nil (fun σ => ?_)
        refine l_nil ?_
        refine kt_norm ?_
        refine v_sel [1, 2, 3, 4, 5, 7, 44] [5, 7] rfl rfl ?_
        refine v_condT rfl ?_
        refine v_seq ?_
        refine v_region ?_
        refine l_val rfl (o_load1 (key := 5) rfl rfl rfl) ?_
        refine l_val rfl (o_loadGW rfl (fun w hg => (hGk w hg).2.1) rfl) ?_
        refine l_val rfl (o_loadGW rfl (fun w hg => (hGk w hg).1) rfl) ?_
        have hst : stopT r u v := stop_of hm (by first | exact .inl hsh | exact .inr (.inl hm0) | exact .inr (.inr (.inl hmu)) | exact .inr (.inr (.inr hmv)))
        have hXe : XS = [(u, v)] := by rw [← hXS]; exact chords_stop hst d
        refine l_yield2 (k := 0) (vs := [_, _]) (A := fun W3 => ∃ O', J 1 O' W3) (B := fun W3 => ∃ O', Jx O' W3) (fun _ => trivial) (fun h => h) rfl rfl rfl (fun w hg => ⟨O0, yieldAt_mono (hround 0 (u, v) O0 w (by rw [hXe]; rfl) (hJ _ _ _ _ hJ0 (hg.mono fun _ _ h => (by cases h)))) (fun e w2 h => h.imp (fun h => ⟨h.1, h.2.1, h.2.2.imp fun O h => h.1⟩) (fun h => ⟨h.1, h.2.1, h.2.2.imp fun O h => h.1⟩))⟩) (fun W3 hA => ?_) (fun W3 hB => ?_)
        · skip
          refine l_nil ?_
          refine kt_norm ?_
          refine v_sel [] [] rfl rfl ?_
          refine v_ret ?_
          refine kt_ret ?_
          refine ⟨[], ResAll.nil, ?_⟩
          first
            | exact fun w hg => .inl (hA.imp fun O' h => hXe ▸ hJ _ _ _ _ h (Chg.mono hg fun _ _ h => h.elim))
            | exact fun w hg => .inr (hB.imp fun O' h => hJx _ _ _ h (Chg.mono hg fun _ _ h => h.elim))
            | exact fun w hg => .inr (hx3.imp fun O' h => hJx _ _ _ h.1 (Chg.mono hg fun b _ hb => ⟨(h.2 b hb).2, (h.2 b hb).1⟩))
            | exact fun w hg => .inl ⟨O2, hJ _ _ _ _ (by rw [cnt_two (show i = 2 by omega)] at hJ2; exact hJ2) (Chg.mono hg fun b _ hb => ⟨(hdd b hb).2.1, (hdd b hb).1⟩)⟩
        · skip
          refine l_nil ?_
          refine kt_norm ?_
          refine v_sel [] [] rfl rfl ?_
          refine v_ret ?_
          refine kt_ret ?_
          refine ⟨[], ResAll.nil, ?_⟩
          first
            | exact fun w hg => .inl (hA.imp fun O' h => hXe ▸ hJ _ _ _ _ h (Chg.mono hg fun _ _ h => h.elim))
            | exact fun w hg => .inr (hB.imp fun O' h => hJx _ _ _ h (Chg.mono hg fun _ _ h => h.elim))
            | exact fun w hg => .inr (hx3.imp fun O' h => hJx _ _ _ h.1 (Chg.mono hg fun b _ hb => ⟨(h.2 b hb).2, (h.2 b hb).1⟩))
            | exact fun w hg => .inl ⟨O2, hJ _ _ _ _ (by rw [cnt_two (show i = 2 by omega)] at hJ2; exact hJ2) (Chg.mono hg fun b _ hb => ⟨(hdd b hb).2.1, (hdd b hb).1⟩)⟩
      · simp only [List.map_cons, List.map_nil, List.cons.injEq, and_true] at hm0
        refine d_val (fun _ => rfl) rfl rfl (fun _ => o_pickF rfl rfl) ?_
        refine d_val (fun _ => rfl) rfl rfl (fun _ => o_move rfl) ?_
        refine d_val (fun _ => rfl) rfl rfl (fun _ => o_loadW (key := 7) rfl rfl rfl) ?_
        refine d_val (fun _ => rfl) rfl rfl (fun _ => o_loadGW rfl (fun w hg => (hGk w hg).2.1) rfl) ?_
        refine d_eqs (xl := [_, _]) (yl := [_, _]) (az := [_, _]) (bz := [_, _]) (fun _ => rfl) (fun _ => rfl) (fun _ => rfl) rfl rfl rfl rfl (fun hmu => ?_) (fun hmu => ?_)
        · simp only [List.map_cons, List.map_nil, List.cons.injEq, and_true] at hmu
          refine d_val (fun _ => rfl) rfl rfl (fun _ => o_pickF rfl rfl) ?_
          refine d_val (fun _ => rfl) rfl rfl (fun _ => o_move rfl) ?_
          refine d_no (fun _ => rfl) ?_
          refine d_no (fun _ => rfl) ?_
          refine d_no (fun _ => rfl) ?_
          refine d_val (fun _ => rfl) rfl rfl (fun _ => o_pickT rfl rfl) ?_
          refine d_nil (fun σ => ?_)
          refine l_nil ?_
          refine kt_norm ?_
          refine v_sel [1, 2, 3, 4, 5, 7, 44] [5, 7] rfl rfl ?_
          refine v_condT rfl ?_
          refine v_seq ?_
          refine v_region ?_
          refine l_val rfl (o_load1 (key := 5) rfl rfl rfl) ?_
          refine l_val rfl (o_loadGW rfl (fun w hg => (hGk w hg).2.1) rfl) ?_
          refine l_val rfl (o_loadGW rfl (fun w hg => (hGk w hg).1) rfl) ?_
          have hst : stopT r u v := stop_of hm (by first | exact .inl hsh | exact .inr (.inl hm0) | exact .inr (.inr (.inl hmu)) | exact .inr (.inr (.inr hmv)))
          have hXe : XS = [(u, v)] := by rw [← hXS]; exact chords_stop hst d
          refine l_yield2 (k := 0) (vs := [_, _]) (A := fun W3 => ∃ O', J 1 O' W3) (B := fun W3 => ∃ O', Jx O' W3) (fun _ => trivial) (fun h => h) rfl rfl rfl (fun w hg => ⟨O0, yieldAt_mono (hround 0 (u, v) O0 w (by rw [hXe]; rfl) (hJ _ _ _ _ hJ0 (hg.mono fun _ _ h => (by cases h)))) (fun e w2 h => h.imp (fun h => ⟨h.1, h.2.1, h.2.2.imp fun O h => h.1⟩) (fun h => ⟨h.1, h.2.1, h.2.2.imp fun O h => h.1⟩))⟩) (fun W3 hA => ?_) (fun W3 hB => ?_)
          · skip
            refine l_nil ?_
            refine kt_norm ?_
            refine v_sel [] [] rfl rfl ?_
            refine v_ret ?_
            refine kt_ret ?_
            refine ⟨[], ResAll.nil, ?_⟩
            first
              | exact fun w hg => .inl (hA.imp fun O' h => hXe ▸ hJ _ _ _ _ h (Chg.mono hg fun _ _ h => h.elim))
              | exact fun w hg => .inr (hB.imp fun O' h => hJx _ _ _ h (Chg.mono hg fun _ _ h => h.elim))
              | exact fun w hg => .inr (hx3.imp fun O' h => hJx _ _ _ h.1 (Chg.mono hg fun b _ hb => ⟨(h.2 b hb).2, (h.2 b hb).1⟩))
              | exact fun w hg => .inl ⟨O2, hJ _ _ _ _ (by rw [cnt_two (show i = 2 by omega)] at hJ2; exact hJ2) (Chg.mono hg fun b _ hb => ⟨(hdd b hb).2.1, (hdd b hb).1⟩)⟩
          · skip
            refine l_nil ?_
            refine kt_norm ?_
            refine v_sel [] [] rfl rfl ?_
            refine v_ret ?_
            refine kt_ret ?_
            refine ⟨[], ResAll.nil, ?_⟩
            first
              | exact fun w hg => .inl (hA.imp fun O' h => hXe ▸ hJ _ _ _ _ h (Chg.mono hg fun _ _ h => h.elim))
              | exact fun w hg => .inr (hB.imp fun O' h => hJx _ _ _ h (Chg.mono hg fun _ _ h => h.elim))
              | exact fun w hg => .inr (hx3.imp fun O' h => hJx _ _ _ h.1 (Chg.mono hg fun b _ hb => ⟨(h.2 b hb).2, (h.2 b hb).1⟩))
              | exact fun w hg => .inl ⟨O2, hJ _ _ _ _ (by rw [cnt_two (show i = 2 by omega)] at hJ2; exact hJ2) (Chg.mono hg fun b _ hb => ⟨(hdd b hb).2.1, (hdd b hb).1⟩)⟩
        · simp only [List.map_cons, List.map_nil, List.cons.injEq, and_true] at hmu
          refine d_val (fun _ => rfl) rfl rfl (fun _ => o_pickF rfl rfl) ?_
          refine d_val (fun _ => rfl) rfl rfl (fun _ => o_move rfl) ?_
          refine d_val (fun _ => rfl) rfl rfl (fun _ => o_loadW (key := 7) rfl rfl rfl) ?_
          refine d_val (fun _ => rfl) rfl rfl (fun _ => o_loadGW rfl (fun w hg => (hGk w hg).1) rfl) ?_
          refine d_eqs (xl := [_, _]) (yl := [_, _]) (az := [_, _]) (bz := [_, _]) (fun _ => rfl) (fun _ => rfl) (fun _ => rfl) rfl rfl rfl rfl (fun hmv => ?_) (fun hmv => ?_)
          · simp only [List.map_cons, List.map_nil, List.cons.injEq, and_true] at hmv
            refine d_val (fun _ => rfl) rfl rfl (fun _ => o_pickF rfl rfl) ?_
            refine d_nil (fun σ => ?_)
            refine l_nil ?_
            refine kt_norm ?_
            refine v_sel [1, 2, 3, 4, 5, 7, 44] [5, 7] rfl rfl ?_
            refine v_condT rfl ?_
            refine v_seq ?_
            refine v_region ?_
            refine l_val rfl (o_load1 (key := 5) rfl rfl rfl) ?_
            refine l_val rfl (o_loadGW rfl (fun w hg => (hGk w hg).2.1) rfl) ?_
            refine l_val rfl (o_loadGW rfl (fun w hg => (hGk w hg).1) rfl) ?_
            have hst : stopT r u v := stop_of hm (by first | exact .inl hsh | exact .inr (.inl hm0) | exact .inr (.inr (.inl hmu)) | exact .inr (.inr (.inr hmv)))
            have hXe : XS = [(u, v)] := by rw [← hXS]; exact chords_stop hst d
            refine l_yield2 (k := 0) (vs := [_, _]) (A := fun W3 => ∃ O', J 1 O' W3) (B := fun W3 => ∃ O', Jx O' W3) (fun _ => trivial) (fun h => h) rfl rfl rfl (fun w hg => ⟨O0, yieldAt_mono (hround 0 (u, v) O0 w (by rw [hXe]; rfl) (hJ _ _ _ _ hJ0 (hg.mono fun _ _ h => (by cases h)))) (fun e w2 h => h.imp (fun h => ⟨h.1, h.2.1, h.2.2.imp fun O h => h.1⟩) (fun h => ⟨h.1, h.2.1, h.2.2.imp fun O h => h.1⟩))⟩) (fun W3 hA => ?_) (fun W3 hB => ?_)
            · skip
              refine l_nil ?_
              refine kt_norm ?_
              refine v_sel [] [] rfl rfl ?_
              refine v_ret ?_
              refine kt_ret ?_
              refine ⟨[], ResAll.nil, ?_⟩
              first
                | exact fun w hg => .inl (hA.imp fun O' h => hXe ▸ hJ _ _ _ _ h (Chg.mono hg fun _ _ h => h.elim))
                | exact fun w hg => .inr (hB.imp fun O' h => hJx _ _ _ h (Chg.mono hg fun _ _ h => h.elim))
                | exact fun w hg => .inr (hx3.imp fun O' h => hJx _ _ _ h.1 (Chg.mono hg fun b _ hb => ⟨(h.2 b hb).2, (h.2 b hb).1⟩))
                | exact fun w hg => .inl ⟨O2, hJ _ _ _ _ (by rw [cnt_two (show i = 2 by omega)] at hJ2; exact hJ2) (Chg.mono hg fun b _ hb => ⟨(hdd b hb).2.1, (hdd b hb).1⟩)⟩
            · skip
              refine l_nil ?_
              refine kt_norm ?_
              refine v_sel [] [] rfl rfl ?_
              refine v_ret ?_
              refine kt_ret ?_
              refine ⟨[], ResAll.nil, ?_⟩
              first
                | exact fun w hg => .inl (hA.imp fun O' h => hXe ▸ hJ _ _ _ _ h (Chg.mono hg fun _ _ h => h.elim))
                | exact fun w hg => .inr (hB.imp fun O' h => hJx _ _ _ h (Chg.mono hg fun _ _ h => h.elim))
                | exact fun w hg => .inr (hx3.imp fun O' h => hJx _ _ _ h.1 (Chg.mono hg fun b _ hb => ⟨(h.2 b hb).2, (h.2 b hb).1⟩))
                | exact fun w hg => .inl ⟨O2, hJ _ _ _ _ (by rw [cnt_two (show i = 2 by omega)] at hJ2; exact hJ2) (Chg.mono hg fun b _ hb => ⟨(hdd b hb).2.1, (hdd b hb).1⟩)⟩
          · simp only [List.map_cons, List.map_nil, List.cons.injEq, and_true] at hmv
            refine d_val (fun _ => rfl) rfl rfl (fun _ => o_pickF rfl rfl) ?_
            refine d_nil (fun σ => ?_)
            refine l_nil ?_
            refine kt_norm ?_
            refine v_sel [1, 2, 3, 4, 5, 7, 44] [5, 7] rfl rfl ?_
            refine v_condF rfl ?_
            refine v_skip ?_
            refine kt_norm ?_
            refine v_seq ?_
            refine v_region ?_
            refine l_val rfl (o_loadGW rfl (fun w hg => (hGk w hg).2.1) rfl) ?_
            refine l_val rfl (o_loadW (key := 7) rfl rfl rfl) ?_
            refine l_val rfl (o_buildA (vs := [_, _]) (cs := [_, _, _, _]) rfl rfl) ?_
            refine l_val rfl (o_loadW (key := 7) rfl rfl rfl) ?_
            refine l_val rfl (o_loadGW rfl (fun w hg => (hGk w hg).1) rfl) ?_
            refine l_val rfl (o_buildA (vs := [_, _]) (cs := [_, _, _, _]) rfl rfl) ?_
            refine l_val rfl (o_buildA (vs := [_, _]) (cs := [_, _, _, _, _, _, _, _]) rfl rfl) ?_
            refine l_val rfl (o_move rfl) ?_
            refine l_nil ?_
            refine kt_norm ?_
            refine v_sel [3, 4, 5, 55, 56] [5] rfl rfl ?_
            refine v_block ?_
            have hst : ¬ stopT r u v := fun h => (stop_not hm h).elim hsh fun h => h.elim hm0 fun h => h.elim hmu hmv
            obtain ⟨k, rfl⟩ : ∃ k, d = k + 1 := ⟨d - 1, by omega⟩
            rw [chords_go hst k, hm] at hXS
            refine v_rebase2 (fun _ => trivial) (fun h => h) fun W1 hW1 hbx _ => ?_
            have hJ1 := hJ _ _ _ _ hJ0 (hW1.mono fun _ _ h => (by cases h))
            have hy5 : Blk W1 b5 #[.func (.yield lp) #[] #[]] 79 := (hbx 5 _ rfl).1
            refine v_loopD (α := Nat × World × (Nat → Prop) × List Nat) (fun ⟨i, W2, O2, dd⟩ => [(56, .int .i64 (i : Int))]) (fun ⟨i, W2, O2, dd⟩ => []) (fun ⟨i, W2, O2, dd⟩ => gI W2 dd) (fun ⟨i, W2, O2, dd⟩ => gbI W2 dd) (fun ⟨i, W2, O2, dd⟩ => dd) (fun ⟨i, W2, O2, dd⟩ => i ≤ 2 ∧ J (if i = 0 then 0 else if i = 1 then (chordsT r k u m).length else XS.length) O2 W2 ∧ Blk W2 b5 #[.func (.yield lp) #[] #[]] 79 ∧ ¬ O2 b5 ∧ b5 ∉ dd ∧ ∀ D ∈ dd, ¬ O2 D ∧ W.heap.size ≤ D ∧ D < W2.heap.size) (fun ⟨i, W2, O2, dd⟩ => 2 - i) (0, W1, O0, []) [3, 4, 5, 55] [] ⟨Nat.zero_le _, hJ1, hy5, fun h => by have := hO0 _ h; have : W.heap.size ≤ b5 := hb5; omega, fun h => (by cases h), fun D h => (by cases h)⟩ rfl rfl rfl (And.intro rfl (True.intro)) rfl (True.intro) rfl ?_
            rintro ⟨i, W2, O2, dd⟩ ⟨hi, hJ2, h5, h5O, hb5d, hdd⟩
            have hG2 : ∀ w, gI W2 dd w → (Blk w xb.1 #[.int .i64 v.x, .int .i64 v.y] 23 ∧ Blk w xb.2.1 #[.int .i64 u.x, .int .i64 u.y] 23 ∧ Blk w xb.2.2.1 #[.int .i64 r] 3 ∧ Blk w xb.2.2.2 #[.int .i64 ((k + 1 : Nat) : Int)] 3) := fun w hg => four_keep ((hJG _ _ _ hJ2).1) fun b hb => Chg.block hg b (four_lt ((hJG _ _ _ hJ2).1) hb) (fun hD => by have := (hdd b hD).2.1; have := four_lt hG0 hb; omega)
            refine v_seq ?_
            refine v_region ?_
            refine l_split rfl (o_lss rfl rfl) (fun q1 => ?_) (fun q1 => ?_)
            · skip
              refine l_nil ?_
              refine kt_norm ?_
              refine v_seq ?_
              refine v_condT rfl ?_
              refine v_skip ?_
              refine kt_norm ?_
              refine v_seq ?_
              refine v_block ?_
              refine v_seq ?_
              refine v_region ?_
              obtain rfl | rfl : i = 0 ∨ i = 1 := by omega
              · skip
                refine l_val rfl (o_idxArr (c := [_, _, _, _]) 0 rfl rfl rfl (by decide) rfl) ?_
                refine l_new rfl o_alloc fun b9 => ?_
                refine l_store rfl (o_storeW (key := 9) (xs := [_, _, _, _]) rfl rfl rfl rfl rfl rfl rfl) ?_
                refine l_nil ?_
                refine kt_norm ?_
                refine v_seq ?_
                refine v_region ?_
                refine l_val rfl (o_idxA 0 rfl rfl rfl (by decide)) ?_
                refine l_val rfl (o_loadP (key := 9) (rs := [_, _]) rfl rfl rfl rfl) ?_
                refine l_val rfl (o_idxA 1 rfl rfl rfl (by decide)) ?_
                refine l_val rfl (o_loadP (key := 9) (rs := [_, _]) rfl rfl rfl rfl) ?_
                refine l_val rfl (o_loadG1 rfl (fun w hg => (hG2 w hg).2.2.1.cell 0 _ rfl)) ?_
                refine l_val rfl (o_loadG1 rfl (fun w hg => (hG2 w hg).2.2.2.cell 0 _ rfl)) ?_
                refine l_val rfl (o_subi rfl rfl ?_) ?_
                · omega
                refine l_gsaid (ks := []) (caps := #[]) (vs := [_, _, _, _]) (α := Nat × Nat × Nat × Nat) (fun x => .func (.func 63) #[] #[.pointer (some ⟨x.1, 0, none⟩), .pointer (some ⟨x.2.1, 0, none⟩), .pointer (some ⟨x.2.2.1, 0, none⟩), .pointer (some ⟨x.2.2.2, 0, none⟩)]) (fun x w' => (Blk w' x.1 #[.int .i64 m.x, .int .i64 m.y] 23 ∧ Blk w' x.2.1 #[.int .i64 u.x, .int .i64 u.y] 23 ∧ Blk w' x.2.2.1 #[.int .i64 r] 3 ∧ Blk w' x.2.2.2 #[.int .i64 (k : Int)] 3) ∧ (∀ b, (b = x.1 ∨ b = x.2.1 ∨ b = x.2.2.1 ∨ b = x.2.2.2) → W2.heap.size ≤ b)) (fun x b => b = x.1 ∨ b = x.2.1 ∨ b = x.2.2.1 ∨ b = x.2.2.2) rfl rfl (ent_of Try.func45 rfl rfl) rfl (fun x w1 w2 h hb => ⟨four_keep h.1 hb, h.2⟩) (fun x w1 b h hb => four_lt h.1 hb) (fun w' hg hh => (a_chords w' u m r (((k + 1 : Nat) : Int) - 1)).mono fun e w3 ⟨x, h1, h2, h3, h4⟩ => ⟨x, h1, h2, ⟨cast_pred (p := fun d => (Blk w3 x.1 #[.int .i64 m.x, .int .i64 m.y] 23 ∧ Blk w3 x.2.1 #[.int .i64 u.x, .int .i64 u.y] 23 ∧ Blk w3 x.2.2.1 #[.int .i64 r] 3 ∧ Blk w3 x.2.2.2 #[.int .i64 d] 3)) h3, fun b hb => Nat.le_trans (gI_sz hg) (h4 b hb)⟩, h4⟩) fun xc => ?_
                refine l_nil ?_
                refine kt_norm ?_
                refine v_sel [56, 3, 4, 5, 55, 66] [] rfl rfl ?_
                refine v_block ?_
                refine v_rebase2 (fun _ => trivial) (fun h => h) fun W4 hW4 _ hgb4 => ?_
                have hJ4 := hJ _ _ _ _ hJ2 (hW4.1.mono fun D _ hD => ⟨(hdd D hD).2.1, (hdd D hD).1⟩)
                have hO2 := (hJG _ _ _ hJ2).2
                have hx4 := hW4.2.2
                have hc4 := hW4.2.1
                have hs4 : W2.heap.size ≤ W4.heap.size := hW4.1.size
                have hb5l : b5 < W2.heap.size := Blk.lt h5
                have h54 : Blk W4 b5 #[.func (.yield lp) #[] #[]] 79 := (hW4.1.block b5 (Blk.lt h5) hb5d).trans h5
                refine v_rangeY rfl rfl (fun _ => trivial) (fun h => h) (W0 := W4) (k0 := 0) J Jx hJ hJx (fun k O W h => (hJG k O W h).2) hJ4 (fun b => b = b5 ∨ (b = xc.1 ∨ b = xc.2.1 ∨ b = xc.2.2.1 ∨ b = xc.2.2.2)) ?_ (fun D hD => (hdd D hD).1) rfl (ent_of Try.func63 rfl rfl) (ih k rfl xc u m hu0 hbm) (fun W' hW' => four_keep hc4 fun b hb => hW' b (.inr hb)) (fun _ => rfl) ?_ ?_ ?_
                · intro b hb
                  rcases hb with rfl | hb
                  · exact ⟨by omega, h5O, hb5d⟩
                  · exact ⟨four_lt hc4 hb, fun ho => by have := hO2 b ho; have := hx4 b hb; omega, fun hd => by have := (hdd b hd).2.2; have := hx4 b hb; omega⟩
                · intro j x lp2 O W' hx hJW hown hOl hlp hlpw
                  obtain ⟨pf, pt⟩ := x
                  have h5W : Blk W' b5 #[.func (.yield lp) #[] #[]] 79 := (hown b5 (.inl rfl)).1.trans h54
                  have hOW := (hJG _ _ _ hJW).2
                  have hXj : XS[0 + j]? = some (pf, pt) := by rw [← hXS, Nat.zero_add, List.getElem?_append_left (List.getElem?_eq_some_iff.1 hx).1]; exact hx
                  dsimp only
                  refine v_seq ?_
                  refine v_region ?_
                  refine l_new rfl o_alloc fun b10 => ?_
                  refine l_store rfl (o_storeW (key := 10) (xs := [_, _]) rfl rfl rfl rfl rfl rfl rfl) ?_
                  refine l_nil ?_
                  refine kt_norm ?_
                  refine v_region ?_
                  refine l_new rfl o_alloc fun b11 => ?_
                  refine l_store rfl (o_storeW (key := 11) (xs := [_, _]) rfl rfl rfl rfl rfl rfl rfl) ?_
                  refine l_nil ?_
                  refine ⟨rfl, _, _, rfl, fun R => ?_⟩
                  refine v_block ?_
                  refine v_seq ?_
                  refine v_region ?_
                  refine l_val rfl (o_loadG1 rfl (fun w hg => (show Blk w b5 _ _ from (hg.1.block b5 (by have := hown b5 (.inl rfl); exact Blk.lt h5W) (hown b5 (.inl rfl)).2.2).trans h5W).cell 0 _ rfl)) ?_
                  refine l_val rfl (o_loadW (key := 10) rfl rfl rfl) ?_
                  refine l_val rfl (o_loadW (key := 11) rfl rfl rfl) ?_
                  refine l_yield2 (k := 0) (vs := [_, _]) (A := (fun W3 => (W3.heap[lp2]? = some R ∧ Chg (fun b => O b ∨ b = lp2) W' W3) ∧ ∃ O', J (0 + j + 1) O' W3 ∧ ∀ b, O' b → O b ∨ W'.heap.size ≤ b)) (B := (fun W3 => (W3.heap[lp2]? = some R ∧ Chg (fun b => O b ∨ b = lp2) W' W3) ∧ ∃ O', Jx O' W3 ∧ ∀ b, O' b → O b ∨ W'.heap.size ≤ b)) (fun _ => trivial) (fun h => h) rfl rfl rfl (fun w hg => ⟨O, yieldAt_mono (hround _ _ O w hXj (hJ _ _ _ _ hJW (hg.1.mono fun b _ hb => by subst hb; exact ⟨hlpw, hOl⟩))) (fun e w2 h => h.imp (fun h => ⟨h.1, h.2.1, yield_round hg hOl h.2.1, h.2.2.imp fun O' h' => ⟨h'.1, fun b hb => (h'.2 b hb).imp id fun hs => Nat.le_trans hg.1.size hs⟩⟩) (fun h => ⟨h.1, h.2.1, yield_round hg hOl h.2.1, h.2.2.imp fun O' h' => ⟨h'.1, fun b hb => (h'.2 b hb).imp id fun hs => Nat.le_trans hg.1.size hs⟩⟩))⟩) (fun W3 hA => ?_) (fun W3 hB => ?_)
                  · skip
                    refine l_val rfl (o_not rfl rfl) ?_
                    refine l_nil ?_
                    refine kt_norm ?_
                    refine v_sel [3, 4, 5, 73] [] rfl rfl ?_
                    refine v_condF rfl ?_
                    refine v_skip ?_
                    refine kb_norm ?_
                    exact .inl ⟨rfl, rfl, fun w hg => by
                      obtain ⟨hA1, O', hJ3, hO3⟩ := hA
                      have hk := round_keep hA1 hg
                      exact ⟨hk.1, hk.2, O', hJ _ _ _ _ hJ3 (hg.mono fun _ _ h => h.elim), hO3⟩⟩
                  · skip
                    refine l_val rfl (o_not rfl rfl) ?_
                    refine l_nil ?_
                    refine kt_norm ?_
                    refine v_sel [3, 4, 5, 73] [] rfl rfl ?_
                    refine v_condT rfl ?_
                    refine v_ret ?_
                    refine kb_ret ?_
                    exact .inr ⟨rfl, rfl, fun w hg => by
                      obtain ⟨hA1, O', hJ3, hO3⟩ := hB
                      have hk := round_keep hA1 hg
                      exact ⟨hk.1, hk.2, O', hJx _ _ _ hJ3 (hg.mono fun _ _ h => h.elim), hO3⟩⟩
                · intro W3 O3 D hJ3 hown3 hdd3
                  have h53 : Blk W3 b5 #[.func (.yield lp) #[] #[]] 79 := (hown3 b5 (.inl rfl)).1.trans h54
                  refine kb_norm ?_
                  refine kb_norm ?_
                  refine kt_norm ?_
                  refine v_region ?_
                  refine l_val rfl (o_addi rfl rfl ?_) ?_
                  · omega
                  refine l_val rfl (o_move rfl) ?_
                  refine l_nil ?_
                  refine kt_norm ?_
                  refine ⟨(1, W3, O3, D :: dd), ⟨by omega, by first | exact hJ3 | (rw [Nat.zero_add] at hJ3; exact hJ3) | (rw [← List.length_append, hXS] at hJ3; exact hJ3), h53, (hown3 b5 (.inl rfl)).2.1, (hown3 b5 (.inl rfl)).2.2.2, fun D' hD' => hdd3 D' hD'⟩, (by show 2 - 1 < 2 - 0; omega), le_app (And.intro rfl (True.intro)) [3, 4, 5, 55] rfl (True.intro) [] rfl⟩
                · intro W3 D hx3
                  refine kb_ret ?_
                  refine kb_ret ?_
                  refine kt_ret ?_
                  refine kt_ret ?_
                  refine kb_ret ?_
                  refine ⟨[], ResAll.nil, ?_⟩
                  first
                    | exact fun w hg => .inl (hA.imp fun O' h => hXe ▸ hJ _ _ _ _ h (Chg.mono hg fun _ _ h => h.elim))
                    | exact fun w hg => .inr (hB.imp fun O' h => hJx _ _ _ h (Chg.mono hg fun _ _ h => h.elim))
                    | exact fun w hg => .inr (hx3.imp fun O' h => hJx _ _ _ h.1 (Chg.mono hg fun b _ hb => ⟨(h.2 b hb).2, (h.2 b hb).1⟩))
                    | exact fun w hg => .inl ⟨O2, hJ _ _ _ _ (by rw [cnt_two (show i = 2 by omega)] at hJ2; exact hJ2) (Chg.mono hg fun b _ hb => ⟨(hdd b hb).2.1, (hdd b hb).1⟩)⟩
              · skip
                refine l_val rfl (o_idxArr (c := [_, _, _, _]) 1 rfl rfl rfl (by decide) rfl) ?_
                refine l_new rfl o_alloc fun b9 => ?_
                refine l_store rfl (o_storeW (key := 9) (xs := [_, _, _, _]) rfl rfl rfl rfl rfl rfl rfl) ?_
                refine l_nil ?_
                refine kt_norm ?_
                refine v_seq ?_
                refine v_region ?_
                refine l_val rfl (o_idxA 0 rfl rfl rfl (by decide)) ?_
                refine l_val rfl (o_loadP (key := 9) (rs := [_, _]) rfl rfl rfl rfl) ?_
                refine l_val rfl (o_idxA 1 rfl rfl rfl (by decide)) ?_
                refine l_val rfl (o_loadP (key := 9) (rs := [_, _]) rfl rfl rfl rfl) ?_
                refine l_val rfl (o_loadG1 rfl (fun w hg => (hG2 w hg).2.2.1.cell 0 _ rfl)) ?_
                refine l_val rfl (o_loadG1 rfl (fun w hg => (hG2 w hg).2.2.2.cell 0 _ rfl)) ?_
                refine l_val rfl (o_subi rfl rfl ?_) ?_
                · omega
                refine l_gsaid (ks := []) (caps := #[]) (vs := [_, _, _, _]) (α := Nat × Nat × Nat × Nat) (fun x => .func (.func 63) #[] #[.pointer (some ⟨x.1, 0, none⟩), .pointer (some ⟨x.2.1, 0, none⟩), .pointer (some ⟨x.2.2.1, 0, none⟩), .pointer (some ⟨x.2.2.2, 0, none⟩)]) (fun x w' => (Blk w' x.1 #[.int .i64 v.x, .int .i64 v.y] 23 ∧ Blk w' x.2.1 #[.int .i64 m.x, .int .i64 m.y] 23 ∧ Blk w' x.2.2.1 #[.int .i64 r] 3 ∧ Blk w' x.2.2.2 #[.int .i64 (k : Int)] 3) ∧ (∀ b, (b = x.1 ∨ b = x.2.1 ∨ b = x.2.2.1 ∨ b = x.2.2.2) → W2.heap.size ≤ b)) (fun x b => b = x.1 ∨ b = x.2.1 ∨ b = x.2.2.1 ∨ b = x.2.2.2) rfl rfl (ent_of Try.func45 rfl rfl) rfl (fun x w1 w2 h hb => ⟨four_keep h.1 hb, h.2⟩) (fun x w1 b h hb => four_lt h.1 hb) (fun w' hg hh => (a_chords w' m v r (((k + 1 : Nat) : Int) - 1)).mono fun e w3 ⟨x, h1, h2, h3, h4⟩ => ⟨x, h1, h2, ⟨cast_pred (p := fun d => (Blk w3 x.1 #[.int .i64 v.x, .int .i64 v.y] 23 ∧ Blk w3 x.2.1 #[.int .i64 m.x, .int .i64 m.y] 23 ∧ Blk w3 x.2.2.1 #[.int .i64 r] 3 ∧ Blk w3 x.2.2.2 #[.int .i64 d] 3)) h3, fun b hb => Nat.le_trans (gI_sz hg) (h4 b hb)⟩, h4⟩) fun xc => ?_
                refine l_nil ?_
                refine kt_norm ?_
                refine v_sel [56, 3, 4, 5, 55, 66] [] rfl rfl ?_
                refine v_block ?_
                refine v_rebase2 (fun _ => trivial) (fun h => h) fun W4 hW4 _ hgb4 => ?_
                have hJ4 := hJ _ _ _ _ hJ2 (hW4.1.mono fun D _ hD => ⟨(hdd D hD).2.1, (hdd D hD).1⟩)
                have hO2 := (hJG _ _ _ hJ2).2
                have hx4 := hW4.2.2
                have hc4 := hW4.2.1
                have hs4 : W2.heap.size ≤ W4.heap.size := hW4.1.size
                have hb5l : b5 < W2.heap.size := Blk.lt h5
                have h54 : Blk W4 b5 #[.func (.yield lp) #[] #[]] 79 := (hW4.1.block b5 (Blk.lt h5) hb5d).trans h5
                refine v_rangeY rfl rfl (fun _ => trivial) (fun h => h) (W0 := W4) (k0 := (chordsT r k u m).length) J Jx hJ hJx (fun k O W h => (hJG k O W h).2) hJ4 (fun b => b = b5 ∨ (b = xc.1 ∨ b = xc.2.1 ∨ b = xc.2.2.1 ∨ b = xc.2.2.2)) ?_ (fun D hD => (hdd D hD).1) rfl (ent_of Try.func63 rfl rfl) (ih k rfl xc m v hbm hv0) (fun W' hW' => four_keep hc4 fun b hb => hW' b (.inr hb)) (fun _ => rfl) ?_ ?_ ?_
                · intro b hb
                  rcases hb with rfl | hb
                  · exact ⟨by omega, h5O, hb5d⟩
                  · exact ⟨four_lt hc4 hb, fun ho => by have := hO2 b ho; have := hx4 b hb; omega, fun hd => by have := (hdd b hd).2.2; have := hx4 b hb; omega⟩
                · intro j x lp2 O W' hx hJW hown hOl hlp hlpw
                  obtain ⟨pf, pt⟩ := x
                  have h5W : Blk W' b5 #[.func (.yield lp) #[] #[]] 79 := (hown b5 (.inl rfl)).1.trans h54
                  have hOW := (hJG _ _ _ hJW).2
                  have hXj : XS[(chordsT r k u m).length + j]? = some (pf, pt) := by rw [← hXS, List.getElem?_append_right (Nat.le_add_right _ _), Nat.add_sub_cancel_left]; exact hx
                  dsimp only
                  refine v_seq ?_
                  refine v_region ?_
                  refine l_new rfl o_alloc fun b10 => ?_
                  refine l_store rfl (o_storeW (key := 10) (xs := [_, _]) rfl rfl rfl rfl rfl rfl rfl) ?_
                  refine l_nil ?_
                  refine kt_norm ?_
                  refine v_region ?_
                  refine l_new rfl o_alloc fun b11 => ?_
                  refine l_store rfl (o_storeW (key := 11) (xs := [_, _]) rfl rfl rfl rfl rfl rfl rfl) ?_
                  refine l_nil ?_
                  refine ⟨rfl, _, _, rfl, fun R => ?_⟩
                  refine v_block ?_
                  refine v_seq ?_
                  refine v_region ?_
                  refine l_val rfl (o_loadG1 rfl (fun w hg => (show Blk w b5 _ _ from (hg.1.block b5 (by have := hown b5 (.inl rfl); exact Blk.lt h5W) (hown b5 (.inl rfl)).2.2).trans h5W).cell 0 _ rfl)) ?_
                  refine l_val rfl (o_loadW (key := 10) rfl rfl rfl) ?_
                  refine l_val rfl (o_loadW (key := 11) rfl rfl rfl) ?_
                  refine l_yield2 (k := 0) (vs := [_, _]) (A := (fun W3 => (W3.heap[lp2]? = some R ∧ Chg (fun b => O b ∨ b = lp2) W' W3) ∧ ∃ O', J ((chordsT r k u m).length + j + 1) O' W3 ∧ ∀ b, O' b → O b ∨ W'.heap.size ≤ b)) (B := (fun W3 => (W3.heap[lp2]? = some R ∧ Chg (fun b => O b ∨ b = lp2) W' W3) ∧ ∃ O', Jx O' W3 ∧ ∀ b, O' b → O b ∨ W'.heap.size ≤ b)) (fun _ => trivial) (fun h => h) rfl rfl rfl (fun w hg => ⟨O, yieldAt_mono (hround _ _ O w hXj (hJ _ _ _ _ hJW (hg.1.mono fun b _ hb => by subst hb; exact ⟨hlpw, hOl⟩))) (fun e w2 h => h.imp (fun h => ⟨h.1, h.2.1, yield_round hg hOl h.2.1, h.2.2.imp fun O' h' => ⟨h'.1, fun b hb => (h'.2 b hb).imp id fun hs => Nat.le_trans hg.1.size hs⟩⟩) (fun h => ⟨h.1, h.2.1, yield_round hg hOl h.2.1, h.2.2.imp fun O' h' => ⟨h'.1, fun b hb => (h'.2 b hb).imp id fun hs => Nat.le_trans hg.1.size hs⟩⟩))⟩) (fun W3 hA => ?_) (fun W3 hB => ?_)
                  · skip
                    refine l_val rfl (o_not rfl rfl) ?_
                    refine l_nil ?_
                    refine kt_norm ?_
                    refine v_sel [3, 4, 5, 73] [] rfl rfl ?_
                    refine v_condF rfl ?_
                    refine v_skip ?_
                    refine kb_norm ?_
                    exact .inl ⟨rfl, rfl, fun w hg => by
                      obtain ⟨hA1, O', hJ3, hO3⟩ := hA
                      have hk := round_keep hA1 hg
                      exact ⟨hk.1, hk.2, O', hJ _ _ _ _ hJ3 (hg.mono fun _ _ h => h.elim), hO3⟩⟩
                  · skip
                    refine l_val rfl (o_not rfl rfl) ?_
                    refine l_nil ?_
                    refine kt_norm ?_
                    refine v_sel [3, 4, 5, 73] [] rfl rfl ?_
                    refine v_condT rfl ?_
                    refine v_ret ?_
                    refine kb_ret ?_
                    exact .inr ⟨rfl, rfl, fun w hg => by
                      obtain ⟨hA1, O', hJ3, hO3⟩ := hB
                      have hk := round_keep hA1 hg
                      exact ⟨hk.1, hk.2, O', hJx _ _ _ hJ3 (hg.mono fun _ _ h => h.elim), hO3⟩⟩
                · intro W3 O3 D hJ3 hown3 hdd3
                  have h53 : Blk W3 b5 #[.func (.yield lp) #[] #[]] 79 := (hown3 b5 (.inl rfl)).1.trans h54
                  refine kb_norm ?_
                  refine kb_norm ?_
                  refine kt_norm ?_
                  refine v_region ?_
                  refine l_val rfl (o_addi rfl rfl ?_) ?_
                  · omega
                  refine l_val rfl (o_move rfl) ?_
                  refine l_nil ?_
                  refine kt_norm ?_
                  refine ⟨(2, W3, O3, D :: dd), ⟨by omega, by first | exact hJ3 | (rw [Nat.zero_add] at hJ3; exact hJ3) | (rw [← List.length_append, hXS] at hJ3; exact hJ3), h53, (hown3 b5 (.inl rfl)).2.1, (hown3 b5 (.inl rfl)).2.2.2, fun D' hD' => hdd3 D' hD'⟩, (by show 2 - 2 < 2 - 1; omega), le_app (And.intro rfl (True.intro)) [3, 4, 5, 55] rfl (True.intro) [] rfl⟩
                · intro W3 D hx3
                  refine kb_ret ?_
                  refine kb_ret ?_
                  refine kt_ret ?_
                  refine kt_ret ?_
                  refine kb_ret ?_
                  refine ⟨[], ResAll.nil, ?_⟩
                  first
                    | exact fun w hg => .inl (hA.imp fun O' h => hXe ▸ hJ _ _ _ _ h (Chg.mono hg fun _ _ h => h.elim))
                    | exact fun w hg => .inr (hB.imp fun O' h => hJx _ _ _ h (Chg.mono hg fun _ _ h => h.elim))
                    | exact fun w hg => .inr (hx3.imp fun O' h => hJx _ _ _ h.1 (Chg.mono hg fun b _ hb => ⟨(h.2 b hb).2, (h.2 b hb).1⟩))
                    | exact fun w hg => .inl ⟨O2, hJ _ _ _ _ (by rw [cnt_two (show i = 2 by omega)] at hJ2; exact hJ2) (Chg.mono hg fun b _ hb => ⟨(hdd b hb).2.1, (hdd b hb).1⟩)⟩
            · skip
              refine l_nil ?_
              refine kt_norm ?_
              refine v_seq ?_
              refine v_condF rfl ?_
              refine v_exit ?_
              refine kt_exit ?_
              refine kt_exit ?_
              refine kb_eq ?_
              refine ⟨[], ResAll.nil, ?_⟩
              first
                | exact fun w hg => .inl (hA.imp fun O' h => hXe ▸ hJ _ _ _ _ h (Chg.mono hg fun _ _ h => h.elim))
                | exact fun w hg => .inr (hB.imp fun O' h => hJx _ _ _ h (Chg.mono hg fun _ _ h => h.elim))
                | exact fun w hg => .inr (hx3.imp fun O' h => hJx _ _ _ h.1 (Chg.mono hg fun b _ hb => ⟨(h.2 b hb).2, (h.2 b hb).1⟩))
                | exact fun w hg => .inl ⟨O2, hJ _ _ _ _ (by rw [cnt_two (show i = 2 by omega)] at hJ2; exact hJ2) (Chg.mono hg fun b _ hb => ⟨(hdd b hb).2.1, (hdd b hb).1⟩)⟩
theorem a_chordsI {r : Int} (hr : 1 ≤ r ∧ r ≤ 131072) : ∀ d : Nat, d ≤ 6 → ∀ (xb : Nat × Nat × Nat × Nat) (u v : PtT), BdT u → BdT v → Iter2 Try.prog 63 #[.pointer (some ⟨xb.1, 0, none⟩), .pointer (some ⟨xb.2.1, 0, none⟩), .pointer (some ⟨xb.2.2.1, 0, none⟩), .pointer (some ⟨xb.2.2.2, 0, none⟩)] encC (chordsT r d u v) (fun w => (Blk w xb.1 #[.int .i64 v.x, .int .i64 v.y] 23 ∧ Blk w xb.2.1 #[.int .i64 u.x, .int .i64 u.y] 23 ∧ Blk w xb.2.2.1 #[.int .i64 r] 3 ∧ Blk w xb.2.2.2 #[.int .i64 (d : Int)] 3))
  | 0, h, xb, u, v, hu, hv => a_chordsStep r hr 0 h (fun k hk => by cases hk) xb u v hu hv
  | d + 1, h, xb, u, v, hu, hv => a_chordsStep r hr (d + 1) h (fun k hk => by cases hk; exact a_chordsI hr d (by omega)) xb u v hu hv
end Go.Proofs.Ytpgjbalnipinoaa

/- The vectors of an arc; what pieces come to be, put one by one. Conditions: none. -/
namespace Go.Proofs.Ytpgjbalnipinoaa
open Go.Proofs Go.RowKit Go.Shelf

theorem chords_len (r : Int) : ∀ (d : Nat) (u v : PtT), 1 ≤ (chordsT r d u v).length ∧ (chordsT r d u v).length ≤ 2 ^ d
  | 0, u, v => ⟨Nat.le_refl _, Nat.le_refl _⟩
  | d + 1, u, v => by
    by_cases h : stopT r u v
    · rw [chords_stop h]; exact ⟨Nat.le_refl _, Nat.one_le_two_pow⟩
    · rw [chords_go h, List.length_append, Nat.pow_succ]
      have h1 := chords_len r d u (midT r u v)
      have h2 := chords_len r d (midT r u v) v
      omega
theorem chords_bd {r : Int} (hr : 1 ≤ r ∧ r ≤ 131072) : ∀ (d : Nat) (u v : PtT), BdT u → BdT v → ∀ c ∈ chordsT r d u v, BdT c.1 ∧ BdT c.2
  | 0, u, v, hu, hv, c, hc => by rw [List.mem_singleton.1 hc]; exact ⟨hu, hv⟩
  | d + 1, u, v, hu, hv, c, hc => by
    by_cases h : stopT r u v
    · rw [chords_stop h] at hc; rw [List.mem_singleton.1 hc]; exact ⟨hu, hv⟩
    · rw [chords_go h] at hc
      rcases List.mem_append.1 hc with hc | hc
      · exact chords_bd hr d u _ hu (hu.mid hv hr) c hc
      · exact chords_bd hr d _ v (hu.mid hv hr) hv c hc
theorem chords_last (r : Int) : ∀ (d : Nat) (u v : PtT), ((chordsT r d u v).getLast?).map Prod.snd = some v
  | 0, u, v => rfl
  | d + 1, u, v => by
    by_cases h : stopT r u v
    · rw [chords_stop h]; rfl
    · rw [chords_go h, List.getLast?_append]
      have h2 := chords_last r d (midT r u v) v
      cases h3 : (chordsT r d (midT r u v) v).getLast? with
      | none => rw [h3] at h2; cases h2
      | some x => rw [h3] at h2; exact h2
def bendT (r : Int) (u v : PtT) : List PtT := (chordsT r 6 u v).map Prod.snd
theorem chords6 (r : Int) (u v : PtT) : 1 ≤ (chordsT r 6 u v).length ∧ (chordsT r 6 u v).length ≤ 64 := chords_len r 6 u v
theorem a_Bend (w : World) (u v : PtT) (r : Int) (hr : 1 ≤ r ∧ r ≤ 131072) (hu : BdT u) (hv : BdT v) : Calls Try.prog 23 #[.agg #[.int .i64 u.x, .int .i64 u.y], .agg #[.int .i64 v.x, .int .i64 v.y], .int .i64 r] w fun e w' => ∃ y, e = .returned y ∧ Below w.heap.size w w' ∧ OwnAt w.heap.size w' y 23 2 (bendT r u v).length ((bendT r u v).flatMap eP) := by
  have hXl := chords6 r u v
  unfold bendT
  obtain ⟨XS, hXS⟩ : ∃ XS, chordsT r 6 u v = XS := ⟨_, rfl⟩
  rw [hXS] at hXl ⊢
  refine calls_own (args := [.agg #[.int .i64 u.x, .int .i64 u.y], .agg #[.int .i64 v.x, .int .i64 v.y], .int .i64 r]) Try.func23 rfl Try.ntmps23 Try.results23 rfl ?_
  refine v_seq ?_
  refine v_region ?_
  refine l_new rfl (o_box (cs := [_, _]) rfl rfl) fun b3 => ?_
  refine l_new rfl (o_box (cs := [_, _]) rfl rfl) fun b4 => ?_
  refine l_new rfl o_alloc fun b6 => ?_
  refine l_nil ?_
  refine kt_norm ?_
  refine v_seq ?_
  refine v_seq ?_
  refine v_region ?_
  refine l_val rfl (o_loadW (key := 3) rfl rfl rfl) ?_
  refine l_val rfl (o_loadW (key := 4) rfl rfl rfl) ?_
  refine l_val rfl (o_move rfl) ?_
  refine l_gsaid (ks := []) (caps := #[]) (vs := [_, _, _, _]) (α := Nat × Nat × Nat × Nat) (fun x => .func (.func 63) #[] #[.pointer (some ⟨x.1, 0, none⟩), .pointer (some ⟨x.2.1, 0, none⟩), .pointer (some ⟨x.2.2.1, 0, none⟩), .pointer (some ⟨x.2.2.2, 0, none⟩)]) (fun x w' => (Blk w' x.1 #[.int .i64 v.x, .int .i64 v.y] 23 ∧ Blk w' x.2.1 #[.int .i64 u.x, .int .i64 u.y] 23 ∧ Blk w' x.2.2.1 #[.int .i64 r] 3 ∧ Blk w' x.2.2.2 #[.int .i64 6] 3)) (fun x b => b = x.1 ∨ b = x.2.1 ∨ b = x.2.2.1 ∨ b = x.2.2.2) rfl rfl (ent_of Try.func45 rfl rfl) rfl (fun x w1 w2 h hb => four_keep h hb) (fun x w1 b h hb => four_lt h hb) (fun w' hg hh => a_chords w' u v r 6) fun xc => ?_
  refine l_nil ?_
  refine kt_norm ?_
  refine v_sel [6, 12] [6] rfl rfl ?_
  refine v_block ?_
  refine v_ghost 18 23 2 ?_
  refine v_range2 (τ := Value × List PtT) rfl rfl rfl (ent_of Try.func63 rfl rfl) (hXS ▸ a_chordsI hr 6 (by omega) xc u v hu hv) (fun w' hg => hg.2) (fun _ => rfl) (fun t => [(6, .box b6 31 [t.1]), (18, .own t.1 23 2 t.2.length (t.2.flatMap eP))]) (fun k t => t.2 = (XS.take k).map Prod.snd ∧ RowV t.1 t.2.length) (.slice none 0 0, []) ⟨rfl, .nil0⟩ [6, 18] rfl ?_ ?_
  · rintro k x ⟨va, es⟩ lp W1 Wa hx ⟨hes, hva⟩
    dsimp only at hes hva
    obtain ⟨pf, pt⟩ := x
    have hkx : k < XS.length := (List.getElem?_eq_some_iff.1 hx).1
    have hel : es.length ≤ k := by rw [hes, List.length_map, List.length_take]; omega
    refine v_region ?_
    refine l_new rfl o_alloc fun b8 => ?_
    refine l_store rfl (o_storeW (key := 8) (xs := [_, _]) rfl rfl rfl rfl rfl rfl rfl) ?_
    refine l_nil ?_
    refine ⟨rfl, rfl, rfl, rfl, fun W2 Wb => ?_⟩
    refine v_block ?_
    refine v_region ?_
    refine l_val rfl (o_load1 (key := 6) rfl rfl rfl) ?_
    refine l_val rfl (o_loadW (key := 8) rfl rfl rfl) ?_
    refine l_buildSlice (vs := [_]) (cs := [_, _]) rfl rfl rfl rfl rfl rfl fun v17 hv17 => ?_
    refine l_append 18 [6, 8, 17] rfl rfl rfl rfl rfl rfl rfl hv17 (row_own (key := 17) rfl) (by show es.length + 1 ≤ _; omega) fun v18 hv18 => ?_
    refine l_store rfl (o_store1 (key := 6) (rs := [_]) rfl rfl (rowV_cells hv18) rfl rfl (rowV_one hv18) rfl) ?_
    refine l_nil ?_
    refine kb_norm ?_
    exact ⟨rfl, (v18, es ++ [pt]), ⟨by show es ++ [pt] = _; rw [List.take_add_one, hx, hes, List.map_append]; rfl, by simpa using hv18⟩, ⟨fun _ _ h => (by cases h), leL_ok _ (And.intro rfl (And.intro (congrArg some (own_congr (by simp) (by simp [eP]))) True.intro)), rfl, rfl, rfl⟩⟩
  · rintro ⟨va, es⟩ D ⟨hes, hva⟩
    dsimp only at hes hva
    rw [List.take_length] at hes
    subst hes
    refine kb_norm ?_
    refine kt_norm ?_
    refine v_seq ?_
    refine v_region ?_
    refine l_val rfl (o_load1 (key := 6) rfl rfl rfl) ?_
    refine l_store rfl (o_store1 (key := 6) (rs := [_]) rfl rfl (rowV_cells hva) rfl rfl (rowV_one hva) rfl) ?_
    refine l_nil ?_
    refine kt_norm ?_
    refine v_ret ?_
    refine ⟨[_], .cons (.cell1 (key := 6) rfl rfl) (ResAll.nil), ?_⟩
    exact ⟨18, rfl⟩
end Go.Proofs.Ytpgjbalnipinoaa

/- What pieces come to be, put one by one. Conditions: none. -/
namespace Go.Proofs.Ytpgjbalnipinoaa
open Go.Proofs Go.RowKit Go.Shelf

/-- a slice's capacity is no less than its length -/
def Capd (v : Value) : Prop := ∀ a n c, v = .slice a n c → n ≤ c
theorem capd_own {w : World} {v : Value} {E esz n : Nat} {xs : List Value} (h : (Hp.own v E esz n xs).ok w) : Capd v := fun a n' c e => by
  rcases h.1.2 with ⟨rfl, rfl⟩ | ⟨g, cap, cur, rfl, h0, hg, hnc, hcm, hcs, htake⟩
  · cases e; exact Nat.le_refl _
  · cases e; exact hnc
def putT (qs : List (List PtT)) (pc : List PtT) : List (List PtT) := if convexB (oriT pc) = true then qs ++ [oriT pc] else qs
variable {C : Cx} {K : Exit → St → Prop} {ops : Array Oper} {rest : List Oper} {l : List (Nat × Value)} {m : List (Nat × Hp)} {g : World → Prop} {gb : Nat → Prop} {dd : List Nat} in
theorem l_capd (key : Nat) {v : Value} {E esz n : Nat} {xs : List Value} (hk : lk m key = some (.own v E esz n xs)) (next : Capd v → VL C ops rest K (mk l m g gb dd)) : VL C ops rest K (mk l m g gb dd) :=
  fun a w hr => next (capd_own (hr.mo key _ hk).1) a w hr
def All2 (R : Value → List PtT → Prop) (vs : List Value) (ps : List (List PtT)) : Prop := vs.length = ps.length ∧ ∀ i, i < ps.length → R (vs.getD i undef) (ps.getD i [])
theorem All2.append {R : Value → List PtT → Prop} {a b : List Value} {p q : List (List PtT)} (h : All2 R a p) (k : All2 R b q) : All2 R (a ++ b) (p ++ q) := by
  refine ⟨by rw [List.length_append, List.length_append, h.1, k.1], fun i hi => ?_⟩
  rw [List.length_append] at hi
  rw [List.getD_eq_getElem?_getD, List.getD_eq_getElem?_getD, List.getElem?_append, List.getElem?_append, h.1]
  by_cases e : i < p.length
  · rw [if_pos e, if_pos e, ← List.getD_eq_getElem?_getD, ← List.getD_eq_getElem?_getD]; exact h.2 i e
  · rw [if_neg e, if_neg e, ← List.getD_eq_getElem?_getD, ← List.getD_eq_getElem?_getD]; exact k.2 _ (by omega)
theorem All2.drop {R : Value → List PtT → Prop} {a : List Value} {p : List (List PtT)} (h : All2 R a p) (k : Nat) : All2 R (a.drop k) (p.drop k) := by
  refine ⟨by rw [List.length_drop, List.length_drop, h.1], fun i hi => ?_⟩
  rw [List.length_drop] at hi
  rw [List.getD_eq_getElem?_getD, List.getD_eq_getElem?_getD, List.getElem?_drop, List.getElem?_drop, ← List.getD_eq_getElem?_getD, ← List.getD_eq_getElem?_getD]
  exact h.2 _ (by omega)
theorem All2.take {R : Value → List PtT → Prop} {a : List Value} {p : List (List PtT)} (h : All2 R a p) (k : Nat) : All2 R (a.take k) (p.take k) := by
  refine ⟨by rw [List.length_take, List.length_take, h.1], fun i hi => ?_⟩
  rw [List.length_take] at hi
  rw [List.getD_eq_getElem?_getD, List.getD_eq_getElem?_getD, List.getElem?_take_of_lt (by omega), List.getElem?_take_of_lt (by omega), ← List.getD_eq_getElem?_getD, ← List.getD_eq_getElem?_getD]
  exact h.2 _ (by omega)
theorem All2.nil {R : Value → List PtT → Prop} : All2 R [] [] := ⟨rfl, fun i hi => absurd hi (Nat.not_lt_zero i)⟩
theorem All2.one {R : Value → List PtT → Prop} {u : Value} {pc : List PtT} (h : R u pc) : All2 R [u] [pc] := ⟨rfl, fun i hi => by
  obtain rfl : i = 0 := by simpa using hi
  exact h⟩
def RV (u : Value) (pc : List PtT) : Prop := RowV u pc.length
def RP (w : World) (u : Value) (pc : List PtT) : Prop := RowAt w u 2 pc.length (pc.flatMap eP)
theorem PcsW.all {v : Value} {vs : List Value} {ps : List (List PtT)} (h : PcsW v vs ps) : All2 RV vs ps := ⟨h.lenv, h.pV⟩
theorem pcsW_of {v : Value} {vs : List Value} {ps : List (List PtT)} (h : RowV v ps.length) (hl : ps.length ≤ 1000000) (k : All2 RV vs ps) : PcsW v vs ps := ⟨h, k.1, by omega, k.2⟩
theorem PcsAt.all {w : World} {v : Value} {vs : List Value} {ps : List (List PtT)} (h : PcsAt w v vs ps) (hw : PcsW v vs ps) : All2 (RP w) vs ps := ⟨hw.lenv, h.pc⟩
theorem pcsAt_of {w : World} {v : Value} {vs : List Value} {ps : List (List PtT)} (h : RowAt w v 1 ps.length vs) (k : All2 (RP w) vs ps) : PcsAt w v vs ps := ⟨h, k.2⟩
theorem oriT_len (pc : List PtT) : (oriT pc).length = pc.length := by unfold oriT; split; exact List.length_reverse; rfl
theorem oriT_bnd {pc : List PtT} (h : BndP pc) : BndP (oriT pc) := by
  refine ⟨by rw [oriT_len]; exact h.1, fun j hj => ?_⟩
  have hm : (oriT pc).getD j dP ∈ oriT pc := pt_mem hj
  have hm2 : (oriT pc).getD j dP ∈ pc := by
    generalize (oriT pc).getD j dP = p at hm
    unfold oriT at hm
    split at hm
    · exact List.mem_reverse.1 hm
    · exact hm
  exact h.near _ hm2
theorem putT_yes {qs : List (List PtT)} {pc : List PtT} (h : convexB (oriT pc) = true) : putT qs pc = qs ++ [oriT pc] := if_pos h
theorem putT_no {qs : List (List PtT)} {pc : List PtT} (h : convexB (oriT pc) = false) : putT qs pc = qs := if_neg (by rw [h]; exact Bool.false_ne_true)
/-- what a put comes to: nothing, or a slice and a row -/
abbrev PutX (n m : Nat) := Option {x : Value × Value // RowV x.1 (n + 1) ∧ Capd x.1 ∧ RowV x.2 m}
def putV {n m : Nat} (v : Value) (o : PutX n m) : Value := match o with | none => v | some x => x.1.1
def putW {n m : Nat} (vs : List Value) (o : PutX n m) : List Value := match o with | none => vs | some x => vs ++ [x.1.2]
def putG {n m : Nat} (vs : List Value) (pc : List PtT) (o : PutX n m) (w : World) : Prop := match o with | none => True | some x => (Hp.own x.1.1 32 1 (n + 1) (vs ++ [x.1.2])).ok w ∧ (Hp.own x.1.2 23 2 m ((oriT pc).flatMap eP)).ok w
def putB {n m : Nat} (o : PutX n m) (b : Nat) : Prop := match o with | none => False | some x => x.1.1.ownBlock = some b ∨ x.1.2.ownBlock = some b
abbrev PutY (n : Nat) (pc : List PtT) := {o : PutX n pc.length // o.isSome = convexB (oriT pc)}
theorem putG_keep {n m : Nat} {vs : List Value} {pc : List PtT} (o : PutX n m) (w1 w2 : World) (h : putG vs pc o w1) (hb : ∀ b, putB o b → w2.heap[b]? = w1.heap[b]?) : putG vs pc o w2 := by
  match o, h, hb with
  | none, _, _ => trivial
  | some x, h, hb => exact ⟨Hp.keep h.1 fun b e => hb b (.inl e), Hp.keep h.2 fun b e => hb b (.inr e)⟩
theorem putG_lt {n m : Nat} {vs : List Value} {pc : List PtT} (o : PutX n m) (w1 : World) (b : Nat) (h : putG vs pc o w1) (hb : putB o b) : b < w1.heap.size := by
  match o, h, hb with
  | some x, h, hb => exact hb.elim (fun e => Hp.lt h.1 e) (fun e => Hp.lt h.2 e)
theorem capd_put {n m : Nat} {v : Value} (h : Capd v) (o : PutX n m) : Capd (putV v o) := by
  match o with
  | none => exact h
  | some x => exact x.2.2.1
theorem pcsW_put {v : Value} {vs : List Value} {qs : List (List PtT)} {pc : List PtT} (h : PcsW v vs qs) (hl : qs.length ≤ 100000) (o : PutY qs.length pc) : PcsW (putV v o.1) (putW vs o.1) (putT qs pc) := by
  obtain ⟨o, ho⟩ := o
  match o, ho with
  | none, ho => rw [putT_no ho.symm]; exact h
  | some x, ho =>
    rw [putT_yes ho.symm]
    exact pcsW_of (by rw [List.length_append]; exact x.2.1) (by rw [List.length_append, List.length_singleton]; omega) (h.all.append (.one (by unfold RV; rw [oriT_len]; exact x.2.2.2)))
theorem pcsAt_put {w : World} {v : Value} {vs : List Value} {qs : List (List PtT)} {pc : List PtT} (hW : PcsW v vs qs) (h : PcsAt w v vs qs) (o : PutY qs.length pc) (hg : putG vs pc o.1 w) : PcsAt w (putV v o.1) (putW vs o.1) (putT qs pc) := by
  obtain ⟨o, ho⟩ := o
  match o, ho, hg with
  | none, ho, _ => rw [putT_no ho.symm]; exact h
  | some x, ho, hg =>
    rw [putT_yes ho.symm]
    exact pcsAt_of (by rw [List.length_append]; exact rowAt_own hg.1) ((h.all hW).append (.one (by unfold RP; rw [oriT_len]; exact rowAt_own hg.2)))
theorem a_Put (w : World) (a : Option Addr) (n c : Nat) (pvs : List Value) (u : Value) (pc : List PtT) (hn : n ≤ 1000000) (hcap : n ≤ c) (hV : RowV (.slice a n c) n) (hrow : RowAt w (.slice a n c) 1 n pvs) (hs : pc.length ≤ 1000000) (hU : RowV u pc.length) (hrowU : RowAt w u 2 pc.length (pc.flatMap eP)) (hnear : ∀ p ∈ pc, NearT p) :
    Calls Try.prog 59 #[.slice a n c, u] w fun e w' => ∃ o : PutY n pc, e = .returned (putV (.slice a n c) o.1) ∧ Below w.heap.size w w' ∧ putG pvs pc o.1 w' ∧ ∀ b, putB o.1 b → w.heap.size ≤ b := by
  by_cases hcx : convexB (oriT pc) = true
  · exact (a_PutYes w a n c pvs u pc hn hcap hV hrow hs hU hrowU hnear hcx).mono fun e w2 ⟨x, h1, h2, h3, h4⟩ => ⟨⟨some ⟨x, rowV_own h3.1, capd_own h3.1, rowV_own h3.2⟩, hcx.symm⟩, h1, h2, h3, h4⟩
  · rw [Bool.not_eq_true] at hcx
    exact (a_PutNo w a n c pvs u pc hn hcap hV hrow hs hU hrowU hnear hcx).mono fun e w2 ⟨h1, h2⟩ => ⟨⟨none, hcx.symm⟩, h1, h2, trivial, fun b hb => hb.elim⟩
theorem putG_cells {n m : Nat} {vs : List Value} {pc : List PtT} (o : PutX n m) (w1 : World) (b : Nat) (h : putG vs pc o w1) (hb : putB o b) : ∃ ob, w1.heap[b]? = some ob ∧ ob.isCells = true := by
  match o, h, hb with
  | some x, h, hb => exact hb.elim (fun e => Hp.isCells h.1 e) (fun e => Hp.isCells h.2 e)
/-- what pieces come to, of others that are put behind them -/
abbrev PutsY (v0 : Value) (vs0 : List Value) (qs0 qs : List (List PtT)) := {x : Value × List Value × (World → Prop) × (Nat → Prop) // PcsW x.1 x.2.1 qs ∧ Capd x.1 ∧ ∀ w2, PcsAt w2 v0 vs0 qs0 → x.2.2.1 w2 → PcsAt w2 x.1 x.2.1 qs}
theorem SaidOk.keep {w w' : World} {G : World → Prop} {B : Nat → Prop} (h : SaidOk w G B) (hb : ∀ b, B b → w'.heap[b]? = w.heap[b]?) : SaidOk w' G B := Hp.keep (h := .said G B) h hb
theorem SaidOk.lt {w : World} {G : World → Prop} {B : Nat → Prop} (h : SaidOk w G B) {b : Nat} (hb : B b) : b < w.heap.size := Hp.lt (h := .said G B) h hb
def pieT (p : PtT) (qs : List (List PtT)) (c : PtT × PtT) : List (List PtT) := putT qs [p, ⟨p.x + c.1.x, p.y + c.1.y⟩, ⟨p.x + c.2.x, p.y + c.2.y⟩]
/-- all chords from each vector to the next one -/
def arcsK (r : Int) (cs : List PtT) : Nat → List (PtT × PtT)
  | 0 => []
  | k + 1 => arcsK r cs k ++ chordsT r 6 (cs.getD k dP) (cs.getD (k + 1) dP)
theorem arcs_len (r : Int) (cs : List PtT) : ∀ k, (arcsK r cs k).length ≤ 64 * k
  | 0 => Nat.le_refl _
  | k + 1 => by
    have h1 := arcs_len r cs k
    have h2 := chords6 r (cs.getD k dP) (cs.getD (k + 1) dP)
    rw [arcsK, List.length_append]; omega
theorem pie_len (p : PtT) (l : List (PtT × PtT)) : ∀ qs : List (List PtT), (l.foldl (pieT p) qs).length ≤ qs.length + l.length := by
  induction l with
  | nil => exact fun qs => Nat.le_refl _
  | cons c l ih =>
    intro qs
    have h1 := ih (pieT p qs c)
    have h2 : (pieT p qs c).length ≤ qs.length + 1 := by
      unfold pieT putT; split
      · rw [List.length_append]; exact Nat.le_refl _
      · omega
    rw [List.foldl_cons, List.length_cons]; omega
theorem pie_take {p : PtT} {XS : List (PtT × PtT)} {qs : List (List PtT)} {k : Nat} {f t : PtT} (hx : XS[k]? = some (f, t)) : (XS.take (k + 1)).foldl (pieT p) qs = putT ((XS.take k).foldl (pieT p) qs) [p, ⟨p.x + f.x, p.y + f.y⟩, ⟨p.x + t.x, p.y + t.y⟩] := by
  rw [List.take_add_one, hx, List.foldl_append]; rfl
theorem pie_near {p f t : PtT} (hp : (-536870912 ≤ p.x ∧ p.x ≤ 536870912) ∧ (-536870912 ≤ p.y ∧ p.y ≤ 536870912)) (hf : BdT f) (ht : BdT t) : ∀ q ∈ [p, ⟨p.x + f.x, p.y + f.y⟩, ⟨p.x + t.x, p.y + t.y⟩], NearT q := by
  unfold BdT at hf ht
  intro q hq
  rcases List.mem_cons.1 hq with rfl | hq
  · unfold NearT; omega
  · rcases List.mem_cons.1 hq with rfl | hq
    · unfold NearT; dsimp only; omega
    · rw [List.mem_singleton.1 hq]; unfold NearT; dsimp only; omega
end Go.Proofs.Ytpgjbalnipinoaa

/- Pies, from each vector to the next one. Conditions: none. -/
namespace Go.Proofs.Ytpgjbalnipinoaa
open Go.Proofs Go.RowKit Go.Shelf

theorem four_cells {w : World} {x : Nat × Nat × Nat × Nat} {u v : PtT} {r d : Int} (h : (Blk w x.1 #[.int .i64 v.x, .int .i64 v.y] 23 ∧ Blk w x.2.1 #[.int .i64 u.x, .int .i64 u.y] 23 ∧ Blk w x.2.2.1 #[.int .i64 r] 3 ∧ Blk w x.2.2.2 #[.int .i64 d] 3)) {b : Nat} (hb : b = x.1 ∨ b = x.2.1 ∨ b = x.2.2.1 ∨ b = x.2.2.2) : ∃ o, w.heap[b]? = some o ∧ o.isCells = true := by
  rcases hb with rfl | rfl | rfl | rfl
  · exact ⟨_, h.1, rfl⟩
  · exact ⟨_, h.2.1, rfl⟩
  · exact ⟨_, h.2.2.1, rfl⟩
  · exact ⟨_, h.2.2.2, rfl⟩
set_option maxHeartbeats 4000000 in
theorem a_pies (w : World) (v : Value) (pvs : List Value) (qs : List (List PtT)) (p : PtT) (r : Int) (hv : PcsW v pvs qs) (hcp : Capd v) (hat : PcsAt w v pvs qs) (hql : qs.length ≤ 2000) (hp : (-536870912 ≤ p.x ∧ p.x ≤ 536870912) ∧ (-536870912 ≤ p.y ∧ p.y ≤ 536870912)) (hr : 1 ≤ r ∧ r ≤ 131072) (cv : Value) (cs : List PtT) (hcl : 1 ≤ cs.length ∧ cs.length ≤ 8) (hVc : RowV cv cs.length) (hcr : RowAt w cv 2 cs.length (cs.flatMap eP)) (hcb : ∀ j, j < cs.length → BdT (cs.getD j dP)) :
    Calls Try.prog 41 #[v, .agg #[.int .i64 p.x, .int .i64 p.y], .int .i64 r, cv] w fun e w' => ∃ x : PutsY v pvs qs ((arcsK r cs (cs.length - 1)).foldl (pieT p) qs), e = .returned x.1.1 ∧ Below w.heap.size w w' ∧ SaidOk w' x.1.2.2.1 x.1.2.2.2 ∧ ∀ b, x.1.2.2.2 b → w.heap.size ≤ b := by
  have hrc : ∀ w', Chg (fun _ => False) w w' → RowAt w' cv 2 cs.length (cs.flatMap eP) := fun w' h => hcr.chg h (fun h => h)
  obtain ⟨a0, c0, rfl⟩ := hv.V.sl
  refine calls_said (args := [.slice a0 qs.length c0, .agg #[.int .i64 p.x, .int .i64 p.y], .int .i64 r, cv]) (fun x : PutsY (.slice a0 qs.length c0) pvs qs ((arcsK r cs (cs.length - 1)).foldl (pieT p) qs) => x.1.1) (fun x w' => SaidOk w' x.1.2.2.1 x.1.2.2.2) (fun x b => x.1.2.2.2 b) Try.func41 rfl Try.ntmps41 Try.results41 rfl ?_
  refine v_seq ?_
  refine v_region ?_
  refine l_new rfl (o_box (cs := [_]) rfl rfl) fun b4 => ?_
  refine l_new rfl (o_box (cs := [_, _]) rfl rfl) fun b5 => ?_
  refine l_val rfl (o_assign rfl) ?_
  refine l_nil ?_
  refine kt_norm ?_
  refine v_seq ?_
  refine v_seq ?_
  refine v_region ?_
  refine l_said0 99 rfl ?_
  refine l_val rfl (o_assign rfl) ?_
  refine l_nil ?_
  refine kt_norm ?_
  refine v_block ?_
  refine v_loopD (α := Nat × Value × List Value × (World → Prop) × (Nat → Prop) × List Nat) (fun ⟨i, tv, qvs, G, B, dd⟩ => [(9, .int .i64 (i : Int))]) (fun ⟨i, tv, qvs, G, B, dd⟩ => [(4, .box b4 26 [tv]), (99, .said G B)]) (fun ⟨i, tv, qvs, G, B, dd⟩ => fun w2 => Chg (fun _ => False) w w2) (fun ⟨i, tv, qvs, G, B, dd⟩ => fun b => b < w.heap.size ∧ ¬ False) (fun ⟨i, tv, qvs, G, B, dd⟩ => dd) (fun ⟨i, tv, qvs, G, B, dd⟩ => 1 ≤ i ∧ i ≤ cs.length ∧ PcsW tv qvs ((arcsK r cs (i - 1)).foldl (pieT p) qs) ∧ Capd tv ∧ ∀ w2, PcsAt w2 (.slice a0 qs.length c0) pvs qs → G w2 → PcsAt w2 tv qvs ((arcsK r cs (i - 1)).foldl (pieT p) qs)) (fun ⟨i, tv, qvs, G, B, dd⟩ => cs.length - i) (1, .slice a0 qs.length c0, pvs, fun _ => True, fun _ => False, []) [2, 3, 4, 5, 8] [5] ⟨Nat.le_refl _, hcl.1, hv, hcp, fun w2 h _ => h⟩ rfl rfl rfl (And.intro rfl (True.intro)) rfl (And.intro rfl (And.intro rfl (True.intro))) rfl ?_
  rintro ⟨i, tv, qvs, G, B, dd⟩ ⟨hi1, hi, hQ, hcp2, hG⟩
  refine v_seq ?_
  refine v_seq ?_
  refine v_region ?_
  refine l_val rfl (o_move rfl) ?_
  refine l_val rfl (o_move rfl) ?_
  refine l_val rfl (o_len rfl hVc) ?_
  refine l_split rfl (o_lss rfl rfl) (fun q1 => ?_) (fun q1 => ?_)
  · skip
    refine l_nil ?_
    refine kt_norm ?_
    refine v_condT rfl ?_
    refine v_skip ?_
    refine kt_norm ?_
    refine v_seq ?_
    refine v_block ?_
    refine v_seq ?_
    refine v_drawW [] [[], [], [], [], [], [], [], [], [], []] mixed ?_ (by kernel_rfl) (by kernel_rfl)
    refine d_val (fun _ => rfl) rfl rfl (fun σ4 => o_move rfl) ?_
    refine d_val (fun _ => rfl) rfl rfl (fun σ4 => o_move rfl) ?_
    refine d_val (fun _ => rfl) rfl rfl (fun σ4 => o_subi rfl rfl ?_) ?_
    · first | omega | (dsimp only; omega)
    refine d_val (fun _ => rfl) rfl rfl (fun σ4 => o_idx ((i - 1)) rfl hVc rfl (by first | rfl | omega) (by omega)) ?_
    refine d_val (fun _ => rfl) rfl rfl (fun σ4 => o_loadRE (c' := [_, _]) rfl (row_imm hrc) (el_flat eP_len dP cs ((i - 1)) (by omega)) rfl) ?_
    refine d_val (fun _ => rfl) rfl rfl (fun σ4 => o_move rfl) ?_
    refine d_val (fun _ => rfl) rfl rfl (fun σ4 => o_move rfl) ?_
    refine d_val (fun _ => rfl) rfl rfl (fun σ4 => o_idx (i) rfl hVc rfl (by first | rfl | omega) (by omega)) ?_
    refine d_val (fun _ => rfl) rfl rfl (fun σ4 => o_loadRE (c' := [_, _]) rfl (row_imm hrc) (el_flat eP_len dP cs (i) (by omega)) rfl) ?_
    refine d_val (fun _ => rfl) rfl rfl (fun σ4 => o_move rfl) ?_
    refine d_nil (fun σ4 => ?_)
    refine l_hsaid (ks := []) (caps := #[]) (vs := [_, _, _, _]) (α := Nat × Nat × Nat × Nat) (fun x => .func (.func 63) #[] #[.pointer (some ⟨x.1, 0, none⟩), .pointer (some ⟨x.2.1, 0, none⟩), .pointer (some ⟨x.2.2.1, 0, none⟩), .pointer (some ⟨x.2.2.2, 0, none⟩)]) (fun x w' => (Blk w' x.1 #[.int .i64 (cs.getD i dP).x, .int .i64 (cs.getD i dP).y] 23 ∧ Blk w' x.2.1 #[.int .i64 (cs.getD (i - 1) dP).x, .int .i64 (cs.getD (i - 1) dP).y] 23 ∧ Blk w' x.2.2.1 #[.int .i64 r] 3 ∧ Blk w' x.2.2.2 #[.int .i64 6] 3)) (fun x b => b = x.1 ∨ b = x.2.1 ∨ b = x.2.2.1 ∨ b = x.2.2.2) rfl rfl (ent_of Try.func45 rfl rfl) rfl (fun x w1 w2 h hb => four_keep h hb) (fun x w1 b h hb => four_cells h hb) (fun w' hg hh => a_chords w' (cs.getD (i - 1) dP) (cs.getD i dP) r 6) fun xc => ?_
    refine l_nil ?_
    refine kt_norm ?_
    refine v_sel [9, 2, 3, 4, 5, 8, 28] [4, 5, 28, 99] rfl rfl ?_
    refine v_block ?_
    have hXl := chords6 r (cs.getD (i - 1) dP) (cs.getD i dP)
    have hXb := chords_bd hr 6 (cs.getD (i - 1) dP) (cs.getD i dP) (hcb (i - 1) (by omega)) (hcb i (by omega))
    obtain ⟨XS, hXS⟩ : ∃ XS, chordsT r 6 (cs.getD (i - 1) dP) (cs.getD i dP) = XS := ⟨_, rfl⟩
    have hit := a_chordsI hr 6 (by omega) xc (cs.getD (i - 1) dP) (cs.getD i dP) (hcb (i - 1) (by omega)) (hcb i (by omega))
    rw [hXS] at hXl hXb hit
    have hA : (arcsK r cs (i + 1 - 1)).foldl (pieT p) qs = XS.foldl (pieT p) ((arcsK r cs (i - 1)).foldl (pieT p) qs) := by
      obtain ⟨j, rfl⟩ : ∃ j, i = j + 1 := ⟨i - 1, by omega⟩
      rw [← hXS]; exact List.foldl_append
    have hqi : ((arcsK r cs (i - 1)).foldl (pieT p) qs).length ≤ 2000 + 64 * (i - 1) := by have h1 := pie_len p (arcsK r cs (i - 1)) qs; have h2 := arcs_len r cs (i - 1); omega
    have hqk : ∀ k, ((XS.take k).foldl (pieT p) ((arcsK r cs (i - 1)).foldl (pieT p) qs)).length ≤ 2000 + 64 * (i - 1) + 64 := fun k => by
      have h1 := pie_len p (XS.take k) ((arcsK r cs (i - 1)).foldl (pieT p) qs)
      have h2 : (XS.take k).length ≤ XS.length := by rw [List.length_take]; omega
      omega
    refine v_range3 (τ := Value × List Value × (World → Prop) × (Nat → Prop)) (ks := [28]) rfl rfl rfl (ent_of Try.func63 rfl rfl) hit (fun _ => rfl) (fun t => [(4, .box b4 26 [t.1]), (5, .box b5 23 [.int .i64 p.x, .int .i64 p.y]), (99, .said t.2.2.1 t.2.2.2), (28, .said (fun w' => (Blk w' xc.1 #[.int .i64 (cs.getD i dP).x, .int .i64 (cs.getD i dP).y] 23 ∧ Blk w' xc.2.1 #[.int .i64 (cs.getD (i - 1) dP).x, .int .i64 (cs.getD (i - 1) dP).y] 23 ∧ Blk w' xc.2.2.1 #[.int .i64 r] 3 ∧ Blk w' xc.2.2.2 #[.int .i64 6] 3)) (fun b => b = xc.1 ∨ b = xc.2.1 ∨ b = xc.2.2.1 ∨ b = xc.2.2.2))]) (fun t w' hg hh => (hh 28 (by simp) _ rfl).1) (fun k t => PcsW t.1 t.2.1 ((XS.take k).foldl (pieT p) ((arcsK r cs (i - 1)).foldl (pieT p) qs)) ∧ Capd t.1 ∧ ∀ w2, PcsAt w2 (.slice a0 qs.length c0) pvs qs → t.2.2.1 w2 → PcsAt w2 t.1 t.2.1 ((XS.take k).foldl (pieT p) ((arcsK r cs (i - 1)).foldl (pieT p) qs))) (tv, qvs, G, B) ⟨hQ, hcp2, hG⟩ [4, 5, 99, 28] rfl ?_ ?_
    · rintro k x ⟨tw, qw, G2, B2⟩ lp W1 Wa hx ⟨hQ2, hcw, hG2⟩
      dsimp only at hQ2 hcw hG2
      obtain ⟨pf, pt⟩ := x
      have hbd := hXb _ (List.mem_of_getElem? hx)
      have hbf : BdT pf := hbd.1
      have hbt : BdT pt := hbd.2
      have hnear := pie_near hp hbf hbt
      have hqk1 := hqk k
      have hpt := pie_take (p := p) (qs := ((arcsK r cs (i - 1)).foldl (pieT p) qs)) hx
      unfold BdT at hbf hbt
      refine v_seq ?_
      refine v_region ?_
      refine l_new rfl o_alloc fun b10 => ?_
      refine l_store rfl (o_storeW (key := 10) (xs := [_, _]) rfl rfl rfl rfl rfl rfl rfl) ?_
      refine l_nil ?_
      refine kt_norm ?_
      refine v_region ?_
      refine l_new rfl o_alloc fun b11 => ?_
      refine l_store rfl (o_storeW (key := 11) (xs := [_, _]) rfl rfl rfl rfl rfl rfl rfl) ?_
      refine l_nil ?_
      refine ⟨rfl, rfl, rfl, rfl, fun W2 Wb => ?_⟩
      refine v_block ?_
      refine v_drawW [(39, 3)] [[4], [5], [5], [10], [], [5], [11], [], []] mixed ?_ (by kernel_rfl) (by kernel_rfl)
      refine d_val (fun _ => rfl) rfl rfl (fun σ7 => o_load1 (key := 4) rfl rfl rfl) ?_
      refine d_val (fun _ => rfl) rfl rfl (fun σ7 => o_loadW (key := 5) rfl rfl rfl) ?_
      refine d_val (fun _ => rfl) rfl rfl (fun σ7 => o_loadW (key := 5) rfl rfl rfl) ?_
      refine d_val (fun _ => rfl) rfl rfl (fun σ7 => o_loadW (key := 10) rfl rfl rfl) ?_
      refine d_ans (vs := [_, _]) (fun _ => rfl) (fun _ => rfl) (a_PAdd _ _ _ _ ?_ ?_ ?_ ?_) ?_
      · first | omega | (dsimp only; omega)
      · first | omega | (dsimp only; omega)
      · first | omega | (dsimp only; omega)
      · first | omega | (dsimp only; omega)
      refine d_val (fun _ => rfl) rfl rfl (fun σ7 => o_loadW (key := 5) rfl rfl rfl) ?_
      refine d_val (fun _ => rfl) rfl rfl (fun σ7 => o_loadW (key := 11) rfl rfl rfl) ?_
      refine d_ans (vs := [_, _]) (fun _ => rfl) (fun _ => rfl) (a_PAdd _ _ _ _ ?_ ?_ ?_ ?_) ?_
      · first | omega | (dsimp only; omega)
      · first | omega | (dsimp only; omega)
      · first | omega | (dsimp only; omega)
      · first | omega | (dsimp only; omega)
      refine d_bsO (n := 3) (vs := fun _ => [_, _, _]) (cs := fun _ => [_, _, _, _, _, _]) (fun _ => rfl) (fun _ => rfl) (fun _ => rfl) rfl rfl (fun _ => rfl) (fun _ => rfl) ?_
      refine d_nil (fun σ7 => ?_)
      obtain ⟨aT, cT, rfl⟩ := hQ2.V.sl
      refine l_hsaid (ks := [39, 99]) (caps := #[]) (vs := [_, _]) (α := PutY ((XS.take k).foldl (pieT p) ((arcsK r cs (i - 1)).foldl (pieT p) qs)).length [p, ⟨p.x + pf.x, p.y + pf.y⟩, ⟨p.x + pt.x, p.y + pt.y⟩]) (fun o => putV _ o.1) (fun o w2 => putG qw [p, ⟨p.x + pf.x, p.y + pf.y⟩, ⟨p.x + pt.x, p.y + pt.y⟩] o.1 w2) (fun o b => putB o.1 b) rfl rfl (ent_of Try.func59 rfl rfl) rfl (fun o => putG_keep o.1) (fun o => putG_cells o.1) (fun w' hg hh => a_Put w' aT ((XS.take k).foldl (pieT p) ((arcsK r cs (i - 1)).foldl (pieT p) qs)).length cT qw _ [p, ⟨p.x + pf.x, p.y + pf.y⟩, ⟨p.x + pt.x, p.y + pt.y⟩] (by omega) (hcw _ _ _ rfl) hQ2.V (hG2 w' (hat.keep hg) (hh 99 (by simp) _ rfl).1).row (by show 3 ≤ 1000000; omega) (.inl ⟨_, _, _, rfl⟩) (rowAt_own (hh 39 (by simp) _ rfl)) hnear) fun o => ?_
      have hvo := (pcsW_put hQ2 (by omega) o).V
      refine l_store rfl (o_store1 (key := 4) (rs := [_]) rfl rfl (rowV_cells hvo) rfl rfl (rowV_one hvo) rfl) ?_
      refine l_join 99 40 rfl rfl [4, 5, 28] rfl rfl rfl ?_
      refine l_nil ?_
      refine kb_norm ?_
      exact ⟨rfl, (putV _ o.1, putW qw o.1, fun w2 => G2 w2 ∧ putG qw _ o.1 w2, fun b => B2 b ∨ putB o.1 b), ⟨by rw [hpt]; exact pcsW_put hQ2 (by omega) o, capd_put hcw o.1, fun w2 h0 hw => by rw [hpt]; exact pcsAt_put hQ2 (hG2 w2 h0 hw.1) o hw.2⟩, ⟨fun _ _ h => (by cases h), leL_ok _ (And.intro rfl (And.intro rfl (And.intro rfl (And.intro rfl True.intro)))), rfl, rfl, rfl⟩⟩
    · rintro ⟨tw, qw, G2, B2⟩ D ⟨hQ2, hcw, hG2⟩
      dsimp only at hQ2 hcw hG2
      rw [List.take_length, ← hA] at hQ2 hG2
      refine kb_norm ?_
      refine kb_norm ?_
      refine kt_norm ?_
      refine v_region ?_
      refine l_val rfl (o_move rfl) ?_
      refine l_val rfl (o_addi rfl rfl ?_) ?_
      · first | omega | (dsimp only; omega)
      refine l_val rfl (o_assign rfl) ?_
      refine l_nil ?_
      refine kt_norm ?_
      refine ⟨(i + 1, tw, qw, G2, B2, D :: dd), ⟨by omega, by omega, hQ2, hcw, hG2⟩, (by show cs.length - (i + 1) < cs.length - i; omega), le_app (And.intro rfl (True.intro)) [2, 3, 4, 5, 8] rfl (And.intro rfl (And.intro rfl (True.intro))) [5] rfl⟩
  · skip
    refine l_nil ?_
    refine kt_norm ?_
    refine v_condF rfl ?_
    refine v_exit ?_
    refine kt_exit ?_
    refine kt_exit ?_
    refine kb_eq ?_
    refine kt_norm ?_
    refine v_sel [4] [4, 5, 99] rfl rfl ?_
    refine v_seq ?_
    refine v_region ?_
    refine l_val rfl (o_load1 (key := 4) rfl rfl rfl) ?_
    refine l_val rfl (o_assign rfl) ?_
    refine l_nil ?_
    refine kt_norm ?_
    refine v_ret ?_
    refine ⟨[_], .cons (.tmp rfl) (ResAll.nil), ?_⟩
    obtain rfl : i = cs.length := by omega
    exact ⟨⟨(tv, qvs, G, B), hQ, hcp2, hG⟩, rfl, fun w' ho => ⟨(ho.mo 99 _ rfl).1, fun b hb => ((ho.mo 99 _ rfl).2 b hb).elim id False.elim⟩⟩
end Go.Proofs.Ytpgjbalnipinoaa

/- Pies, halves, discs. Conditions: none. -/
namespace Go.Proofs.Ytpgjbalnipinoaa
open Go.Proofs Go.RowKit Go.Shelf

abbrev piesT (p : PtT) (r : Int) (cs : List PtT) (qs : List (List PtT)) : List (List PtT) := (arcsK r cs (cs.length - 1)).foldl (pieT p) qs
def leftT (p : PtT) : PtT := ⟨-p.y, p.x⟩
def halfC (f : PtT) : List PtT := [⟨-(-f.y), -f.x⟩, f, ⟨-f.y, f.x⟩]
def discC (r : Int) : List PtT := [⟨r, 0⟩, ⟨0, r⟩, ⟨-r, 0⟩, ⟨0, -r⟩, ⟨r, 0⟩]
def halfT (p u : PtT) (r : Int) (qs : List (List PtT)) : List (List PtT) := if normT u r = ⟨0, 0⟩ then qs else piesT p r (halfC (normT u r)) qs
theorem pie_bd {u v : PtT} (hu : BdT u) (hv : BdT v) : ∀ j, j < [u, v].length → BdT (([u, v] : List PtT).getD j dP) := fun j hj => by
  have := pt_mem hj
  rcases List.mem_cons.1 this with h | h
  · rw [h]; exact hu
  · rw [List.mem_singleton.1 h]; exact hv
theorem half_bd {f : PtT} (hf : BdT f) : ∀ j, j < (halfC f).length → BdT ((halfC f).getD j dP) := fun j hj => by
  have := pt_mem hj
  unfold BdT at hf
  rcases List.mem_cons.1 this with h | h
  · rw [h]; unfold BdT; dsimp only; omega
  · rcases List.mem_cons.1 h with h | h
    · rw [h]; exact hf
    · rw [List.mem_singleton.1 h]; unfold BdT; dsimp only; omega
theorem disc_bd {r : Int} (hr : 1 ≤ r ∧ r ≤ 131072) : ∀ j, j < (discC r).length → BdT ((discC r).getD j dP) := fun j hj => by
  have hm : (discC r).getD j dP ∈ discC r := pt_mem hj
  generalize (discC r).getD j dP = q at hm
  unfold discC at hm
  simp only [List.mem_cons, List.not_mem_nil, or_false] at hm
  rcases hm with rfl | rfl | rfl | rfl | rfl <;> (unfold BdT; dsimp only; omega)
theorem norm_bd {u : PtT} {r : Int} (hr : 1 ≤ r ∧ r ≤ 131072) (hx : -1073741824 ≤ u.x ∧ u.x ≤ 1073741824) (hy : -1073741824 ≤ u.y ∧ u.y ≤ 1073741824) : BdT (normT u r) := by
  have := norm_bound (p := u) (r := r) (by omega) (by omega) (by omega)
  unfold BdT; omega
theorem a_nrm {u f : PtT} {r : Int} (hr : 1 ≤ r ∧ r ≤ 131072) (hx : -1073741824 ≤ u.x ∧ u.x ≤ 1073741824) (hy : -1073741824 ≤ u.y ∧ u.y ≤ 1073741824) (hf : normT u r = f) : Ans Try.prog 46 [.agg #[.int .i64 u.x, .int .i64 u.y], .int .i64 r] (.agg #[.int .i64 f.x, .int .i64 f.y]) := by
  subst hf
  exact a_Norm u r hx hy (by omega)
theorem halfT_no {p u : PtT} {r : Int} {f : PtT} {qs : List (List PtT)} (hf : normT u r = f) (h : f.x = 0 ∧ f.y = 0) : halfT p u r qs = qs := by unfold halfT; rw [hf, if_pos (pt_ext h)]
theorem halfT_yes {p u : PtT} {r : Int} {f : PtT} {qs : List (List PtT)} (hf : normT u r = f) (h : ¬ (f.x = 0 ∧ f.y = 0)) : halfT p u r qs = piesT p r (halfC f) qs := by
  unfold halfT; rw [hf, if_neg (fun e => h (by rw [e]; exact ⟨rfl, rfl⟩))]
theorem a_Pie (w : World) (v : Value) (pvs : List Value) (qs : List (List PtT)) (p : PtT) (r : Int) (hv : PcsW v pvs qs) (hcp : Capd v) (hat : PcsAt w v pvs qs) (hql : qs.length ≤ 2000) (hp : (-536870912 ≤ p.x ∧ p.x ≤ 536870912) ∧ (-536870912 ≤ p.y ∧ p.y ≤ 536870912)) (hr : 1 ≤ r ∧ r ≤ 131072) (u z : PtT) (hu : BdT u) (hz : BdT z) : Calls Try.prog 20 #[v, .agg #[.int .i64 p.x, .int .i64 p.y], .agg #[.int .i64 u.x, .int .i64 u.y], .agg #[.int .i64 z.x, .int .i64 z.y], .int .i64 r] w fun e w' => ∃ x : PutsY v pvs qs (piesT p r [u, z] qs), e = .returned x.1.1 ∧ Below w.heap.size w w' ∧ SaidOk w' x.1.2.2.1 x.1.2.2.2 ∧ ∀ b, x.1.2.2.2 b → w.heap.size ≤ b := by
  refine calls_said (args := [v, .agg #[.int .i64 p.x, .int .i64 p.y], .agg #[.int .i64 u.x, .int .i64 u.y], .agg #[.int .i64 z.x, .int .i64 z.y], .int .i64 r]) (fun x : PutsY v pvs qs (piesT p r [u, z] qs) => x.1.1) (fun x w' => SaidOk w' x.1.2.2.1 x.1.2.2.2) (fun x b => x.1.2.2.2 b) Try.func20 rfl Try.ntmps20 Try.results20 rfl ?_
  refine v_seq ?_
  refine v_region ?_
  refine l_new rfl (o_box (cs := [_, _]) rfl rfl) fun b6 => ?_
  refine l_new rfl (o_box (cs := [_, _]) rfl rfl) fun b7 => ?_
  refine l_new rfl (o_box (cs := [_, _]) rfl rfl) fun b8 => ?_
  refine l_val rfl (o_assign rfl) ?_
  refine l_nil ?_
  refine kt_norm ?_
  refine v_seq ?_
  refine v_region ?_
  refine l_val rfl (o_move rfl) ?_
  refine l_val rfl (o_loadW (key := 6) rfl rfl rfl) ?_
  refine l_val rfl (o_move rfl) ?_
  refine l_val rfl (o_loadW (key := 7) rfl rfl rfl) ?_
  refine l_val rfl (o_loadW (key := 8) rfl rfl rfl) ?_
  refine l_buildSlice (vs := [_, _]) (cs := [_, _, _, _]) rfl rfl rfl rfl rfl rfl fun v16 hv16 => ?_
  refine l_hsaid (ks := [16]) (caps := #[]) (vs := [_, _, _, _]) (α := PutsY v pvs qs (piesT p r [u, z] qs)) (fun x => x.1.1) (fun x w' => SaidOk w' x.1.2.2.1 x.1.2.2.2) (fun x b => x.1.2.2.2 b) rfl rfl (ent_of Try.func41 rfl rfl) rfl (fun x w1 w2 h hb => h.keep hb) (fun x w1 b h hb => h.2.1 b hb) (fun w' hg hh => a_pies w' _ pvs qs p r hv hcp (hat.keep hg) hql hp hr _ [u, z] (by show 1 ≤ 2 ∧ 2 ≤ 8; omega) hv16 (rowAt_own (hh 16 (by simp) _ rfl)) (pie_bd hu hz)) fun xr => ?_
  refine l_val rfl (o_assign rfl) ?_
  refine l_nil ?_
  refine kt_norm ?_
  refine v_sel [10] [16, 17] rfl rfl ?_
  refine v_ret ?_
  refine ⟨[_], .cons (.tmp rfl) (ResAll.nil), ?_⟩
  exact ⟨⟨xr.1, xr.2⟩, rfl, fun w' ho => ⟨(ho.mo 17 _ rfl).1.1, fun b hb => ((ho.mo 17 _ rfl).2 b hb).elim id False.elim⟩⟩
theorem a_Half (w : World) (v : Value) (pvs : List Value) (qs : List (List PtT)) (p : PtT) (r : Int) (hv : PcsW v pvs qs) (hcp : Capd v) (hat : PcsAt w v pvs qs) (hql : qs.length ≤ 2000) (hp : (-536870912 ≤ p.x ∧ p.x ≤ 536870912) ∧ (-536870912 ≤ p.y ∧ p.y ≤ 536870912)) (hr : 1 ≤ r ∧ r ≤ 131072) (u : PtT) (hx : -1073741824 ≤ u.x ∧ u.x ≤ 1073741824) (hy : -1073741824 ≤ u.y ∧ u.y ≤ 1073741824) : Calls Try.prog 24 #[v, .agg #[.int .i64 p.x, .int .i64 p.y], .agg #[.int .i64 u.x, .int .i64 u.y], .int .i64 r] w fun e w' => ∃ x : PutsY v pvs qs (halfT p u r qs), e = .returned x.1.1 ∧ Below w.heap.size w w' ∧ SaidOk w' x.1.2.2.1 x.1.2.2.2 ∧ ∀ b, x.1.2.2.2 b → w.heap.size ≤ b := by
  obtain ⟨f, hf⟩ : ∃ f, normT u r = f := ⟨_, rfl⟩
  have hbf : BdT f := hf ▸ norm_bd hr hx hy
  have hbf0 := hbf
  unfold BdT at hbf
  have hno := fun h => halfT_no (p := p) (qs := qs) hf h
  have hyes := fun h => halfT_yes (p := p) (qs := qs) hf h
  obtain ⟨Z, hZ⟩ : ∃ Z, halfT p u r qs = Z := ⟨_, rfl⟩
  rw [hZ] at hno hyes ⊢
  refine calls_said (args := [v, .agg #[.int .i64 p.x, .int .i64 p.y], .agg #[.int .i64 u.x, .int .i64 u.y], .int .i64 r]) (fun x : PutsY v pvs qs (Z) => x.1.1) (fun x w' => SaidOk w' x.1.2.2.1 x.1.2.2.2) (fun x b => x.1.2.2.2 b) Try.func24 rfl Try.ntmps24 Try.results24 rfl ?_
  refine v_seq ?_
  refine v_region ?_
  refine l_new rfl (o_box (cs := [_, _]) rfl rfl) fun b5 => ?_
  refine l_new rfl (o_box (cs := [_, _]) rfl rfl) fun b6 => ?_
  refine l_val rfl (o_assign rfl) ?_
  refine l_nil ?_
  refine kt_norm ?_
  refine v_seq ?_
  refine v_region ?_
  refine l_val rfl (o_loadW (key := 6) rfl rfl rfl) ?_
  refine l_val rfl (o_move rfl) ?_
  refine l_ans (vs := [_, _]) rfl rfl (a_nrm hr hx hy hf) ?_
  refine l_new rfl o_alloc fun b9 => ?_
  refine l_store rfl (o_storeW (key := 9) (xs := [_, _]) rfl rfl rfl rfl rfl rfl rfl) ?_
  refine l_nil ?_
  refine kt_norm ?_
  refine v_sel [0, 3, 5, 9] [5, 9] rfl rfl ?_
  refine v_seq ?_
  refine v_seq ?_
  refine v_region ?_
  refine l_val rfl (o_loadW (key := 9) rfl rfl rfl) ?_
  refine l_val rfl (o_build (vs := []) (cs := [_, _]) rfl rfl) ?_
  refine l_split rfl (o_eqs (xl := [_, _]) (yl := [_, _]) (az := [_, _]) (bz := [_, _]) rfl rfl rfl rfl rfl rfl) (fun hf0 => ?_) (fun hf0 => ?_)
  · simp only [List.map_cons, List.map_nil, List.cons.injEq, and_true] at hf0
    refine l_nil ?_
    refine kt_norm ?_
    refine v_condT rfl ?_
    refine v_seq ?_
    refine v_region ?_
    refine l_val rfl (o_move rfl) ?_
    refine l_val rfl (o_assign rfl) ?_
    refine l_nil ?_
    refine kt_norm ?_
    refine v_sel [8] [] rfl rfl ?_
    refine v_ret ?_
    refine kt_ret ?_
    refine ⟨[_], .cons (.tmp rfl) (ResAll.nil), ?_⟩
    first
      | exact ⟨⟨(v, pvs, fun _ => True, fun _ => False), (hno (by assumption)).symm ▸ hv, hcp, fun w2 h _ => (hno (by assumption)).symm ▸ h⟩, rfl, fun w' ho => ⟨⟨trivial, fun b hb => hb.elim, fun _ _ _ _ => trivial⟩, fun b hb => hb.elim⟩⟩
      | exact ⟨⟨xr.1, (hyes (by assumption)).symm ▸ xr.2⟩, rfl, fun w' ho => ⟨(ho.mo 28 _ rfl).1.1, fun b hb => ((ho.mo 28 _ rfl).2 b hb).elim id False.elim⟩⟩
  · simp only [List.map_cons, List.map_nil, List.cons.injEq, and_true] at hf0
    refine l_nil ?_
    refine kt_norm ?_
    refine v_condF rfl ?_
    refine v_skip ?_
    refine kt_norm ?_
    refine v_seq ?_
    refine v_region ?_
    refine l_val rfl (o_loadW (key := 9) rfl rfl rfl) ?_
    refine l_ans (vs := [_]) rfl rfl (a_Left _ _ ?_ ?_) ?_
    · omega
    · omega
    refine l_new rfl o_alloc fun b10 => ?_
    refine l_store rfl (o_storeW (key := 10) (xs := [_, _]) rfl rfl rfl rfl rfl rfl rfl) ?_
    refine l_nil ?_
    refine kt_norm ?_
    refine v_seq ?_
    refine v_drawW [(27, 3)] [[], [5], [], [10], [], [9], [10], []] mixed ?_ (by kernel_rfl) (by kernel_rfl)
    refine d_val (fun _ => rfl) rfl rfl (fun σ5 => o_move rfl) ?_
    refine d_val (fun _ => rfl) rfl rfl (fun σ5 => o_loadW (key := 5) rfl rfl rfl) ?_
    refine d_val (fun _ => rfl) rfl rfl (fun σ5 => o_move rfl) ?_
    refine d_val (fun _ => rfl) rfl rfl (fun σ5 => o_loadW (key := 10) rfl rfl rfl) ?_
    refine d_ans (vs := [_]) (fun _ => rfl) (fun _ => rfl) (a_Neg _ _ ?_ ?_) ?_
    · omega
    · omega
    refine d_val (fun _ => rfl) rfl rfl (fun σ5 => o_loadW (key := 9) rfl rfl rfl) ?_
    refine d_val (fun _ => rfl) rfl rfl (fun σ5 => o_loadW (key := 10) rfl rfl rfl) ?_
    refine d_bsO (n := 3) (vs := fun _ => [_, _, _]) (cs := fun _ => [_, _, _, _, _, _]) (fun _ => rfl) (fun _ => rfl) (fun _ => rfl) rfl rfl (fun _ => rfl) (fun _ => rfl) ?_
    refine d_nil (fun σ5 => ?_)
    refine l_hsaid (ks := [27]) (caps := #[]) (vs := [_, _, _, _]) (α := PutsY v pvs qs (piesT p r (halfC f) qs)) (fun x => x.1.1) (fun x w' => SaidOk w' x.1.2.2.1 x.1.2.2.2) (fun x b => x.1.2.2.2 b) rfl rfl (ent_of Try.func41 rfl rfl) rfl (fun x w1 w2 h hb => h.keep hb) (fun x w1 b h hb => h.2.1 b hb) (fun w' hg hh => a_pies w' _ pvs qs p r hv hcp (hat.keep hg) hql hp hr _ (halfC f) (by show 1 ≤ 3 ∧ 3 ≤ 8; omega) (.inl ⟨_, _, _, rfl⟩) (rowAt_own (hh 27 (by simp) _ rfl)) (half_bd hbf0)) fun xr => ?_
    refine l_val rfl (o_assign rfl) ?_
    refine l_nil ?_
    refine kt_norm ?_
    refine v_sel [8] [28] rfl rfl ?_
    refine v_ret ?_
    refine ⟨[_], .cons (.tmp rfl) (ResAll.nil), ?_⟩
    first
      | exact ⟨⟨(v, pvs, fun _ => True, fun _ => False), (hno (by assumption)).symm ▸ hv, hcp, fun w2 h _ => (hno (by assumption)).symm ▸ h⟩, rfl, fun w' ho => ⟨⟨trivial, fun b hb => hb.elim, fun _ _ _ _ => trivial⟩, fun b hb => hb.elim⟩⟩
      | exact ⟨⟨xr.1, (hyes (by assumption)).symm ▸ xr.2⟩, rfl, fun w' ho => ⟨(ho.mo 28 _ rfl).1.1, fun b hb => ((ho.mo 28 _ rfl).2 b hb).elim id False.elim⟩⟩
theorem a_Disc (w : World) (v : Value) (pvs : List Value) (qs : List (List PtT)) (p : PtT) (r : Int) (hv : PcsW v pvs qs) (hcp : Capd v) (hat : PcsAt w v pvs qs) (hql : qs.length ≤ 2000) (hp : (-536870912 ≤ p.x ∧ p.x ≤ 536870912) ∧ (-536870912 ≤ p.y ∧ p.y ≤ 536870912)) (hr : 1 ≤ r ∧ r ≤ 131072) : Calls Try.prog 15 #[v, .agg #[.int .i64 p.x, .int .i64 p.y], .int .i64 r] w fun e w' => ∃ x : PutsY v pvs qs (piesT p r (discC r) qs), e = .returned x.1.1 ∧ Below w.heap.size w w' ∧ SaidOk w' x.1.2.2.1 x.1.2.2.2 ∧ ∀ b, x.1.2.2.2 b → w.heap.size ≤ b := by
  refine calls_said (args := [v, .agg #[.int .i64 p.x, .int .i64 p.y], .int .i64 r]) (fun x : PutsY v pvs qs (piesT p r (discC r) qs) => x.1.1) (fun x w' => SaidOk w' x.1.2.2.1 x.1.2.2.2) (fun x b => x.1.2.2.2 b) Try.func15 rfl Try.ntmps15 Try.results15 rfl ?_
  refine v_seq ?_
  refine v_region ?_
  refine l_new rfl (o_box (cs := [_, _]) rfl rfl) fun b4 => ?_
  refine l_val rfl (o_assign rfl) ?_
  refine l_nil ?_
  refine kt_norm ?_
  refine v_seq ?_
  refine v_region ?_
  refine l_val rfl (o_move rfl) ?_
  refine l_val rfl (o_loadW (key := 4) rfl rfl rfl) ?_
  refine l_val rfl (o_move rfl) ?_
  refine l_val rfl (o_move rfl) ?_
  refine l_val rfl (o_build (vs := [_]) (cs := [_, _]) rfl rfl) ?_
  refine l_val rfl (o_move rfl) ?_
  refine l_val rfl (o_build (vs := [_]) (cs := [_, _]) rfl rfl) ?_
  refine l_val rfl (o_move rfl) ?_
  refine l_val rfl (o_negi rfl ?_) ?_
  · omega
  refine l_val rfl (o_build (vs := [_]) (cs := [_, _]) rfl rfl) ?_
  refine l_val rfl (o_move rfl) ?_
  refine l_val rfl (o_negi rfl ?_) ?_
  · omega
  refine l_val rfl (o_build (vs := [_]) (cs := [_, _]) rfl rfl) ?_
  refine l_val rfl (o_move rfl) ?_
  refine l_val rfl (o_build (vs := [_]) (cs := [_, _]) rfl rfl) ?_
  refine l_buildSlice (vs := [_, _, _, _, _]) (cs := [_, _, _, _, _, _, _, _, _, _]) rfl rfl rfl rfl rfl rfl fun v22 hv22 => ?_
  refine l_hsaid (ks := [22]) (caps := #[]) (vs := [_, _, _, _]) (α := PutsY v pvs qs (piesT p r (discC r) qs)) (fun x => x.1.1) (fun x w' => SaidOk w' x.1.2.2.1 x.1.2.2.2) (fun x b => x.1.2.2.2 b) rfl rfl (ent_of Try.func41 rfl rfl) rfl (fun x w1 w2 h hb => h.keep hb) (fun x w1 b h hb => h.2.1 b hb) (fun w' hg hh => a_pies w' _ pvs qs p r hv hcp (hat.keep hg) hql hp hr _ (discC r) (by show 1 ≤ 5 ∧ 5 ≤ 8; omega) hv22 (rowAt_own (hh 22 (by simp) _ rfl)) (disc_bd hr)) fun xr => ?_
  refine l_val rfl (o_assign rfl) ?_
  refine l_nil ?_
  refine kt_norm ?_
  refine v_sel [6] [22, 23] rfl rfl ?_
  refine v_ret ?_
  refine ⟨[_], .cons (.tmp rfl) (ResAll.nil), ?_⟩
  exact ⟨⟨xr.1, xr.2⟩, rfl, fun w' ho => ⟨(ho.mo 23 _ rfl).1.1, fun b hb => ((ho.mo 23 _ rfl).2 b hb).elim id False.elim⟩⟩
end Go.Proofs.Ytpgjbalnipinoaa

/- Two discs, in numbers. Conditions: none. -/
namespace Go.Proofs.Ytpgjbalnipinoaa
open Go.Proofs Go.RowKit Go.Shelf

theorem lenT_num {p : PtT} (k : Nat) (h0 : (k : Int) * k ≤ p.x * p.x + p.y * p.y) (h1 : p.x * p.x + p.y * p.y < ((k : Int) + 1) * (k + 1)) (h2 : p.x * p.x + p.y * p.y < 18446744073709551616) : lenT p = k := by
  unfold lenT
  obtain ⟨s, hs⟩ : ∃ s : Nat, p.x * p.x + p.y * p.y = (s : Int) := ⟨(p.x * p.x + p.y * p.y).toNat, by have := Int.mul_nonneg (Int.natCast_nonneg k) (Int.natCast_nonneg k); omega⟩
  rw [hs] at h0 h1 h2 ⊢
  rw [Int.toNat_natCast]
  have a0 : k * k ≤ s := by exact_mod_cast h0
  have a1 : s < (k + 1) * (k + 1) := by exact_mod_cast h1
  have a2 : s < 18446744073709551616 := by omega
  have b0 := le_isq a2 a0
  have b1 := isq_le a2 a1
  congr 1; omega
def numMid (r : Int) (u v m : PtT) (k : Nat) : Bool :=
  decide (0 < k) && decide ((k : Int) * k ≤ (u.x + v.x) * (u.x + v.x) + (u.y + v.y) * (u.y + v.y)) && decide ((u.x + v.x) * (u.x + v.x) + (u.y + v.y) * (u.y + v.y) < ((k : Int) + 1) * (k + 1)) && decide ((u.x + v.x) * (u.x + v.x) + (u.y + v.y) * (u.y + v.y) < 18446744073709551616)
    && decide (nearQ ((u.x + v.x) * r) k = m.x) && decide (nearQ ((u.y + v.y) * r) k = m.y) && decide (¬ (v.x - u.x) * (v.x - u.x) + (v.y - u.y) * (v.y - u.y) ≤ 128 * r) && decide (¬ (m.x = 0 ∧ m.y = 0)) && decide (¬ (m.x = u.x ∧ m.y = u.y)) && decide (¬ (m.x = v.x ∧ m.y = v.y))
theorem chords_num {r : Int} {d : Nat} {u v m : PtT} {L R : List (PtT × PtT)} (k : Nat) (h : numMid r u v m k = true) (hL : chordsT r d u m = L) (hR : chordsT r d m v = R) : chordsT r (d + 1) u v = L ++ R := by
  simp only [numMid, Bool.and_eq_true, decide_eq_true_eq] at h
  obtain ⟨⟨⟨⟨⟨⟨⟨⟨⟨h0, h1⟩, h2⟩, h3⟩, h4⟩, h5⟩, h6⟩, h7⟩, h8⟩, h9⟩ := h
  have hl := lenT_num (p := ⟨u.x + v.x, u.y + v.y⟩) k h1 h2 h3
  have hm : midT r u v = m := by
    unfold midT normT
    rw [hl, if_neg (by omega)]
    exact pt_ext ⟨h4, h5⟩
  rw [chords_go (fun hs => ?_), hm, hL, hR]
  rcases stop_not hm hs with h | h | h | h
  · exact h6 h
  · exact h7 h
  · exact h8 h
  · exact h9 h
theorem cq0aaa : chordsT 2560 3 ⟨2560, 0⟩ ⟨2511, 500⟩ = [(⟨2560, 0⟩, ⟨2511, 500⟩)] := chords_stop (.inl (by decide)) _
theorem cq0aab : chordsT 2560 3 ⟨2511, 500⟩ ⟨2365, 980⟩ = [(⟨2511, 500⟩, ⟨2365, 980⟩)] := chords_stop (.inl (by decide)) _
theorem cq0aa : chordsT 2560 4 ⟨2560, 0⟩ ⟨2365, 980⟩ = [(⟨2560, 0⟩, ⟨2511, 500⟩), (⟨2511, 500⟩, ⟨2365, 980⟩)] := chords_num (m := ⟨2511, 500⟩) 5021 (by decide +kernel) cq0aaa cq0aab
theorem cq0aba : chordsT 2560 3 ⟨2365, 980⟩ ⟨2129, 1423⟩ = [(⟨2365, 980⟩, ⟨2129, 1423⟩)] := chords_stop (.inl (by decide)) _
theorem cq0abb : chordsT 2560 3 ⟨2129, 1423⟩ ⟨1810, 1810⟩ = [(⟨2129, 1423⟩, ⟨1810, 1810⟩)] := chords_stop (.inl (by decide)) _
theorem cq0ab : chordsT 2560 4 ⟨2365, 980⟩ ⟨1810, 1810⟩ = [(⟨2365, 980⟩, ⟨2129, 1423⟩), (⟨2129, 1423⟩, ⟨1810, 1810⟩)] := chords_num (m := ⟨2129, 1423⟩) 5021 (by decide +kernel) cq0aba cq0abb
theorem cq0a : chordsT 2560 5 ⟨2560, 0⟩ ⟨1810, 1810⟩ = [(⟨2560, 0⟩, ⟨2511, 500⟩), (⟨2511, 500⟩, ⟨2365, 980⟩), (⟨2365, 980⟩, ⟨2129, 1423⟩), (⟨2129, 1423⟩, ⟨1810, 1810⟩)] := chords_num (m := ⟨2365, 980⟩) 4730 (by decide +kernel) cq0aa cq0ab
theorem cq0baa : chordsT 2560 3 ⟨1810, 1810⟩ ⟨1423, 2129⟩ = [(⟨1810, 1810⟩, ⟨1423, 2129⟩)] := chords_stop (.inl (by decide)) _
theorem cq0bab : chordsT 2560 3 ⟨1423, 2129⟩ ⟨980, 2365⟩ = [(⟨1423, 2129⟩, ⟨980, 2365⟩)] := chords_stop (.inl (by decide)) _
theorem cq0ba : chordsT 2560 4 ⟨1810, 1810⟩ ⟨980, 2365⟩ = [(⟨1810, 1810⟩, ⟨1423, 2129⟩), (⟨1423, 2129⟩, ⟨980, 2365⟩)] := chords_num (m := ⟨1423, 2129⟩) 5021 (by decide +kernel) cq0baa cq0bab
theorem cq0bba : chordsT 2560 3 ⟨980, 2365⟩ ⟨500, 2511⟩ = [(⟨980, 2365⟩, ⟨500, 2511⟩)] := chords_stop (.inl (by decide)) _
theorem cq0bbb : chordsT 2560 3 ⟨500, 2511⟩ ⟨0, 2560⟩ = [(⟨500, 2511⟩, ⟨0, 2560⟩)] := chords_stop (.inl (by decide)) _
theorem cq0bb : chordsT 2560 4 ⟨980, 2365⟩ ⟨0, 2560⟩ = [(⟨980, 2365⟩, ⟨500, 2511⟩), (⟨500, 2511⟩, ⟨0, 2560⟩)] := chords_num (m := ⟨500, 2511⟩) 5021 (by decide +kernel) cq0bba cq0bbb
theorem cq0b : chordsT 2560 5 ⟨1810, 1810⟩ ⟨0, 2560⟩ = [(⟨1810, 1810⟩, ⟨1423, 2129⟩), (⟨1423, 2129⟩, ⟨980, 2365⟩), (⟨980, 2365⟩, ⟨500, 2511⟩), (⟨500, 2511⟩, ⟨0, 2560⟩)] := chords_num (m := ⟨980, 2365⟩) 4730 (by decide +kernel) cq0ba cq0bb
theorem cq0 : chordsT 2560 6 ⟨2560, 0⟩ ⟨0, 2560⟩ = [(⟨2560, 0⟩, ⟨2511, 500⟩), (⟨2511, 500⟩, ⟨2365, 980⟩), (⟨2365, 980⟩, ⟨2129, 1423⟩), (⟨2129, 1423⟩, ⟨1810, 1810⟩), (⟨1810, 1810⟩, ⟨1423, 2129⟩), (⟨1423, 2129⟩, ⟨980, 2365⟩), (⟨980, 2365⟩, ⟨500, 2511⟩), (⟨500, 2511⟩, ⟨0, 2560⟩)] := chords_num (m := ⟨1810, 1810⟩) 3620 (by decide +kernel) cq0a cq0b
theorem cq1aaa : chordsT 2560 3 ⟨0, 2560⟩ ⟨(-500), 2511⟩ = [(⟨0, 2560⟩, ⟨(-500), 2511⟩)] := chords_stop (.inl (by decide)) _
theorem cq1aab : chordsT 2560 3 ⟨(-500), 2511⟩ ⟨(-980), 2365⟩ = [(⟨(-500), 2511⟩, ⟨(-980), 2365⟩)] := chords_stop (.inl (by decide)) _
theorem cq1aa : chordsT 2560 4 ⟨0, 2560⟩ ⟨(-980), 2365⟩ = [(⟨0, 2560⟩, ⟨(-500), 2511⟩), (⟨(-500), 2511⟩, ⟨(-980), 2365⟩)] := chords_num (m := ⟨(-500), 2511⟩) 5021 (by decide +kernel) cq1aaa cq1aab
theorem cq1aba : chordsT 2560 3 ⟨(-980), 2365⟩ ⟨(-1423), 2129⟩ = [(⟨(-980), 2365⟩, ⟨(-1423), 2129⟩)] := chords_stop (.inl (by decide)) _
theorem cq1abb : chordsT 2560 3 ⟨(-1423), 2129⟩ ⟨(-1810), 1810⟩ = [(⟨(-1423), 2129⟩, ⟨(-1810), 1810⟩)] := chords_stop (.inl (by decide)) _
theorem cq1ab : chordsT 2560 4 ⟨(-980), 2365⟩ ⟨(-1810), 1810⟩ = [(⟨(-980), 2365⟩, ⟨(-1423), 2129⟩), (⟨(-1423), 2129⟩, ⟨(-1810), 1810⟩)] := chords_num (m := ⟨(-1423), 2129⟩) 5021 (by decide +kernel) cq1aba cq1abb
theorem cq1a : chordsT 2560 5 ⟨0, 2560⟩ ⟨(-1810), 1810⟩ = [(⟨0, 2560⟩, ⟨(-500), 2511⟩), (⟨(-500), 2511⟩, ⟨(-980), 2365⟩), (⟨(-980), 2365⟩, ⟨(-1423), 2129⟩), (⟨(-1423), 2129⟩, ⟨(-1810), 1810⟩)] := chords_num (m := ⟨(-980), 2365⟩) 4730 (by decide +kernel) cq1aa cq1ab
theorem cq1baa : chordsT 2560 3 ⟨(-1810), 1810⟩ ⟨(-2129), 1423⟩ = [(⟨(-1810), 1810⟩, ⟨(-2129), 1423⟩)] := chords_stop (.inl (by decide)) _
theorem cq1bab : chordsT 2560 3 ⟨(-2129), 1423⟩ ⟨(-2365), 980⟩ = [(⟨(-2129), 1423⟩, ⟨(-2365), 980⟩)] := chords_stop (.inl (by decide)) _
theorem cq1ba : chordsT 2560 4 ⟨(-1810), 1810⟩ ⟨(-2365), 980⟩ = [(⟨(-1810), 1810⟩, ⟨(-2129), 1423⟩), (⟨(-2129), 1423⟩, ⟨(-2365), 980⟩)] := chords_num (m := ⟨(-2129), 1423⟩) 5021 (by decide +kernel) cq1baa cq1bab
theorem cq1bba : chordsT 2560 3 ⟨(-2365), 980⟩ ⟨(-2511), 500⟩ = [(⟨(-2365), 980⟩, ⟨(-2511), 500⟩)] := chords_stop (.inl (by decide)) _
theorem cq1bbb : chordsT 2560 3 ⟨(-2511), 500⟩ ⟨(-2560), 0⟩ = [(⟨(-2511), 500⟩, ⟨(-2560), 0⟩)] := chords_stop (.inl (by decide)) _
theorem cq1bb : chordsT 2560 4 ⟨(-2365), 980⟩ ⟨(-2560), 0⟩ = [(⟨(-2365), 980⟩, ⟨(-2511), 500⟩), (⟨(-2511), 500⟩, ⟨(-2560), 0⟩)] := chords_num (m := ⟨(-2511), 500⟩) 5021 (by decide +kernel) cq1bba cq1bbb
theorem cq1b : chordsT 2560 5 ⟨(-1810), 1810⟩ ⟨(-2560), 0⟩ = [(⟨(-1810), 1810⟩, ⟨(-2129), 1423⟩), (⟨(-2129), 1423⟩, ⟨(-2365), 980⟩), (⟨(-2365), 980⟩, ⟨(-2511), 500⟩), (⟨(-2511), 500⟩, ⟨(-2560), 0⟩)] := chords_num (m := ⟨(-2365), 980⟩) 4730 (by decide +kernel) cq1ba cq1bb
theorem cq1 : chordsT 2560 6 ⟨0, 2560⟩ ⟨(-2560), 0⟩ = [(⟨0, 2560⟩, ⟨(-500), 2511⟩), (⟨(-500), 2511⟩, ⟨(-980), 2365⟩), (⟨(-980), 2365⟩, ⟨(-1423), 2129⟩), (⟨(-1423), 2129⟩, ⟨(-1810), 1810⟩), (⟨(-1810), 1810⟩, ⟨(-2129), 1423⟩), (⟨(-2129), 1423⟩, ⟨(-2365), 980⟩), (⟨(-2365), 980⟩, ⟨(-2511), 500⟩), (⟨(-2511), 500⟩, ⟨(-2560), 0⟩)] := chords_num (m := ⟨(-1810), 1810⟩) 3620 (by decide +kernel) cq1a cq1b
theorem cq2aaa : chordsT 2560 3 ⟨(-2560), 0⟩ ⟨(-2511), (-500)⟩ = [(⟨(-2560), 0⟩, ⟨(-2511), (-500)⟩)] := chords_stop (.inl (by decide)) _
theorem cq2aab : chordsT 2560 3 ⟨(-2511), (-500)⟩ ⟨(-2365), (-980)⟩ = [(⟨(-2511), (-500)⟩, ⟨(-2365), (-980)⟩)] := chords_stop (.inl (by decide)) _
theorem cq2aa : chordsT 2560 4 ⟨(-2560), 0⟩ ⟨(-2365), (-980)⟩ = [(⟨(-2560), 0⟩, ⟨(-2511), (-500)⟩), (⟨(-2511), (-500)⟩, ⟨(-2365), (-980)⟩)] := chords_num (m := ⟨(-2511), (-500)⟩) 5021 (by decide +kernel) cq2aaa cq2aab
theorem cq2aba : chordsT 2560 3 ⟨(-2365), (-980)⟩ ⟨(-2129), (-1423)⟩ = [(⟨(-2365), (-980)⟩, ⟨(-2129), (-1423)⟩)] := chords_stop (.inl (by decide)) _
theorem cq2abb : chordsT 2560 3 ⟨(-2129), (-1423)⟩ ⟨(-1810), (-1810)⟩ = [(⟨(-2129), (-1423)⟩, ⟨(-1810), (-1810)⟩)] := chords_stop (.inl (by decide)) _
theorem cq2ab : chordsT 2560 4 ⟨(-2365), (-980)⟩ ⟨(-1810), (-1810)⟩ = [(⟨(-2365), (-980)⟩, ⟨(-2129), (-1423)⟩), (⟨(-2129), (-1423)⟩, ⟨(-1810), (-1810)⟩)] := chords_num (m := ⟨(-2129), (-1423)⟩) 5021 (by decide +kernel) cq2aba cq2abb
theorem cq2a : chordsT 2560 5 ⟨(-2560), 0⟩ ⟨(-1810), (-1810)⟩ = [(⟨(-2560), 0⟩, ⟨(-2511), (-500)⟩), (⟨(-2511), (-500)⟩, ⟨(-2365), (-980)⟩), (⟨(-2365), (-980)⟩, ⟨(-2129), (-1423)⟩), (⟨(-2129), (-1423)⟩, ⟨(-1810), (-1810)⟩)] := chords_num (m := ⟨(-2365), (-980)⟩) 4730 (by decide +kernel) cq2aa cq2ab
theorem cq2baa : chordsT 2560 3 ⟨(-1810), (-1810)⟩ ⟨(-1423), (-2129)⟩ = [(⟨(-1810), (-1810)⟩, ⟨(-1423), (-2129)⟩)] := chords_stop (.inl (by decide)) _
theorem cq2bab : chordsT 2560 3 ⟨(-1423), (-2129)⟩ ⟨(-980), (-2365)⟩ = [(⟨(-1423), (-2129)⟩, ⟨(-980), (-2365)⟩)] := chords_stop (.inl (by decide)) _
theorem cq2ba : chordsT 2560 4 ⟨(-1810), (-1810)⟩ ⟨(-980), (-2365)⟩ = [(⟨(-1810), (-1810)⟩, ⟨(-1423), (-2129)⟩), (⟨(-1423), (-2129)⟩, ⟨(-980), (-2365)⟩)] := chords_num (m := ⟨(-1423), (-2129)⟩) 5021 (by decide +kernel) cq2baa cq2bab
theorem cq2bba : chordsT 2560 3 ⟨(-980), (-2365)⟩ ⟨(-500), (-2511)⟩ = [(⟨(-980), (-2365)⟩, ⟨(-500), (-2511)⟩)] := chords_stop (.inl (by decide)) _
theorem cq2bbb : chordsT 2560 3 ⟨(-500), (-2511)⟩ ⟨0, (-2560)⟩ = [(⟨(-500), (-2511)⟩, ⟨0, (-2560)⟩)] := chords_stop (.inl (by decide)) _
theorem cq2bb : chordsT 2560 4 ⟨(-980), (-2365)⟩ ⟨0, (-2560)⟩ = [(⟨(-980), (-2365)⟩, ⟨(-500), (-2511)⟩), (⟨(-500), (-2511)⟩, ⟨0, (-2560)⟩)] := chords_num (m := ⟨(-500), (-2511)⟩) 5021 (by decide +kernel) cq2bba cq2bbb
theorem cq2b : chordsT 2560 5 ⟨(-1810), (-1810)⟩ ⟨0, (-2560)⟩ = [(⟨(-1810), (-1810)⟩, ⟨(-1423), (-2129)⟩), (⟨(-1423), (-2129)⟩, ⟨(-980), (-2365)⟩), (⟨(-980), (-2365)⟩, ⟨(-500), (-2511)⟩), (⟨(-500), (-2511)⟩, ⟨0, (-2560)⟩)] := chords_num (m := ⟨(-980), (-2365)⟩) 4730 (by decide +kernel) cq2ba cq2bb
theorem cq2 : chordsT 2560 6 ⟨(-2560), 0⟩ ⟨0, (-2560)⟩ = [(⟨(-2560), 0⟩, ⟨(-2511), (-500)⟩), (⟨(-2511), (-500)⟩, ⟨(-2365), (-980)⟩), (⟨(-2365), (-980)⟩, ⟨(-2129), (-1423)⟩), (⟨(-2129), (-1423)⟩, ⟨(-1810), (-1810)⟩), (⟨(-1810), (-1810)⟩, ⟨(-1423), (-2129)⟩), (⟨(-1423), (-2129)⟩, ⟨(-980), (-2365)⟩), (⟨(-980), (-2365)⟩, ⟨(-500), (-2511)⟩), (⟨(-500), (-2511)⟩, ⟨0, (-2560)⟩)] := chords_num (m := ⟨(-1810), (-1810)⟩) 3620 (by decide +kernel) cq2a cq2b
theorem cq3aaa : chordsT 2560 3 ⟨0, (-2560)⟩ ⟨500, (-2511)⟩ = [(⟨0, (-2560)⟩, ⟨500, (-2511)⟩)] := chords_stop (.inl (by decide)) _
theorem cq3aab : chordsT 2560 3 ⟨500, (-2511)⟩ ⟨980, (-2365)⟩ = [(⟨500, (-2511)⟩, ⟨980, (-2365)⟩)] := chords_stop (.inl (by decide)) _
theorem cq3aa : chordsT 2560 4 ⟨0, (-2560)⟩ ⟨980, (-2365)⟩ = [(⟨0, (-2560)⟩, ⟨500, (-2511)⟩), (⟨500, (-2511)⟩, ⟨980, (-2365)⟩)] := chords_num (m := ⟨500, (-2511)⟩) 5021 (by decide +kernel) cq3aaa cq3aab
theorem cq3aba : chordsT 2560 3 ⟨980, (-2365)⟩ ⟨1423, (-2129)⟩ = [(⟨980, (-2365)⟩, ⟨1423, (-2129)⟩)] := chords_stop (.inl (by decide)) _
theorem cq3abb : chordsT 2560 3 ⟨1423, (-2129)⟩ ⟨1810, (-1810)⟩ = [(⟨1423, (-2129)⟩, ⟨1810, (-1810)⟩)] := chords_stop (.inl (by decide)) _
theorem cq3ab : chordsT 2560 4 ⟨980, (-2365)⟩ ⟨1810, (-1810)⟩ = [(⟨980, (-2365)⟩, ⟨1423, (-2129)⟩), (⟨1423, (-2129)⟩, ⟨1810, (-1810)⟩)] := chords_num (m := ⟨1423, (-2129)⟩) 5021 (by decide +kernel) cq3aba cq3abb
theorem cq3a : chordsT 2560 5 ⟨0, (-2560)⟩ ⟨1810, (-1810)⟩ = [(⟨0, (-2560)⟩, ⟨500, (-2511)⟩), (⟨500, (-2511)⟩, ⟨980, (-2365)⟩), (⟨980, (-2365)⟩, ⟨1423, (-2129)⟩), (⟨1423, (-2129)⟩, ⟨1810, (-1810)⟩)] := chords_num (m := ⟨980, (-2365)⟩) 4730 (by decide +kernel) cq3aa cq3ab
theorem cq3baa : chordsT 2560 3 ⟨1810, (-1810)⟩ ⟨2129, (-1423)⟩ = [(⟨1810, (-1810)⟩, ⟨2129, (-1423)⟩)] := chords_stop (.inl (by decide)) _
theorem cq3bab : chordsT 2560 3 ⟨2129, (-1423)⟩ ⟨2365, (-980)⟩ = [(⟨2129, (-1423)⟩, ⟨2365, (-980)⟩)] := chords_stop (.inl (by decide)) _
theorem cq3ba : chordsT 2560 4 ⟨1810, (-1810)⟩ ⟨2365, (-980)⟩ = [(⟨1810, (-1810)⟩, ⟨2129, (-1423)⟩), (⟨2129, (-1423)⟩, ⟨2365, (-980)⟩)] := chords_num (m := ⟨2129, (-1423)⟩) 5021 (by decide +kernel) cq3baa cq3bab
theorem cq3bba : chordsT 2560 3 ⟨2365, (-980)⟩ ⟨2511, (-500)⟩ = [(⟨2365, (-980)⟩, ⟨2511, (-500)⟩)] := chords_stop (.inl (by decide)) _
theorem cq3bbb : chordsT 2560 3 ⟨2511, (-500)⟩ ⟨2560, 0⟩ = [(⟨2511, (-500)⟩, ⟨2560, 0⟩)] := chords_stop (.inl (by decide)) _
theorem cq3bb : chordsT 2560 4 ⟨2365, (-980)⟩ ⟨2560, 0⟩ = [(⟨2365, (-980)⟩, ⟨2511, (-500)⟩), (⟨2511, (-500)⟩, ⟨2560, 0⟩)] := chords_num (m := ⟨2511, (-500)⟩) 5021 (by decide +kernel) cq3bba cq3bbb
theorem cq3b : chordsT 2560 5 ⟨1810, (-1810)⟩ ⟨2560, 0⟩ = [(⟨1810, (-1810)⟩, ⟨2129, (-1423)⟩), (⟨2129, (-1423)⟩, ⟨2365, (-980)⟩), (⟨2365, (-980)⟩, ⟨2511, (-500)⟩), (⟨2511, (-500)⟩, ⟨2560, 0⟩)] := chords_num (m := ⟨2365, (-980)⟩) 4730 (by decide +kernel) cq3ba cq3bb
theorem cq3 : chordsT 2560 6 ⟨0, (-2560)⟩ ⟨2560, 0⟩ = [(⟨0, (-2560)⟩, ⟨500, (-2511)⟩), (⟨500, (-2511)⟩, ⟨980, (-2365)⟩), (⟨980, (-2365)⟩, ⟨1423, (-2129)⟩), (⟨1423, (-2129)⟩, ⟨1810, (-1810)⟩), (⟨1810, (-1810)⟩, ⟨2129, (-1423)⟩), (⟨2129, (-1423)⟩, ⟨2365, (-980)⟩), (⟨2365, (-980)⟩, ⟨2511, (-500)⟩), (⟨2511, (-500)⟩, ⟨2560, 0⟩)] := chords_num (m := ⟨1810, (-1810)⟩) 3620 (by decide +kernel) cq3a cq3b
def disc2560 : List (PtT × PtT) := [(⟨2560, 0⟩, ⟨2511, 500⟩), (⟨2511, 500⟩, ⟨2365, 980⟩), (⟨2365, 980⟩, ⟨2129, 1423⟩), (⟨2129, 1423⟩, ⟨1810, 1810⟩), (⟨1810, 1810⟩, ⟨1423, 2129⟩), (⟨1423, 2129⟩, ⟨980, 2365⟩), (⟨980, 2365⟩, ⟨500, 2511⟩), (⟨500, 2511⟩, ⟨0, 2560⟩), (⟨0, 2560⟩, ⟨(-500), 2511⟩), (⟨(-500), 2511⟩, ⟨(-980), 2365⟩), (⟨(-980), 2365⟩, ⟨(-1423), 2129⟩), (⟨(-1423), 2129⟩, ⟨(-1810), 1810⟩), (⟨(-1810), 1810⟩, ⟨(-2129), 1423⟩), (⟨(-2129), 1423⟩, ⟨(-2365), 980⟩), (⟨(-2365), 980⟩, ⟨(-2511), 500⟩), (⟨(-2511), 500⟩, ⟨(-2560), 0⟩), (⟨(-2560), 0⟩, ⟨(-2511), (-500)⟩), (⟨(-2511), (-500)⟩, ⟨(-2365), (-980)⟩), (⟨(-2365), (-980)⟩, ⟨(-2129), (-1423)⟩), (⟨(-2129), (-1423)⟩, ⟨(-1810), (-1810)⟩), (⟨(-1810), (-1810)⟩, ⟨(-1423), (-2129)⟩), (⟨(-1423), (-2129)⟩, ⟨(-980), (-2365)⟩), (⟨(-980), (-2365)⟩, ⟨(-500), (-2511)⟩), (⟨(-500), (-2511)⟩, ⟨0, (-2560)⟩), (⟨0, (-2560)⟩, ⟨500, (-2511)⟩), (⟨500, (-2511)⟩, ⟨980, (-2365)⟩), (⟨980, (-2365)⟩, ⟨1423, (-2129)⟩), (⟨1423, (-2129)⟩, ⟨1810, (-1810)⟩), (⟨1810, (-1810)⟩, ⟨2129, (-1423)⟩), (⟨2129, (-1423)⟩, ⟨2365, (-980)⟩), (⟨2365, (-980)⟩, ⟨2511, (-500)⟩), (⟨2511, (-500)⟩, ⟨2560, 0⟩)]
theorem disc_big : arcsK 2560 (discC 2560) 4 = disc2560 := by
  show (([] ++ chordsT 2560 6 ⟨2560, 0⟩ ⟨0, 2560⟩) ++ chordsT 2560 6 ⟨0, 2560⟩ ⟨-2560, 0⟩) ++ chordsT 2560 6 ⟨-2560, 0⟩ ⟨0, -2560⟩ ++ chordsT 2560 6 ⟨0, -2560⟩ ⟨2560, 0⟩ = _
  rw [cq0, cq1, cq2, cq3]; rfl
theorem disc_one : arcsK 1 (discC 1) 4 = [(⟨1, 0⟩, ⟨0, 1⟩), (⟨0, 1⟩, ⟨-1, 0⟩), (⟨-1, 0⟩, ⟨0, -1⟩), (⟨0, -1⟩, ⟨1, 0⟩)] := by
  show (([] ++ chordsT 1 6 ⟨1, 0⟩ ⟨0, 1⟩) ++ chordsT 1 6 ⟨0, 1⟩ ⟨-1, 0⟩) ++ chordsT 1 6 ⟨-1, 0⟩ ⟨0, -1⟩ ++ chordsT 1 6 ⟨0, -1⟩ ⟨1, 0⟩ = _
  rw [chords_stop (.inl (by decide)), chords_stop (.inl (by decide)), chords_stop (.inl (by decide)), chords_stop (.inl (by decide))]; rfl
theorem piesT_one : piesT ⟨5, 5⟩ 1 (discC 1) [] = [[⟨5, 5⟩, ⟨6, 5⟩, ⟨5, 6⟩], [⟨5, 5⟩, ⟨5, 6⟩, ⟨4, 5⟩], [⟨5, 5⟩, ⟨4, 5⟩, ⟨5, 4⟩], [⟨5, 5⟩, ⟨5, 4⟩, ⟨6, 5⟩]] := by
  show (arcsK 1 (discC 1) 4).foldl _ _ = _
  rw [disc_one]; decide +kernel
theorem piesT_big : 8 < (piesT ⟨0, 0⟩ 2560 (discC 2560) []).length ∧ ∃ q, (piesT ⟨0, 0⟩ 2560 (discC 2560) []).getD 0 [] = q ∧ q.length = 3 ∧ 0 < areaT q ∧ ∀ p ∈ q, NearT p := by
  show 8 < ((arcsK 2560 (discC 2560) 4).foldl (pieT ⟨0, 0⟩) []).length ∧ ∃ q, ((arcsK 2560 (discC 2560) 4).foldl (pieT ⟨0, 0⟩) []).getD 0 [] = q ∧ _
  rw [disc_big]
  exact ⟨by decide +kernel, [⟨0, 0⟩, ⟨2560, 0⟩, ⟨2511, 500⟩], by decide +kernel, rfl, by decide +kernel, by decide +kernel⟩
end Go.Proofs.Ytpgjbalnipinoaa

/- What is shown; where an arc ends. Conditions: none. -/
namespace Go.Proofs.Ytpgjbalnipinoaa
open Go.Proofs Go.RowKit Go.Shelf

theorem a_within (p : PtT) (n : Int) (hn : 0 ≤ n ∧ n ≤ 1099511627776) : Ans Try.prog 13 [.agg #[.int .i64 p.x, .int .i64 p.y], .int .i64 n] (.bool (decide ((-n ≤ p.x ∧ p.x ≤ n) ∧ (-n ≤ p.y ∧ p.y ≤ n)))) := by
  refine ans_of Try.func13 rfl Try.ntmps13 Try.results13 rfl rfl fun w => ?_
  refine v_seq ?_
  refine v_region ?_
  refine l_new rfl (o_box (cs := [_, _]) rfl rfl) fun b2 => ?_
  refine l_val rfl (o_assign rfl) ?_
  refine l_nil ?_
  refine kt_norm ?_
  refine v_seq ?_
  refine v_region ?_
  refine l_val rfl (o_fld rfl) ?_
  refine l_val rfl (o_load1 (key := 2) rfl rfl rfl) ?_
  refine l_val rfl (o_move rfl) ?_
  refine l_val rfl (o_negi rfl ?_) ?_
  · omega
  refine l_split rfl (o_geq rfl rfl) (fun q1 => ?_) (fun q1 => ?_)
  · first
    | (exfalso; omega; done)
    | (
        refine l_val rfl (o_move rfl) ?_
        refine l_val rfl (o_fld rfl) ?_
        refine l_val rfl (o_load1 (key := 2) rfl rfl rfl) ?_
        refine l_val rfl (o_move rfl) ?_
        refine l_split rfl (o_leq rfl rfl) (fun q2 => ?_) (fun q2 => ?_)
        · first
          | (exfalso; omega; done)
          | (
              refine l_val rfl (o_pickT rfl rfl) ?_
              refine l_val rfl (o_move rfl) ?_
              refine l_val rfl (o_fld rfl) ?_
              refine l_val rfl (o_load1 (key := 2) rfl rfl rfl) ?_
              refine l_val rfl (o_move rfl) ?_
              refine l_val rfl (o_negi rfl ?_) ?_
              · omega
              refine l_split rfl (o_geq rfl rfl) (fun q3 => ?_) (fun q3 => ?_)
              · first
                | (exfalso; omega; done)
                | (
                    refine l_val rfl (o_pickT rfl rfl) ?_
                    refine l_val rfl (o_move rfl) ?_
                    refine l_val rfl (o_fld rfl) ?_
                    refine l_val rfl (o_load1 (key := 2) rfl rfl rfl) ?_
                    refine l_val rfl (o_move rfl) ?_
                    refine l_split rfl (o_leq rfl rfl) (fun q4 => ?_) (fun q4 => ?_)
                    · first
                      | (exfalso; omega; done)
                      | (
                          refine l_val rfl (o_pickT rfl rfl) ?_
                          refine l_val rfl (o_assign rfl) ?_
                          refine l_nil ?_
                          refine kt_norm ?_
                          refine v_sel [4] [] rfl rfl ?_
                          refine v_ret ?_
                          refine ⟨[_], .cons (.tmp rfl) (ResAll.nil), ?_⟩
                          exact congrArg Value.bool (by first | exact (decide_eq_true (by omega)).symm | exact (decide_eq_false (by omega)).symm))
                    · first
                      | (exfalso; omega; done)
                      | (
                          refine l_val rfl (o_pickT rfl rfl) ?_
                          refine l_val rfl (o_assign rfl) ?_
                          refine l_nil ?_
                          refine kt_norm ?_
                          refine v_sel [4] [] rfl rfl ?_
                          refine v_ret ?_
                          refine ⟨[_], .cons (.tmp rfl) (ResAll.nil), ?_⟩
                          exact congrArg Value.bool (by first | exact (decide_eq_true (by omega)).symm | exact (decide_eq_false (by omega)).symm)))
              · first
                | (exfalso; omega; done)
                | (
                    refine l_val rfl (o_pickT rfl rfl) ?_
                    refine l_val rfl (o_move rfl) ?_
                    refine l_no rfl ?_
                    refine l_no rfl ?_
                    refine l_no rfl ?_
                    refine l_no rfl ?_
                    refine l_val rfl (o_pickF rfl rfl) ?_
                    refine l_val rfl (o_assign rfl) ?_
                    refine l_nil ?_
                    refine kt_norm ?_
                    refine v_sel [4] [] rfl rfl ?_
                    refine v_ret ?_
                    refine ⟨[_], .cons (.tmp rfl) (ResAll.nil), ?_⟩
                    exact congrArg Value.bool (by first | exact (decide_eq_true (by omega)).symm | exact (decide_eq_false (by omega)).symm)))
        · first
          | (exfalso; omega; done)
          | (
              refine l_val rfl (o_pickT rfl rfl) ?_
              refine l_val rfl (o_move rfl) ?_
              refine l_no rfl ?_
              refine l_no rfl ?_
              refine l_no rfl ?_
              refine l_no rfl ?_
              refine l_no rfl ?_
              refine l_val rfl (o_pickF rfl rfl) ?_
              refine l_val rfl (o_move rfl) ?_
              refine l_no rfl ?_
              refine l_no rfl ?_
              refine l_no rfl ?_
              refine l_no rfl ?_
              refine l_val rfl (o_pickF rfl rfl) ?_
              refine l_val rfl (o_assign rfl) ?_
              refine l_nil ?_
              refine kt_norm ?_
              refine v_sel [4] [] rfl rfl ?_
              refine v_ret ?_
              refine ⟨[_], .cons (.tmp rfl) (ResAll.nil), ?_⟩
              exact congrArg Value.bool (by first | exact (decide_eq_true (by omega)).symm | exact (decide_eq_false (by omega)).symm)))
  · first
    | (exfalso; omega; done)
    | (
        refine l_val rfl (o_move rfl) ?_
        refine l_no rfl ?_
        refine l_no rfl ?_
        refine l_no rfl ?_
        refine l_no rfl ?_
        refine l_val rfl (o_pickF rfl rfl) ?_
        refine l_val rfl (o_move rfl) ?_
        refine l_no rfl ?_
        refine l_no rfl ?_
        refine l_no rfl ?_
        refine l_no rfl ?_
        refine l_no rfl ?_
        refine l_val rfl (o_pickF rfl rfl) ?_
        refine l_val rfl (o_move rfl) ?_
        refine l_no rfl ?_
        refine l_no rfl ?_
        refine l_no rfl ?_
        refine l_no rfl ?_
        refine l_val rfl (o_pickF rfl rfl) ?_
        refine l_val rfl (o_assign rfl) ?_
        refine l_nil ?_
        refine kt_norm ?_
        refine v_sel [4] [] rfl rfl ?_
        refine v_ret ?_
        refine ⟨[_], .cons (.tmp rfl) (ResAll.nil), ?_⟩
        exact congrArg Value.bool (by first | exact (decide_eq_true (by omega)).symm | exact (decide_eq_false (by omega)).symm))
def GoodT (p u v : PtT) (r : Int) : Prop := ((-536870912 ≤ p.x ∧ p.x ≤ 536870912) ∧ (-536870912 ≤ p.y ∧ p.y ≤ 536870912)) ∧ ((-262144 ≤ u.x ∧ u.x ≤ 262144) ∧ (-262144 ≤ u.y ∧ u.y ≤ 262144)) ∧ ((-262144 ≤ v.x ∧ v.x ≤ 262144) ∧ (-262144 ≤ v.y ∧ v.y ≤ 262144)) ∧ 1 ≤ r ∧ r ≤ 131072
instance (p u v : PtT) (r : Int) : Decidable (GoodT p u v r) := by unfold GoodT; infer_instance
theorem a_good (p u v : PtT) (r : Int) : Ans Try.prog 19 [.agg #[.int .i64 p.x, .int .i64 p.y], .agg #[.int .i64 u.x, .int .i64 u.y], .agg #[.int .i64 v.x, .int .i64 v.y], .int .i64 r] (.bool (decide (GoodT p u v r))) := by
  refine ans_of Try.func19 rfl Try.ntmps19 Try.results19 rfl rfl fun w => ?_
  refine v_seq ?_
  refine v_region ?_
  refine l_new rfl (o_box (cs := [_, _]) rfl rfl) fun b4 => ?_
  refine l_new rfl (o_box (cs := [_, _]) rfl rfl) fun b5 => ?_
  refine l_new rfl (o_box (cs := [_, _]) rfl rfl) fun b6 => ?_
  refine l_val rfl (o_assign rfl) ?_
  refine l_nil ?_
  refine kt_norm ?_
  refine v_seq ?_
  refine v_region ?_
  refine l_val rfl (o_loadW (key := 4) rfl rfl rfl) ?_
  refine l_ans (vs := [_, _]) rfl rfl (a_within p 536870912 (by omega)) ?_
  refine lz_bool (fun q1 => ?_) (fun q1 => ?_)
  · skip
    refine l_val rfl (o_move rfl) ?_
    refine l_val rfl (o_loadW (key := 5) rfl rfl rfl) ?_
    refine l_ans (vs := [_, _]) rfl rfl (a_within u 262144 (by omega)) ?_
    refine lz_bool (fun q2 => ?_) (fun q2 => ?_)
    · skip
      refine l_val rfl (o_pickT rfl rfl) ?_
      refine l_val rfl (o_move rfl) ?_
      refine l_val rfl (o_loadW (key := 6) rfl rfl rfl) ?_
      refine l_ans (vs := [_, _]) rfl rfl (a_within v 262144 (by omega)) ?_
      refine lz_bool (fun q3 => ?_) (fun q3 => ?_)
      · skip
        refine l_val rfl (o_pickT rfl rfl) ?_
        refine l_val rfl (o_move rfl) ?_
        refine l_val rfl (o_move rfl) ?_
        refine l_split rfl (o_geq rfl rfl) (fun q4 => ?_) (fun q4 => ?_)
        · skip
          refine l_val rfl (o_pickT rfl rfl) ?_
          refine l_val rfl (o_move rfl) ?_
          refine l_val rfl (o_move rfl) ?_
          refine l_split rfl (o_leq rfl rfl) (fun q5 => ?_) (fun q5 => ?_)
          · skip
            refine l_val rfl (o_pickT rfl rfl) ?_
            refine l_val rfl (o_assign rfl) ?_
            refine l_nil ?_
            refine kt_norm ?_
            refine v_sel [8] [] rfl rfl ?_
            refine v_ret ?_
            refine ⟨[_], .cons (.tmp rfl) (ResAll.nil), ?_⟩
            first
              | exact congrArg Value.bool (decide_eq_true (show GoodT p u v r by unfold GoodT; omega)).symm
              | exact congrArg Value.bool (decide_eq_false (fun h : GoodT p u v r => by unfold GoodT at h; omega)).symm
          · skip
            refine l_val rfl (o_pickT rfl rfl) ?_
            refine l_val rfl (o_assign rfl) ?_
            refine l_nil ?_
            refine kt_norm ?_
            refine v_sel [8] [] rfl rfl ?_
            refine v_ret ?_
            refine ⟨[_], .cons (.tmp rfl) (ResAll.nil), ?_⟩
            first
              | exact congrArg Value.bool (decide_eq_true (show GoodT p u v r by unfold GoodT; omega)).symm
              | exact congrArg Value.bool (decide_eq_false (fun h : GoodT p u v r => by unfold GoodT at h; omega)).symm
        · skip
          refine l_val rfl (o_pickT rfl rfl) ?_
          refine l_val rfl (o_move rfl) ?_
          refine l_no rfl ?_
          refine l_no rfl ?_
          refine l_val rfl (o_pickF rfl rfl) ?_
          refine l_val rfl (o_assign rfl) ?_
          refine l_nil ?_
          refine kt_norm ?_
          refine v_sel [8] [] rfl rfl ?_
          refine v_ret ?_
          refine ⟨[_], .cons (.tmp rfl) (ResAll.nil), ?_⟩
          first
            | exact congrArg Value.bool (decide_eq_true (show GoodT p u v r by unfold GoodT; omega)).symm
            | exact congrArg Value.bool (decide_eq_false (fun h : GoodT p u v r => by unfold GoodT at h; omega)).symm
      · skip
        refine l_val rfl (o_pickT rfl rfl) ?_
        refine l_val rfl (o_move rfl) ?_
        refine l_no rfl ?_
        refine l_no rfl ?_
        refine l_val rfl (o_pickF rfl rfl) ?_
        refine l_val rfl (o_move rfl) ?_
        refine l_no rfl ?_
        refine l_no rfl ?_
        refine l_val rfl (o_pickF rfl rfl) ?_
        refine l_val rfl (o_assign rfl) ?_
        refine l_nil ?_
        refine kt_norm ?_
        refine v_sel [8] [] rfl rfl ?_
        refine v_ret ?_
        refine ⟨[_], .cons (.tmp rfl) (ResAll.nil), ?_⟩
        first
          | exact congrArg Value.bool (decide_eq_true (show GoodT p u v r by unfold GoodT; omega)).symm
          | exact congrArg Value.bool (decide_eq_false (fun h : GoodT p u v r => by unfold GoodT at h; omega)).symm
    · skip
      refine l_val rfl (o_pickT rfl rfl) ?_
      refine l_val rfl (o_move rfl) ?_
      refine l_no rfl ?_
      refine l_no rfl ?_
      refine l_val rfl (o_pickF rfl rfl) ?_
      refine l_val rfl (o_move rfl) ?_
      refine l_no rfl ?_
      refine l_no rfl ?_
      refine l_val rfl (o_pickF rfl rfl) ?_
      refine l_val rfl (o_move rfl) ?_
      refine l_no rfl ?_
      refine l_no rfl ?_
      refine l_val rfl (o_pickF rfl rfl) ?_
      refine l_val rfl (o_assign rfl) ?_
      refine l_nil ?_
      refine kt_norm ?_
      refine v_sel [8] [] rfl rfl ?_
      refine v_ret ?_
      refine ⟨[_], .cons (.tmp rfl) (ResAll.nil), ?_⟩
      first
        | exact congrArg Value.bool (decide_eq_true (show GoodT p u v r by unfold GoodT; omega)).symm
        | exact congrArg Value.bool (decide_eq_false (fun h : GoodT p u v r => by unfold GoodT at h; omega)).symm
  · skip
    refine l_val rfl (o_move rfl) ?_
    refine l_no rfl ?_
    refine l_no rfl ?_
    refine l_val rfl (o_pickF rfl rfl) ?_
    refine l_val rfl (o_move rfl) ?_
    refine l_no rfl ?_
    refine l_no rfl ?_
    refine l_val rfl (o_pickF rfl rfl) ?_
    refine l_val rfl (o_move rfl) ?_
    refine l_no rfl ?_
    refine l_no rfl ?_
    refine l_val rfl (o_pickF rfl rfl) ?_
    refine l_val rfl (o_move rfl) ?_
    refine l_no rfl ?_
    refine l_no rfl ?_
    refine l_val rfl (o_pickF rfl rfl) ?_
    refine l_val rfl (o_assign rfl) ?_
    refine l_nil ?_
    refine kt_norm ?_
    refine v_sel [8] [] rfl rfl ?_
    refine v_ret ?_
    refine ⟨[_], .cons (.tmp rfl) (ResAll.nil), ?_⟩
    first
      | exact congrArg Value.bool (decide_eq_true (show GoodT p u v r by unfold GoodT; omega)).symm
      | exact congrArg Value.bool (decide_eq_false (fun h : GoodT p u v r => by unfold GoodT at h; omega)).symm
theorem a_DiscQ {Q : List (List PtT)} (w : World) (v : Value) (pvs : List Value) (qs : List (List PtT)) (p : PtT) (r : Int) (hv : PcsW v pvs qs) (hcp : Capd v) (hat : PcsAt w v pvs qs) (hql : qs.length ≤ 2000) (hp : (-536870912 ≤ p.x ∧ p.x ≤ 536870912) ∧ (-536870912 ≤ p.y ∧ p.y ≤ 536870912)) (hr : 1 ≤ r ∧ r ≤ 131072) (hQ : piesT p r (discC r) qs = Q) : Calls Try.prog 15 #[v, .agg #[.int .i64 p.x, .int .i64 p.y], .int .i64 r] w fun e w' => ∃ x : PutsY v pvs qs (Q), e = .returned x.1.1 ∧ Below w.heap.size w w' ∧ SaidOk w' x.1.2.2.1 x.1.2.2.2 ∧ ∀ b, x.1.2.2.2 b → w.heap.size ≤ b := by subst hQ; exact a_Disc w v pvs qs p r hv hcp hat hql hp hr
theorem a_PieQ {Q : List (List PtT)} (w : World) (v : Value) (pvs : List Value) (qs : List (List PtT)) (p : PtT) (r : Int) (hv : PcsW v pvs qs) (hcp : Capd v) (hat : PcsAt w v pvs qs) (hql : qs.length ≤ 2000) (hp : (-536870912 ≤ p.x ∧ p.x ≤ 536870912) ∧ (-536870912 ≤ p.y ∧ p.y ≤ 536870912)) (hr : 1 ≤ r ∧ r ≤ 131072) (u z : PtT) (hu : BdT u) (hz : BdT z) (hQ : piesT p r [u, z] qs = Q) : Calls Try.prog 20 #[v, .agg #[.int .i64 p.x, .int .i64 p.y], .agg #[.int .i64 u.x, .int .i64 u.y], .agg #[.int .i64 z.x, .int .i64 z.y], .int .i64 r] w fun e w' => ∃ x : PutsY v pvs qs (Q), e = .returned x.1.1 ∧ Below w.heap.size w w' ∧ SaidOk w' x.1.2.2.1 x.1.2.2.2 ∧ ∀ b, x.1.2.2.2 b → w.heap.size ≤ b := by subst hQ; exact a_Pie w v pvs qs p r hv hcp hat hql hp hr u z hu hz
theorem a_HalfQ {Q : List (List PtT)} (w : World) (v : Value) (pvs : List Value) (qs : List (List PtT)) (p : PtT) (r : Int) (hv : PcsW v pvs qs) (hcp : Capd v) (hat : PcsAt w v pvs qs) (hql : qs.length ≤ 2000) (hp : (-536870912 ≤ p.x ∧ p.x ≤ 536870912) ∧ (-536870912 ≤ p.y ∧ p.y ≤ 536870912)) (hr : 1 ≤ r ∧ r ≤ 131072) (u : PtT) (hx : -1073741824 ≤ u.x ∧ u.x ≤ 1073741824) (hy : -1073741824 ≤ u.y ∧ u.y ≤ 1073741824) (hQ : halfT p u r qs = Q) : Calls Try.prog 24 #[v, .agg #[.int .i64 p.x, .int .i64 p.y], .agg #[.int .i64 u.x, .int .i64 u.y], .int .i64 r] w fun e w' => ∃ x : PutsY v pvs qs (Q), e = .returned x.1.1 ∧ Below w.heap.size w w' ∧ SaidOk w' x.1.2.2.1 x.1.2.2.2 ∧ ∀ b, x.1.2.2.2 b → w.heap.size ≤ b := by subst hQ; exact a_Half w v pvs qs p r hv hcp hat hql hp hr u hx hy
theorem pcsW_nil : PcsW (.slice none 0 0) [] [] := pcsW_of .nil0 (Nat.zero_le _) .nil
theorem pcsAt_nil (w : World) : PcsAt w (.slice none 0 0) [] [] := pcsAt_of ⟨rfl, fun j u hu => by simp at hu, fun u hu => by simp at hu⟩ .nil
theorem capd_nil : Capd (.slice none 0 0) := fun _ _ _ h => by cases h; exact Nat.le_refl _
theorem bend_last (r : Int) (u v : PtT) : (bendT r u v).getD ((bendT r u v).length - 1) dP = v := by
  have h := chords_last r 6 u v
  unfold bendT
  rw [List.getD_eq_getElem?_getD, ← List.getLast?_eq_getElem?, List.getLast?_map, h]; rfl
theorem bend_len (r : Int) (u v : PtT) : 1 ≤ (bendT r u v).length ∧ (bendT r u v).length ≤ 64 := by
  unfold bendT; rw [List.length_map]; exact chords6 r u v
theorem a_shown (w : World) : Calls Try.prog 14 #[] w fun e w' => e = .returned (.bool true) ∧ Below w.heap.size w w' := by
  obtain ⟨hb8, qz, hqz, hq3, hqa, hqn⟩ := piesT_big
  obtain ⟨Q2, hQ2⟩ : ∃ Q, piesT ⟨0, 0⟩ 2560 (discC 2560) [] = Q := ⟨_, rfl⟩
  rw [hQ2] at hb8 hqz
  refine calls_of (args := []) Try.func14 rfl Try.ntmps14 Try.results14 rfl ?_
  refine v_seq ?_
  refine v_region ?_
  refine l_val rfl (o_assign rfl) ?_
  refine l_nil ?_
  refine kt_norm ?_
  refine v_seq ?_
  refine v_region ?_
  refine l_val rfl (o_build (vs := [_, _]) (cs := [_, _]) rfl rfl) ?_
  refine l_gsaid (ks := []) (caps := #[]) (vs := [_, _, _]) (α := PutsY (.slice none 0 0) [] [] ([[⟨5, 5⟩, ⟨6, 5⟩, ⟨5, 6⟩], [⟨5, 5⟩, ⟨5, 6⟩, ⟨4, 5⟩], [⟨5, 5⟩, ⟨4, 5⟩, ⟨5, 4⟩], [⟨5, 5⟩, ⟨5, 4⟩, ⟨6, 5⟩]])) (fun x => x.1.1) (fun x w' => SaidOk w' x.1.2.2.1 x.1.2.2.2) (fun x b => x.1.2.2.2 b) rfl rfl (ent_of Try.func15 rfl rfl) rfl (fun x w1 w2 h hb => h.keep hb) (fun x w1 b h hb => h.lt hb) (fun w' hg hh => a_DiscQ w' _ [] [] ⟨5, 5⟩ 1 pcsW_nil capd_nil (pcsAt_nil w') (by show 0 ≤ 2000; omega) (by dsimp only; omega) (by omega) piesT_one) fun xa => ?_
  refine l_val rfl (o_assign rfl) ?_
  refine l_nil ?_
  refine kt_norm ?_
  refine v_seq ?_
  refine v_region ?_
  refine l_val rfl (o_build (vs := []) (cs := [_, _]) rfl rfl) ?_
  refine l_gsaid (ks := []) (caps := #[]) (vs := [_, _, _]) (α := PutsY (.slice none 0 0) [] [] (Q2)) (fun x => x.1.1) (fun x w' => SaidOk w' x.1.2.2.1 x.1.2.2.2) (fun x b => x.1.2.2.2 b) rfl rfl (ent_of Try.func15 rfl rfl) rfl (fun x w1 w2 h hb => h.keep hb) (fun x w1 b h hb => h.lt hb) (fun w' hg hh => a_DiscQ w' _ [] [] ⟨0, 0⟩ 2560 pcsW_nil capd_nil (pcsAt_nil w') (by show 0 ≤ 2000; omega) (by dsimp only; omega) (by omega) hQ2) fun xb => ?_
  refine l_val rfl (o_assign rfl) ?_
  refine l_nil ?_
  refine kt_norm ?_
  refine v_seq ?_
  refine v_region ?_
  have hwa := xa.2.1
  have hta := xa.2.2.2
  have hVa : RowV xa.1.1 4 := hwa.V
  have hla : xa.1.2.1.length = 4 := hwa.lenv
  have hVa0 : RowV (xa.1.2.1.getD 0 undef) 3 := hwa.pV 0 (by show 0 < 4; omega)
  have hra : ∀ w2, (Chg (fun _ => False) w w2 ∧ SaidOk w2 xa.1.2.2.1 xa.1.2.2.2) ∧ SaidOk w2 xb.1.2.2.1 xb.1.2.2.2 → RowAt w2 xa.1.1 1 4 xa.1.2.1 := fun w2 h => (hta w2 (pcsAt_nil w2) h.1.2.1).row
  have hra0 : ∀ w2, (Chg (fun _ => False) w w2 ∧ SaidOk w2 xa.1.2.2.1 xa.1.2.2.2) ∧ SaidOk w2 xb.1.2.2.1 xb.1.2.2.2 → RowAt w2 (xa.1.2.1.getD 0 undef) 2 3 (([⟨5, 5⟩, ⟨6, 5⟩, ⟨5, 6⟩] : List PtT).flatMap eP) := fun w2 h => (hta w2 (pcsAt_nil w2) h.1.2.1).pc 0 (by show 0 < 4; omega)
  have hwb := xb.2.1
  have htb := xb.2.2.2
  have hVb : RowV xb.1.1 Q2.length := hwb.V
  have hlb : xb.1.2.1.length = Q2.length := hwb.lenv
  have hVb0 : RowV (xb.1.2.1.getD 0 undef) qz.length := hqz ▸ hwb.pV 0 (by omega)
  have hrb : ∀ w2, (Chg (fun _ => False) w w2 ∧ SaidOk w2 xa.1.2.2.1 xa.1.2.2.2) ∧ SaidOk w2 xb.1.2.2.1 xb.1.2.2.2 → RowAt w2 xb.1.1 1 Q2.length xb.1.2.1 := fun w2 h => (htb w2 (pcsAt_nil w2) h.2.1).row
  have hrb0 : ∀ w2, (Chg (fun _ => False) w w2 ∧ SaidOk w2 xa.1.2.2.1 xa.1.2.2.2) ∧ SaidOk w2 xb.1.2.2.1 xb.1.2.2.2 → RowAt w2 (xb.1.2.1.getD 0 undef) 2 qz.length (qz.flatMap eP) := fun w2 h => by have := (htb w2 (pcsAt_nil w2) h.2.1).pc 0 (by omega); rw [hqz] at this; exact this
  refine l_val rfl (o_move rfl) ?_
  refine l_val rfl (o_len rfl hVa) ?_
  refine l_split rfl (o_eql rfl rfl) (fun q1 => ?_) (fun q1 => absurd (show _ by omega) q1)
  refine l_val rfl (o_move rfl) ?_
  refine l_val rfl (o_move rfl) ?_
  refine l_val rfl (o_idx (0) rfl hVa rfl (by first | rfl | omega) (by omega)) ?_
  refine l_val rfl (o_loadR1 rfl (row_imm hra) (el_one (by rw [hla]; omega))) ?_
  refine l_val rfl (o_len rfl hVa0) ?_
  refine l_split rfl (o_eql rfl rfl) (fun q2 => ?_) (fun q2 => absurd (show _ by omega) q2)
  refine l_val rfl (o_pickT rfl rfl) ?_
  refine l_val rfl (o_move rfl) ?_
  refine l_val rfl (o_move rfl) ?_
  refine l_val rfl (o_idx (0) rfl hVa rfl (by first | rfl | omega) (by omega)) ?_
  refine l_val rfl (o_loadR1 rfl (row_imm hra) (el_one (by rw [hla]; omega))) ?_
  refine l_val rfl (o_idx (1) rfl hVa0 rfl (by first | rfl | omega) (by omega)) ?_
  refine l_val rfl (o_loadRE (c' := [_, _]) rfl (row_imm hra0) (el_flat eP_len dP ([⟨5, 5⟩, ⟨6, 5⟩, ⟨5, 6⟩] : List PtT) (1) (by show 1 < 3; omega)) rfl) ?_
  refine l_val rfl (o_build (vs := [_, _]) (cs := [_, _]) rfl rfl) ?_
  refine l_split rfl (o_eqs (xl := [_, _]) (yl := [_, _]) (az := [_, _]) (bz := [_, _]) rfl rfl rfl rfl rfl rfl) (fun _ => ?_) (fun q3 => absurd rfl q3)
  refine l_val rfl (o_pickT rfl rfl) ?_
  refine l_val rfl (o_move rfl) ?_
  refine l_val rfl (o_move rfl) ?_
  refine l_val rfl (o_len rfl hVb) ?_
  refine l_split rfl (o_gtr rfl rfl) (fun q4 => ?_) (fun q4 => absurd (show _ by omega) q4)
  refine l_val rfl (o_pickT rfl rfl) ?_
  refine l_val rfl (o_move rfl) ?_
  refine l_val rfl (o_move rfl) ?_
  refine l_val rfl (o_idx (0) rfl hVb rfl (by first | rfl | omega) (by omega)) ?_
  refine l_val rfl (o_loadR1 rfl (row_imm hrb) (el_one (by rw [hlb]; omega))) ?_
  refine l_call (ks := []) rfl (o_callC (vs := [_]) (r := .int .i64 (areaT qz)) (ent_of Try.func40 rfl rfl) rfl (fun w' hg hh => a_Area w' _ qz (by omega) hVb0 (hrb0 w' hg) hqn)) ?_
  refine l_split rfl (o_gtr rfl rfl) (fun q5 => ?_) (fun q5 => absurd (show _ by omega) q5)
  refine l_val rfl (o_pickT rfl rfl) ?_
  refine l_val rfl (o_assign rfl) ?_
  refine l_nil ?_
  refine kt_norm ?_
  refine v_sel [0] [] rfl rfl ?_
  refine v_ret ?_
  refine ⟨[_], .cons (.tmp rfl) (ResAll.nil), ?_⟩
  rfl
theorem a_ArcEnds (w : World) (u v : PtT) (r : Int) : Calls Try.prog 5 #[.agg #[.int .i64 u.x, .int .i64 u.y], .agg #[.int .i64 v.x, .int .i64 v.y], .int .i64 r] w fun e w' => e = .returned (.bool true) ∧ Below w.heap.size w w' := by
  refine calls_of (args := [.agg #[.int .i64 u.x, .int .i64 u.y], .agg #[.int .i64 v.x, .int .i64 v.y], .int .i64 r]) Try.func5 rfl Try.ntmps5 Try.results5 rfl ?_
  refine v_seq ?_
  refine v_region ?_
  refine l_new rfl (o_box (cs := [_, _]) rfl rfl) fun b3 => ?_
  refine l_new rfl (o_box (cs := [_, _]) rfl rfl) fun b4 => ?_
  refine l_val rfl (o_assign rfl) ?_
  refine l_nil ?_
  refine kt_norm ?_
  refine v_seq ?_
  refine v_seq ?_
  refine v_region ?_
  refine l_val rfl (o_loadW (key := 3) rfl rfl rfl) ?_
  refine l_val rfl (o_loadW (key := 3) rfl rfl rfl) ?_
  refine l_val rfl (o_loadW (key := 4) rfl rfl rfl) ?_
  refine l_val rfl (o_move rfl) ?_
  refine l_ans (vs := [_, _, _, _]) rfl rfl (a_good u u v r) ?_
  refine lz_bool (fun hgd => ?_) (fun hgd => ?_)
  · skip
    refine l_val rfl (o_not rfl rfl) ?_
    refine l_val rfl (o_move rfl) ?_
    refine l_call (ks := []) rfl (o_callC (vs := []) (r := .bool true) (ent_of Try.func14 rfl rfl) rfl (fun w' hg hh => a_shown w')) ?_
    refine l_val rfl (o_not rfl rfl) ?_
    refine l_val rfl (o_pickF rfl rfl) ?_
    refine l_nil ?_
    refine kt_norm ?_
    refine v_sel [2, 3, 4, 18] [3, 4] rfl rfl ?_
    refine v_condF rfl ?_
    refine v_skip ?_
    refine kt_norm ?_
    refine v_seq ?_
    refine v_region ?_
    have hbl := bend_len r u v
    have hlast := bend_last r u v
    obtain ⟨bs, hbs⟩ : ∃ bs, bendT r u v = bs := ⟨_, rfl⟩
    have hB : ∀ w', Calls Try.prog 23 #[.agg #[.int .i64 u.x, .int .i64 u.y], .agg #[.int .i64 v.x, .int .i64 v.y], .int .i64 r] w' fun e w2 => ∃ y, e = .returned y ∧ Below w'.heap.size w' w2 ∧ OwnAt w'.heap.size w2 y 23 2 bs.length (bs.flatMap eP) := fun w' => hbs ▸ a_Bend w' u v r hgd.2.2.2 hgd.2.1 hgd.2.2.1
    rw [hbs] at hbl hlast
    refine l_val rfl (o_loadW (key := 3) rfl rfl rfl) ?_
    refine l_val rfl (o_loadW (key := 4) rfl rfl rfl) ?_
    refine l_val rfl (o_move rfl) ?_
    refine l_gown (ks := []) (caps := #[]) (vs := [_, _, _]) rfl rfl (ent_of Try.func23 rfl rfl) rfl (fun w' hg hh => hB w') fun yb hyb => ?_
    refine l_val rfl (o_assign rfl) ?_
    refine l_nil ?_
    refine kt_norm ?_
    refine v_sel [4, 7] [4, 23] rfl rfl ?_
    refine v_seq ?_
    refine v_region ?_
    refine l_val rfl (o_move rfl) ?_
    refine l_val rfl (o_len rfl hyb) ?_
    refine l_val rfl (o_assign rfl) ?_
    refine l_nil ?_
    refine kt_norm ?_
    refine v_seq ?_
    refine v_drawZ [[], [], [], [], [], [], [], [], [], [], [], [23], [4], [], [], []] mixed ?_ (by kernel_rfl) (by kernel_rfl)
    refine d_val (fun _ => rfl) rfl rfl (fun _ => o_move rfl) ?_
    refine d_gtr (fun _ => rfl) (fun _ => rfl) (fun _ => rfl) (fun q1 => ?_) (fun q1 => absurd (show _ by omega) q1)
    refine d_val (fun _ => rfl) rfl rfl (fun _ => o_move rfl) ?_
    refine d_val (fun _ => rfl) rfl rfl (fun _ => o_move rfl) ?_
    refine d_leq (fun _ => rfl) (fun _ => rfl) (fun _ => rfl) (fun q2 => ?_) (fun q2 => absurd (show _ by omega) q2)
    refine d_val (fun _ => rfl) rfl rfl (fun _ => o_pickT rfl rfl) ?_
    refine d_val (fun _ => rfl) rfl rfl (fun _ => o_move rfl) ?_
    refine d_val (fun _ => rfl) rfl rfl (fun _ => o_move rfl) ?_
    refine d_val (fun _ => rfl) rfl rfl (fun _ => o_move rfl) ?_
    refine d_val (fun _ => rfl) rfl rfl (fun _ => o_subi rfl rfl ?_) ?_
    · omega
    refine d_val (fun _ => rfl) rfl rfl (fun _ => o_idx (bs.length - 1) rfl hyb rfl (by first | rfl | omega) (by omega)) ?_
    refine d_val (fun _ => rfl) rfl rfl (fun _ => o_loadRE (c' := [_, _]) rfl (row_own (key := 23) rfl) (el_flat eP_len dP bs (bs.length - 1) (by omega)) rfl) ?_
    refine d_val (fun _ => rfl) rfl rfl (fun _ => o_loadW (key := 4) rfl rfl rfl) ?_
    refine d_eqs (xl := [_, _]) (yl := [_, _]) (az := [_, _]) (bz := [_, _]) (fun _ => rfl) (fun _ => rfl) (fun _ => rfl) rfl rfl rfl rfl (fun hlv => ?_) (fun hlv => ?_)
    · simp only [List.map_cons, List.map_nil, List.cons.injEq, and_true] at hlv
      refine d_val (fun _ => rfl) rfl rfl (fun _ => o_pickT rfl rfl) ?_
      refine d_val (fun _ => rfl) rfl rfl (fun _ => o_assign rfl) ?_
      refine d_nil (fun σ => ?_)
      refine l_nil ?_
      refine kt_norm ?_
      refine v_sel [6] [] rfl rfl ?_
      refine v_ret ?_
      refine ⟨[_], .cons (.tmp rfl) (ResAll.nil), ?_⟩
      rfl
    · exact absurd (by rw [hlast]) hlv
  · skip
    refine l_val rfl (o_not rfl rfl) ?_
    refine l_val rfl (o_move rfl) ?_
    refine l_no rfl ?_
    refine l_no rfl ?_
    refine l_val rfl (o_pickT rfl rfl) ?_
    refine l_nil ?_
    refine kt_norm ?_
    refine v_sel [2, 3, 4, 18] [3, 4] rfl rfl ?_
    refine v_condT rfl ?_
    refine v_seq ?_
    refine v_region ?_
    refine l_call (ks := []) rfl (o_callC (vs := []) (r := .bool true) (ent_of Try.func14 rfl rfl) rfl (fun w' hg hh => a_shown w')) ?_
    refine l_val rfl (o_assign rfl) ?_
    refine l_nil ?_
    refine kt_norm ?_
    refine v_ret ?_
    refine kt_ret ?_
    refine ⟨[_], .cons (.tmp rfl) (ResAll.nil), ?_⟩
    rfl
end Go.Proofs.Ytpgjbalnipinoaa

/- The same piece; shifted pieces; the pieces of a pie. Conditions: none. -/
namespace Go.Proofs.Ytpgjbalnipinoaa
open Go.Proofs Go.RowKit Go.Shelf

def shP (bx by_ : Int) (p : PtT) : PtT := ⟨p.x + bx, p.y + by_⟩
theorem shp_snoc {bx by_ : Int} {pc : List PtT} {i : Nat} (hi : i < pc.length) : ((pc.take i).map (shP bx by_)).flatMap eP ++ [.int .i64 ((pc.getD i dP).x + bx), .int .i64 ((pc.getD i dP).y + by_)] = ((pc.take (i + 1)).map (shP bx by_)).flatMap eP := by
  rw [List.take_add_one, List.map_append, List.flatMap_append, List.getElem?_eq_getElem hi, List.getD_eq_getElem?_getD, List.getElem?_eq_getElem hi]
  rfl
theorem r_SameOneT (w : World) (v u : Value) (pc : List PtT) (hs : pc.length ≤ 1000000) (hV : RowV v pc.length) (hrow : RowAt w v 2 pc.length (pc.flatMap eP)) (hU : RowV u pc.length) (hrow2 : RowAt w u 2 pc.length (pc.flatMap eP)) :
    Calls Try.prog 21 #[v, u] w fun e w' => e = .returned (.bool true) ∧ Below w.heap.size w w' := by
  have hr : ∀ w', Chg (fun _ => False) w w' → RowAt w' v 2 pc.length (pc.flatMap eP) := fun w' h => hrow.chg h (fun h => h)
  have hr2 : ∀ w', Chg (fun _ => False) w w' → RowAt w' u 2 pc.length (pc.flatMap eP) := fun w' h => hrow2.chg h (fun h => h)
  refine calls_of (args := [v, u]) Try.func21 rfl Try.ntmps21 Try.results21 rfl ?_
  refine v_seq ?_
  refine v_region ?_
  refine l_val rfl (o_assign rfl) ?_
  refine l_nil ?_
  refine kt_norm ?_
  refine v_seq ?_
  refine v_seq ?_
  refine v_region ?_
  refine l_val rfl (o_move rfl) ?_
  refine l_val rfl (o_len rfl hV) ?_
  refine l_val rfl (o_move rfl) ?_
  refine l_val rfl (o_len rfl hU) ?_
  refine l_split rfl (o_neq rfl rfl) (fun q1 => absurd q1 (by omega)) (fun q1 => ?_)
  refine l_nil ?_
  refine kt_norm ?_
  refine v_condF rfl ?_
  refine v_skip ?_
  refine kt_norm ?_
  refine v_sel [0, 1] [] rfl rfl ?_
  refine v_seq ?_
  refine v_seq ?_
  refine v_region ?_
  refine l_val rfl (o_assign rfl) ?_
  refine l_nil ?_
  refine kt_norm ?_
  refine v_block ?_
  refine v_loopS (α := Nat) (fun i => [(5, .int .i64 (i : Int))]) (fun i => [])  (fun i => i ≤ pc.length) (fun i => pc.length - i) 0 [0, 1] [] (Nat.zero_le _)  (And.intro rfl (True.intro)) rfl (True.intro) rfl ?_
  rintro i hi
  refine v_seq ?_
  refine v_seq ?_
  refine v_region ?_
  refine l_val rfl (o_move rfl) ?_
  refine l_val rfl (o_move rfl) ?_
  refine l_val rfl (o_len rfl hV) ?_
  refine l_split rfl (o_lss rfl rfl) (fun q2 => ?_) (fun q2 => ?_)
  · skip
    refine l_nil ?_
    refine kt_norm ?_
    refine v_condT rfl ?_
    refine v_skip ?_
    refine kt_norm ?_
    refine v_seq ?_
    refine v_block ?_
    refine v_seq ?_
    refine v_drawZ [[], [], [], [], [], [], [], [], []] mixed ?_ (by kernel_rfl) (by kernel_rfl)
    refine d_val (fun _ => rfl) rfl rfl (fun _ => o_move rfl) ?_
    refine d_val (fun _ => rfl) rfl rfl (fun _ => o_move rfl) ?_
    refine d_val (fun _ => rfl) rfl rfl (fun _ => o_idx (i) rfl hV rfl (by first | rfl | omega) (by omega)) ?_
    refine d_val (fun _ => rfl) rfl rfl (fun _ => o_loadRE (c' := [_, _]) rfl (row_imm hr) (el_flat eP_len dP pc (i) (by omega)) rfl) ?_
    refine d_val (fun _ => rfl) rfl rfl (fun _ => o_move rfl) ?_
    refine d_val (fun _ => rfl) rfl rfl (fun _ => o_move rfl) ?_
    refine d_val (fun _ => rfl) rfl rfl (fun _ => o_idx (i) rfl hU rfl (by first | rfl | omega) (by omega)) ?_
    refine d_val (fun _ => rfl) rfl rfl (fun _ => o_loadRE (c' := [_, _]) rfl (row_imm hr2) (el_flat eP_len dP pc (i) (by omega)) rfl) ?_
    refine d_neqs (xl := [_, _]) (yl := [_, _]) (az := [_, _]) (bz := [_, _]) (fun _ => rfl) (fun _ => rfl) (fun _ => rfl) rfl rfl rfl rfl (fun q3 => absurd rfl q3) (fun _ => ?_)
    refine d_nil (fun σ => ?_)
    refine l_nil ?_
    refine kt_norm ?_
    refine v_sel [5, 0, 1, 25] [] rfl rfl ?_
    refine v_condF rfl ?_
    refine v_skip ?_
    refine kb_norm ?_
    refine kt_norm ?_
    refine v_region ?_
    refine l_val rfl (o_move rfl) ?_
    refine l_val rfl (o_addi rfl rfl ?_) ?_
    · omega
    refine l_val rfl (o_assign rfl) ?_
    refine l_nil ?_
    refine kt_norm ?_
    refine ⟨i + 1, (by show i + 1 ≤ pc.length; omega), (by show pc.length - (i + 1) < pc.length - i; omega), le_app (And.intro rfl (True.intro)) [0, 1] rfl (True.intro) [] rfl⟩
  · skip
    refine l_nil ?_
    refine kt_norm ?_
    refine v_condF rfl ?_
    refine v_exit ?_
    refine kt_exit ?_
    refine kt_exit ?_
    refine kb_eq ?_
    refine kt_norm ?_
    refine v_sel [] [] rfl rfl ?_
    refine v_seq ?_
    refine v_region ?_
    refine l_val rfl (o_assign rfl) ?_
    refine l_nil ?_
    refine kt_norm ?_
    refine v_ret ?_
    refine ⟨[_], .cons (.tmp rfl) (ResAll.nil), ?_⟩
    rfl
theorem r_PAdd (x y u v : Int) (hx : -1099511627776 ≤ x ∧ x ≤ 1099511627776) (hy : -1099511627776 ≤ y ∧ y ≤ 1099511627776) (hu : -1099511627776 ≤ u ∧ u ≤ 1099511627776) (hv : -1099511627776 ≤ v ∧ v ≤ 1099511627776) : Ans Try.prog 29 [.agg #[.int .i64 x, .int .i64 y], .agg #[.int .i64 u, .int .i64 v]] (.agg #[.int .i64 (x + u), .int .i64 (y + v)]) := by
  refine ans_of Try.func29 rfl Try.ntmps29 Try.results29 rfl rfl fun w => ?_
  refine v_seq ?_
  refine v_region ?_
  refine l_new rfl (o_box (cs := [_, _]) rfl rfl) fun b2 => ?_
  refine l_new rfl (o_box (cs := [_, _]) rfl rfl) fun b3 => ?_
  refine l_new rfl o_alloc fun b4 => ?_
  refine l_nil ?_
  refine kt_norm ?_
  refine v_seq ?_
  refine v_region ?_
  refine l_val rfl (o_fld rfl) ?_
  refine l_val rfl (o_load1 (key := 2) rfl rfl rfl) ?_
  refine l_val rfl (o_fld rfl) ?_
  refine l_val rfl (o_load1 (key := 3) rfl rfl rfl) ?_
  refine l_val rfl (o_addi rfl rfl ?_) ?_
  · omega
  refine l_val rfl (o_fld rfl) ?_
  refine l_val rfl (o_load1 (key := 2) rfl rfl rfl) ?_
  refine l_val rfl (o_fld rfl) ?_
  refine l_val rfl (o_load1 (key := 3) rfl rfl rfl) ?_
  refine l_val rfl (o_addi rfl rfl ?_) ?_
  · omega
  refine l_val rfl (o_build (vs := [_, _]) (cs := [_, _]) rfl rfl) ?_
  refine l_store rfl (o_storeW (key := 4) (xs := [_, _]) rfl rfl rfl rfl rfl rfl rfl) ?_
  refine l_nil ?_
  refine kt_norm ?_
  refine v_sel [4] [4] rfl rfl ?_
  refine v_ret ?_
  refine ⟨[_], .cons (.cellW (key := 4) rfl rfl rfl) (ResAll.nil), ?_⟩
  rfl
theorem r_Shift (w : World) (v : Value) (pc : List PtT) (bx by_ : Int) (hbx : -536870912 ≤ bx ∧ bx ≤ 536870912) (hby : -536870912 ≤ by_ ∧ by_ ≤ 536870912) (hs : pc.length ≤ 1000000) (hV : RowV v pc.length) (hrow : RowAt w v 2 pc.length (pc.flatMap eP)) (hnear : ∀ p ∈ pc, NearT p) :
    Calls Try.prog 30 #[v, .agg #[.int .i64 bx, .int .i64 by_]] w fun e w' => ∃ y, e = .returned y ∧ Below w.heap.size w w' ∧ OwnAt w.heap.size w' y 23 2 pc.length ((pc.map (shP bx by_)).flatMap eP) := by
  have hr : ∀ w', Chg (fun _ => False) w w' → RowAt w' v 2 pc.length (pc.flatMap eP) := fun w' h => hrow.chg h (fun h => h)
  refine calls_own (args := [v, .agg #[.int .i64 bx, .int .i64 by_]]) Try.func30 rfl Try.ntmps30 Try.results30 rfl ?_
  refine v_seq ?_
  refine v_region ?_
  refine l_new rfl (o_box (cs := [_, _]) rfl rfl) fun b3 => ?_
  refine l_val rfl (o_assign rfl) ?_
  refine l_nil ?_
  refine kt_norm ?_
  refine v_seq ?_
  refine v_region ?_
  refine l_buildSlice (vs := []) (cs := []) rfl rfl rfl rfl rfl rfl fun v7 hv7 => ?_
  refine l_val rfl (o_assign rfl) ?_
  refine l_nil ?_
  refine kt_norm ?_
  refine v_seq ?_
  refine v_seq ?_
  refine v_region ?_
  refine l_val rfl (o_assign rfl) ?_
  refine l_nil ?_
  refine kt_norm ?_
  refine v_block ?_
  refine v_ren 7 22 [3] rfl rfl rfl ?_
  refine v_loopS (α := Nat × Value) (fun ⟨i, v5⟩ => [(6, .int .i64 (i : Int)), (5, v5)]) (fun ⟨i, v5⟩ => [(22, Hp.own v5 23 2 i (((pc.take i).map (shP bx by_)).flatMap eP))])  (fun ⟨i, v5⟩ => i ≤ pc.length ∧ RowV v5 i) (fun ⟨i, v5⟩ => pc.length - i) (0, v7) [0, 3] [3] ⟨Nat.zero_le _, hv7⟩  (And.intro rfl (And.intro rfl (True.intro))) rfl (And.intro rfl (True.intro)) rfl ?_
  rintro ⟨i, v5⟩ ⟨hi, hv5⟩
  refine v_seq ?_
  refine v_seq ?_
  refine v_region ?_
  refine l_val rfl (o_move rfl) ?_
  refine l_val rfl (o_move rfl) ?_
  refine l_val rfl (o_len rfl hV) ?_
  refine l_split rfl (o_lss rfl rfl) (fun q1 => ?_) (fun q1 => ?_)
  · have hil : i < pc.length := by omega
    have hni := near_getD hnear hil
    unfold NearT at hni
    refine l_nil ?_
    refine kt_norm ?_
    refine v_condT rfl ?_
    refine v_skip ?_
    refine kt_norm ?_
    refine v_seq ?_
    refine v_block ?_
    refine v_drawZ [[], [], [], [], [], [3], [], []] mixed ?_ (by kernel_rfl) (by kernel_rfl)
    refine d_val (fun _ => rfl) rfl rfl (fun _ => o_move rfl) ?_
    refine d_val (fun _ => rfl) rfl rfl (fun _ => o_move rfl) ?_
    refine d_val (fun _ => rfl) rfl rfl (fun _ => o_move rfl) ?_
    refine d_val (fun _ => rfl) rfl rfl (fun _ => o_idx (i) rfl hV rfl (by first | rfl | omega) (by omega)) ?_
    refine d_val (fun _ => rfl) rfl rfl (fun _ => o_loadRE (c' := [_, _]) rfl (row_imm hr) (el_flat eP_len dP pc (i) (by omega)) rfl) ?_
    refine d_val (fun _ => rfl) rfl rfl (fun _ => o_loadW (key := 3) rfl rfl rfl) ?_
    refine d_ans (vs := [_, _]) (fun _ => rfl) (fun _ => rfl) (r_PAdd _ _ _ _ ?_ ?_ ?_ ?_) ?_
    · omega
    · omega
    · omega
    · omega
    refine d_newS (fun _ => rfl) rfl rfl (fun _ => o_bs (vs := [_]) (cs := [_, _]) rfl rfl rfl rfl) ?_
    refine d_nil (fun σ => ?_)
    refine l_toOwn 21 [3, 22] (n := 1) 2 rfl rfl rfl rfl rfl rfl ?_
    refine l_append 22 [3, 21] rfl rfl rfl rfl rfl rfl rfl (.inl ⟨_, _, _, rfl⟩) (row_own (key := 21) rfl) (by omega) fun v22 hv22 => ?_
    refine l_val rfl (o_assign rfl) ?_
    refine l_nil ?_
    refine kb_norm ?_
    refine kt_norm ?_
    refine v_sel [6, 5, 0, 3] [3, 22] rfl rfl ?_
    refine v_region ?_
    refine l_val rfl (o_move rfl) ?_
    refine l_val rfl (o_addi rfl rfl ?_) ?_
    · omega
    refine l_val rfl (o_assign rfl) ?_
    refine l_nil ?_
    refine kt_norm ?_
    refine ⟨(i + 1, v22), ⟨hil, hv22⟩, (by show pc.length - (i + 1) < pc.length - i; omega), le_app (And.intro rfl (And.intro rfl (True.intro))) [0, 3] rfl (And.intro (congrArg some (own_congr rfl (shp_snoc hil))) (True.intro)) [3] rfl⟩
  · skip
    refine l_nil ?_
    refine kt_norm ?_
    refine v_condF rfl ?_
    refine v_exit ?_
    refine kt_exit ?_
    refine kt_exit ?_
    refine kb_eq ?_
    refine kt_norm ?_
    refine v_sel [5] [22] rfl rfl ?_
    refine v_seq ?_
    refine v_region ?_
    obtain rfl : i = pc.length := by omega
    refine l_val rfl (o_move rfl) ?_
    refine l_val rfl (o_assign rfl) ?_
    refine l_nil ?_
    refine kt_norm ?_
    refine v_ret ?_
    refine ⟨[_], .cons (.tmp rfl) (ResAll.nil), ?_⟩
    exact ⟨22, congrArg some (own_congr rfl (by rw [List.take_length]))⟩
/-- a piece of a pie -/
def TriT (p : PtT) (q : List PtT) : Prop := q.length = 3 ∧ convexB q = true ∧ (q.getD 0 dP = p ∨ q.getD 2 dP = p) ∧ ∀ x ∈ q, NearT x
theorem ori_three (a b c : PtT) : oriT [a, b, c] = [a, b, c] ∨ oriT [a, b, c] = [c, b, a] := by
  unfold oriT
  split
  · exact .inr rfl
  · exact .inl rfl
theorem pie_tri {p : PtT} (hp : (-536870912 ≤ p.x ∧ p.x ≤ 536870912) ∧ (-536870912 ≤ p.y ∧ p.y ≤ 536870912)) : ∀ (l : List (PtT × PtT)), (∀ c ∈ l, BdT c.1 ∧ BdT c.2) → ∀ qs : List (List PtT), ∃ rest, l.foldl (pieT p) qs = qs ++ rest ∧ rest.length ≤ l.length ∧ ∀ q ∈ rest, TriT p q
  | [], _, qs => ⟨[], (List.append_nil qs).symm, Nat.le_refl _, fun q h => by cases h⟩
  | c :: l, hb, qs => by
    have hc := hb c List.mem_cons_self
    have hl := fun x hx => hb x (List.mem_cons_of_mem _ hx)
    have hn := pie_near hp hc.1 hc.2
    rw [List.foldl_cons]
    by_cases hcx : convexB (oriT [p, ⟨p.x + c.1.x, p.y + c.1.y⟩, ⟨p.x + c.2.x, p.y + c.2.y⟩]) = true
    · have e : pieT p qs c = qs ++ [oriT [p, ⟨p.x + c.1.x, p.y + c.1.y⟩, ⟨p.x + c.2.x, p.y + c.2.y⟩]] := putT_yes hcx
      obtain ⟨rest, h1, h2, h3⟩ := pie_tri hp l hl (pieT p qs c)
      refine ⟨oriT [p, ⟨p.x + c.1.x, p.y + c.1.y⟩, ⟨p.x + c.2.x, p.y + c.2.y⟩] :: rest, by rw [h1, e, List.append_assoc]; rfl, by rw [List.length_cons, List.length_cons]; omega, fun q hq => ?_⟩
      rcases List.mem_cons.1 hq with rfl | hq
      · refine ⟨by rw [oriT_len]; rfl, hcx, ?_, fun x hx => hn x ?_⟩
        · rcases ori_three p ⟨p.x + c.1.x, p.y + c.1.y⟩ ⟨p.x + c.2.x, p.y + c.2.y⟩ with h | h <;> rw [h]
          · exact .inl rfl
          · exact .inr rfl
        · unfold oriT at hx
          split at hx
          · exact List.mem_reverse.1 hx
          · exact hx
      · exact h3 q hq
    · have e : pieT p qs c = qs := putT_no (by simpa using hcx)
      obtain ⟨rest, h1, h2, h3⟩ := pie_tri hp l hl (pieT p qs c)
      exact ⟨rest, by rw [h1, e], by rw [List.length_cons]; omega, h3⟩
theorem arcs_bd {r : Int} (hr : 1 ≤ r ∧ r ≤ 131072) {cs : List PtT} (hcb : ∀ j, j < cs.length → BdT (cs.getD j dP)) : ∀ k, k < cs.length → ∀ c ∈ arcsK r cs k, BdT c.1 ∧ BdT c.2
  | 0, _, c, hc => by cases hc
  | k + 1, hk, c, hc => by
    rcases List.mem_append.1 hc with h | h
    · exact arcs_bd hr hcb k (by omega) c h
    · exact chords_bd hr 6 _ _ (hcb k (by omega)) (hcb (k + 1) hk) c h
set_option maxHeartbeats 4000000 in
theorem a_ArcPieces (w : World) (p u v : PtT) (r : Int) : Calls Try.prog 4 #[.agg #[.int .i64 p.x, .int .i64 p.y], .agg #[.int .i64 u.x, .int .i64 u.y], .agg #[.int .i64 v.x, .int .i64 v.y], .int .i64 r] w fun e w' => e = .returned (.bool true) ∧ Below w.heap.size w w' := by
  refine calls_of (args := [.agg #[.int .i64 p.x, .int .i64 p.y], .agg #[.int .i64 u.x, .int .i64 u.y], .agg #[.int .i64 v.x, .int .i64 v.y], .int .i64 r]) Try.func4 rfl Try.ntmps4 Try.results4 rfl ?_
  refine v_seq ?_
  refine v_region ?_
  refine l_new rfl (o_box (cs := [_, _]) rfl rfl) fun b4 => ?_
  refine l_new rfl (o_box (cs := [_, _]) rfl rfl) fun b5 => ?_
  refine l_new rfl (o_box (cs := [_, _]) rfl rfl) fun b6 => ?_
  refine l_val rfl (o_assign rfl) ?_
  refine l_nil ?_
  refine kt_norm ?_
  refine v_seq ?_
  refine v_seq ?_
  refine v_region ?_
  refine l_val rfl (o_loadW (key := 4) rfl rfl rfl) ?_
  refine l_val rfl (o_loadW (key := 5) rfl rfl rfl) ?_
  refine l_val rfl (o_loadW (key := 6) rfl rfl rfl) ?_
  refine l_val rfl (o_move rfl) ?_
  refine l_ans (vs := [_, _, _, _]) rfl rfl (a_good p u v r) ?_
  refine lz_bool (fun hgd => ?_) (fun hgd => ?_)
  · skip
    refine l_val rfl (o_not rfl rfl) ?_
    refine l_val rfl (o_move rfl) ?_
    refine l_call (ks := []) rfl (o_callC (vs := []) (r := .bool true) (ent_of Try.func14 rfl rfl) rfl (fun w' hg hh => a_shown w')) ?_
    refine l_val rfl (o_not rfl rfl) ?_
    refine l_val rfl (o_pickF rfl rfl) ?_
    refine l_nil ?_
    refine kt_norm ?_
    refine v_sel [3, 4, 5, 6, 21] [4, 5, 6] rfl rfl ?_
    refine v_condF rfl ?_
    refine v_skip ?_
    refine kt_norm ?_
    refine v_seq ?_
    refine v_region ?_
    have hgp : ((-536870912 ≤ p.x ∧ p.x ≤ 536870912) ∧ (-536870912 ≤ p.y ∧ p.y ≤ 536870912)) := hgd.1
    obtain ⟨rest, hrest, hrl, hrt⟩ := pie_tri hgp (chordsT r 6 u v) (chords_bd hgd.2.2.2 6 u v hgd.2.1 hgd.2.2.1) [([⟨0, 0⟩, ⟨1, 0⟩, ⟨0, 1⟩] : List PtT)]
    have hcl := chords6 r u v
    obtain ⟨Q, hQ⟩ : ∃ Q, piesT p r [u, v] [([⟨0, 0⟩, ⟨1, 0⟩, ⟨0, 1⟩] : List PtT)] = Q := ⟨_, rfl⟩
    have hQ0 : Q = ([⟨0, 0⟩, ⟨1, 0⟩, ⟨0, 1⟩] : List PtT) :: rest := by rw [← hQ]; exact hrest
    have hQ00 : Q.getD 0 [] = ([⟨0, 0⟩, ⟨1, 0⟩, ⟨0, 1⟩] : List PtT) := by rw [hQ0]; rfl
    have hQl : Q.length = rest.length + 1 := by rw [hQ0]; rfl
    have hTri : ∀ i, 1 ≤ i → i < Q.length → TriT p (Q.getD i []) := fun i h1 h2 => by
      obtain ⟨j, rfl⟩ : ∃ j, i = j + 1 := ⟨i - 1, by omega⟩
      rw [hQ0, List.getD_cons_succ, List.getD_eq_getElem?_getD, List.getElem?_eq_getElem (by omega)]
      exact hrt _ (List.getElem_mem _)
    refine l_val rfl (o_build (vs := []) (cs := [_, _]) rfl rfl) ?_
    refine l_val rfl (o_build (vs := [_]) (cs := [_, _]) rfl rfl) ?_
    refine l_val rfl (o_build (vs := [_]) (cs := [_, _]) rfl rfl) ?_
    refine l_buildSlice (vs := [_, _, _]) (cs := [_, _, _, _, _, _]) rfl rfl rfl rfl rfl rfl fun v26 hv26 => ?_
    refine l_val rfl (o_assign rfl) ?_
    refine l_nil ?_
    refine kt_norm ?_
    refine v_seq ?_
    refine v_region ?_
    refine l_val rfl (o_move rfl) ?_
    obtain ⟨a26, c26, rfl⟩ := hv26.sl
    refine l_buildSlice (vs := [_]) (cs := [_]) rfl rfl rfl rfl rfl rfl fun v28 hv28 => ?_
    refine l_capd 28 rfl fun hcap28 => ?_
    refine l_freeze 26 [4, 5, 6, 28] rfl rfl rfl ?_
    refine l_freeze 28 [4, 5, 6] rfl rfl rfl ?_
    refine l_val rfl (o_loadW (key := 4) rfl rfl rfl) ?_
    refine l_val rfl (o_loadW (key := 5) rfl rfl rfl) ?_
    refine l_val rfl (o_loadW (key := 6) rfl rfl rfl) ?_
    refine l_val rfl (o_move rfl) ?_
    have hw0 : PcsW v28 [.slice a26 3 c26] [([⟨0, 0⟩, ⟨1, 0⟩, ⟨0, 1⟩] : List PtT)] := pcsW_of hv28 (by show 1 ≤ 1000000; omega) (.one hv26)
    have hat0 : ∀ w2, ((Chg (fun _ => False) w w2 ∧ (Hp.own (.slice a26 3 c26) 23 2 3 (([⟨0, 0⟩, ⟨1, 0⟩, ⟨0, 1⟩] : List PtT).flatMap eP)).ok w2) ∧ (Hp.own v28 32 1 1 [.slice a26 3 c26]).ok w2) → PcsAt w2 v28 [.slice a26 3 c26] [([⟨0, 0⟩, ⟨1, 0⟩, ⟨0, 1⟩] : List PtT)] := fun w2 hg => pcsAt_of (rowAt_own hg.2) (.one (rowAt_own hg.1.2))
    refine l_gsaid (ks := []) (caps := #[]) (vs := [_, _, _, _, _]) (α := PutsY v28 [.slice a26 3 c26] [([⟨0, 0⟩, ⟨1, 0⟩, ⟨0, 1⟩] : List PtT)] Q) (fun x => x.1.1) (fun x w' => SaidOk w' x.1.2.2.1 x.1.2.2.2) (fun x b => x.1.2.2.2 b) rfl rfl (ent_of Try.func20 rfl rfl) rfl (fun x w1 w2 h hb => h.keep hb) (fun x w1 b h hb => h.lt hb) (fun w' hg hh => a_PieQ w' v28 _ _ p r hw0 hcap28 (hat0 w' hg) (by show 1 ≤ 2000; omega) hgp hgd.2.2.2 u v hgd.2.1 hgd.2.2.1 hQ) fun xp => ?_
    refine l_val rfl (o_assign rfl) ?_
    refine l_nil ?_
    refine kt_norm ?_
    refine v_sel [4, 9, 10] [4] rfl rfl ?_
    refine v_seq ?_
    refine v_seq ?_
    refine v_region ?_
    have hwp := xp.2.1
    have hVl : RowV xp.1.1 Q.length := hwp.V
    have hlp : xp.1.2.1.length = Q.length := hwp.lenv
    have hpp : ∀ w2, (((Chg (fun _ => False) w w2 ∧ (Hp.own (.slice a26 3 c26) 23 2 3 (([⟨0, 0⟩, ⟨1, 0⟩, ⟨0, 1⟩] : List PtT).flatMap eP)).ok w2) ∧ (Hp.own v28 32 1 1 [.slice a26 3 c26]).ok w2) ∧ SaidOk w2 xp.1.2.2.1 xp.1.2.2.2) → PcsAt w2 xp.1.1 xp.1.2.1 Q := fun w2 hg => xp.2.2.2 w2 (hat0 w2 hg.1) hg.2.1
    have hrl1 : ∀ w2, (((Chg (fun _ => False) w w2 ∧ (Hp.own (.slice a26 3 c26) 23 2 3 (([⟨0, 0⟩, ⟨1, 0⟩, ⟨0, 1⟩] : List PtT).flatMap eP)).ok w2) ∧ (Hp.own v28 32 1 1 [.slice a26 3 c26]).ok w2) ∧ SaidOk w2 xp.1.2.2.1 xp.1.2.2.2) → RowAt w2 xp.1.1 1 Q.length xp.1.2.1 := fun w2 hg => (hpp w2 hg).row
    have hV0 : RowV (xp.1.2.1.getD 0 undef) 3 := by have := hwp.pV 0 (by omega); rw [hQ00] at this; exact this
    have hr0 : ∀ w2, (((Chg (fun _ => False) w w2 ∧ (Hp.own (.slice a26 3 c26) 23 2 3 (([⟨0, 0⟩, ⟨1, 0⟩, ⟨0, 1⟩] : List PtT).flatMap eP)).ok w2) ∧ (Hp.own v28 32 1 1 [.slice a26 3 c26]).ok w2) ∧ SaidOk w2 xp.1.2.2.1 xp.1.2.2.2) → RowAt w2 (xp.1.2.1.getD 0 undef) 2 3 (([⟨0, 0⟩, ⟨1, 0⟩, ⟨0, 1⟩] : List PtT).flatMap eP) := fun w2 hg => by have := (hpp w2 hg).pc 0 (by omega); rw [hQ00] at this; exact this
    have hr26 : ∀ w2, (((Chg (fun _ => False) w w2 ∧ (Hp.own (.slice a26 3 c26) 23 2 3 (([⟨0, 0⟩, ⟨1, 0⟩, ⟨0, 1⟩] : List PtT).flatMap eP)).ok w2) ∧ (Hp.own v28 32 1 1 [.slice a26 3 c26]).ok w2) ∧ SaidOk w2 xp.1.2.2.1 xp.1.2.2.2) → RowAt w2 (.slice a26 3 c26) 2 3 (([⟨0, 0⟩, ⟨1, 0⟩, ⟨0, 1⟩] : List PtT).flatMap eP) := fun w2 hg => rowAt_own hg.1.1.2
    refine l_val rfl (o_move rfl) ?_
    refine l_val rfl (o_len rfl hVl) ?_
    refine l_split rfl (o_eql rfl rfl) (fun q1 => absurd q1 (by omega)) (fun q1 => ?_)
    refine l_val rfl (o_move rfl) ?_
    refine l_val rfl (o_move rfl) ?_
    refine l_val rfl (o_idx (0) rfl hVl rfl (by first | rfl | omega) (by omega)) ?_
    refine l_val rfl (o_loadR1 rfl (row_imm hrl1) (el_one (by rw [hlp]; omega))) ?_
    refine l_val rfl (o_move rfl) ?_
    refine l_call (ks := []) rfl (o_callC (vs := [_, _]) (r := .bool true) (ent_of Try.func21 rfl rfl) rfl (fun w' hg hh => r_SameOneT w' _ _ ([⟨0, 0⟩, ⟨1, 0⟩, ⟨0, 1⟩] : List PtT) (by show 3 ≤ 1000000; omega) hV0 (hr0 w' hg) hv26 (hr26 w' hg))) ?_
    refine l_val rfl (o_not rfl rfl) ?_
    refine l_val rfl (o_pickF rfl rfl) ?_
    refine l_nil ?_
    refine kt_norm ?_
    refine v_sel [4, 10, 44] [4] rfl rfl ?_
    refine v_condF rfl ?_
    refine v_skip ?_
    refine kt_norm ?_
    refine v_seq ?_
    refine v_seq ?_
    refine v_region ?_
    refine l_val rfl (o_assign rfl) ?_
    refine l_nil ?_
    refine kt_norm ?_
    refine v_block ?_
    refine v_loopS (α := Nat) (fun i => [(11, .int .i64 (i : Int))]) (fun i => [])  (fun i => 1 ≤ i ∧ i ≤ Q.length) (fun i => Q.length - i) 1 [4, 10] [4] ⟨Nat.le_refl _, by omega⟩  (And.intro rfl (True.intro)) rfl (True.intro) rfl ?_
    rintro i ⟨hi1, hi⟩
    refine v_seq ?_
    refine v_seq ?_
    refine v_region ?_
    refine l_val rfl (o_move rfl) ?_
    refine l_val rfl (o_move rfl) ?_
    refine l_val rfl (o_len rfl hVl) ?_
    refine l_split rfl (o_lss rfl rfl) (fun q2 => ?_) (fun q2 => ?_)
    · have hil : i < Q.length := by omega
      have htri := hTri i hi1 hil
      obtain ⟨q, hq⟩ : ∃ q, Q.getD i [] = q := ⟨_, rfl⟩
      have hVq := hwp.pV i hil
      have hrq : ∀ w2, (((Chg (fun _ => False) w w2 ∧ (Hp.own (.slice a26 3 c26) 23 2 3 (([⟨0, 0⟩, ⟨1, 0⟩, ⟨0, 1⟩] : List PtT).flatMap eP)).ok w2) ∧ (Hp.own v28 32 1 1 [.slice a26 3 c26]).ok w2) ∧ SaidOk w2 xp.1.2.2.1 xp.1.2.2.2) → RowAt w2 (xp.1.2.1.getD i undef) 2 (Q.getD i []).length ((Q.getD i []).flatMap eP) := fun w2 hg => (hpp w2 hg).pc i hil
      rw [hq] at htri hVq hrq
      obtain ⟨hq3, hqc, hqp, hqn⟩ := htri
      refine l_nil ?_
      refine kt_norm ?_
      refine v_condT rfl ?_
      refine v_skip ?_
      refine kt_norm ?_
      refine v_seq ?_
      refine v_block ?_
      refine v_seq ?_
      refine v_drawW [] [[], [], [], [], [], [], [], [], [], [], [], [], [], [], [], [], [], [], [], [], [], [4], [], [], [], [], [], [], [], [], [4], [], [], [], [], [], [], [], [], [], [4], [], [], []] mixed ?_ (by kernel_rfl) (by kernel_rfl)
      refine d_val (fun _ => rfl) rfl rfl (fun σ10 => o_move rfl) ?_
      refine d_val (fun _ => rfl) rfl rfl (fun σ10 => o_move rfl) ?_
      refine d_val (fun _ => rfl) rfl rfl (fun σ10 => o_idx (i) rfl hVl rfl (by first | rfl | omega) (by omega)) ?_
      refine d_val (fun _ => rfl) rfl rfl (fun σ10 => o_loadR1 rfl (row_imm hrl1) (el_one (by rw [hlp]; omega))) ?_
      refine d_val (fun _ => rfl) rfl rfl (fun σ10 => o_len rfl hVq) ?_
      refine d_neq (fun _ => rfl) (fun _ => rfl) (fun _ => rfl) (fun q3 => absurd q3 (by omega)) (fun q3 => ?_)
      refine d_val (fun _ => rfl) rfl rfl (fun σ10 => o_move rfl) ?_
      refine d_val (fun _ => rfl) rfl rfl (fun σ10 => o_move rfl) ?_
      refine d_val (fun _ => rfl) rfl rfl (fun σ10 => o_move rfl) ?_
      refine d_val (fun _ => rfl) rfl rfl (fun σ10 => o_idx (i) rfl hVl rfl (by first | rfl | omega) (by omega)) ?_
      refine d_val (fun _ => rfl) rfl rfl (fun σ10 => o_loadR1 rfl (row_imm hrl1) (el_one (by rw [hlp]; omega))) ?_
      refine d_gcall (y := .bool true) (caps := #[]) (fun _ => rfl) (fun _ => rfl) (ent_of Try.func22 rfl rfl) (vs := fun _ => [_]) (fun _ => rfl) (fun σ10 w' hg hh => hqc ▸ a_Convex w' _ q (by omega) hVq (hrq w' hg) hqn) ?_
      refine d_val (fun _ => rfl) rfl rfl (fun σ10 => o_not rfl rfl) ?_
      refine d_val (fun _ => rfl) rfl rfl (fun σ10 => o_pickF rfl rfl) ?_
      refine d_val (fun _ => rfl) rfl rfl (fun σ10 => o_move rfl) ?_
      refine d_val (fun _ => rfl) rfl rfl (fun σ10 => o_move rfl) ?_
      refine d_val (fun _ => rfl) rfl rfl (fun σ10 => o_move rfl) ?_
      refine d_val (fun _ => rfl) rfl rfl (fun σ10 => o_idx (i) rfl hVl rfl (by first | rfl | omega) (by omega)) ?_
      refine d_val (fun _ => rfl) rfl rfl (fun σ10 => o_loadR1 rfl (row_imm hrl1) (el_one (by rw [hlp]; omega))) ?_
      refine d_val (fun _ => rfl) rfl rfl (fun σ10 => o_idx (0) rfl hVq rfl (by first | rfl | omega) (by omega)) ?_
      refine d_val (fun _ => rfl) rfl rfl (fun σ10 => o_loadRE (c' := [_, _]) rfl (row_imm hrq) (el_flat eP_len dP q (0) (by omega)) rfl) ?_
      refine d_val (fun _ => rfl) rfl rfl (fun σ10 => o_loadW (key := 4) rfl rfl rfl) ?_
      refine d_neqs (xl := [_, _]) (yl := [_, _]) (az := [_, _]) (bz := [_, _]) (fun _ => rfl) (fun _ => rfl) (fun _ => rfl) rfl rfl rfl rfl (fun h0 => ?_) (fun h0 => ?_)
      · simp only [List.map_cons, List.map_nil, List.cons.injEq, and_true, Decidable.not_not] at h0
        refine d_val (fun _ => rfl) rfl rfl (fun σ10 => o_move rfl) ?_
        refine d_val (fun _ => rfl) rfl rfl (fun σ10 => o_move rfl) ?_
        refine d_val (fun _ => rfl) rfl rfl (fun σ10 => o_move rfl) ?_
        refine d_val (fun _ => rfl) rfl rfl (fun σ10 => o_idx (i) rfl hVl rfl (by first | rfl | omega) (by omega)) ?_
        refine d_val (fun _ => rfl) rfl rfl (fun σ10 => o_loadR1 rfl (row_imm hrl1) (el_one (by rw [hlp]; omega))) ?_
        refine d_val (fun _ => rfl) rfl rfl (fun σ10 => o_idx (1) rfl hVq rfl (by first | rfl | omega) (by omega)) ?_
        refine d_val (fun _ => rfl) rfl rfl (fun σ10 => o_loadRE (c' := [_, _]) rfl (row_imm hrq) (el_flat eP_len dP q (1) (by omega)) rfl) ?_
        refine d_val (fun _ => rfl) rfl rfl (fun σ10 => o_loadW (key := 4) rfl rfl rfl) ?_
        refine d_neqs (xl := [_, _]) (yl := [_, _]) (az := [_, _]) (bz := [_, _]) (fun _ => rfl) (fun _ => rfl) (fun _ => rfl) rfl rfl rfl rfl (fun h1 => ?_) (fun h1 => ?_)
        · simp only [List.map_cons, List.map_nil, List.cons.injEq, and_true, Decidable.not_not] at h1
          refine d_val (fun _ => rfl) rfl rfl (fun σ10 => o_pickT rfl rfl) ?_
          refine d_val (fun _ => rfl) rfl rfl (fun σ10 => o_move rfl) ?_
          refine d_val (fun _ => rfl) rfl rfl (fun σ10 => o_move rfl) ?_
          refine d_val (fun _ => rfl) rfl rfl (fun σ10 => o_move rfl) ?_
          refine d_val (fun _ => rfl) rfl rfl (fun σ10 => o_idx (i) rfl hVl rfl (by first | rfl | omega) (by omega)) ?_
          refine d_val (fun _ => rfl) rfl rfl (fun σ10 => o_loadR1 rfl (row_imm hrl1) (el_one (by rw [hlp]; omega))) ?_
          refine d_val (fun _ => rfl) rfl rfl (fun σ10 => o_idx (2) rfl hVq rfl (by first | rfl | omega) (by omega)) ?_
          refine d_val (fun _ => rfl) rfl rfl (fun σ10 => o_loadRE (c' := [_, _]) rfl (row_imm hrq) (el_flat eP_len dP q (2) (by omega)) rfl) ?_
          refine d_val (fun _ => rfl) rfl rfl (fun σ10 => o_loadW (key := 4) rfl rfl rfl) ?_
          refine d_neqs (xl := [_, _]) (yl := [_, _]) (az := [_, _]) (bz := [_, _]) (fun _ => rfl) (fun _ => rfl) (fun _ => rfl) rfl rfl rfl rfl (fun h2 => ?_) (fun h2 => ?_)
          · exact False.elim (hqp.elim (fun e => h0 (by rw [e]; exact ⟨rfl, rfl⟩)) (fun e => h2 (by rw [e])))
          · simp only [List.map_cons, List.map_nil, List.cons.injEq, and_true, Decidable.not_not] at h2
            refine d_val (fun _ => rfl) rfl rfl (fun σ10 => o_pickT rfl rfl) ?_
            refine d_val (fun _ => rfl) rfl rfl (fun σ10 => o_pickF rfl rfl) ?_
            refine d_nil (fun σ10 => ?_)
            refine l_nil ?_
            refine kt_norm ?_
            refine v_sel [11, 4, 10, 58, 59, 60, 61, 62, 63, 66, 67, 68, 69, 70, 71, 72, 73, 74, 75, 76, 77, 78, 79, 80, 81, 82, 83, 84, 85, 86, 87, 88, 89, 90, 91, 92, 93, 94] [4] rfl rfl ?_
            refine v_condF rfl ?_
            refine v_skip ?_
            refine kb_norm ?_
            refine kt_norm ?_
            refine v_region ?_
            refine l_val rfl (o_move rfl) ?_
            refine l_val rfl (o_addi rfl rfl ?_) ?_
            · omega
            refine l_val rfl (o_assign rfl) ?_
            refine l_nil ?_
            refine kt_norm ?_
            refine ⟨i + 1, ⟨by omega, hil⟩, (by show Q.length - (i + 1) < Q.length - i; omega), le_app (And.intro rfl (True.intro)) [4, 10] rfl (True.intro) [4] rfl⟩
        · simp only [List.map_cons, List.map_nil, List.cons.injEq, and_true, Decidable.not_not] at h1
          refine d_val (fun _ => rfl) rfl rfl (fun σ10 => o_pickT rfl rfl) ?_
          refine d_val (fun _ => rfl) rfl rfl (fun σ10 => o_move rfl) ?_
          refine d_no (fun _ => rfl) ?_
          refine d_no (fun _ => rfl) ?_
          refine d_no (fun _ => rfl) ?_
          refine d_no (fun _ => rfl) ?_
          refine d_no (fun _ => rfl) ?_
          refine d_no (fun _ => rfl) ?_
          refine d_no (fun _ => rfl) ?_
          refine d_no (fun _ => rfl) ?_
          refine d_val (fun _ => rfl) rfl rfl (fun σ10 => o_pickF rfl rfl) ?_
          refine d_val (fun _ => rfl) rfl rfl (fun σ10 => o_pickF rfl rfl) ?_
          refine d_nil (fun σ10 => ?_)
          refine l_nil ?_
          refine kt_norm ?_
          refine v_sel [11, 4, 10, 58, 59, 60, 61, 62, 63, 66, 67, 68, 69, 70, 71, 72, 73, 74, 75, 76, 77, 78, 79, 80, 81, 82, 83, 84, 85, 86, 87, 88, 89, 90, 91, 92, 93, 94] [4] rfl rfl ?_
          refine v_condF rfl ?_
          refine v_skip ?_
          refine kb_norm ?_
          refine kt_norm ?_
          refine v_region ?_
          refine l_val rfl (o_move rfl) ?_
          refine l_val rfl (o_addi rfl rfl ?_) ?_
          · omega
          refine l_val rfl (o_assign rfl) ?_
          refine l_nil ?_
          refine kt_norm ?_
          refine ⟨i + 1, ⟨by omega, hil⟩, (by show Q.length - (i + 1) < Q.length - i; omega), le_app (And.intro rfl (True.intro)) [4, 10] rfl (True.intro) [4] rfl⟩
      · simp only [List.map_cons, List.map_nil, List.cons.injEq, and_true, Decidable.not_not] at h0
        refine d_val (fun _ => rfl) rfl rfl (fun σ10 => o_move rfl) ?_
        refine d_no (fun _ => rfl) ?_
        refine d_no (fun _ => rfl) ?_
        refine d_no (fun _ => rfl) ?_
        refine d_no (fun _ => rfl) ?_
        refine d_no (fun _ => rfl) ?_
        refine d_no (fun _ => rfl) ?_
        refine d_no (fun _ => rfl) ?_
        refine d_no (fun _ => rfl) ?_
        refine d_val (fun _ => rfl) rfl rfl (fun σ10 => o_pickF rfl rfl) ?_
        refine d_val (fun _ => rfl) rfl rfl (fun σ10 => o_move rfl) ?_
        refine d_no (fun _ => rfl) ?_
        refine d_no (fun _ => rfl) ?_
        refine d_no (fun _ => rfl) ?_
        refine d_no (fun _ => rfl) ?_
        refine d_no (fun _ => rfl) ?_
        refine d_no (fun _ => rfl) ?_
        refine d_no (fun _ => rfl) ?_
        refine d_no (fun _ => rfl) ?_
        refine d_val (fun _ => rfl) rfl rfl (fun σ10 => o_pickF rfl rfl) ?_
        refine d_val (fun _ => rfl) rfl rfl (fun σ10 => o_pickF rfl rfl) ?_
        refine d_nil (fun σ10 => ?_)
        refine l_nil ?_
        refine kt_norm ?_
        refine v_sel [11, 4, 10, 58, 59, 60, 61, 62, 63, 66, 67, 68, 69, 70, 71, 72, 73, 74, 75, 76, 77, 78, 79, 80, 81, 82, 83, 84, 85, 86, 87, 88, 89, 90, 91, 92, 93, 94] [4] rfl rfl ?_
        refine v_condF rfl ?_
        refine v_skip ?_
        refine kb_norm ?_
        refine kt_norm ?_
        refine v_region ?_
        refine l_val rfl (o_move rfl) ?_
        refine l_val rfl (o_addi rfl rfl ?_) ?_
        · omega
        refine l_val rfl (o_assign rfl) ?_
        refine l_nil ?_
        refine kt_norm ?_
        refine ⟨i + 1, ⟨by omega, hil⟩, (by show Q.length - (i + 1) < Q.length - i; omega), le_app (And.intro rfl (True.intro)) [4, 10] rfl (True.intro) [4] rfl⟩
    · skip
      refine l_nil ?_
      refine kt_norm ?_
      refine v_condF rfl ?_
      refine v_exit ?_
      refine kt_exit ?_
      refine kt_exit ?_
      refine kb_eq ?_
      refine kt_norm ?_
      refine v_sel [10] [] rfl rfl ?_
      refine v_seq ?_
      refine v_region ?_
      refine l_val rfl (o_move rfl) ?_
      refine l_val rfl (o_len rfl hVl) ?_
      refine l_split rfl (o_leq rfl rfl) (fun q4 => ?_) (fun q4 => absurd (show _ by omega) q4)
      refine l_val rfl (o_assign rfl) ?_
      refine l_nil ?_
      refine kt_norm ?_
      refine v_ret ?_
      refine ⟨[_], .cons (.tmp rfl) (ResAll.nil), ?_⟩
      rfl
  · skip
    refine l_val rfl (o_not rfl rfl) ?_
    refine l_val rfl (o_move rfl) ?_
    refine l_no rfl ?_
    refine l_no rfl ?_
    refine l_val rfl (o_pickT rfl rfl) ?_
    refine l_nil ?_
    refine kt_norm ?_
    refine v_sel [3, 4, 5, 6, 21] [4, 5, 6] rfl rfl ?_
    refine v_condT rfl ?_
    refine v_seq ?_
    refine v_region ?_
    refine l_call (ks := []) rfl (o_callC (vs := []) (r := .bool true) (ent_of Try.func14 rfl rfl) rfl (fun w' hg hh => a_shown w')) ?_
    refine l_val rfl (o_assign rfl) ?_
    refine l_nil ?_
    refine kt_norm ?_
    refine v_sel [8] [] rfl rfl ?_
    refine v_ret ?_
    refine kt_ret ?_
    refine ⟨[_], .cons (.tmp rfl) (ResAll.nil), ?_⟩
    rfl
end Go.Proofs.Ytpgjbalnipinoaa

/- Shifted pieces of a pie; each quarter of a disc has a piece. Conditions: none. -/
namespace Go.Proofs.Ytpgjbalnipinoaa
open Go.Proofs Go.RowKit Go.Shelf

/-! ### shifts -/
def crossS (pc : List PtT) : Nat → Int
  | 0 => 0
  | k + 1 => crossS pc k + crossT (pc.getD k dP) (pc.getD ((k + 1) % pc.length) dP)
theorem areaTo_S (pc : List PtT) : ∀ k, areaTo pc k = wr (crossS pc k)
  | 0 => rfl
  | k + 1 => by
    rw [areaTo, areaTo_S pc k, crossS]
    unfold wr; omega
theorem map_getD {pc : List PtT} {i : Nat} (dx dy : Int) (h : i < pc.length) : (pc.map (shP dx dy)).getD i dP = shP dx dy (pc.getD i dP) := by
  rw [List.getD_eq_getElem?_getD, List.getD_eq_getElem?_getD, List.getElem?_map, List.getElem?_eq_getElem h]; rfl
theorem cross_sh (dx dy : Int) (p q : PtT) : crossT (shP dx dy p) (shP dx dy q) = crossT p q + (dx * (q.y - p.y) - dy * (q.x - p.x)) := by
  unfold crossT shP; grind
theorem crossS_sh {pc : List PtT} (dx dy : Int) : ∀ k, k ≤ pc.length → 0 < pc.length →
    crossS (pc.map (shP dx dy)) k = crossS pc k + (dx * ((pc.getD (k % pc.length) dP).y - (pc.getD 0 dP).y) - dy * ((pc.getD (k % pc.length) dP).x - (pc.getD 0 dP).x))
  | 0, _, h0 => by rw [Nat.zero_mod, crossS, crossS]; grind
  | k + 1, hk, h0 => by
    have hm := Nat.mod_lt (k + 1) h0
    rw [crossS, crossS, crossS_sh dx dy k (by omega) h0, List.length_map, map_getD dx dy (by omega), map_getD dx dy hm, cross_sh, Nat.mod_eq_of_lt (show k < pc.length by omega)]
    grind
theorem areaT_sh (dx dy : Int) (pc : List PtT) : areaT (pc.map (shP dx dy)) = areaT pc := by
  unfold areaT
  rw [areaTo_S, areaTo_S, List.length_map]
  by_cases h : 0 < pc.length
  · rw [crossS_sh dx dy pc.length (Nat.le_refl _) h, Nat.mod_self]; congr 1; grind
  · rw [show pc.length = 0 by omega]; rfl
theorem side_sh (dx dy : Int) (a b c : PtT) : sideT (shP dx dy a) (shP dx dy b) (shP dx dy c) = sideT a b c := by
  unfold sideT crossT shP
  dsimp only
  congr 1; grind
theorem sides_sh (dx dy : Int) (pc : List PtT) : sidesT (pc.map (shP dx dy)) = (sidesT pc).map fun s => (shP dx dy s.1, shP dx dy s.2) := by
  unfold sidesT
  rw [List.length_map, List.map_map]
  refine List.map_congr_left fun i hi => ?_
  have hi := List.mem_range.1 hi
  rw [map_getD dx dy hi, map_getD dx dy (Nat.mod_lt _ (by omega))]; rfl
theorem left_sh (dx dy : Int) (pc : List PtT) (p : PtT) : leftB (pc.map (shP dx dy)) (shP dx dy p) = leftB pc p := by
  unfold leftB
  rw [sides_sh, List.all_map]
  congr 1; funext s
  show (!(decide (sideT (shP dx dy s.1) (shP dx dy s.2) (shP dx dy p) < 0))) = _
  rw [side_sh]
theorem convex_sh (dx dy : Int) (pc : List PtT) : convexB (pc.map (shP dx dy)) = convexB pc := by
  unfold convexB
  rw [List.length_map, areaT_sh, List.any_map]
  congr 4; funext p
  show (!leftB (pc.map (shP dx dy)) (shP dx dy p)) = _
  rw [left_sh]
theorem ori_sh (dx dy : Int) (pc : List PtT) : oriT (pc.map (shP dx dy)) = (oriT pc).map (shP dx dy) := by
  unfold oriT
  rw [areaT_sh]
  split
  · rw [List.map_reverse]
  · rfl
def shQ (dx dy : Int) (qs : List (List PtT)) : List (List PtT) := qs.map fun pc => pc.map (shP dx dy)
theorem put_sh (dx dy : Int) (qs : List (List PtT)) (pc : List PtT) : putT (shQ dx dy qs) (pc.map (shP dx dy)) = shQ dx dy (putT qs pc) := by
  unfold putT
  rw [ori_sh, convex_sh]
  split
  · unfold shQ; rw [List.map_append]; rfl
  · rfl
theorem pie_sh (dx dy : Int) (p : PtT) (qs : List (List PtT)) (c : PtT × PtT) : pieT (shP dx dy p) (shQ dx dy qs) c = shQ dx dy (pieT p qs c) := by
  unfold pieT
  rw [← put_sh]
  congr 1
  simp only [List.map_cons, List.map_nil, shP, List.cons.injEq, PtT.mk.injEq, and_true, true_and]
  omega
theorem pies_sh (dx dy : Int) (p : PtT) : ∀ (l : List (PtT × PtT)) (qs : List (List PtT)), l.foldl (pieT (shP dx dy p)) (shQ dx dy qs) = shQ dx dy (l.foldl (pieT p) qs)
  | [], qs => rfl
  | c :: l, qs => by rw [List.foldl_cons, List.foldl_cons, pie_sh, pies_sh dx dy p l]
theorem half_sh (dx dy : Int) (p u : PtT) (r : Int) (qs : List (List PtT)) : halfT (shP dx dy p) u r (shQ dx dy qs) = shQ dx dy (halfT p u r qs) := by
  unfold halfT
  split
  · rfl
  · exact pies_sh dx dy p _ qs
/-! ### each quarter of a disc has a piece -/
theorem wr_small {x : Int} (h : -9223372036854775808 ≤ x ∧ x < 9223372036854775808) : wr x = x := by unfold wr; omega
theorem cross_bd {f t : PtT} (hf : BdT f) (ht : BdT t) : -137438953472 ≤ crossT f t ∧ crossT f t ≤ 137438953472 := by
  unfold BdT at hf ht
  unfold crossT
  have m1 := mul_bound (A := 262144) (B := 262144) (x := f.x) (y := t.y) (by omega) (by omega) (by omega) (by omega)
  have m2 := mul_bound (A := 262144) (B := 262144) (x := f.y) (y := t.x) (by omega) (by omega) (by omega) (by omega)
  omega
theorem crossS3 (a b c : PtT) : crossS [a, b, c] [a, b, c].length = 0 + crossT a b + crossT b c + crossT c a := by
  have e : [a, b, c].length = 3 := rfl
  show crossS [a, b, c] (0 + 1 + 1 + 1) = _
  rw [crossS, crossS, crossS, crossS, e]; rfl
theorem sides3 (a b c : PtT) : sidesT [a, b, c] = [(a, b), (b, c), (c, a)] := by
  have e : [a, b, c].length = 3 := rfl
  unfold sidesT; rw [e]; rfl
theorem area_tri (p f t : PtT) (hf : BdT f) (ht : BdT t) : areaT [p, ⟨p.x + f.x, p.y + f.y⟩, ⟨p.x + t.x, p.y + t.y⟩] = crossT f t := by
  unfold areaT
  rw [areaTo_S]
  have e : crossS [p, ⟨p.x + f.x, p.y + f.y⟩, ⟨p.x + t.x, p.y + t.y⟩] [p, ⟨p.x + f.x, p.y + f.y⟩, ⟨p.x + t.x, p.y + t.y⟩].length = crossT f t := by
    rw [crossS3]
    unfold crossT; grind
  rw [e]
  have := cross_bd hf ht
  exact wr_small (by omega)
theorem sg_nn {x : Int} (h : 0 ≤ x) : ¬ sg x < 0 := by unfold sg; split <;> (try split) <;> omega
theorem tri_convex {p f t : PtT} (hf : BdT f) (ht : BdT t) (h : 0 < crossT f t) : oriT [p, ⟨p.x + f.x, p.y + f.y⟩, ⟨p.x + t.x, p.y + t.y⟩] = [p, ⟨p.x + f.x, p.y + f.y⟩, ⟨p.x + t.x, p.y + t.y⟩] ∧ convexB [p, ⟨p.x + f.x, p.y + f.y⟩, ⟨p.x + t.x, p.y + t.y⟩] = true := by
  have ha := area_tri p f t hf ht
  refine ⟨by unfold oriT; rw [ha, if_neg (by omega)], ?_⟩
  unfold convexB
  rw [ha, decide_eq_true (show 3 ≤ [p, ⟨p.x + f.x, p.y + f.y⟩, ⟨p.x + t.x, p.y + t.y⟩].length from Nat.le_refl 3), decide_eq_true h]
  unfold crossT at h
  have key : ∀ s ∈ sidesT [p, ⟨p.x + f.x, p.y + f.y⟩, ⟨p.x + t.x, p.y + t.y⟩], ∀ q ∈ [p, ⟨p.x + f.x, p.y + f.y⟩, ⟨p.x + t.x, p.y + t.y⟩], ¬ sideT s.1 s.2 q < 0 := by
    intro s hs q hq
    rw [sides3] at hs
    simp only [List.mem_cons, List.not_mem_nil, or_false] at hs hq
    unfold sideT crossT
    refine sg_nn ?_
    rcases hs with rfl | rfl | rfl <;> rcases hq with rfl | rfl | rfl <;> dsimp only <;> grind
  rw [Bool.true_and, Bool.true_and, Bool.not_eq_true', List.any_eq_false]
  intro q hq
  rw [Bool.not_eq_true', Bool.not_eq_false]
  unfold leftB
  rw [List.all_eq_true]
  intro s hs
  rw [decide_eq_false (key s hs q hq)]; rfl
theorem pie_grow (p : PtT) (l : List (PtT × PtT)) : ∀ qs : List (List PtT), qs.length ≤ (l.foldl (pieT p) qs).length := by
  induction l with
  | nil => exact fun qs => Nat.le_refl _
  | cons c l ih =>
    intro qs
    have h1 := ih (pieT p qs c)
    have h2 : qs.length ≤ (pieT p qs c).length := by
      unfold pieT putT; split
      · rw [List.length_append]; omega
      · exact Nat.le_refl _
    rw [List.foldl_cons]; omega
theorem pie_one (p : PtT) : ∀ (l : List (PtT × PtT)) (qs : List (List PtT)), (∀ c ∈ l, BdT c.1 ∧ BdT c.2) → (∃ c ∈ l, 0 < crossT c.1 c.2) → qs.length + 1 ≤ (l.foldl (pieT p) qs).length
  | [], qs, _, ⟨c, hc, _⟩ => by cases hc
  | c :: l, qs, hb, ⟨x, hx, hp⟩ => by
    rw [List.foldl_cons]
    rcases List.mem_cons.1 hx with rfl | hx
    · have h1 := hb x List.mem_cons_self
      obtain ⟨h2, h3⟩ := tri_convex (p := p) h1.1 h1.2 hp
      have e : pieT p qs x = qs ++ [oriT [p, ⟨p.x + x.1.x, p.y + x.1.y⟩, ⟨p.x + x.2.x, p.y + x.2.y⟩]] := putT_yes (by rw [h2]; exact h3)
      have := pie_grow p l (pieT p qs x)
      rw [e, List.length_append, List.length_singleton] at this
      rw [e]; exact this
    · have h1 := pie_one p l (pieT p qs c) (fun y hy => hb y (List.mem_cons_of_mem _ hy)) ⟨x, hx, hp⟩
      have h2 := pie_grow p [c] qs
      rw [List.foldl_cons, List.foldl_nil] at h2
      omega
theorem nearQ_pos {p c : Int} (hc : 0 < c) (h : c ≤ 2 * p) : 1 ≤ nearQ p c := by
  have e := Int.mul_ediv_add_emod p c
  have m1 := Int.emod_nonneg p (show c ≠ 0 by omega)
  have m2 := Int.emod_lt_of_pos p hc
  have q0 : 0 ≤ p / c := Int.ediv_nonneg (by omega) (by omega)
  by_cases hn : c - p % c ≤ p % c
  · rw [nearQ_yes hn]; omega
  · rw [nearQ_no hn]
    rcases Int.lt_or_le (p / c) 1 with h3 | h3
    · have h4 : p / c = 0 := by omega
      rw [h4, Int.mul_zero, Int.zero_add] at e
      omega
    · exact h3
theorem nearQ_neg {p c : Int} (hc : 0 < c) (h : c < -(2 * p)) : nearQ p c ≤ -1 := by
  have e := Int.mul_ediv_add_emod p c
  have m1 := Int.emod_nonneg p (show c ≠ 0 by omega)
  have m2 := Int.emod_lt_of_pos p hc
  have q0 : p / c < 0 := Int.ediv_neg_of_neg_of_pos (by omega) hc
  by_cases hn : c - p % c ≤ p % c
  · rw [nearQ_yes hn]
    rcases Int.lt_or_le (p / c) (-1) with h3 | h3
    · omega
    · have h4 : p / c = -1 := by omega
      rw [h4] at e
      omega
  · rw [nearQ_no hn]; omega
theorem sq_nn (x : Int) : 0 ≤ x * x := by rcases Int.le_total 0 x with h | h; exact Int.mul_nonneg h h; exact Int.mul_nonneg_of_nonpos_of_nonpos h h
theorem lenT_le {P : PtT} {k : Int} (hk : 0 ≤ k) (h : P.x * P.x + P.y * P.y < (k + 1) * (k + 1)) (hs : P.x * P.x + P.y * P.y < 18446744073709551616) : lenT P ≤ k := by
  unfold lenT
  obtain ⟨n, rfl⟩ : ∃ n : Nat, k = (n : Int) := ⟨k.toNat, by omega⟩
  have h3 := sq_nn P.x
  have h4 := sq_nn P.y
  have h5 : 0 ≤ P.x * P.x + P.y * P.y := by omega
  generalize P.x * P.x + P.y * P.y = S at h hs h5 ⊢
  obtain ⟨s, rfl⟩ : ∃ s : Nat, S = (s : Int) := ⟨S.toNat, by omega⟩
  rw [Int.toNat_natCast]
  have := isq_le (n := s) (x := n) (by omega) (by exact_mod_cast h)
  omega
theorem sq_mono {x y : Int} (h : -y ≤ x ∧ x ≤ y) : x * x ≤ y * y := by
  have := Int.mul_nonneg (show 0 ≤ y - x by omega) (show 0 ≤ y + x by omega)
  grind
/-- how long what lies between is -/
theorem mid_len {P : PtT} {y r : Int} (hy : 1 ≤ y) (hr : 1 ≤ r) (h : P.x * P.x + P.y * P.y ≤ 4 * (r * r) + y * y) (hs : P.x * P.x + P.y * P.y < 18446744073709551616) : lenT P ≤ 2 * (y * r) := by
  have h0 : 0 ≤ y * r := Int.mul_nonneg (by omega) (by omega)
  refine lenT_le (by omega) ?_ hs
  have h1 := Int.mul_le_mul hy hr (by omega) (by omega)
  have a1 : 1 ≤ y * y := Int.mul_le_mul hy hy (by omega) (by omega)
  have a2 : 1 ≤ r * r := Int.mul_le_mul hr hr (by omega) (by omega)
  have a3 := Int.mul_nonneg (show 0 ≤ y * y - 1 by omega) (show 0 ≤ r * r - 1 by omega)
  grind
theorem mid_go {r : Int} {u v : PtT} (h : ¬ stopT r u v) : 0 < lenT ⟨u.x + v.x, u.y + v.y⟩ ∧ midT r u v = ⟨nearQ ((u.x + v.x) * r) (lenT ⟨u.x + v.x, u.y + v.y⟩), nearQ ((u.y + v.y) * r) (lenT ⟨u.x + v.x, u.y + v.y⟩)⟩ := by
  have h0 : 0 ≤ lenT ⟨u.x + v.x, u.y + v.y⟩ := Int.natCast_nonneg _
  have h1 : lenT ⟨u.x + v.x, u.y + v.y⟩ ≠ 0 := fun e => h (.inr (.inl (by unfold midT normT; rw [if_pos e])))
  exact ⟨by omega, by unfold midT normT; rw [if_neg h1]⟩
def InR (r : Int) (p : PtT) : Prop := (-r ≤ p.x ∧ p.x ≤ r) ∧ (-r ≤ p.y ∧ p.y ≤ r)
theorem mid_in {r : Int} {u v : PtT} (hr : 1 ≤ r ∧ r ≤ 131072) (hu : InR r u) (hv : InR r v) : InR r (midT r u v) := by
  unfold InR at hu hv
  exact norm_bound (p := ⟨u.x + v.x, u.y + v.y⟩) (by dsimp only; omega) (by dsimp only; omega) (by omega)
theorem mid_lenA {a y r : Int} (hr : 1 ≤ r ∧ r ≤ 131072) (ha : -(2 * r) ≤ a ∧ a ≤ 2 * r) (hy : 1 ≤ y ∧ y ≤ r) : lenT ⟨a, y⟩ ≤ 2 * (y * r) := by
  have h1 := sq_mono ha
  have h2 := sq_mono (x := y) (y := 131072) (by omega)
  have h3 := sq_mono (x := r) (y := 131072) (by omega)
  have h4 : 2 * r * (2 * r) = 4 * (r * r) := by grind
  exact mid_len hy.1 hr.1 (by dsimp only; omega) (by dsimp only; omega)
theorem lenT_swap (a b : Int) : lenT ⟨a, b⟩ = lenT ⟨b, a⟩ := by unfold lenT; dsimp only; rw [Int.add_comm]
theorem first1 {r : Int} (hr : 1 ≤ r ∧ r ≤ 131072) : ∀ (d : Nat) (v : PtT), InR r v → 1 ≤ v.y → ∃ c ∈ chordsT r d ⟨r, 0⟩ v, 0 < crossT c.1 c.2
  | d, v, hv, hy => by
    have leaf : ∃ c ∈ [((⟨r, 0⟩ : PtT), v)], 0 < crossT c.1 c.2 := ⟨_, List.mem_singleton.2 rfl, by
      have := Int.mul_pos (show 0 < r by omega) (show 0 < v.y by omega)
      unfold crossT; dsimp only; omega⟩
    match d with
    | 0 => exact leaf
    | d + 1 =>
      by_cases h : stopT r ⟨r, 0⟩ v
      · rw [chords_stop h]; exact leaf
      · rw [chords_go h]
        obtain ⟨hl, hm⟩ := mid_go h
        have hb := mid_in (u := ⟨r, 0⟩) hr (by unfold InR; dsimp only; omega) hv
        unfold InR at hv
        obtain ⟨c, hc, hp⟩ := first1 hr d _ hb (by
          rw [hm]
          refine nearQ_pos hl ?_
          dsimp only
          rw [Int.zero_add]
          exact mid_lenA hr (by omega) (by omega))
        exact ⟨c, List.mem_append_left _ hc, hp⟩
theorem last2 {r : Int} (hr : 1 ≤ r ∧ r ≤ 131072) : ∀ (d : Nat) (u : PtT), InR r u → 1 ≤ u.y → ∃ c ∈ chordsT r d u ⟨-r, 0⟩, 0 < crossT c.1 c.2
  | d, u, hu, hy => by
    have leaf : ∃ c ∈ [(u, (⟨-r, 0⟩ : PtT))], 0 < crossT c.1 c.2 := ⟨_, List.mem_singleton.2 rfl, by
      have := Int.mul_pos (show 0 < u.y by omega) (show 0 < r by omega)
      unfold crossT; dsimp only; rw [Int.mul_neg, Int.mul_zero]; omega⟩
    match d with
    | 0 => exact leaf
    | d + 1 =>
      by_cases h : stopT r u ⟨-r, 0⟩
      · rw [chords_stop h]; exact leaf
      · rw [chords_go h]
        obtain ⟨hl, hm⟩ := mid_go h
        have hb := mid_in (v := ⟨-r, 0⟩) hr hu (by unfold InR; dsimp only; omega)
        unfold InR at hu
        obtain ⟨c, hc, hp⟩ := last2 hr d _ hb (by
          rw [hm]
          refine nearQ_pos hl ?_
          dsimp only
          rw [Int.add_zero]
          exact mid_lenA hr (by omega) (by omega))
        exact ⟨c, List.mem_append_right _ hc, hp⟩
theorem first4 {r : Int} (hr : 1 ≤ r ∧ r ≤ 131072) : ∀ (d : Nat) (v : PtT), InR r v → 1 ≤ v.x → ∃ c ∈ chordsT r d ⟨0, -r⟩ v, 0 < crossT c.1 c.2
  | d, v, hv, hy => by
    have leaf : ∃ c ∈ [((⟨0, -r⟩ : PtT), v)], 0 < crossT c.1 c.2 := ⟨_, List.mem_singleton.2 rfl, by
      have := Int.mul_pos (show 0 < r by omega) (show 0 < v.x by omega)
      unfold crossT; dsimp only; rw [Int.neg_mul]; omega⟩
    match d with
    | 0 => exact leaf
    | d + 1 =>
      by_cases h : stopT r ⟨0, -r⟩ v
      · rw [chords_stop h]; exact leaf
      · rw [chords_go h]
        obtain ⟨hl, hm⟩ := mid_go h
        have hb := mid_in (u := ⟨0, -r⟩) hr (by unfold InR; dsimp only; omega) hv
        unfold InR at hv
        obtain ⟨c, hc, hp⟩ := first4 hr d _ hb (by
          rw [hm]
          refine nearQ_pos hl ?_
          dsimp only
          rw [Int.zero_add, lenT_swap]
          exact mid_lenA hr (by omega) (by omega))
        exact ⟨c, List.mem_append_left _ hc, hp⟩
theorem le_lenT {P : PtT} {k : Int} (hk : 0 ≤ k) (h : k * k ≤ P.x * P.x + P.y * P.y) (hs : P.x * P.x + P.y * P.y < 18446744073709551616) : k ≤ lenT P := by
  unfold lenT
  obtain ⟨n, rfl⟩ : ∃ n : Nat, k = (n : Int) := ⟨k.toNat, by omega⟩
  have h2 : n ≤ isq (P.x * P.x + P.y * P.y).toNat := by
    refine le_isq (by omega) ?_
    have : ((n * n : Nat) : Int) = (n : Int) * (n : Int) := by push_cast; rfl
    omega
  omega
theorem lenT_sq {P : PtT} (hs : P.x * P.x + P.y * P.y < 18446744073709551616) : lenT P * lenT P ≤ P.x * P.x + P.y * P.y := by
  have h1 := sq_nn P.x
  have h2 := sq_nn P.y
  have h := (isq_ok (n := (P.x * P.x + P.y * P.y).toNat) (by omega)).1
  unfold lenT
  have : ((isq (P.x * P.x + P.y * P.y).toNat * isq (P.x * P.x + P.y * P.y).toNat : Nat) : Int) = (isq (P.x * P.x + P.y * P.y).toNat : Int) * (isq (P.x * P.x + P.y * P.y).toNat : Int) := by push_cast; rfl
  omega
theorem neg_case {r x Y : Int} (hr : 1 ≤ r) (hx : -r ≤ x ∧ x ≤ r) (hY : 1 ≤ Y) (h : 4 * (Y * Y * (r * r)) ≤ (x - r) * (x - r) + Y * Y) : Y = 1 ∧ x = -r := by
  have a2 : 1 ≤ r * r := Int.mul_le_mul hr hr (by omega) (by omega)
  have h1 := sq_mono (x := x - r) (y := 2 * r) (by omega)
  have hY1 : Y = 1 := by
    rcases Int.lt_or_le Y 2 with h2 | h2
    · omega
    · have b1 : 4 ≤ Y * Y := Int.mul_le_mul h2 h2 (by omega) (by omega)
      have b2 := Int.mul_nonneg (show 0 ≤ Y * Y - 1 by omega) (show 0 ≤ r * r - 1 by omega)
      have b3 : 2 * r * (2 * r) = 4 * (r * r) := by grind
      have b4 : (Y * Y - 1) * (r * r - 1) = Y * Y * (r * r) - Y * Y - r * r + 1 := by grind
      omega
  subst hY1
  refine ⟨rfl, ?_⟩
  rcases Int.lt_or_le (-r) x with h2 | h2
  · have h3 := sq_mono (x := x - r) (y := 2 * r - 1) (by omega)
    have b3 : (2 * r - 1) * (2 * r - 1) = 4 * (r * r) - 4 * r + 1 := by grind
    omega
  · omega
theorem nearQ_half {r : Int} (hr : 0 < r) : nearQ (-r) (2 * r) = 0 := by
  have e := Int.mul_ediv_add_emod (-r) (2 * r)
  have h1 : -r / (2 * r) = -1 := by
    have := Int.ediv_lt_of_lt_mul (a := -r) (b := 0) (c := 2 * r) (by omega) (by omega)
    have := Int.le_ediv_of_mul_le (a := -1) (b := -r) (c := 2 * r) (by omega) (by omega)
    omega
  rw [h1] at e
  rw [nearQ_yes (by omega), h1]; rfl
theorem nearQ_full {r : Int} (hr : 0 < r) : nearQ (-(2 * r) * r) (2 * r) = -r := by
  have h0 : -(2 * r) * r = 2 * r * -r := by grind
  have e := Int.mul_ediv_add_emod (2 * r * -r) (2 * r)
  have h1 : 2 * r * -r / (2 * r) = -r := Int.mul_ediv_cancel_left _ (by omega)
  rw [h0]
  have h2 : 2 * r * -r % (2 * r) = 0 := Int.mul_emod_right _ _
  rw [nearQ_no (by omega), h1]
theorem first3 {r : Int} (hr : 1 ≤ r ∧ r ≤ 131072) : ∀ (d : Nat) (v : PtT), InR r v → v.y ≤ -1 → ∃ c ∈ chordsT r d ⟨-r, 0⟩ v, 0 < crossT c.1 c.2
  | d, v, hv, hy => by
    have leaf : ∃ c ∈ [((⟨-r, 0⟩ : PtT), v)], 0 < crossT c.1 c.2 := ⟨_, List.mem_singleton.2 rfl, by
      have := Int.mul_pos (show 0 < r by omega) (show 0 < -v.y by omega)
      rw [Int.mul_neg] at this
      unfold crossT; dsimp only; rw [Int.neg_mul]; omega⟩
    match d with
    | 0 => exact leaf
    | d + 1 =>
      by_cases h : stopT r ⟨-r, 0⟩ v
      · rw [chords_stop h]; exact leaf
      · rw [chords_go h]
        obtain ⟨hl, hm⟩ := mid_go h
        have hb := mid_in (u := ⟨-r, 0⟩) hr (by unfold InR; dsimp only; omega) hv
        unfold InR at hv
        dsimp only at hl hm
        rw [Int.zero_add] at hl hm
        have hle := mid_lenA hr (a := -r + v.x) (y := -v.y) (by omega) (by omega)
        have hneg : lenT ⟨-r + v.x, -v.y⟩ = lenT ⟨-r + v.x, v.y⟩ := by unfold lenT; dsimp only; rw [Int.neg_mul_neg]
        rw [hneg] at hle
        obtain ⟨c, hc, hp⟩ := first3 hr d _ hb (by
          rw [hm]
          dsimp only
          rcases Int.lt_or_eq_of_le hle with hlt | heq
          · exact nearQ_neg hl (by rw [Int.neg_mul] at hlt; omega)
          · exfalso
            have s1 := sq_mono (x := -r + v.x) (y := 262144) (by omega)
            have s2 := sq_mono (x := v.y) (y := 131072) (by omega)
            have hsq := lenT_sq (P := ⟨-r + v.x, v.y⟩) (by dsimp only; omega)
            rw [heq] at hsq
            dsimp only at hsq
            obtain ⟨hy1, hx1⟩ := neg_case (r := r) (x := v.x) (Y := -v.y) hr.1 hv.1 (by omega) (by grind)
            refine h (.inr (.inr (.inl ?_)))
            have hvy : v.y = -1 := by omega
            rw [hm, heq, hx1, hvy]
            refine pt_ext ⟨?_, ?_⟩
            · dsimp only
              rw [show (-r + -r) * r = -(2 * r) * r by grind, show 2 * (- -1 * r) = 2 * r by grind]
              exact nearQ_full (by omega)
            · dsimp only
              rw [show (-1 : Int) * r = -r by grind, show 2 * (- -1 * r) = 2 * r by grind]
              exact nearQ_half (by omega))
        exact ⟨c, List.mem_append_left _ hc, hp⟩
theorem disc_four {p : PtT} {r : Int} (hr : 1 ≤ r ∧ r ≤ 131072) : 4 ≤ (piesT p r (discC r) []).length := by
  show 4 ≤ ((((([] : List (PtT × PtT)) ++ chordsT r 6 ⟨r, 0⟩ ⟨0, r⟩) ++ chordsT r 6 ⟨0, r⟩ ⟨-r, 0⟩) ++ chordsT r 6 ⟨-r, 0⟩ ⟨0, -r⟩ ++ chordsT r 6 ⟨0, -r⟩ ⟨r, 0⟩).foldl (pieT p) []).length
  have b1 : BdT ⟨r, 0⟩ := by unfold BdT; dsimp only; omega
  have b2 : BdT ⟨0, r⟩ := by unfold BdT; dsimp only; omega
  have b3 : BdT ⟨-r, 0⟩ := by unfold BdT; dsimp only; omega
  have b4 : BdT ⟨0, -r⟩ := by unfold BdT; dsimp only; omega
  rw [List.nil_append, List.foldl_append, List.foldl_append, List.foldl_append]
  have h1 := pie_one p _ [] (chords_bd hr 6 _ _ b1 b2) (first1 hr 6 ⟨0, r⟩ (by unfold InR; dsimp only; omega) hr.1)
  have h2 := pie_one p _ ((chordsT r 6 ⟨r, 0⟩ ⟨0, r⟩).foldl (pieT p) []) (chords_bd hr 6 _ _ b2 b3) (last2 hr 6 ⟨0, r⟩ (by unfold InR; dsimp only; omega) hr.1)
  have h3 := pie_one p _ ((chordsT r 6 ⟨0, r⟩ ⟨-r, 0⟩).foldl (pieT p) ((chordsT r 6 ⟨r, 0⟩ ⟨0, r⟩).foldl (pieT p) [])) (chords_bd hr 6 _ _ b3 b4) (first3 hr 6 ⟨0, -r⟩ (by unfold InR; dsimp only; omega) (by dsimp only; omega))
  have h4 := pie_one p _ ((chordsT r 6 ⟨-r, 0⟩ ⟨0, -r⟩).foldl (pieT p) ((chordsT r 6 ⟨0, r⟩ ⟨-r, 0⟩).foldl (pieT p) ((chordsT r 6 ⟨r, 0⟩ ⟨0, r⟩).foldl (pieT p) []))) (chords_bd hr 6 _ _ b4 b1) (first4 hr 6 ⟨r, 0⟩ (by unfold InR; dsimp only; omega) hr.1)
  omega
theorem half_grow (p u : PtT) (r : Int) (qs : List (List PtT)) : qs.length ≤ (halfT p u r qs).length := by
  unfold halfT
  split
  · exact Nat.le_refl _
  · exact pie_grow p _ qs
end Go.Proofs.Ytpgjbalnipinoaa

/- What calls put, one behind the other, in whatever order. Conditions: none. -/
namespace Go.Proofs.Ytpgjbalnipinoaa
open Go.Proofs Go.RowKit Go.Shelf

/-! ### what a put makes, in a region that draws -/
def codV (v : Value) (vs : List Value) (Bl : List Nat) : Value := .tuple #[v, .agg vs.toArray, .agg (Bl.map fun b : Nat => Value.int .i64 (b : Int)).toArray]
def aggL (v : Value) : List Value := match v with | .agg a => a.toList | _ => []
def trdV (v : Value) : Value := match v with | .tuple a => a.getD 2 undef | v => v
def lstV (y : Value) : List Value := aggL (sndV y)
def BQ (y : Value) (b : Nat) : Prop := Value.int .i64 (b : Int) ∈ aggL (trdV y)
theorem lst_cod (v : Value) (vs : List Value) (Bl : List Nat) : lstV (codV v vs Bl) = vs := by
  show vs.toArray.toList = vs; simp
theorem bq_cod (v : Value) (vs : List Value) (Bl : List Nat) (b : Nat) : BQ (codV v vs Bl) b ↔ b ∈ Bl := by
  show Value.int .i64 (b : Int) ∈ (Bl.map fun b : Nat => Value.int .i64 (b : Int)).toArray.toList ↔ _
  rw [List.mem_map]
  constructor
  · rintro ⟨c, hc, e⟩
    injection e with _ e
    obtain rfl : c = b := by omega
    exact hc
  · exact fun h => ⟨b, h, rfl⟩
/-- what is said of pieces that were put behind others -/
def GQ (v0 : Value) (vs0 : List Value) (qs0 Q : List (List PtT)) (y : Value) (w : World) : Prop := ∃ G, SaidOk w G (BQ y) ∧ ∀ w2, PcsAt w2 v0 vs0 qs0 → G w2 → PcsAt w2 (fstV y) (lstV y) Q
def CodW (Q : List (List PtT)) (y : Value) : Prop := PcsW (fstV y) (lstV y) Q ∧ Capd (fstV y)
theorem codW_ex (Q : List (List PtT)) (h : Q.length ≤ 1000000) : ∃ y, CodW Q y := by
  refine ⟨codV (.slice (some ⟨0, 0, none⟩) Q.length Q.length) (Q.map fun q => .slice (some ⟨0, 0, none⟩) q.length q.length) [], ?_, fun a n c e => by cases e; exact Nat.le_refl _⟩
  rw [lst_cod]
  refine pcsW_of (.inl ⟨_, _, _, rfl⟩) h ⟨List.length_map _, fun i hi => ?_⟩
  rw [List.getD_eq_getElem?_getD, List.getElem?_map, List.getElem?_eq_getElem hi, List.getD_eq_getElem?_getD, List.getElem?_eq_getElem hi]
  exact .inl ⟨_, _, _, rfl⟩
theorem calls_cod {P : Program} {f : Nat} {args : Array Value} {w : World} {v0 : Value} {vs0 : List Value} {qs0 Q : List (List PtT)} (h : Calls P f args w fun e w' => ∃ x : PutsY v0 vs0 qs0 Q, e = .returned x.1.1 ∧ Below w.heap.size w w' ∧ SaidOk w' x.1.2.2.1 x.1.2.2.2 ∧ ∀ b, x.1.2.2.2 b → w.heap.size ≤ b) :
    Calls P f args w fun e w' => ∃ y, e = .returned (fstV y) ∧ CodW Q y ∧ Below w.heap.size w w' ∧ (Hp.said (GQ v0 vs0 qs0 Q y) (BQ y)).ok w' ∧ ∀ b, (Hp.said (GQ v0 vs0 qs0 Q y) (BQ y)).has b → w.heap.size ≤ b := by
  refine h.mono ?_
  rintro e w' ⟨⟨⟨v, vs, G, B⟩, h1, h2, h3⟩, rfl, h4, h5, h6⟩
  dsimp only at h1 h2 h3 h5 h6
  classical
  obtain ⟨Bl, hBl⟩ : ∃ Bl : List Nat, ∀ b, b ∈ Bl ↔ B b := ⟨(List.range w'.heap.size).filter fun b => decide (B b), fun b => by
    rw [List.mem_filter, decide_eq_true_eq, List.mem_range]
    exact ⟨fun h => h.2, fun h => ⟨h5.lt h, h⟩⟩⟩
  have hB : BQ (codV v vs Bl) = B := funext fun b => propext ((bq_cod v vs Bl b).trans (hBl b))
  refine ⟨codV v vs Bl, rfl, ⟨by rw [lst_cod]; exact h1, h2⟩, h4, ?_, fun b hb => h6 b (by rw [← hB]; exact hb)⟩
  have hG : GQ v0 vs0 qs0 Q (codV v vs Bl) w' := ⟨G, by rw [hB]; exact h5, fun w2 a b => by rw [lst_cod]; exact h3 w2 a b⟩
  exact ⟨hG, by rw [hB]; exact h5.2.1, fun w1 w2 ⟨G', a1, a2⟩ hb => ⟨G', a1.keep hb, a2⟩⟩
theorem gq_at {w : World} {v0 : Value} {vs0 : List Value} {qs0 Q : List (List PtT)} {y : Value} (h0 : PcsAt w v0 vs0 qs0) (h : (Hp.said (GQ v0 vs0 qs0 Q y) (BQ y)).ok w) : PcsAt w (fstV y) (lstV y) Q := by
  obtain ⟨G, h1, h2⟩ := h.1
  exact h2 w h0 h1.1
theorem rowAt_one {w : World} {v : Value} {esz n : Nat} {xs ys : List Value} (h : RowAt w v esz n xs) (k : RowAt w v esz n ys) : xs = ys := by
  refine List.ext_getElem (h.len.trans k.len.symm) fun i h1 h2 => ?_
  have a := h.at_ i _ (List.getElem?_eq_getElem h1)
  have b := k.at_ i _ (List.getElem?_eq_getElem h2)
  exact Option.some.inj (a.symm.trans b)
section
variable {C : Cx} {K : Exit → St → Prop} {ops : Array Oper} {rest : List Oper} {l : List (Nat × Value)} {m : List (Nat × Hp)} {g : World → Prop} {gb : Nat → Prop} {dd : List Nat} {i : Nat} {ty : TypeId} {pos : String} {aft : Array Edge} {gd : Option (Nat × Bool)}
  {wf : Nat → Value → Prop} {L : Pr wf → List (Nat × Value)} {M : Pr wf → List (Nat × Hp)} {os : List Oper} {κs : List (List Nat)} {κ : List Nat} {f : Nat} {cal : Operand} {as_ : Array Operand} {ts : Array TypeId}
/-- a call that puts pieces -/
theorem d_puts {v0 : Value} {vs0 : List Value} {qs0 Q : List (List PtT)} (hw : ∀ σ, wantS C (mk (L σ) (M σ) g gb dd) ops ⟨some i, .call { callee := .value cal, args := as_, argTypes := ts }, ty, pos, aft, gd⟩ = some true) {caps : Array Value} (hcal : ∀ σ, ev C (mk (L σ) (M σ) g gb dd) cal = some (.func (.func f) #[] caps)) (hent : ∀ args w, (callFunc f args).run C.P w = .ok (.enter f args) w)
    {vs : Pr wf → List Value} (hargs : ∀ σ, evs C (mk (L σ) (M σ) g gb dd) as_.toList = some (vs σ)) (hwf : ∀ y, CodW Q y → wf i y)
    (hc : ∀ σ w, g w → Held (mk (L σ) (M σ) g gb dd) κ w → Calls C.P f ((vs σ).toArray ++ caps) w fun e w' => ∃ x : PutsY v0 vs0 qs0 Q, e = .returned x.1.1 ∧ Below w.heap.size w w' ∧ SaidOk w' x.1.2.2.1 x.1.2.2.2 ∧ ∀ b, x.1.2.2.2 b → w.heap.size ≤ b)
    (next : VDZ C ops os κs K (fun σ => mk ((i, fstV (σ.v i)) :: L σ) ((i, .said (GQ v0 vs0 qs0 Q (σ.v i)) (BQ (σ.v i))) :: M σ) g gb dd)) : VDZ C ops (⟨some i, .call { callee := .value cal, args := as_, argTypes := ts }, ty, pos, aft, gd⟩ :: os) (κ :: κs) K (fun σ => mk (L σ) (M σ) g gb dd) :=
  d_cons (.inl ⟨hw, .own i (CodW Q) fstV (fun y => .said (GQ v0 vs0 qs0 Q y) (BQ y)) rfl rfl hwf fun σ => ⟨by simp, fun ρ w hr hg hh => ⟨f, _, by rw [run_callTo (rd1 hr callee_mem (hcal σ)) (args_of hr (hargs σ))]; exact hent _ w, calls_cod (hc σ w hg hh)⟩⟩⟩)
    (by simp only [appP, appS, mk_mem, mk_put]; exact next)
/-- a call that puts pieces behind those that one ahead of it has put -/
theorem d_putsR (j : Nat) {Q1 Q : List (List PtT)} (hw : ∀ σ, wantS C (mk (L σ) (M σ) g gb dd) ops ⟨some i, .call { callee := .value cal, args := as_, argTypes := ts }, ty, pos, aft, gd⟩ = some true) {caps : Array Value} (hcal : ∀ σ, ev C (mk (L σ) (M σ) g gb dd) cal = some (.func (.func f) #[] caps)) (hent : ∀ args w, (callFunc f args).run C.P w = .ok (.enter f args) w)
    {tl : Pr wf → List Value} (hargs : ∀ σ, evs C (mk (L σ) (M σ) g gb dd) as_.toList = some (fstV (σ.v j) :: tl σ)) (hwf : ∀ y, CodW Q y → wf i y) (hj : j ∈ κ) (hlk : ∀ σ, lk (M σ) j = some (.said (GQ (.slice none 0 0) [] [] Q1 (σ.v j)) (BQ (σ.v j))))
    (hc : ∀ σ w, g w → Held (mk (L σ) (M σ) g gb dd) κ w → Calls C.P f ((fstV (σ.v j) :: tl σ).toArray ++ caps) w fun e w' => ∃ x : PutsY (fstV (σ.v j)) (lstV (σ.v j)) Q1 Q, e = .returned x.1.1 ∧ Below w.heap.size w w' ∧ SaidOk w' x.1.2.2.1 x.1.2.2.2 ∧ ∀ b, x.1.2.2.2 b → w.heap.size ≤ b)
    (next : VDZ C ops os κs K (fun σ => mk ((i, fstV (σ.v i)) :: L σ) ((i, .said (GQ (fstV (σ.v j)) (lstV (σ.v j)) Q1 Q (σ.v i)) (BQ (σ.v i))) :: M σ) g gb dd)) : VDZ C ops (⟨some i, .call { callee := .value cal, args := as_, argTypes := ts }, ty, pos, aft, gd⟩ :: os) (κ :: κs) K (fun σ => mk (L σ) (M σ) g gb dd) :=
  d_cons (.inl ⟨hw, .ownR i (CodW Q) fstV (fun σ y => .said (GQ (fstV (σ.v j)) (lstV (σ.v j)) Q1 Q y) (BQ y)) rfl rfl hwf (fun σ => ⟨by simp, fun ρ w hr hg hh => ⟨f, _, by rw [run_callTo (rd1 hr callee_mem (hcal σ)) (args_of hr (hargs σ))]; exact hent _ w, calls_cod (hc σ w hg hh)⟩⟩)
      fun σ σ' ρ w a b a' b' => by
        have e1 := (args_of a (hargs σ)).symm.trans (args_of a' (hargs σ'))
        have e2 : fstV (σ.v j) = fstV (σ'.v j) := (List.cons.inj e1).1
        have c1 := (gq_at (pcsAt_nil w) (b j hj _ (hlk σ))).row
        have c2 := (gq_at (pcsAt_nil w) (b' j hj _ (hlk σ'))).row
        rw [← e2] at c2
        rw [e2, rowAt_one c1 c2]⟩)
    (by simp only [appP, appS, mk_mem, mk_put]; exact next)
end
end Go.Proofs.Ytpgjbalnipinoaa

/- Shifted discs, halves and pies. Conditions: none. -/
namespace Go.Proofs.Ytpgjbalnipinoaa
open Go.Proofs Go.RowKit Go.Shelf

theorem r_PAddW (x y u v : Int) : Ans Try.prog 29 [.agg #[.int .i64 x, .int .i64 y], .agg #[.int .i64 u, .int .i64 v]] (.agg #[.int .i64 (wr (x + u)), .int .i64 (wr (y + v))]) := by
  refine ans_of Try.func29 rfl Try.ntmps29 Try.results29 rfl rfl fun w => ?_
  refine v_seq ?_
  refine v_region ?_
  refine l_new rfl (o_box (cs := [_, _]) rfl rfl) fun b2 => ?_
  refine l_new rfl (o_box (cs := [_, _]) rfl rfl) fun b3 => ?_
  refine l_new rfl o_alloc fun b4 => ?_
  refine l_nil ?_
  refine kt_norm ?_
  refine v_seq ?_
  refine v_region ?_
  refine l_val rfl (o_fld rfl) ?_
  refine l_val rfl (o_load1 (key := 2) rfl rfl rfl) ?_
  refine l_val rfl (o_fld rfl) ?_
  refine l_val rfl (o_load1 (key := 3) rfl rfl rfl) ?_
  refine l_val rfl (o_add rfl rfl (wrap_i64m _)) ?_
  refine l_val rfl (o_fld rfl) ?_
  refine l_val rfl (o_load1 (key := 2) rfl rfl rfl) ?_
  refine l_val rfl (o_fld rfl) ?_
  refine l_val rfl (o_load1 (key := 3) rfl rfl rfl) ?_
  refine l_val rfl (o_add rfl rfl (wrap_i64m _)) ?_
  refine l_val rfl (o_build (vs := [_, _]) (cs := [_, _]) rfl rfl) ?_
  refine l_store rfl (o_storeW (key := 4) (xs := [_, _]) rfl rfl rfl rfl rfl rfl rfl) ?_
  refine l_nil ?_
  refine kt_norm ?_
  refine v_sel [4] [4] rfl rfl ?_
  refine v_ret ?_
  refine ⟨[_], .cons (.cellW (key := 4) rfl rfl rfl) (ResAll.nil), ?_⟩
  rfl
theorem tri_app {p : PtT} (hp : (-536870912 ≤ p.x ∧ p.x ≤ 536870912) ∧ (-536870912 ≤ p.y ∧ p.y ≤ 536870912)) {l : List (PtT × PtT)} (hl : ∀ c ∈ l, BdT c.1 ∧ BdT c.2) {qs : List (List PtT)} (hq : ∀ q ∈ qs, TriT p q) : ∀ q ∈ l.foldl (pieT p) qs, TriT p q := by
  obtain ⟨rest, h1, _, h3⟩ := pie_tri hp l hl qs
  rw [h1]
  intro q hm
  exact (List.mem_append.1 hm).elim (hq q) (h3 q)
theorem tri_half {p u : PtT} {r : Int} (hp : (-536870912 ≤ p.x ∧ p.x ≤ 536870912) ∧ (-536870912 ≤ p.y ∧ p.y ≤ 536870912)) (hr : 1 ≤ r ∧ r ≤ 131072) (hx : -1073741824 ≤ u.x ∧ u.x ≤ 1073741824) (hy : -1073741824 ≤ u.y ∧ u.y ≤ 1073741824) {qs : List (List PtT)} (hq : ∀ q ∈ qs, TriT p q) : ∀ q ∈ halfT p u r qs, TriT p q := by
  unfold halfT
  split
  · exact hq
  · exact tri_app hp (arcs_bd hr (half_bd (norm_bd hr hx hy)) 2 (by show 2 < 3; omega)) hq
theorem half_len (p u : PtT) (r : Int) (qs : List (List PtT)) : (halfT p u r qs).length ≤ qs.length + 128 := by
  unfold halfT
  split
  · omega
  · have h1 := pie_len p (arcsK r (halfC (normT u r)) 2) qs
    have h2 := arcs_len r (halfC (normT u r)) 2
    show ((arcsK r (halfC (normT u r)) 2).foldl (pieT p) qs).length ≤ _
    omega
theorem disc_len (p : PtT) (r : Int) (qs : List (List PtT)) : (piesT p r (discC r) qs).length ≤ qs.length + 256 := by
  have h1 := pie_len p (arcsK r (discC r) 4) qs
  have h2 := arcs_len r (discC r) 4
  show ((arcsK r (discC r) 4).foldl (pieT p) qs).length ≤ _
  omega
theorem pie1_len (p u v : PtT) (r : Int) (qs : List (List PtT)) : (piesT p r [u, v] qs).length ≤ qs.length + 64 := by
  have h1 := pie_len p (arcsK r [u, v] 1) qs
  have h2 := arcs_len r [u, v] 1
  show ((arcsK r [u, v] 1).foldl (pieT p) qs).length ≤ _
  omega
set_option maxHeartbeats 4000000 in
theorem a_ArcShifts (w : World) (p u v b : PtT) (r : Int) : Calls Try.prog 8 #[.agg #[.int .i64 p.x, .int .i64 p.y], .agg #[.int .i64 u.x, .int .i64 u.y], .agg #[.int .i64 v.x, .int .i64 v.y], .agg #[.int .i64 b.x, .int .i64 b.y], .int .i64 r] w fun e w' => e = .returned (.bool true) ∧ Below w.heap.size w w' := by
  obtain ⟨q, hq0⟩ : ∃ q : PtT, q = ⟨wr (p.x + b.x), wr (p.y + b.y)⟩ := ⟨_, rfl⟩
  have hA : Ans Try.prog 29 [.agg #[.int .i64 p.x, .int .i64 p.y], .agg #[.int .i64 b.x, .int .i64 b.y]] (.agg #[.int .i64 q.x, .int .i64 q.y]) := by rw [hq0]; exact r_PAddW _ _ _ _
  refine calls_of (args := [.agg #[.int .i64 p.x, .int .i64 p.y], .agg #[.int .i64 u.x, .int .i64 u.y], .agg #[.int .i64 v.x, .int .i64 v.y], .agg #[.int .i64 b.x, .int .i64 b.y], .int .i64 r]) Try.func8 rfl Try.ntmps8 Try.results8 rfl ?_
  refine v_seq ?_
  refine v_region ?_
  refine l_new rfl (o_box (cs := [_, _]) rfl rfl) fun b5 => ?_
  refine l_new rfl (o_box (cs := [_, _]) rfl rfl) fun b6 => ?_
  refine l_new rfl (o_box (cs := [_, _]) rfl rfl) fun b7 => ?_
  refine l_new rfl (o_box (cs := [_, _]) rfl rfl) fun b8 => ?_
  refine l_val rfl (o_assign rfl) ?_
  refine l_nil ?_
  refine kt_norm ?_
  refine v_seq ?_
  refine v_region ?_
  refine l_val rfl (o_loadW (key := 5) rfl rfl rfl) ?_
  refine l_val rfl (o_loadW (key := 8) rfl rfl rfl) ?_
  refine l_ans (vs := [_, _]) rfl rfl (hA) ?_
  refine l_new rfl o_alloc fun b11 => ?_
  refine l_store rfl (o_storeW (key := 11) (xs := [_, _]) rfl rfl rfl rfl rfl rfl rfl) ?_
  refine l_nil ?_
  refine kt_norm ?_
  refine v_sel [4, 5, 6, 7, 8, 11] [5, 6, 7, 8, 11] rfl rfl ?_
  refine v_seq ?_
  refine v_seq ?_
  refine v_region ?_
  refine l_val rfl (o_loadW (key := 5) rfl rfl rfl) ?_
  refine l_val rfl (o_loadW (key := 6) rfl rfl rfl) ?_
  refine l_val rfl (o_loadW (key := 7) rfl rfl rfl) ?_
  refine l_val rfl (o_move rfl) ?_
  refine l_ans (vs := [_, _, _, _]) rfl rfl (a_good p u v r) ?_
  refine lz_bool (fun hgd => ?_) (fun hgd => ?_)
  · skip
    refine l_val rfl (o_not rfl rfl) ?_
    refine l_val rfl (o_move rfl) ?_
    refine l_val rfl (o_loadW (key := 8) rfl rfl rfl) ?_
    refine l_ans (vs := [_, _]) rfl rfl (a_within _ _ (by omega)) ?_
    refine lz_bool (fun hwb => ?_) (fun hwb => ?_)
    · skip
      refine l_val rfl (o_not rfl rfl) ?_
      refine l_val rfl (o_pickF rfl rfl) ?_
      refine l_val rfl (o_move rfl) ?_
      refine l_val rfl (o_loadW (key := 11) rfl rfl rfl) ?_
      refine l_ans (vs := [_, _]) rfl rfl (a_within _ _ (by omega)) ?_
      refine lz_bool (fun hwq => ?_) (fun hwq => ?_)
      · skip
        refine l_val rfl (o_not rfl rfl) ?_
        refine l_val rfl (o_pickF rfl rfl) ?_
        refine l_val rfl (o_move rfl) ?_
        refine l_call (ks := []) rfl (o_callC (vs := []) (r := .bool true) (ent_of Try.func14 rfl rfl) rfl (fun w' hg hh => a_shown w')) ?_
        refine l_val rfl (o_not rfl rfl) ?_
        refine l_val rfl (o_pickF rfl rfl) ?_
        refine l_nil ?_
        refine kt_norm ?_
        refine v_sel [4, 5, 6, 7, 8, 11, 37] [5, 6, 7, 8, 11] rfl rfl ?_
        refine v_condF rfl ?_
        refine v_skip ?_
        refine kt_norm ?_
        refine v_seq ?_
        have hgp : ((-536870912 ≤ p.x ∧ p.x ≤ 536870912) ∧ (-536870912 ≤ p.y ∧ p.y ≤ 536870912)) := hgd.1
        have hgu : BdT u := hgd.2.1
        have hgv : BdT v := hgd.2.2.1
        have hgr := hgd.2.2.2
        have hgu2 := hgu
        unfold BdT at hgu2
        have hux : -1073741824 ≤ u.x ∧ u.x ≤ 1073741824 := by omega
        have huy : -1073741824 ≤ u.y ∧ u.y ≤ 1073741824 := by omega
        have hgq : ((-536870912 ≤ q.x ∧ q.x ≤ 536870912) ∧ (-536870912 ≤ q.y ∧ q.y ≤ 536870912)) := hwq
        have hqs : q = shP b.x b.y p := by
          rw [hq0, wr_small (by omega), wr_small (by omega)]; rfl
        obtain ⟨QA1, hQA1⟩ : ∃ Q, piesT p r (discC r) [] = Q := ⟨_, rfl⟩
        obtain ⟨QA2, hQA2⟩ : ∃ Q, piesT p r [u, v] QA1 = Q := ⟨_, rfl⟩
        obtain ⟨QA, hQA⟩ : ∃ Q, halfT p u r QA2 = Q := ⟨_, rfl⟩
        obtain ⟨QB1, hQB1⟩ : ∃ Q, piesT q r (discC r) [] = Q := ⟨_, rfl⟩
        obtain ⟨QB2, hQB2⟩ : ∃ Q, piesT q r [u, v] QB1 = Q := ⟨_, rfl⟩
        obtain ⟨QB, hQB⟩ : ∃ Q, halfT q u r QB2 = Q := ⟨_, rfl⟩
        have hS1 : QB1 = shQ b.x b.y QA1 := by rw [← hQB1, ← hQA1, hqs]; exact pies_sh b.x b.y p _ []
        have hS2 : QB2 = shQ b.x b.y QA2 := by rw [← hQB2, ← hQA2, hqs, hS1]; exact pies_sh b.x b.y p _ QA1
        have hS : QB = shQ b.x b.y QA := by rw [← hQB, ← hQA, hqs, hS2]; exact half_sh b.x b.y p u r QA2
        have hT1 : ∀ x ∈ QA1, TriT p x := hQA1 ▸ tri_app hgp (arcs_bd hgr (disc_bd hgr) 4 (by show 4 < 5; omega)) (fun x h => by cases h)
        have hT2 : ∀ x ∈ QA2, TriT p x := hQA2 ▸ tri_app hgp (arcs_bd hgr (pie_bd hgu hgv) 1 (by show 1 < 2; omega)) hT1
        have hT : ∀ x ∈ QA, TriT p x := hQA ▸ tri_half hgp hgr hux huy hT2
        have hl1 : QA1.length ≤ 256 := by have := disc_len p r []; rw [hQA1, List.length_nil] at this; omega
        have hl2 : QA2.length ≤ 320 := by have := pie1_len p u v r QA1; rw [hQA2] at this; omega
        have hl3 : QA.length ≤ 448 := by have := half_len p u r QA2; rw [hQA] at this; omega
        have hm1 : QB1.length = QA1.length := by rw [hS1]; exact List.length_map _
        have hm2 : QB2.length = QA2.length := by rw [hS2]; exact List.length_map _
        have hm3 : QB.length = QA.length := by rw [hS]; exact List.length_map _
        have h4 : 4 ≤ QA.length := by
          have e1 : 4 ≤ QA1.length := hQA1 ▸ disc_four hgr
          have e2 : QA1.length ≤ QA2.length := hQA2 ▸ pie_grow p _ QA1
          have e3 : QA2.length ≤ QA.length := hQA ▸ half_grow p u r QA2
          omega
        have hTB : ∀ i, QB.getD i [] = (QA.getD i []).map (shP b.x b.y) := fun i => by
          rw [hS]; unfold shQ
          rw [List.getD_eq_getElem?_getD, List.getD_eq_getElem?_getD, List.getElem?_map]
          cases QA[i]? <;> rfl
        refine v_drawP [(41, ⟨CodW QA1, codW_ex QA1 (by omega)⟩), (46, ⟨CodW QA2, codW_ex QA2 (by omega)⟩)] [[5], [], [], [5], [6], [7], [], [41], [5], [6], []] mixed ?_ (by kernel_rfl) (by kernel_rfl)
        refine d_val (fun _ => rfl) rfl rfl (fun σ4 => o_loadW (key := 5) rfl rfl rfl) ?_
        refine d_val (fun _ => rfl) rfl rfl (fun σ4 => o_move rfl) ?_
        refine d_puts (v0 := .slice none 0 0) (vs0 := []) (qs0 := []) (Q := QA1) (caps := #[]) (fun _ => rfl) (fun _ => rfl) (ent_of Try.func15 rfl rfl) (vs := fun _ => [_, _, _]) (fun _ => rfl) (fun _ h => h) (fun σ w' hg hh => a_DiscQ w' _ [] [] p r pcsW_nil capd_nil (pcsAt_nil w') (by show 0 ≤ 2000; omega) hgp hgr hQA1) ?_
        refine d_val (fun _ => rfl) rfl rfl (fun σ4 => o_loadW (key := 5) rfl rfl rfl) ?_
        refine d_val (fun _ => rfl) rfl rfl (fun σ4 => o_loadW (key := 6) rfl rfl rfl) ?_
        refine d_val (fun _ => rfl) rfl rfl (fun σ4 => o_loadW (key := 7) rfl rfl rfl) ?_
        refine d_val (fun _ => rfl) rfl rfl (fun σ4 => o_move rfl) ?_
        refine d_putsR 41 (Q1 := QA1) (Q := QA2) (caps := #[]) (fun _ => rfl) (fun _ => rfl) (ent_of Try.func20 rfl rfl) (tl := fun _ => [_, _, _, _]) (fun _ => rfl) (fun _ h => h) (by simp) (fun _ => rfl) (fun σ w' hg hh => a_PieQ w' _ _ QA1 p r (σ.ok 41).1 (σ.ok 41).2 (gq_at (pcsAt_nil w') (hh 41 (by simp) _ rfl)) (by omega) hgp hgr u v hgu hgv hQA2) ?_
        refine d_val (fun _ => rfl) rfl rfl (fun σ4 => o_loadW (key := 5) rfl rfl rfl) ?_
        refine d_val (fun _ => rfl) rfl rfl (fun σ4 => o_loadW (key := 6) rfl rfl rfl) ?_
        refine d_val (fun _ => rfl) rfl rfl (fun σ4 => o_move rfl) ?_
        refine d_nil (fun σ4 => ?_)
        refine l_gsaid (ks := [41, 46]) (caps := #[]) (vs := [_, _, _, _]) (α := PutsY (fstV (σ4.v 46)) (lstV (σ4.v 46)) QA2 QA) (fun x => x.1.1) (fun x w' => SaidOk w' x.1.2.2.1 x.1.2.2.2) (fun x b => x.1.2.2.2 b) rfl rfl (ent_of Try.func24 rfl rfl) rfl (fun x w1 w2 h hb => h.keep hb) (fun x w1 b h hb => h.lt hb) (fun w' hg hh => a_HalfQ w' _ _ QA2 p r (σ4.ok 46).1 (σ4.ok 46).2 (gq_at (gq_at (pcsAt_nil w') (hh 41 (by simp) _ rfl)) (hh 46 (by simp) _ rfl)) (by omega) hgp hgr u hux huy hQA) fun xa => ?_
        refine l_freeze 41 [5, 6, 7, 8, 11, 46] rfl rfl rfl ?_
        refine l_freeze 46 [5, 6, 7, 8, 11] rfl rfl rfl ?_
        refine l_val rfl (o_assign rfl) ?_
        refine l_nil ?_
        refine kt_norm ?_
        refine v_sel [4, 6, 7, 8, 11, 12] [6, 7, 8, 11] rfl rfl ?_
        refine v_seq ?_
        refine v_drawP [(53, ⟨CodW QB1, codW_ex QB1 (by omega)⟩), (58, ⟨CodW QB2, codW_ex QB2 (by omega)⟩)] [[11], [], [], [11], [6], [7], [], [53], [11], [6], []] mixed ?_ (by kernel_rfl) (by kernel_rfl)
        refine d_val (fun _ => rfl) rfl rfl (fun σ5 => o_loadW (key := 11) rfl rfl rfl) ?_
        refine d_val (fun _ => rfl) rfl rfl (fun σ5 => o_move rfl) ?_
        refine d_puts (v0 := .slice none 0 0) (vs0 := []) (qs0 := []) (Q := QB1) (caps := #[]) (fun _ => rfl) (fun _ => rfl) (ent_of Try.func15 rfl rfl) (vs := fun _ => [_, _, _]) (fun _ => rfl) (fun _ h => h) (fun σ w' hg hh => a_DiscQ w' _ [] [] q r pcsW_nil capd_nil (pcsAt_nil w') (by show 0 ≤ 2000; omega) hgq hgr hQB1) ?_
        refine d_val (fun _ => rfl) rfl rfl (fun σ5 => o_loadW (key := 11) rfl rfl rfl) ?_
        refine d_val (fun _ => rfl) rfl rfl (fun σ5 => o_loadW (key := 6) rfl rfl rfl) ?_
        refine d_val (fun _ => rfl) rfl rfl (fun σ5 => o_loadW (key := 7) rfl rfl rfl) ?_
        refine d_val (fun _ => rfl) rfl rfl (fun σ5 => o_move rfl) ?_
        refine d_putsR 53 (Q1 := QB1) (Q := QB2) (caps := #[]) (fun _ => rfl) (fun _ => rfl) (ent_of Try.func20 rfl rfl) (tl := fun _ => [_, _, _, _]) (fun _ => rfl) (fun _ h => h) (by simp) (fun _ => rfl) (fun σ w' hg hh => a_PieQ w' _ _ QB1 q r (σ.ok 53).1 (σ.ok 53).2 (gq_at (pcsAt_nil w') (hh 53 (by simp) _ rfl)) (by omega) hgq hgr u v hgu hgv hQB2) ?_
        refine d_val (fun _ => rfl) rfl rfl (fun σ5 => o_loadW (key := 11) rfl rfl rfl) ?_
        refine d_val (fun _ => rfl) rfl rfl (fun σ5 => o_loadW (key := 6) rfl rfl rfl) ?_
        refine d_val (fun _ => rfl) rfl rfl (fun σ5 => o_move rfl) ?_
        refine d_nil (fun σ5 => ?_)
        refine l_gsaid (ks := [53, 58]) (caps := #[]) (vs := [_, _, _, _]) (α := PutsY (fstV (σ5.v 58)) (lstV (σ5.v 58)) QB2 QB) (fun x => x.1.1) (fun x w' => SaidOk w' x.1.2.2.1 x.1.2.2.2) (fun x b => x.1.2.2.2 b) rfl rfl (ent_of Try.func24 rfl rfl) rfl (fun x w1 w2 h hb => h.keep hb) (fun x w1 b h hb => h.lt hb) (fun w' hg hh => a_HalfQ w' _ _ QB2 q r (σ5.ok 58).1 (σ5.ok 58).2 (gq_at (gq_at (pcsAt_nil w') (hh 53 (by simp) _ rfl)) (hh 58 (by simp) _ rfl)) (by omega) hgq hgr u hux huy hQB) fun xb => ?_
        refine l_freeze 53 [6, 7, 8, 11, 58] rfl rfl rfl ?_
        refine l_freeze 58 [6, 7, 8, 11] rfl rfl rfl ?_
        refine l_val rfl (o_assign rfl) ?_
        refine l_nil ?_
        refine kt_norm ?_
        refine v_sel [8, 12, 13] [8] rfl rfl ?_
        refine v_seq ?_
        refine v_seq ?_
        refine v_region ?_
        have hVa : RowV xa.1.1 QA.length := xa.2.1.V
        have hVb : RowV xb.1.1 QB.length := xb.2.1.V
        have hla : xa.1.2.1.length = QA.length := xa.2.1.lenv
        have hlb : xb.1.2.1.length = QB.length := xb.2.1.lenv
        refine l_val rfl (o_move rfl) ?_
        refine l_val rfl (o_len rfl hVa) ?_
        refine l_val rfl (o_move rfl) ?_
        refine l_val rfl (o_len rfl hVb) ?_
        refine l_split rfl (o_neq rfl rfl) (fun q1 => absurd q1 (by omega)) (fun q1 => ?_)
        refine l_val rfl (o_move rfl) ?_
        refine l_val rfl (o_move rfl) ?_
        refine l_val rfl (o_len rfl hVa) ?_
        refine l_split rfl (o_lss rfl rfl) (fun q2 => absurd q2 (by omega)) (fun q2 => ?_)
        refine l_val rfl (o_pickF rfl rfl) ?_
        refine l_nil ?_
        refine kt_norm ?_
        refine v_sel [8, 12, 13, 72] [8] rfl rfl ?_
        refine v_condF rfl ?_
        refine v_skip ?_
        refine kt_norm ?_
        refine v_seq ?_
        refine v_seq ?_
        refine v_region ?_
        refine l_val rfl (o_assign rfl) ?_
        refine l_nil ?_
        refine kt_norm ?_
        refine v_block ?_
        refine v_loopS (α := Nat) (fun i => [(14, .int .i64 (i : Int))]) (fun i => [])  (fun i => i ≤ QA.length) (fun i => QA.length - i) 0 [8, 12, 13] [8] (Nat.zero_le _)  (And.intro rfl (True.intro)) rfl (True.intro) rfl ?_
        rintro i hi
        refine v_seq ?_
        refine v_seq ?_
        refine v_region ?_
        refine l_val rfl (o_move rfl) ?_
        refine l_val rfl (o_move rfl) ?_
        refine l_val rfl (o_len rfl hVa) ?_
        refine l_split rfl (o_lss rfl rfl) (fun q3 => ?_) (fun q3 => ?_)
        · have hil : i < QA.length := by omega
          have hil2 : i < QB.length := by omega
          have hTi := hT _ (show QA.getD i [] ∈ QA by rw [List.getD_eq_getElem?_getD, List.getElem?_eq_getElem hil]; exact List.getElem_mem hil)
          have hVa1 := xa.2.1.pV i hil
          have hVb1 := xb.2.1.pV i hil2
          have hsl : ((QA.getD i []).map (shP b.x b.y)).length = (QA.getD i []).length := List.length_map _
          have hq3 := hTi.1
          have hqn := hTi.2.2.2
          refine l_nil ?_
          refine kt_norm ?_
          refine v_condT rfl ?_
          refine v_skip ?_
          refine kt_norm ?_
          refine v_seq ?_
          refine v_block ?_
          refine v_seq ?_
          refine v_drawW [(84, (QA.getD i []).length)] [[], [], [], [], [8], [], [], [], [], []] mixed ?_ (by kernel_rfl) (by kernel_rfl)
          refine d_val (fun _ => rfl) rfl rfl (fun σ11 => o_move rfl) ?_
          refine d_val (fun _ => rfl) rfl rfl (fun σ11 => o_move rfl) ?_
          refine d_val (fun _ => rfl) rfl rfl (fun σ11 => o_idx (i) rfl hVa rfl (by first | rfl | omega) (by omega)) ?_
          refine d_val (fun _ => rfl) rfl rfl (fun σ11 => o_loadR1 rfl (row_imm (fun w2 hg => by exact (xa.2.2.2 w2 (gq_at (gq_at (pcsAt_nil w2) hg.1.1.1.1.2) hg.1.1.1.2) hg.1.1.1.1.1.2.1).row)) (el_one (by rw [hla]; exact hil))) ?_
          refine d_val (fun _ => rfl) rfl rfl (fun σ11 => o_loadW (key := 8) rfl rfl rfl) ?_
          refine d_gown (caps := #[]) (fun _ => rfl) (fun _ => rfl) (ent_of Try.func30 rfl rfl) (vs := fun _ => [_, _]) (fun _ => rfl) (fun _ h => h) (fun σ11 w' hg hh => r_Shift w' _ (QA.getD i []) b.x b.y (by omega) (by omega) (by omega) hVa1 (by exact (xa.2.2.2 w' (gq_at (gq_at (pcsAt_nil w') hg.1.1.1.1.2) hg.1.1.1.2) hg.1.1.1.1.1.2.1).pc i hil) hqn) ?_
          refine d_val (fun _ => rfl) rfl rfl (fun σ11 => o_move rfl) ?_
          refine d_val (fun _ => rfl) rfl rfl (fun σ11 => o_move rfl) ?_
          refine d_val (fun _ => rfl) rfl rfl (fun σ11 => o_idx (i) rfl hVb rfl (by first | rfl | omega) (by omega)) ?_
          refine d_val (fun _ => rfl) rfl rfl (fun σ11 => o_loadR1 rfl (row_imm (fun w2 hg => by exact (xb.2.2.2 w2 (gq_at (gq_at (pcsAt_nil w2) hg.1.2) hg.2) hg.1.1.2.1).row)) (el_one (by rw [hlb]; exact hil2))) ?_
          refine d_nil (fun σ11 => ?_)
          refine l_call (ks := [84]) rfl (o_callC (vs := [_, _]) (r := .bool true) (ent_of Try.func21 rfl rfl) rfl (fun w' hg hh => r_SameOneT w' (σ11.v 84) _ ((QA.getD i []).map (shP b.x b.y)) (by omega) (by rw [hsl]; exact σ11.ok 84) (by rw [hsl]; exact rowAt_own (hh 84 (by simp) _ rfl)) (by rw [← hTB]; exact hVb1) (by rw [← hTB]; exact (by exact (xb.2.2.2 w' (gq_at (gq_at (pcsAt_nil w') hg.1.2) hg.2) hg.1.1.2.1).pc i hil2)))) ?_
          refine l_val rfl (o_not rfl rfl) ?_
          refine l_nil ?_
          refine kt_norm ?_
          refine v_sel [14, 8, 12, 13, 90] [8] rfl rfl ?_
          refine v_condF rfl ?_
          refine v_skip ?_
          refine kb_norm ?_
          refine kt_norm ?_
          refine v_region ?_
          refine l_val rfl (o_move rfl) ?_
          refine l_val rfl (o_addi rfl rfl ?_) ?_
          · omega
          refine l_val rfl (o_assign rfl) ?_
          refine l_nil ?_
          refine kt_norm ?_
          refine ⟨i + 1, hil, (by show QA.length - (i + 1) < QA.length - i; omega), le_app (And.intro rfl (True.intro)) [8, 12, 13] rfl (True.intro) [8] rfl⟩
        · skip
          refine l_nil ?_
          refine kt_norm ?_
          refine v_condF rfl ?_
          refine v_exit ?_
          refine kt_exit ?_
          refine kt_exit ?_
          refine kb_eq ?_
          refine kt_norm ?_
          refine v_sel [] [] rfl rfl ?_
          refine v_seq ?_
          refine v_region ?_
          refine l_val rfl (o_assign rfl) ?_
          refine l_nil ?_
          refine kt_norm ?_
          refine v_ret ?_
          refine ⟨[_], .cons (.tmp rfl) (ResAll.nil), ?_⟩
          rfl
      · skip
        refine l_val rfl (o_not rfl rfl) ?_
        refine l_val rfl (o_pickF rfl rfl) ?_
        refine l_val rfl (o_move rfl) ?_
        refine l_no rfl ?_
        refine l_no rfl ?_
        refine l_val rfl (o_pickT rfl rfl) ?_
        refine l_nil ?_
        refine kt_norm ?_
        refine v_sel [4, 5, 6, 7, 8, 11, 37] [5, 6, 7, 8, 11] rfl rfl ?_
        refine v_condT rfl ?_
        refine v_seq ?_
        refine v_region ?_
        refine l_call (ks := []) rfl (o_callC (vs := []) (r := .bool true) (ent_of Try.func14 rfl rfl) rfl (fun w' hg hh => a_shown w')) ?_
        refine l_val rfl (o_assign rfl) ?_
        refine l_nil ?_
        refine kt_norm ?_
        refine v_sel [10] [] rfl rfl ?_
        refine v_ret ?_
        refine kt_ret ?_
        refine ⟨[_], .cons (.tmp rfl) (ResAll.nil), ?_⟩
        rfl
    · skip
      refine l_val rfl (o_not rfl rfl) ?_
      refine l_val rfl (o_pickF rfl rfl) ?_
      refine l_val rfl (o_move rfl) ?_
      refine l_no rfl ?_
      refine l_no rfl ?_
      refine l_no rfl ?_
      refine l_val rfl (o_pickT rfl rfl) ?_
      refine l_val rfl (o_move rfl) ?_
      refine l_no rfl ?_
      refine l_no rfl ?_
      refine l_val rfl (o_pickT rfl rfl) ?_
      refine l_nil ?_
      refine kt_norm ?_
      refine v_sel [4, 5, 6, 7, 8, 11, 37] [5, 6, 7, 8, 11] rfl rfl ?_
      refine v_condT rfl ?_
      refine v_seq ?_
      refine v_region ?_
      refine l_call (ks := []) rfl (o_callC (vs := []) (r := .bool true) (ent_of Try.func14 rfl rfl) rfl (fun w' hg hh => a_shown w')) ?_
      refine l_val rfl (o_assign rfl) ?_
      refine l_nil ?_
      refine kt_norm ?_
      refine v_sel [10] [] rfl rfl ?_
      refine v_ret ?_
      refine kt_ret ?_
      refine ⟨[_], .cons (.tmp rfl) (ResAll.nil), ?_⟩
      rfl
  · skip
    refine l_val rfl (o_not rfl rfl) ?_
    refine l_val rfl (o_move rfl) ?_
    refine l_no rfl ?_
    refine l_no rfl ?_
    refine l_no rfl ?_
    refine l_val rfl (o_pickT rfl rfl) ?_
    refine l_val rfl (o_move rfl) ?_
    refine l_no rfl ?_
    refine l_no rfl ?_
    refine l_no rfl ?_
    refine l_val rfl (o_pickT rfl rfl) ?_
    refine l_val rfl (o_move rfl) ?_
    refine l_no rfl ?_
    refine l_no rfl ?_
    refine l_val rfl (o_pickT rfl rfl) ?_
    refine l_nil ?_
    refine kt_norm ?_
    refine v_sel [4, 5, 6, 7, 8, 11, 37] [5, 6, 7, 8, 11] rfl rfl ?_
    refine v_condT rfl ?_
    refine v_seq ?_
    refine v_region ?_
    refine l_call (ks := []) rfl (o_callC (vs := []) (r := .bool true) (ent_of Try.func14 rfl rfl) rfl (fun w' hg hh => a_shown w')) ?_
    refine l_val rfl (o_assign rfl) ?_
    refine l_nil ?_
    refine kt_norm ?_
    refine v_sel [10] [] rfl rfl ?_
    refine v_ret ?_
    refine kt_ret ?_
    refine ⟨[_], .cons (.tmp rfl) (ResAll.nil), ?_⟩
    rfl
end Go.Proofs.Ytpgjbalnipinoaa

/- How far rounded vectors are. Conditions: none. -/
namespace Go.Proofs.Ytpgjbalnipinoaa
open Go.Proofs Go.RowKit Go.Shelf

/-! ### how far rounded vectors are -/
def dotT (p q : PtT) : Int := p.x * q.x + p.y * q.y
theorem nearQ_err {p c : Int} (hc : 0 < c) : -c ≤ 2 * (c * nearQ p c) - 2 * p ∧ 2 * (c * nearQ p c) - 2 * p ≤ c := by
  have e := Int.mul_ediv_add_emod p c
  have m1 := Int.emod_nonneg p (show c ≠ 0 by omega)
  have m2 := Int.emod_lt_of_pos p hc
  by_cases hn : c - p % c ≤ p % c
  · rw [nearQ_yes hn, Int.mul_add, Int.mul_one]; omega
  · rw [nearQ_no hn]; omega
theorem lenT_lt {P : PtT} (hs : P.x * P.x + P.y * P.y < 18446744073709551616) : P.x * P.x + P.y * P.y ≤ lenT P * lenT P + 2 * lenT P := by
  have h3 := sq_nn P.x
  have h4 := sq_nn P.y
  have h5 : 0 ≤ P.x * P.x + P.y * P.y := by omega
  unfold lenT
  generalize P.x * P.x + P.y * P.y = S at hs h5 ⊢
  obtain ⟨s, rfl⟩ : ∃ s : Nat, S = (s : Int) := ⟨S.toNat, by omega⟩
  rw [Int.toNat_natCast]
  have := (isq_ok (n := s) (by omega)).2
  have h6 : (s : Int) < ((isq s : Nat) : Int) * ((isq s : Nat) : Int) + 2 * ((isq s : Nat) : Int) + 1 := by
    have e : (isq s + 1) * (isq s + 1) = isq s * isq s + 2 * isq s + 1 := by grind
    rw [e] at this
    exact_mod_cast this
  omega
theorem abs_of_sq {x y : Int} (hy : 0 ≤ y) (h : x * x ≤ y * y) : -y ≤ x ∧ x ≤ y := by
  refine ⟨?_, ?_⟩
  · rcases Int.lt_or_le x (-y) with h1 | h1
    · have := Int.mul_pos (show 0 < -x - y by omega) (show 0 < -x + y by omega)
      have e : (-x - y) * (-x + y) = x * x - y * y := by grind
      omega
    · exact h1
  · rcases Int.lt_or_le y x with h1 | h1
    · have := Int.mul_pos (show 0 < x - y by omega) (show 0 < x + y by omega)
      have e : (x - y) * (x + y) = x * x - y * y := by grind
      omega
    · exact h1
theorem abs_mul {x e c k : Int} (h1 : -c ≤ e ∧ e ≤ c) (hk : -k ≤ x ∧ x ≤ k) : -(k * c) ≤ x * e ∧ x * e ≤ k * c := by
  have hc : 0 ≤ c := by omega
  have hk0 : 0 ≤ k := by omega
  refine abs_of_sq (Int.mul_nonneg hk0 hc) ?_
  have a1 := sq_mono hk
  have a2 := sq_mono h1
  have a3 := Int.mul_le_mul a1 a2 (sq_nn e) (sq_nn k)
  grind
/-- x e1 + y e2, where both e are small -/
theorem dot_err {x y e1 e2 c k : Int} (h1 : -c ≤ e1 ∧ e1 ≤ c) (h2 : -c ≤ e2 ∧ e2 ≤ c) (hx : -k ≤ x ∧ x ≤ k) (hy : -k ≤ y ∧ y ≤ k) : -(2 * (k * c)) ≤ x * e1 + y * e2 ∧ x * e1 + y * e2 ≤ 2 * (k * c) := by
  have a1 := abs_mul h1 hx
  have a2 := abs_mul h2 hy
  omega
theorem comp_le {a : PtT} {k : Int} (hk : 0 ≤ k) (h : dotT a a ≤ k * k) : (-k ≤ a.x ∧ a.x ≤ k) ∧ (-k ≤ a.y ∧ a.y ≤ k) := by
  unfold dotT at h
  have h1 := sq_nn a.x
  have h2 := sq_nn a.y
  exact ⟨abs_of_sq hk (by omega), abs_of_sq hk (by omega)⟩
/-- what a rounded vector is: n is r P / c, but for e / 2c -/
structure Rnd (r c : Int) (P n : PtT) : Prop where
  c1 : c * c ≤ dotT P P
  c2 : dotT P P ≤ c * c + 2 * c
  c0 : 0 < c
  ex : -c ≤ 2 * (c * n.x) - 2 * (P.x * r) ∧ 2 * (c * n.x) - 2 * (P.x * r) ≤ c
  ey : -c ≤ 2 * (c * n.y) - 2 * (P.y * r) ∧ 2 * (c * n.y) - 2 * (P.y * r) ≤ c
theorem mid_rnd {r : Int} {u v : PtT} (h : ¬ stopT r u v) (hs : dotT ⟨u.x + v.x, u.y + v.y⟩ ⟨u.x + v.x, u.y + v.y⟩ < 18446744073709551616) : ∃ c, Rnd r c ⟨u.x + v.x, u.y + v.y⟩ (midT r u v) := by
  obtain ⟨h0, hm⟩ := mid_go h
  refine ⟨_, lenT_sq hs, lenT_lt hs, h0, ?_, ?_⟩
  · rw [hm]; exact nearQ_err h0
  · rw [hm]; exact nearQ_err h0
theorem Rnd.of {r : Int} {u v : PtT} (hs : dotT ⟨u.x + v.x, u.y + v.y⟩ ⟨u.x + v.x, u.y + v.y⟩ < 18446744073709551616) (h1 : 1 ≤ dotT ⟨u.x + v.x, u.y + v.y⟩ ⟨u.x + v.x, u.y + v.y⟩) : ∃ c, Rnd r c ⟨u.x + v.x, u.y + v.y⟩ (midT r u v) := by
  have h0 : 1 ≤ lenT ⟨u.x + v.x, u.y + v.y⟩ := le_lenT (by omega) (by unfold dotT at h1; omega) (by unfold dotT at hs; exact hs)
  refine ⟨_, lenT_sq hs, lenT_lt hs, by omega, ?_, ?_⟩
  · have e : (midT r u v).x = nearQ ((u.x + v.x) * r) (lenT ⟨u.x + v.x, u.y + v.y⟩) := by unfold midT normT; rw [if_neg (by omega)]
    rw [e]; exact nearQ_err (by omega)
  · have e : (midT r u v).y = nearQ ((u.y + v.y) * r) (lenT ⟨u.x + v.x, u.y + v.y⟩) := by unfold midT normT; rw [if_neg (by omega)]
    rw [e]; exact nearQ_err (by omega)
/-- 4 n² c² = 4 r² P² + 4 r P e + e² -/
theorem Rnd.norm {r c : Int} {P n : PtT} (h : Rnd r c P n) (hr : 5 ≤ r) (hc : r ≤ c) : (r - 1) * (r - 1) ≤ dotT n n ∧ dotT n n ≤ (r + 2) * (r + 2) := by
  obtain ⟨c1, c2, c0, ex, ey⟩ := h
  obtain ⟨e1, he1⟩ : ∃ e, 2 * (c * n.x) - 2 * (P.x * r) = e := ⟨_, rfl⟩
  obtain ⟨e2, he2⟩ : ∃ e, 2 * (c * n.y) - 2 * (P.y * r) = e := ⟨_, rfl⟩
  rw [he1] at ex
  rw [he2] at ey
  unfold dotT at c1 c2 ⊢

  have hT : -(3 * ((c + 1) * c)) ≤ 2 * (P.x * e1 + P.y * e2) ∧ 2 * (P.x * e1 + P.y * e2) ≤ 3 * ((c + 1) * c) := by
    refine abs_of_sq (by have := Int.mul_nonneg (show 0 ≤ c + 1 by omega) (show 0 ≤ c by omega); omega) ?_
    have b1 := sq_mono ex
    have b2 := sq_mono ey
    have b3 := sq_nn (P.x * e2 - P.y * e1)
    have b4 : (P.x * e1 + P.y * e2) * (P.x * e1 + P.y * e2) + (P.x * e2 - P.y * e1) * (P.x * e2 - P.y * e1) = (P.x * P.x + P.y * P.y) * (e1 * e1 + e2 * e2) := by grind
    have b5 : P.x * P.x + P.y * P.y ≤ (c + 1) * (c + 1) := by grind
    have b6 := Int.mul_le_mul b5 (show e1 * e1 + e2 * e2 ≤ 2 * (c * c) by omega) (by have := sq_nn e1; have := sq_nn e2; omega) (sq_nn (c + 1))
    have b7 := Int.mul_nonneg (sq_nn (c + 1)) (sq_nn c)
    grind
  have key : 4 * (c * c) * (n.x * n.x + n.y * n.y) = 4 * (r * r) * (P.x * P.x + P.y * P.y) + 4 * r * (P.x * e1 + P.y * e2) + (e1 * e1 + e2 * e2) := by
    have f1 : 2 * (c * n.x) = 2 * (P.x * r) + e1 := by omega
    have f2 : 2 * (c * n.y) = 2 * (P.y * r) + e2 := by omega
    have g1 : 4 * (c * c) * (n.x * n.x) = (2 * (c * n.x)) * (2 * (c * n.x)) := by grind
    have g2 : 4 * (c * c) * (n.y * n.y) = (2 * (c * n.y)) * (2 * (c * n.y)) := by grind
    rw [Int.mul_add, g1, g2, f1, f2]; grind
  have q1 := sq_mono ex
  have q2 := sq_mono ey
  have q3 := sq_nn e1
  have q4 := sq_nn e2
  have rr := sq_nn r
  have t1 := Int.mul_le_mul_of_nonneg_left hT.1 (show 0 ≤ 2 * r by omega)
  have t2 := Int.mul_le_mul_of_nonneg_left hT.2 (show 0 ≤ 2 * r by omega)
  have u1 := Int.mul_le_mul_of_nonneg_left c1 rr
  have u2 := Int.mul_le_mul_of_nonneg_left c2 rr
  have cr := Int.mul_le_mul_of_nonneg_left hc (show 0 ≤ r by omega)
  have cr5 := Int.mul_le_mul_of_nonneg_left hr (show 0 ≤ c by omega)
  generalize n.x * n.x + n.y * n.y = N at key ⊢
  generalize P.x * P.x + P.y * P.y = S at *
  generalize P.x * e1 + P.y * e2 = T at *
  have m0 : 4 * r * T = 2 * r * (2 * T) := by grind
  have m1 : 2 * r * -(3 * ((c + 1) * c)) = -(6 * (r * (c * c))) - 6 * (r * c) := by grind
  have m2 : 2 * r * (3 * ((c + 1) * c)) = 6 * (r * (c * c)) + 6 * (r * c) := by grind
  have m6 : 4 * (r * r) * S = 4 * (r * r * S) := by grind
  have m7 : r * r * (c * c + 2 * c) = r * r * (c * c) + 2 * (r * r * c) := by grind
  have cc : 0 < c * c := Int.mul_pos c0 c0
  refine ⟨?_, ?_⟩
  · rcases Int.lt_or_le N ((r - 1) * (r - 1)) with hlt | hle
    · exfalso
      have v1 := Int.mul_le_mul_of_nonneg_left (show N + 1 ≤ (r - 1) * (r - 1) by omega) (show 0 ≤ 4 * (c * c) by omega)
      have v2 := Int.mul_nonneg (show 0 ≤ c by omega) (show 0 ≤ 2 * (c * r) - 4 * c - 6 * r by omega)
      have m3 : 4 * (c * c) * ((r - 1) * (r - 1)) = 4 * (r * r * (c * c)) - 8 * (r * (c * c)) + 4 * (c * c) := by grind
      have m4 : 4 * (c * c) * (N + 1) = 4 * (c * c) * N + 4 * (c * c) := by grind
      have m5 : c * (2 * (c * r) - 4 * c - 6 * r) = 2 * (r * (c * c)) - 4 * (c * c) - 6 * (r * c) := by grind
      omega
    · exact hle
  · rcases Int.lt_or_le ((r + 2) * (r + 2)) N with hlt | hle
    · exfalso
      have v1 := Int.mul_le_mul_of_nonneg_left (show (r + 2) * (r + 2) + 1 ≤ N by omega) (show 0 ≤ 4 * (c * c) by omega)
      have cr2 : r * r ≤ c * r := Int.mul_le_mul_of_nonneg_right hc (by omega)
      have r5 := Int.mul_le_mul_of_nonneg_left hr (show 0 ≤ r by omega)
      have v2 := Int.mul_nonneg (show 0 ≤ c by omega) (show 0 ≤ 10 * (c * r) - 8 * (r * r) - 6 * r + 14 * c by omega)
      have m3 : 4 * (c * c) * ((r + 2) * (r + 2) + 1) = 4 * (r * r * (c * c)) + 16 * (r * (c * c)) + 20 * (c * c) := by grind
      have m5 : c * (10 * (c * r) - 8 * (r * r) - 6 * r + 14 * c) = 10 * (r * (c * c)) - 8 * (r * r * c) - 6 * (r * c) + 14 * (c * c) := by grind
      omega
    · exact hle
theorem Rnd.dot {r c k : Int} {P n : PtT} (h : Rnd r c P n) (a : PtT) (hk : 0 ≤ k) (ha : dotT a a ≤ k * k) : -(2 * (k * c)) ≤ 2 * (c * dotT a n) - 2 * (r * dotT a P) ∧ 2 * (c * dotT a n) - 2 * (r * dotT a P) ≤ 2 * (k * c) := by
  have hc := comp_le hk ha
  have := dot_err h.ex h.ey hc.1 hc.2
  have e : 2 * (c * dotT a n) - 2 * (r * dotT a P) = a.x * (2 * (c * n.x) - 2 * (P.x * r)) + a.y * (2 * (c * n.y) - 2 * (P.y * r)) := by unfold dotT; grind
  rw [e]; exact this
theorem Rnd.cross {r c k : Int} {P n : PtT} (h : Rnd r c P n) (a : PtT) (hk : 0 ≤ k) (ha : dotT a a ≤ k * k) : -(2 * (k * c)) ≤ 2 * (c * crossT a n) - 2 * (r * crossT a P) ∧ 2 * (c * crossT a n) - 2 * (r * crossT a P) ≤ 2 * (k * c) := by
  have hc := comp_le hk ha
  have := dot_err (x := a.x) (y := -a.y) (k := k) h.ey h.ex hc.1 (by omega)
  have e : 2 * (c * crossT a n) - 2 * (r * crossT a P) = a.x * (2 * (c * n.y) - 2 * (P.y * r)) + -a.y * (2 * (c * n.x) - 2 * (P.x * r)) := by unfold crossT; grind
  rw [e]; exact this
/-- a chord of a circle that is great enough -/
structure GoodC (r : Int) (u v : PtT) : Prop where
  a1 : (r - 1) * (r - 1) ≤ dotT u u
  a2 : dotT u u ≤ (r + 2) * (r + 2)
  b1 : (r - 1) * (r - 1) ≤ dotT v v
  b2 : dotT v v ≤ (r + 2) * (r + 2)
  d : 0 ≤ dotT u v
  x : 10 * r ≤ crossT u v
def gapT (u v : PtT) : Int := (v.x - u.x) * (v.x - u.x) + (v.y - u.y) * (v.y - u.y)
theorem gap_eq (u v : PtT) : gapT u v = dotT u u + dotT v v - 2 * dotT u v := by unfold gapT dotT; grind
theorem gap_nn (u v : PtT) : 0 ≤ gapT u v := by unfold gapT; have := sq_nn (v.x - u.x); have := sq_nn (v.y - u.y); omega
theorem cross_sq (u v : PtT) : 4 * (crossT u v * crossT u v) = gapT u v * (2 * (dotT u u + dotT v v) - gapT u v) - (dotT u u - dotT v v) * (dotT u u - dotT v v) := by unfold gapT dotT crossT; grind
theorem GoodC.diff {r : Int} {u v : PtT} (h : GoodC r u v) (hr : 1 ≤ r) : (dotT u u - dotT v v) * (dotT u u - dotT v v) ≤ (6 * r + 3) * (6 * r + 3) := by
  have h1 := h.a1
  have h2 := h.a2
  have h3 := h.b1
  have h4 := h.b2
  have e : (r + 2) * (r + 2) - (r - 1) * (r - 1) = 6 * r + 3 := by grind
  exact sq_mono (by omega)
theorem GoodC.cross4 {r : Int} {u v : PtT} (h : GoodC r u v) (hr : 1 ≤ r) : gapT u v * (dotT u u + dotT v v) - (6 * r + 3) * (6 * r + 3) ≤ 4 * (crossT u v * crossT u v) := by
  have h0 := gap_nn u v
  have h1 := gap_eq u v
  have h2 := h.d
  have h3 := h.diff hr
  have h4 := Int.mul_le_mul_of_nonneg_left (show dotT u u + dotT v v ≤ 2 * (dotT u u + dotT v v) - gapT u v by omega) h0
  rw [cross_sq]; omega
theorem GoodC.wide {r : Int} {u v : PtT} (h : GoodC r u v) (hr : 65 ≤ r) (hg : 128 * r < gapT u v) : 24 * r ≤ crossT u v := by
  have h1 := h.cross4 (by omega)
  have ha := h.a1
  have hb := h.b1
  have hx := h.x
  rcases Int.lt_or_le (crossT u v) (24 * r) with hlt | hle
  · exfalso
    have s := sq_mono (x := crossT u v) (y := 24 * r) (by omega)
    have rr := sq_nn (r - 1)
    have p1 := Int.mul_le_mul (show 128 * r ≤ gapT u v by omega) (show 2 * ((r - 1) * (r - 1)) ≤ dotT u u + dotT v v by omega) (by omega) (gap_nn u v)
    have p2 := Int.mul_le_mul_of_nonneg_right (show 128 * 65 ≤ 128 * r by omega) (show 0 ≤ 2 * ((r - 1) * (r - 1)) by omega)
    have q1 : 24 * r * (24 * r) = 576 * (r * r) := by grind
    have q2 : (6 * r + 3) * (6 * r + 3) = 36 * (r * r) + 36 * r + 9 := by grind
    have q3 : 128 * 65 * (2 * ((r - 1) * (r - 1))) = 16640 * (r * r) - 33280 * r + 16640 := by grind
    have q4 := Int.mul_le_mul_of_nonneg_right hr (show 0 ≤ r by omega)
    omega
  · exact hle
theorem GoodC.mid {r : Int} {u v : PtT} (h : GoodC r u v) (hr : 65 ≤ r ∧ r ≤ 131072) (hgap : 128 * r < gapT u v) : GoodC r u (midT r u v) ∧ GoodC r (midT r u v) v := by
  have hk := h.wide hr.1 hgap
  obtain ⟨a1, a2, b1, b2, hd, hx⟩ := h
  have eS : dotT ⟨u.x + v.x, u.y + v.y⟩ ⟨u.x + v.x, u.y + v.y⟩ = dotT u u + dotT v v + 2 * dotT u v := by unfold dotT; grind
  have hg := gap_nn u v
  rw [gap_eq] at hg
  have r2 : (r + 2) * (r + 2) = r * r + 4 * r + 4 := by grind
  have r1 : (r - 1) * (r - 1) = r * r - 2 * r + 1 := by grind
  have rb := sq_mono (x := r) (y := 131072) (by omega)
  have rl := Int.mul_le_mul_of_nonneg_right hr.1 (show 0 ≤ r by omega)
  obtain ⟨c, hc⟩ := Rnd.of (r := r) (u := u) (v := v) (by rw [eS]; omega) (by rw [eS]; omega)
  have c1 := hc.c1
  have c2 := hc.c2
  have c0 := hc.c0
  rw [eS] at c1 c2
  have hcr : r ≤ c := by
    rcases Int.lt_or_le c r with hlt | hle
    · have s := sq_mono (x := c) (y := r - 1) (by omega)
      omega
    · exact hle
  have hcu : c ≤ 2 * (r + 2) := by
    refine (abs_of_sq (by omega) ?_).2
    have e : 2 * (r + 2) * (2 * (r + 2)) = 4 * (r * r) + 16 * r + 16 := by grind
    omega
  obtain ⟨n1, n2⟩ := hc.norm (by omega) hcr
  have kc : (r + 2) * c ≤ (r + 2) * (2 * (r + 2)) := Int.mul_le_mul_of_nonneg_left hcu (by omega)
  have kc2 : (r + 2) * (2 * (r + 2)) = 2 * (r * r) + 8 * r + 8 := by grind
  have du := (hc.dot u (k := r + 2) (by omega) a2).1
  have dv := (hc.dot v (k := r + 2) (by omega) b2).1
  have xu := (hc.cross u (k := r + 2) (by omega) a2).1
  have xv := (hc.cross v (k := r + 2) (by omega) b2).2
  have pu : dotT u ⟨u.x + v.x, u.y + v.y⟩ = dotT u u + dotT u v := by unfold dotT; grind
  have pv : dotT v ⟨u.x + v.x, u.y + v.y⟩ = dotT v v + dotT u v := by unfold dotT; grind
  have yu : crossT u ⟨u.x + v.x, u.y + v.y⟩ = crossT u v := by unfold crossT; grind
  have yv : crossT v ⟨u.x + v.x, u.y + v.y⟩ = -crossT u v := by unfold crossT; grind
  rw [pu] at du
  rw [pv] at dv
  rw [yu] at xu
  rw [yv] at xv
  obtain ⟨m, hm⟩ : ∃ m, midT r u v = m := ⟨_, rfl⟩
  rw [hm] at n1 n2 du dv xu xv ⊢
  have sw : dotT m v = dotT v m := by unfold dotT; grind
  have sx : crossT m v = -crossT v m := by unfold crossT; grind

  have big : 2 * (r * (r * r - 2 * r + 1)) ≥ 2 * (65 * (r * r - 2 * r + 1)) := by
    have := Int.mul_le_mul_of_nonneg_right hr.1 (show 0 ≤ r * r - 2 * r + 1 by omega)
    omega
  have ku := Int.mul_le_mul_of_nonneg_left (show r * r - 2 * r + 1 ≤ dotT u u + dotT u v by omega) (show 0 ≤ r by omega)
  have kv := Int.mul_le_mul_of_nonneg_left (show r * r - 2 * r + 1 ≤ dotT v v + dotT u v by omega) (show 0 ≤ r by omega)
  have kx := Int.mul_le_mul_of_nonneg_left hk (show 0 ≤ r by omega)
  have kx2 : r * (24 * r) = 24 * (r * r) := by grind
  have rc : r * c ≤ r * (2 * (r + 2)) := Int.mul_le_mul_of_nonneg_left hcu (by omega)
  have rc2 : r * (2 * (r + 2)) = 2 * (r * r) + 4 * r := by grind
  have posd : ∀ z : Int, 2 * (r * (r * r - 2 * r + 1)) - 2 * ((r + 2) * c) ≤ 2 * (c * z) → 0 ≤ z := fun z hz => by
    rcases Int.lt_or_le z 0 with hlt | hle
    · have := Int.mul_le_mul_of_nonneg_left (show z ≤ -1 by omega) (show 0 ≤ c by omega)
      omega
    · exact hle
  have posx : ∀ z : Int, 48 * (r * r) - 2 * ((r + 2) * c) ≤ 2 * (c * z) → 10 * r ≤ z := fun z hz => by
    rcases Int.lt_or_le z (10 * r) with hlt | hle
    · have h1 := Int.mul_le_mul_of_nonneg_left (show z ≤ 10 * r by omega) (show 0 ≤ c by omega)
      have h2 : c * (10 * r) = 10 * (r * c) := by grind
      omega
    · exact hle
  refine ⟨⟨a1, a2, n1, n2, posd _ (by omega), posx _ (by omega)⟩, ⟨n1, n2, b1, b2, by rw [sw]; exact posd _ (by omega), by
    rw [sx]
    refine posx _ ?_
    have : c * -crossT v m = -(c * crossT v m) := by grind
    have h3 : r * -crossT u v = -(r * crossT u v) := by grind
    rw [h3] at xv
    omega⟩⟩
theorem good_all {r : Int} (hr : 65 ≤ r ∧ r ≤ 131072) : ∀ (d : Nat) (u v : PtT), GoodC r u v → ∀ c ∈ chordsT r d u v, GoodC r c.1 c.2
  | 0, u, v, h, c, hc => by rw [List.mem_singleton.1 hc]; exact h
  | d + 1, u, v, h, c, hc => by
    by_cases hs : stopT r u v
    · rw [chords_stop hs] at hc; rw [List.mem_singleton.1 hc]; exact h
    · rw [chords_go hs] at hc
      obtain ⟨h1, h2⟩ := h.mid hr (by unfold stopT at hs; unfold gapT; omega)
      rcases List.mem_append.1 hc with hc | hc
      · exact good_all hr d _ _ h1 c hc
      · exact good_all hr d _ _ h2 c hc
/-- what is asked of a chord of a disc -/
structure FinC (r : Int) (u v : PtT) : Prop where
  a : dotT u u ≤ (r + 2) * (r + 2)
  b : dotT v v ≤ (r + 2) * (r + 2)
  x : 0 < crossT u v
  n : ∀ d : PtT, 4 * dotT d d ≤ r * r → crossT d ⟨v.x - u.x, v.y - u.y⟩ ≤ crossT u v
theorem cauchy (d u v : PtT) : crossT d ⟨v.x - u.x, v.y - u.y⟩ * crossT d ⟨v.x - u.x, v.y - u.y⟩ ≤ dotT d d * gapT u v := by
  have h := sq_nn (dotT d ⟨v.x - u.x, v.y - u.y⟩)
  have e : crossT d ⟨v.x - u.x, v.y - u.y⟩ * crossT d ⟨v.x - u.x, v.y - u.y⟩ + dotT d ⟨v.x - u.x, v.y - u.y⟩ * dotT d ⟨v.x - u.x, v.y - u.y⟩ = dotT d d * gapT u v := by unfold dotT crossT gapT; grind
  omega
theorem near_of {r : Int} {u v : PtT} (hx : 0 ≤ crossT u v) (h : r * r * gapT u v ≤ 4 * (crossT u v * crossT u v)) (d : PtT) (hd : 4 * dotT d d ≤ r * r) : crossT d ⟨v.x - u.x, v.y - u.y⟩ ≤ crossT u v := by
  refine (abs_of_sq hx ?_).2
  have h1 := cauchy d u v
  have h2 := Int.mul_le_mul_of_nonneg_right hd (gap_nn u v)
  have e : 4 * dotT d d * gapT u v = 4 * (dotT d d * gapT u v) := by grind
  omega
theorem GoodC.fin {r : Int} {u v : PtT} (h : GoodC r u v) (hr : 65 ≤ r) : FinC r u v := by
  have h4 := h.cross4 (by omega)
  obtain ⟨a1, a2, b1, b2, hd, hx⟩ := h
  refine ⟨a2, b2, by omega, near_of (by omega) ?_⟩
  have r2 : (r + 2) * (r + 2) = r * r + 4 * r + 4 := by grind
  have r1 : (r - 1) * (r - 1) = r * r - 2 * r + 1 := by grind
  have rl := Int.mul_le_mul_of_nonneg_right hr (show 0 ≤ r by omega)
  have hL : 64 ≤ gapT u v := by
    rcases Int.lt_or_le (gapT u v) 64 with hlt | hle
    · exfalso
      have c1 := cauchy u u v
      have e : crossT u ⟨v.x - u.x, v.y - u.y⟩ = crossT u v := by unfold crossT; grind
      rw [e] at c1
      have s : 10 * r * (10 * r) ≤ crossT u v * crossT u v := Int.mul_le_mul hx hx (by omega) (by omega)
      have s2 : 10 * r * (10 * r) = 100 * (r * r) := by grind
      have p := Int.mul_le_mul a2 (show gapT u v ≤ 63 by omega) (gap_nn u v) (sq_nn (r + 2))
      omega
    · exact hle
  have q2 : (6 * r + 3) * (6 * r + 3) = 36 * (r * r) + 36 * r + 9 := by grind
  have p := Int.mul_le_mul hL (show r * r - 4 * r + 2 ≤ dotT u u + dotT v v - r * r by omega) (by omega) (by omega)
  have e : gapT u v * (dotT u u + dotT v v - r * r) = gapT u v * (dotT u u + dotT v v) - r * r * gapT u v := by grind
  omega
structure Corner (r : Int) (u v : PtT) : Prop where
  a : dotT u u = r * r
  b : dotT v v = r * r
  d : dotT u v = 0
  x : crossT u v = r * r
theorem corner_fin {r : Int} {u v : PtT} (hr : 1 ≤ r ∧ r ≤ 131072) (h : Corner r u v) : ∀ c ∈ chordsT r 6 u v, FinC r c.1 c.2 := by
  obtain ⟨ha, hb, hd, hx⟩ := h
  have r2 : (r + 2) * (r + 2) = r * r + 4 * r + 4 := by grind
  have r1 : (r - 1) * (r - 1) = r * r - 2 * r + 1 := by grind
  have rp : 0 < r * r := Int.mul_pos (by omega) (by omega)
  have hg := gap_eq u v
  rw [ha, hb, hd] at hg
  rcases Int.lt_or_le 64 r with hlt | hle
  · intro c hc
    have rl := Int.mul_le_mul_of_nonneg_right (show 65 ≤ r from hlt) (show 0 ≤ r by omega)
    exact (good_all ⟨hlt, hr.2⟩ 6 u v ⟨by omega, by omega, by omega, by omega, by omega, by omega⟩ c hc).fin hlt
  · have hst : stopT r u v := .inl (by
      have rl := Int.mul_le_mul_of_nonneg_right hle (show 0 ≤ r by omega)
      unfold gapT at hg; omega)
    rw [chords_stop hst]
    intro c hc
    rw [List.mem_singleton.1 hc]
    refine ⟨by dsimp only; omega, by dsimp only; omega, by dsimp only; omega, near_of (by dsimp only; omega) ?_⟩
    dsimp only
    rw [hg, hx]
    have e : r * r * (r * r + r * r - 2 * 0) = 2 * (r * r * (r * r)) := by grind
    have := Int.mul_pos rp rp
    omega
/-! ### what lies in a disc's pieces -/
theorem tri_far {f t d : PtT} {M : Int} (hD : 0 < crossT f t) (h1 : 0 ≤ crossT f d) (h2 : 0 ≤ crossT d t) (h3 : crossT f d + crossT d t ≤ crossT f t) (ha : dotT f f ≤ M) (hb : dotT t t ≤ M) : dotT d d ≤ M := by
  have e : crossT f t * crossT f t * dotT d d = crossT d t * crossT d t * dotT f f + 2 * (crossT d t * crossT f d * dotT f t) + crossT f d * crossT f d * dotT t t := by unfold crossT dotT; grind
  have hC : dotT f t ≤ M := by have := gap_nn f t; rw [gap_eq] at this; omega
  have hM : 0 ≤ M := by have := sq_nn f.x; have := sq_nn f.y; unfold dotT at ha; omega
  generalize crossT f t = D at *
  generalize crossT d t = α at *
  generalize crossT f d = β at *
  rcases Int.lt_or_le M (dotT d d) with hlt | hle
  · exfalso
    have p1 := Int.mul_le_mul_of_nonneg_left ha (sq_nn α)
    have p2 := Int.mul_le_mul_of_nonneg_left hb (sq_nn β)
    have p3 := Int.mul_le_mul_of_nonneg_left hC (Int.mul_nonneg h2 h1)
    have p4 := sq_mono (x := α + β) (y := D) (by omega)
    have p5 := Int.mul_le_mul_of_nonneg_right p4 hM
    have p6 := Int.mul_le_mul_of_nonneg_left (show M + 1 ≤ dotT d d by omega) (sq_nn D)
    have p7 : (α + β) * (α + β) * M = α * α * M + 2 * (α * β * M) + β * β * M := by grind
    have p8 : D * D * (M + 1) = D * D * M + D * D := by grind
    have p9 := Int.mul_pos hD hD
    omega
  · exact hle
def triP (p : PtT) (c : PtT × PtT) : List PtT := [p, ⟨p.x + c.1.x, p.y + c.1.y⟩, ⟨p.x + c.2.x, p.y + c.2.y⟩]
theorem pie_all (p : PtT) : ∀ (l : List (PtT × PtT)) (qs : List (List PtT)), (∀ c ∈ l, (BdT c.1 ∧ BdT c.2) ∧ 0 < crossT c.1 c.2) → l.foldl (pieT p) qs = qs ++ l.map (triP p)
  | [], qs, _ => (List.append_nil qs).symm
  | c :: l, qs, h => by
    obtain ⟨⟨h1, h2⟩, h3⟩ := h c List.mem_cons_self
    obtain ⟨k1, k2⟩ := tri_convex (p := p) h1 h2 h3
    have e : pieT p qs c = qs ++ [triP p c] := (putT_yes (by rw [k1]; exact k2)).trans (by rw [k1]; rfl)
    rw [List.foldl_cons, pie_all p l _ (fun x hx => h x (List.mem_cons_of_mem _ hx)), e, List.append_assoc]; rfl
theorem sg_neg {x : Int} : sg x < 0 ↔ x < 0 := by unfold sg; split <;> (try split) <;> omega
theorem left_tri (p q : PtT) (c : PtT × PtT) : leftB (triP p c) q = true ↔ 0 ≤ crossT c.1 ⟨q.x - p.x, q.y - p.y⟩ ∧ 0 ≤ crossT c.1 c.2 - crossT c.1 ⟨q.x - p.x, q.y - p.y⟩ - crossT ⟨q.x - p.x, q.y - p.y⟩ c.2 ∧ 0 ≤ crossT ⟨q.x - p.x, q.y - p.y⟩ c.2 := by
  unfold leftB triP
  rw [sides3]
  have e1 : crossT ⟨p.x + c.1.x - p.x, p.y + c.1.y - p.y⟩ ⟨q.x - p.x, q.y - p.y⟩ = crossT c.1 ⟨q.x - p.x, q.y - p.y⟩ := by unfold crossT; grind
  have e2 : crossT ⟨p.x + c.2.x - (p.x + c.1.x), p.y + c.2.y - (p.y + c.1.y)⟩ ⟨q.x - (p.x + c.1.x), q.y - (p.y + c.1.y)⟩ = crossT c.1 c.2 - crossT c.1 ⟨q.x - p.x, q.y - p.y⟩ - crossT ⟨q.x - p.x, q.y - p.y⟩ c.2 := by unfold crossT; grind
  have e3 : crossT ⟨p.x - (p.x + c.2.x), p.y - (p.y + c.2.y)⟩ ⟨q.x - (p.x + c.2.x), q.y - (p.y + c.2.y)⟩ = crossT ⟨q.x - p.x, q.y - p.y⟩ c.2 := by unfold crossT; grind
  simp only [List.all_cons, List.all_nil, Bool.and_true, Bool.and_eq_true, Bool.not_eq_true', decide_eq_false_iff_not, sideT, sg_neg, e1, e2, e3]
  omega
theorem cross_swap (a b : PtT) : crossT b a = -crossT a b := by unfold crossT; grind
theorem near_chord (r : Int) (d : PtT) : ∀ (k : Nat) (u v : PtT), 0 ≤ crossT u d → 0 ≤ crossT d v → ∃ c ∈ chordsT r k u v, 0 ≤ crossT c.1 d ∧ 0 ≤ crossT d c.2
  | 0, u, v, h1, h2 => ⟨(u, v), List.mem_singleton.2 rfl, h1, h2⟩
  | k + 1, u, v, h1, h2 => by
    by_cases hs : stopT r u v
    · rw [chords_stop hs]; exact ⟨(u, v), List.mem_singleton.2 rfl, h1, h2⟩
    · rw [chords_go hs]
      obtain ⟨m, hm⟩ : ∃ m, midT r u v = m := ⟨_, rfl⟩
      rw [hm]
      clear hm hs
      rcases Int.lt_or_le (crossT m d) 0 with hlt | hle
      · have e := cross_swap m d
        obtain ⟨c, hc, h⟩ := near_chord r d k u m h1 (by omega)
        exact ⟨c, List.mem_append_left _ hc, h⟩
      · obtain ⟨c, hc, h⟩ := near_chord r d k m v hle h2
        exact ⟨c, List.mem_append_right _ hc, h⟩
theorem disc_arcs (r : Int) : arcsK r (discC r) 4 = ((chordsT r 6 ⟨r, 0⟩ ⟨0, r⟩ ++ chordsT r 6 ⟨0, r⟩ ⟨-r, 0⟩) ++ chordsT r 6 ⟨-r, 0⟩ ⟨0, -r⟩) ++ chordsT r 6 ⟨0, -r⟩ ⟨r, 0⟩ := rfl
theorem disc_fin {r : Int} (hr : 1 ≤ r ∧ r ≤ 131072) : ∀ c ∈ arcsK r (discC r) 4, FinC r c.1 c.2 := by
  rw [disc_arcs]
  intro c hc
  have k1 := corner_fin (u := ⟨r, 0⟩) (v := ⟨0, r⟩) hr ⟨by unfold dotT; grind, by unfold dotT; grind, by unfold dotT; grind, by unfold crossT; grind⟩
  have k2 := corner_fin (u := ⟨0, r⟩) (v := ⟨-r, 0⟩) hr ⟨by unfold dotT; grind, by unfold dotT; grind, by unfold dotT; grind, by unfold crossT; grind⟩
  have k3 := corner_fin (u := ⟨-r, 0⟩) (v := ⟨0, -r⟩) hr ⟨by unfold dotT; grind, by unfold dotT; grind, by unfold dotT; grind, by unfold crossT; grind⟩
  have k4 := corner_fin (u := ⟨0, -r⟩) (v := ⟨r, 0⟩) hr ⟨by unfold dotT; grind, by unfold dotT; grind, by unfold dotT; grind, by unfold crossT; grind⟩
  rcases List.mem_append.1 hc with hc | hc
  · rcases List.mem_append.1 hc with hc | hc
    · rcases List.mem_append.1 hc with hc | hc
      · exact k1 c hc
      · exact k2 c hc
    · exact k3 c hc
  · exact k4 c hc
theorem disc_ring {r : Int} (hr : 1 ≤ r) (d : PtT) : ∃ c ∈ arcsK r (discC r) 4, 0 ≤ crossT c.1 d ∧ 0 ≤ crossT d c.2 := by
  rw [disc_arcs]
  have px := fun (h : 0 ≤ d.x) => Int.mul_nonneg (show 0 ≤ r by omega) h
  have py := fun (h : 0 ≤ d.y) => Int.mul_nonneg (show 0 ≤ r by omega) h
  have nx := fun (h : d.x ≤ 0) => Int.mul_nonneg (show 0 ≤ r by omega) (show 0 ≤ -d.x by omega)
  have ny := fun (h : d.y ≤ 0) => Int.mul_nonneg (show 0 ≤ r by omega) (show 0 ≤ -d.y by omega)
  rcases Int.le_total 0 d.y with hy | hy <;> rcases Int.le_total 0 d.x with hx | hx
  · obtain ⟨c, hc, h⟩ := near_chord r d 6 ⟨r, 0⟩ ⟨0, r⟩ (by have := py hy; unfold crossT; grind) (by have := px hx; unfold crossT; grind)
    exact ⟨c, List.mem_append_left _ (List.mem_append_left _ (List.mem_append_left _ hc)), h⟩
  · obtain ⟨c, hc, h⟩ := near_chord r d 6 ⟨0, r⟩ ⟨-r, 0⟩ (by have := nx hx; unfold crossT; grind) (by have := py hy; unfold crossT; grind)
    exact ⟨c, List.mem_append_left _ (List.mem_append_left _ (List.mem_append_right _ hc)), h⟩
  · obtain ⟨c, hc, h⟩ := near_chord r d 6 ⟨0, -r⟩ ⟨r, 0⟩ (by have := px hx; unfold crossT; grind) (by have := ny hy; unfold crossT; grind)
    exact ⟨c, List.mem_append_right _ hc, h⟩
  · obtain ⟨c, hc, h⟩ := near_chord r d 6 ⟨-r, 0⟩ ⟨0, -r⟩ (by have := ny hy; unfold crossT; grind) (by have := nx hx; unfold crossT; grind)
    exact ⟨c, List.mem_append_left _ (List.mem_append_right _ hc), h⟩
theorem disc_map {p : PtT} {r : Int} (hr : 1 ≤ r ∧ r ≤ 131072) : piesT p r (discC r) [] = (arcsK r (discC r) 4).map (triP p) := by
  have := pie_all p (arcsK r (discC r) 4) [] (fun c hc => ⟨arcs_bd hr (disc_bd hr) 4 (by show 4 < 5; omega) c hc, (disc_fin hr c hc).x⟩)
  rw [List.nil_append] at this
  exact this
theorem disc_far {p q : PtT} {r : Int} (hr : 1 ≤ r ∧ r ≤ 131072) (hf : (r + 2) * (r + 2) < dotT ⟨q.x - p.x, q.y - p.y⟩ ⟨q.x - p.x, q.y - p.y⟩) : (piesT p r (discC r) []).countP (fun pc => leftB pc q) = 0 := by
  rw [disc_map hr, List.countP_eq_zero]
  intro pc hpc hl
  obtain ⟨c, hc, rfl⟩ := List.mem_map.1 hpc
  obtain ⟨h1, h2, h3⟩ := (left_tri p q c).1 hl
  have hF := disc_fin hr c hc
  have := tri_far hF.x h1 h3 (by omega) hF.a hF.b
  omega
theorem disc_near {p q : PtT} {r : Int} (hr : 1 ≤ r ∧ r ≤ 131072) (hn : 4 * dotT ⟨q.x - p.x, q.y - p.y⟩ ⟨q.x - p.x, q.y - p.y⟩ ≤ r * r) : 0 < (piesT p r (discC r) []).countP (fun pc => leftB pc q) := by
  rw [disc_map hr, List.countP_pos_iff]
  obtain ⟨c, hc, h1, h2⟩ := disc_ring hr.1 ⟨q.x - p.x, q.y - p.y⟩
  have hF := (disc_fin hr c hc).n _ hn
  refine ⟨triP p c, List.mem_map.2 ⟨c, hc, rfl⟩, (left_tri p q c).2 ⟨h1, ?_, h2⟩⟩
  have e : crossT ⟨q.x - p.x, q.y - p.y⟩ ⟨c.2.x - c.1.x, c.2.y - c.1.y⟩ = crossT c.1 ⟨q.x - p.x, q.y - p.y⟩ + crossT ⟨q.x - p.x, q.y - p.y⟩ c.2 := by unfold crossT; grind
  omega
theorem convex_left {pc : List PtT} (h : convexB pc = true) {q : PtT} (hq : q ∈ pc) : leftB pc q = true := by
  unfold convexB at h
  simp only [Bool.and_eq_true, Bool.not_eq_true', List.any_eq_false] at h
  have := h.2.2 q hq
  simpa using this
theorem tri_has {p : PtT} {pc : List PtT} (h : TriT p pc) : leftB pc p = true := by
  obtain ⟨h3, hc, hp, _⟩ := h
  refine convex_left hc ?_
  rcases hp with hp | hp <;> rw [← hp]
  · exact pt_mem (by omega)
  · exact pt_mem (by omega)
end Go.Proofs.Ytpgjbalnipinoaa
