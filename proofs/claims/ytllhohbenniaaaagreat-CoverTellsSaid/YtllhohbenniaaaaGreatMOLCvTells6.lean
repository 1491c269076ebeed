import Derived.Test.YtllhohbenniaaaaGreatM1
import Derived.Test.YtllhohbenniaaaaGreatM2
import Derived.Test.YtllhohbenniaaaaGreatM3
import Derived.Test.YtllhohbenniaaaaGreatM4
import Derived.Test.YtllhohbenniaaaaGreatM5
import Derived.Test.YtllhohbenniaaaaGreatM6
/- Crops of covers. Conditions: none. -/
namespace Go.Proofs.YtllhohbenniaaaaGreat
open Go.Proofs Go.RowKit Go.Shelf

theorem o_slice2 {C : Cx} {s : St} {d : Option Nat} {x z z' : Operand} {T E ty : TypeId} {pos : String} {aft : Array Edge} {gd : Option (Nat × Bool)} {v : Value} {n esz : Nat} {k k' : IntKind} {q q' : Int} {lo hi : Nat} [ht : TSl C.P T E esz] (h : ev C s x = some v) (hv : RowV v n) (hcap : Capd v) (h2 : ev C s z = some (.int k q)) (hq : q = ((lo : Nat) : Int)) (h3 : ev C s z' = some (.int k' q')) (hq' : q' = ((hi : Nat) : Int)) (h4 : lo ≤ hi) (h5 : hi ≤ n) :
    OpV C s ⟨d, .slice T x (some z) (some z') none, ty, pos, aft, gd⟩ [] (subFrom (subTo v hi) esz lo) := opv _ _ (by simp) fun ρ w hr => by
  have hx := rd1 hr (x := x) (by simp [Op.operands]) h
  have hz := rd1 hr (x := z) (by simp [Op.operands]) h2
  have hz' := rd1 hr (x := z') (by simp [Op.operands]) h3
  subst hq hq'
  obtain ⟨b, c, rfl⟩ := hv.sl
  have h6 := hcap _ _ _ rfl
  have h7 : (hi : Int) ≤ c := by omega
  have h8 : (lo : Int) ≤ hi := by omega
  simp [execOp, hx, hz, hz', Instr.sliceAt, Instr.slice, Instr.sliceBounds, Instr.sliceBound, asIntOf, Sem.run_bind, run_underlying ht.h, h7, h8, h4, show hi ≤ c by omega, ht.sz, Result.andThen, subFrom, subTo]
theorem capd_to {v : Value} {n hi : Nat} (h : Capd v) (hv : RowV v n) (hle : hi ≤ n) : Capd (subTo v hi) := fun a n' c e => by
  obtain ⟨b, c', rfl⟩ := hv.sl
  have := h _ _ _ rfl
  simp only [subTo] at e
  cases e; omega
/-- rows of a crop -/
def cropT (n : Nat) (pix : List Int) (x y cw : Nat) : Nat → List Int
  | 0 => []
  | k + 1 => cropT n pix x y cw k ++ (pix.drop ((y + k) * n + x)).take cw
theorem crop_in {n h x y cw k : Nat} (hx : x + cw ≤ n) (hk : y + k < h) : (y + k) * n + x + cw ≤ n * h := by
  have h1 : (y + k + 1) * n ≤ h * n := Nat.mul_le_mul_right n hk
  rw [Nat.succ_mul, Nat.mul_comm h n] at h1
  omega
theorem cropT_len {n h : Nat} {pix : List Int} {x y cw : Nat} (hl : pix.length = n * h) (hx : x + cw ≤ n) : ∀ k, y + k ≤ h → (cropT n pix x y cw k).length = k * cw
  | 0, _ => by simp [cropT]
  | k + 1, hk => by
    have h1 := crop_in (n := n) (h := h) (x := x) (y := y) (cw := cw) (k := k) hx (by omega)
    rw [cropT, List.length_append, cropT_len hl hx k (by omega), List.length_take, List.length_drop, hl, Nat.succ_mul]
    omega
/-- the row of a crop, pixel by pixel -/
theorem crop_step {n h : Nat} {pix : List Int} {o cw i : Nat} (ho : o + cw ≤ pix.length) (hi : i < cw) : (pix.drop o).take (i + 1) = (pix.drop o).take i ++ [pix.getD (o + i) 0] := by
  have hl : i < (pix.drop o).length := by rw [List.length_drop]; omega
  rw [List.take_add_one, List.getElem?_eq_getElem hl, List.getElem_drop, List.getD_eq_getElem?_getD, List.getElem?_eq_getElem (show o + i < pix.length by omega)]
  rfl
theorem crop_row {w : World} {pv : Value} {n h x y cw k : Nat} {pix : List Int} (hrow : RowAt w pv 1 pix.length (iU pix)) (hV : RowV pv pix.length) (hcap : Capd pv) (hle : (y + k) * n + x + cw ≤ pix.length) : RowAt w (subFrom (subTo pv ((y + k) * n + x + cw)) 1 ((y + k) * n + x)) 1 cw (iU ((pix.drop ((y + k) * n + x)).take cw)) := by
  have h1 := rowAt_to hrow hle
  have h2 := rowAt_drop (lo := (y + k) * n + x) h1 (rowV_to hV hle) (capd_to hcap hV hle) (by omega)
  rw [Nat.mul_one, Nat.mul_one] at h2
  have e : (y + k) * n + x + cw - ((y + k) * n + x) = cw := by omega
  rw [e] at h2
  have e2 : (((iU pix).take ((y + k) * n + x + cw)).drop ((y + k) * n + x)) = iU ((pix.drop ((y + k) * n + x)).take cw) := by
    rw [List.drop_take, e]
    simp only [iU, List.map_drop, List.map_take]
  rw [e2] at h2
  exact h2
theorem crop_get {n h x y i k : Nat} {pix : List Int} (hx : x + i < n) (hy : y + k < h) : atT n h pix ((x : Int) + i) ((y : Int) + k) = pix.getD ((y + k) * n + x + i) 0 := by
  unfold atT
  rw [if_pos (by omega)]
  congr 1
  rw [← Int.natCast_add, ← Int.natCast_mul, ← Int.natCast_add, ← Int.natCast_add, Int.toNat_natCast]
  omega
def CropOk (n h : Nat) (X Y CW CH : Int) : Prop := 0 ≤ X ∧ 0 ≤ Y ∧ 1 ≤ CW ∧ 1 ≤ CH ∧ X + CW ≤ n ∧ Y + CH ≤ h
instance (n h : Nat) (X Y CW CH : Int) : Decidable (CropOk n h X Y CW CH) := by unfold CropOk; infer_instance
theorem cropOk_def (n h : Nat) (X Y CW CH : Int) : CropOk n h X Y CW CH ↔ 0 ≤ X ∧ 0 ≤ Y ∧ 1 ≤ CW ∧ 1 ≤ CH ∧ X + CW ≤ n ∧ Y + CH ≤ h := Iff.rfl





end Go.Proofs.YtllhohbenniaaaaGreat

/- Spans are the same, in whatever order the pieces come, also if they come again. Conditions: none. -/
namespace Go.Proofs.YtllhohbenniaaaaGreat
open Go.Proofs Go.RowKit Go.Shelf

variable {C : Cx} {K : Exit → St → Prop} {ops : Array Oper} {rest : List Oper} {l : List (Nat × Value)} {m : List (Nat × Hp)} {g : World → Prop} {gb : Nat → Prop} {dd : List Nat} in
theorem l_capd (key : Nat) {v : Value} {E esz n : Nat} {xs : List Value} (hk : lk m key = some (.own v E esz n xs)) (next : Capd v → VL C ops rest K (mk l m g gb dd)) : VL C ops rest K (mk l m g gb dd) :=
  fun a w hr => next (capd_own (hr.mo key _ hk).1) a w hr
def All2 (R : Value → List PtT → Prop) (vs : List Value) (ps : List (List PtT)) : Prop := vs.length = ps.length ∧ ∀ i, i < ps.length → R (vs.getD i undef) (ps.getD i [])
theorem All2.append {R : Value → List PtT → Prop} {a b : List Value} {p q : List (List PtT)} (h : All2 R a p) (k : All2 R b q) : All2 R (a ++ b) (p ++ q) := by
  refine ⟨by rw [List.length_append, List.length_append, h.1, k.1], fun i hi => ?_⟩
  rw [List.length_append] at hi
  rw [List.getD_eq_getElem?_getD, List.getD_eq_getElem?_getD, List.getElem?_append, List.getElem?_append, h.1]
  by_cases e : i < p.length
  · rw [if_pos e, if_pos e, ← List.getD_eq_getElem?_getD, ← List.getD_eq_getElem?_getD]; exact h.2 i e
  · rw [if_neg e, if_neg e, ← List.getD_eq_getElem?_getD, ← List.getD_eq_getElem?_getD]; exact k.2 _ (by omega)
theorem All2.drop {R : Value → List PtT → Prop} {a : List Value} {p : List (List PtT)} (h : All2 R a p) (k : Nat) : All2 R (a.drop k) (p.drop k) := by
  refine ⟨by rw [List.length_drop, List.length_drop, h.1], fun i hi => ?_⟩
  rw [List.length_drop] at hi
  rw [List.getD_eq_getElem?_getD, List.getD_eq_getElem?_getD, List.getElem?_drop, List.getElem?_drop, ← List.getD_eq_getElem?_getD, ← List.getD_eq_getElem?_getD]
  exact h.2 _ (by omega)
theorem All2.take {R : Value → List PtT → Prop} {a : List Value} {p : List (List PtT)} (h : All2 R a p) (k : Nat) : All2 R (a.take k) (p.take k) := by
  refine ⟨by rw [List.length_take, List.length_take, h.1], fun i hi => ?_⟩
  rw [List.length_take] at hi
  rw [List.getD_eq_getElem?_getD, List.getD_eq_getElem?_getD, List.getElem?_take_of_lt (by omega), List.getElem?_take_of_lt (by omega), ← List.getD_eq_getElem?_getD, ← List.getD_eq_getElem?_getD]
  exact h.2 _ (by omega)
theorem All2.nil {R : Value → List PtT → Prop} : All2 R [] [] := ⟨rfl, fun i hi => absurd hi (Nat.not_lt_zero i)⟩
theorem All2.one {R : Value → List PtT → Prop} {u : Value} {pc : List PtT} (h : R u pc) : All2 R [u] [pc] := ⟨rfl, fun i hi => by
  obtain rfl : i = 0 := by simpa using hi
  exact h⟩
def RV (u : Value) (pc : List PtT) : Prop := RowV u pc.length
def RP (w : World) (u : Value) (pc : List PtT) : Prop := RowAt w u 2 pc.length (pc.flatMap eP)
theorem PcsW.all {v : Value} {vs : List Value} {ps : List (List PtT)} (h : PcsW v vs ps) : All2 RV vs ps := ⟨h.lenv, h.pV⟩
theorem pcsW_of {v : Value} {vs : List Value} {ps : List (List PtT)} (h : RowV v ps.length) (hl : ps.length ≤ 1000000) (k : All2 RV vs ps) : PcsW v vs ps := ⟨h, k.1, by omega, k.2⟩
theorem PcsAt.all {w : World} {v : Value} {vs : List Value} {ps : List (List PtT)} (h : PcsAt w v vs ps) (hw : PcsW v vs ps) : All2 (RP w) vs ps := ⟨hw.lenv, h.pc⟩
theorem pcsAt_of {w : World} {v : Value} {vs : List Value} {ps : List (List PtT)} (h : RowAt w v 1 ps.length vs) (k : All2 (RP w) vs ps) : PcsAt w v vs ps := ⟨h, k.2⟩
theorem oriT_len (pc : List PtT) : (oriT pc).length = pc.length := by unfold oriT; split; exact List.length_reverse; rfl
theorem oriT_bnd {pc : List PtT} (h : BndP pc) : BndP (oriT pc) := by
  refine ⟨by rw [oriT_len]; exact h.1, fun j hj => ?_⟩
  have hm : (oriT pc).getD j dP ∈ oriT pc := pt_mem hj
  have hm2 : (oriT pc).getD j dP ∈ pc := by
    generalize (oriT pc).getD j dP = p at hm
    unfold oriT at hm
    split at hm
    · exact List.mem_reverse.1 hm
    · exact hm
  exact h.near _ hm2
theorem putT_yes {qs : List (List PtT)} {pc : List PtT} (h : convexB (oriT pc) = true) : putT qs pc = qs ++ [oriT pc] := if_pos h
theorem putT_no {qs : List (List PtT)} {pc : List PtT} (h : convexB (oriT pc) = false) : putT qs pc = qs := if_neg (by rw [h]; exact Bool.false_ne_true)
theorem put_mem {ps : List (List PtT)} : ∀ k, k ≤ ps.length → ∀ q ∈ putAll ps k, ∃ pc ∈ ps, q = oriT pc ∧ convexB (oriT pc) = true
  | 0, _, q, h => by simp [putAll] at h
  | k + 1, hk, q, h => by
    rw [putAll_succ (by omega)] at h
    have hm : ps.getD k [] ∈ ps := by
      rw [List.getD_eq_getElem?_getD, List.getElem?_eq_getElem (show k < ps.length by omega)]; exact List.getElem_mem _
    unfold putT at h
    split at h
    · rename_i hc
      rcases List.mem_append.1 h with h | h
      · exact put_mem k (by omega) q h
      · rw [List.mem_singleton.1 h]; exact ⟨_, hm, rfl, hc⟩
    · exact put_mem k (by omega) q h
theorem put_bnd {ps : List (List PtT)} (h : Bn20 ps) : Bn20 (putAll ps ps.length) := by
  have hl := putAll_len ps ps.length (Nat.le_refl _)
  refine ⟨by have := h.1; omega, fun i hi => ?_⟩
  have hm : (putAll ps ps.length).getD i [] ∈ putAll ps ps.length := by
    rw [List.getD_eq_getElem?_getD, List.getElem?_eq_getElem hi]; exact List.getElem_mem _
  obtain ⟨pc, hp, e, _⟩ := put_mem ps.length (Nat.le_refl _) _ hm
  rw [e]
  exact oriT_bnd (h.bnd.x.mem hp)
theorem ord_bnd {qs : List (List PtT)} (h : Bn20 qs) (k : Nat) (hk : k ≤ qs.length) : BndX (qs.drop k ++ qs.take k ++ qs) := by
  refine ⟨by simp only [List.length_append, List.length_drop, List.length_take]; have := h.1; omega, fun i hi => ?_⟩
  have hm : (qs.drop k ++ qs.take k ++ qs).getD i [] ∈ qs.drop k ++ qs.take k ++ qs := by
    rw [List.getD_eq_getElem?_getD, List.getElem?_eq_getElem hi]; exact List.getElem_mem _
  have : (qs.drop k ++ qs.take k ++ qs).getD i [] ∈ qs := by
    rcases List.mem_append.1 hm with h1 | h1
    · rcases List.mem_append.1 h1 with h1 | h1
      · exact List.mem_of_mem_drop h1
      · exact List.mem_of_mem_take h1
    · exact h1
  exact h.bnd.x.mem this
theorem ord_len {qs : List (List PtT)} {k : Nat} (hk : k ≤ qs.length) : (qs.drop k ++ qs.take k ++ qs).length = 0 + (qs.length - k) + k + qs.length := by
  simp only [List.length_append, List.length_drop, List.length_take]; omega
theorem rowAt_takeV {w : World} {v : Value} {esz n : Nat} {xs : List Value} (h : RowAt w v esz n xs) {hi : Nat} (hle : hi ≤ n) : RowAt w (subTo v hi) esz hi (xs.take (hi * esz)) := rowAt_to h hle
theorem o_sliceToC {C : Cx} {s : St} {d : Option Nat} {x z : Operand} {T E ty : TypeId} {pos : String} {aft : Array Edge} {gd : Option (Nat × Bool)} {v : Value} {n esz : Nat} {k : IntKind} {q : Int} (hi : Nat) [ht : TSl C.P T E esz] (h : ev C s x = some v) (hv : RowV v n) (hcap : Capd v) (h2 : ev C s z = some (.int k q)) (hq : q = ((hi : Nat) : Int)) (hle : hi ≤ n) :
    OpV C s ⟨d, .slice T x none (some z) none, ty, pos, aft, gd⟩ [] (subTo v hi) := opv _ _ (by simp) fun ρ w hr => by
  have hx := rd1 hr (x := x) (by simp [Op.operands]) h
  have hz := rd1 hr (x := z) (by simp [Op.operands]) h2
  subst hq
  obtain ⟨b, c, rfl⟩ := hv.sl
  have h6 := hcap _ _ _ rfl
  simp [execOp, hx, hz, run_sliceTo (P := C.P) (w := w) (T := T) (k := k) (b := b) n (show hi ≤ c by omega), Sem.run_bind, Result.andThen, subTo]
/-- what a put comes to: nothing, or a slice and a row -/
abbrev PutX (n m : Nat) := Option {x : Value × Value // RowV x.1 (n + 1) ∧ Capd x.1 ∧ RowV x.2 m}
def putV {n m : Nat} (v : Value) (o : PutX n m) : Value := match o with | none => v | some x => x.1.1
def putW {n m : Nat} (vs : List Value) (o : PutX n m) : List Value := match o with | none => vs | some x => vs ++ [x.1.2]
def putG {n m : Nat} (vs : List Value) (pc : List PtT) (o : PutX n m) (w : World) : Prop := match o with | none => True | some x => (Hp.own x.1.1 45 1 (n + 1) (vs ++ [x.1.2])).ok w ∧ (Hp.own x.1.2 56 2 m ((oriT pc).flatMap eP)).ok w
def putB {n m : Nat} (o : PutX n m) (b : Nat) : Prop := match o with | none => False | some x => x.1.1.ownBlock = some b ∨ x.1.2.ownBlock = some b
abbrev PutY (n : Nat) (pc : List PtT) := {o : PutX n pc.length // o.isSome = convexB (oriT pc)}
theorem putG_keep {n m : Nat} {vs : List Value} {pc : List PtT} (o : PutX n m) (w1 w2 : World) (h : putG vs pc o w1) (hb : ∀ b, putB o b → w2.heap[b]? = w1.heap[b]?) : putG vs pc o w2 := by
  match o, h, hb with
  | none, _, _ => trivial
  | some x, h, hb => exact ⟨Hp.keep h.1 fun b e => hb b (.inl e), Hp.keep h.2 fun b e => hb b (.inr e)⟩
theorem putG_lt {n m : Nat} {vs : List Value} {pc : List PtT} (o : PutX n m) (w1 : World) (b : Nat) (h : putG vs pc o w1) (hb : putB o b) : b < w1.heap.size := by
  match o, h, hb with
  | some x, h, hb => exact hb.elim (fun e => Hp.lt h.1 e) (fun e => Hp.lt h.2 e)
theorem capd_put {n m : Nat} {v : Value} (h : Capd v) (o : PutX n m) : Capd (putV v o) := by
  match o with
  | none => exact h
  | some x => exact x.2.2.1
theorem pcsW_put {v : Value} {vs : List Value} {qs : List (List PtT)} {pc : List PtT} (h : PcsW v vs qs) (hl : qs.length ≤ 100000) (o : PutY qs.length pc) : PcsW (putV v o.1) (putW vs o.1) (putT qs pc) := by
  obtain ⟨o, ho⟩ := o
  match o, ho with
  | none, ho => rw [putT_no ho.symm]; exact h
  | some x, ho =>
    rw [putT_yes ho.symm]
    exact pcsW_of (by rw [List.length_append]; exact x.2.1) (by rw [List.length_append, List.length_singleton]; omega) (h.all.append (.one (by unfold RV; rw [oriT_len]; exact x.2.2.2)))
theorem pcsAt_put {w : World} {v : Value} {vs : List Value} {qs : List (List PtT)} {pc : List PtT} (hW : PcsW v vs qs) (h : PcsAt w v vs qs) (o : PutY qs.length pc) (hg : putG vs pc o.1 w) : PcsAt w (putV v o.1) (putW vs o.1) (putT qs pc) := by
  obtain ⟨o, ho⟩ := o
  match o, ho, hg with
  | none, ho, _ => rw [putT_no ho.symm]; exact h
  | some x, ho, hg =>
    rw [putT_yes ho.symm]
    exact pcsAt_of (by rw [List.length_append]; exact rowAt_own hg.1) ((h.all hW).append (.one (by unfold RP; rw [oriT_len]; exact rowAt_own hg.2)))
theorem a_Put (w : World) (a : Option Addr) (n c : Nat) (pvs : List Value) (u : Value) (pc : List PtT) (hn : n ≤ 1000000) (hcap : n ≤ c) (hV : RowV (.slice a n c) n) (hrow : RowAt w (.slice a n c) 1 n pvs) (hs : pc.length ≤ 1000000) (hU : RowV u pc.length) (hrowU : RowAt w u 2 pc.length (pc.flatMap eP)) (hnear : ∀ p ∈ pc, NearT p) :
    Calls Tryz.prog 15 #[.slice a n c, u] w fun e w' => ∃ o : PutY n pc, e = .returned (putV (.slice a n c) o.1) ∧ Below w.heap.size w w' ∧ putG pvs pc o.1 w' ∧ ∀ b, putB o.1 b → w.heap.size ≤ b := by
  by_cases hcx : convexB (oriT pc) = true
  · exact (a_PutYes w a n c pvs u pc hn hcap hV hrow hs hU hrowU hnear hcx).mono fun e w2 ⟨x, h1, h2, h3, h4⟩ => ⟨⟨some ⟨x, rowV_own h3.1, capd_own h3.1, rowV_own h3.2⟩, hcx.symm⟩, h1, h2, h3, h4⟩
  · rw [Bool.not_eq_true] at hcx
    exact (a_PutNo w a n c pvs u pc hn hcap hV hrow hs hU hrowU hnear hcx).mono fun e w2 ⟨h1, h2⟩ => ⟨⟨none, hcx.symm⟩, h1, h2, trivial, fun b hb => hb.elim⟩
set_option maxHeartbeats 4000000 in
theorem a_SpansOrder (w : World) (v : Value) (pvs : List Value) (ps : List (List PtT)) (k r : Int) (hv : PcsW v pvs ps) (hat : PcsAt w v pvs ps) (hk : 0 ≤ k ∧ k < 256) : Calls Tryz.prog 4 #[v, .int .u8 k, .int .i64 r] w fun e w' => e = .returned (.bool true) ∧ Below w.heap.size w w' := by
  have hVp := hv.V
  have hlen := hv.len
  have hrowP : ∀ w', Chg (fun _ => False) w w' → RowAt w' v 1 ps.length pvs := fun w' h => (hat.keep h).row
  refine calls_of (args := [v, .int .u8 k, .int .i64 r]) Tryz.func4 rfl Tryz.ntmps4 Tryz.results4 rfl ?_
  refine v_seq ?_
  refine v_region ?_
  refine l_val rfl (o_assign rfl) ?_
  refine l_nil ?_
  refine kt_norm ?_
  refine v_seq ?_
  refine v_seq ?_
  refine v_region ?_
  refine l_val rfl (o_move rfl) ?_
  refine l_call (ks := []) rfl (o_callC (vs := [_]) (r := .bool (decide (Bn20 ps))) (ent_of Tryz.func12 rfl rfl) rfl (fun w' hg hh => a_bounded20 w' _ pvs ps hv (hat.keep hg))) ?_
  refine lz_bool (fun hbb => ?_) (fun hbb => ?_)
  · have hb := hbb.bnd
    have hvp := hb.pcsV hv
    have h320 := edgesAll_len hb
    have hso := all_spOk hb r
    have hsl : (rowS (crs r (liveT r (edgesAll ps)))).length ≤ (edgesAll ps).length := by have h1 := rowS_len (crs r (liveT r (edgesAll ps))); rw [crs_len] at h1; exact Nat.le_trans h1 (List.length_filter_le _ _)
    have hp12 := hbb.1
    refine l_val rfl (o_not rfl rfl) ?_
    refine l_val rfl (o_move rfl) ?_
    refine l_val rfl (o_move rfl) ?_
    refine l_ans (vs := [_]) rfl rfl (a_row20 _) ?_
    refine lz_bool (fun q1 => ?_) (fun q1 => ?_)
    · skip
      refine l_val rfl (o_not rfl rfl) ?_
      refine l_val rfl (o_pickF rfl rfl) ?_
      refine l_val rfl (o_move rfl) ?_
      refine l_val rfl (o_move rfl) ?_
      refine l_val rfl (o_len rfl hVp) ?_
      refine l_split rfl (o_eql rfl rfl) (fun q2 => ?_) (fun q2 => ?_)
      · skip
        refine l_val rfl (o_pickF rfl rfl) ?_
        refine l_val rfl (o_move rfl) ?_
        refine l_no rfl ?_
        refine l_no rfl ?_
        refine l_val rfl (o_pickT rfl rfl) ?_
        refine l_nil ?_
        refine kt_norm ?_
        refine v_sel [0, 1, 2, 27] [] rfl rfl ?_
        refine v_condT rfl ?_
        refine v_seq ?_
        refine v_region ?_
        refine l_ans (vs := []) rfl rfl (a_shown20) ?_
        refine l_val rfl (o_assign rfl) ?_
        refine l_nil ?_
        refine kt_norm ?_
        refine v_ret ?_
        refine kt_ret ?_
        refine ⟨[_], .cons (.tmp rfl) (ResAll.nil), ?_⟩
        rfl
      · skip
        refine l_val rfl (o_pickF rfl rfl) ?_
        refine l_val rfl (o_move rfl) ?_
        refine l_ans (vs := []) rfl rfl (a_shown20) ?_
        refine l_val rfl (o_not rfl rfl) ?_
        refine l_val rfl (o_pickF rfl rfl) ?_
        refine l_nil ?_
        refine kt_norm ?_
        refine v_sel [0, 1, 2, 27] [] rfl rfl ?_
        refine v_condF rfl ?_
        refine v_skip ?_
        refine kt_norm ?_
        refine v_seq ?_
        refine v_region ?_
        refine l_buildSlice (vs := []) (cs := []) rfl rfl rfl rfl rfl rfl fun v29 hv29 => ?_
        refine l_capd 29 rfl fun hcap0 => ?_
        refine l_val rfl (o_assign rfl) ?_
        refine l_nil ?_
        refine kt_norm ?_
        refine v_seq ?_
        refine v_seq ?_
        refine v_region ?_
        refine l_val rfl (o_assign rfl) ?_
        refine l_nil ?_
        refine kt_norm ?_
        refine v_block ?_
        refine v_loopL (α := Nat × Value × List Value × (World → Prop) × (Nat → Prop)) (fun ⟨i, tv, qvs, G, B⟩ => [(8, .int .i64 (i : Int)), (7, tv)]) (fun ⟨i, tv, qvs, G, B⟩ => []) (fun ⟨i, tv, qvs, G, B⟩ => G) (fun ⟨i, tv, qvs, G, B⟩ => B) (fun ⟨i, tv, qvs, G, B⟩ => i ≤ ps.length ∧ PcsW tv qvs (putAll ps i) ∧ Capd tv ∧ ∀ w2, G w2 → Chg (fun _ => False) w w2 ∧ PcsAt w2 tv qvs (putAll ps i)) (fun ⟨i, tv, qvs, G, B⟩ => ps.length - i) (0, v29, [], fun w2 => Chg (fun _ => False) w w2, fun b => b < w.heap.size ∧ ¬ False) [0, 1, 2] [] ⟨Nat.zero_le _, pcsW_of hv29 (Nat.zero_le _) .nil, hcap0, fun w2 hw => ⟨hw, pcsAt_of ⟨rfl, fun j u hu => by simp at hu, fun u hu => by simp at hu⟩ .nil⟩⟩ rfl rfl (And.intro rfl (And.intro rfl (True.intro))) rfl (True.intro) rfl ?_
        rintro ⟨i, tv, qvs, G, B⟩ ⟨hi, hQ, hcp, hG⟩
        refine v_seq ?_
        refine v_seq ?_
        refine v_region ?_
        refine l_val rfl (o_move rfl) ?_
        refine l_val rfl (o_move rfl) ?_
        refine l_val rfl (o_len rfl hVp) ?_
        refine l_split rfl (o_lss rfl rfl) (fun q3 => ?_) (fun q3 => ?_)
        · have hil : i < ps.length := by omega
          have hpl := putAll_len ps i (by omega)
          obtain ⟨pc, hpc⟩ : ∃ pc, ps.getD i [] = pc := ⟨_, rfl⟩
          have hps := putAll_succ hil
          have hVq := hvp.pV i hil
          have hnear := hvp.near i hil
          have hbi := (hbb.2 i hil).1
          have hrowQ : ∀ w', Chg (fun _ => False) w w' → RowAt w' (pvs.getD i undef) 2 (ps.getD i []).length ((ps.getD i []).flatMap eP) := fun w' h => (hat.keep h).pc i hil
          rw [hpc] at hVq hnear hrowQ hbi hps
          refine l_nil ?_
          refine kt_norm ?_
          refine v_condT rfl ?_
          refine v_skip ?_
          refine kt_norm ?_
          refine v_seq ?_
          refine v_block ?_
          refine v_region ?_
          refine l_val rfl (o_move rfl) ?_
          refine l_val rfl (o_move rfl) ?_
          refine l_val rfl (o_move rfl) ?_
          refine l_val rfl (o_idx (i) rfl hVp rfl (by first | rfl | omega) (by omega)) ?_
          refine l_val rfl (o_loadR1 rfl (row_imm (fun w2 hg => hrowP w2 (hG w2 hg).1)) (el_one (by rw [hv.lenv]; exact hil))) ?_
          obtain ⟨aT, cT, rfl⟩ := hQ.V.sl
          refine l_gsaid (ks := []) (caps := #[]) (vs := [_, _]) (α := PutY (putAll ps i).length pc) (fun o => putV _ o.1) (fun o w2 => putG qvs pc o.1 w2) (fun o b => putB o.1 b) rfl rfl (ent_of Tryz.func15 rfl rfl) rfl (fun o => putG_keep o.1) (fun o => putG_lt o.1) (fun w' hg hh => a_Put w' aT (putAll ps i).length cT qvs (pvs.getD i undef) pc (by omega) (hcp _ _ _ rfl) hQ.V (hG w' hg).2.row (by omega) hVq (hrowQ w' (hG w' hg).1) hnear) fun o => ?_
          refine l_val rfl (o_assign rfl) ?_
          refine l_nil ?_
          refine kb_norm ?_
          refine kt_norm ?_
          refine v_sel [8, 7, 0, 1, 2] [] rfl rfl ?_
          refine v_region ?_
          refine l_val rfl (o_move rfl) ?_
          refine l_val rfl (o_addi rfl rfl ?_) ?_
          · omega
          refine l_val rfl (o_assign rfl) ?_
          refine l_nil ?_
          refine kt_norm ?_
          refine ⟨(i + 1, putV (.slice aT (putAll ps i).length cT) o.1, putW qvs o.1, fun w2 => G w2 ∧ putG qvs pc o.1 w2, fun b => B b ∨ putB o.1 b), ⟨hil, by rw [hps]; exact pcsW_put hQ (by omega) o, capd_put hcp o.1, fun w2 hw => ⟨(hG w2 hw.1).1, by rw [hps]; exact pcsAt_put hQ (hG w2 hw.1).2 o hw.2⟩⟩, (by show ps.length - (i + 1) < ps.length - i; omega), le_app (And.intro rfl (And.intro rfl (True.intro))) [0, 1, 2] rfl (True.intro) [] rfl⟩
        · skip
          refine l_nil ?_
          refine kt_norm ?_
          refine v_condF rfl ?_
          refine v_exit ?_
          refine kt_exit ?_
          refine kt_exit ?_
          refine kb_eq ?_
          refine kt_norm ?_
          refine v_sel [7, 1, 2] [] rfl rfl ?_
          refine v_seq ?_
          refine v_region ?_
          refine l_val rfl (o_assign rfl) ?_
          refine l_nil ?_
          refine kt_norm ?_
          refine v_seq ?_
          refine v_seq ?_
          refine v_region ?_
          refine l_val rfl (o_move rfl) ?_
          refine l_val rfl (o_len rfl hQ.V) ?_
          refine l_split rfl (o_gtr rfl rfl) (fun q4 => ?_) (fun q4 => ?_)
          · skip
            refine l_nil ?_
            refine kt_norm ?_
            refine v_condT rfl ?_
            refine v_region ?_
            refine l_val rfl (o_move rfl) ?_
            refine l_val rfl (o_convi rfl ?_) ?_
            · omega
            refine l_val rfl (o_move rfl) ?_
            refine l_val rfl (o_len rfl hQ.V) ?_
            refine l_val rfl (o_remn rfl rfl ?_) ?_
            · omega
            refine l_val rfl (o_assign rfl) ?_
            refine l_nil ?_
            refine kt_norm ?_
            refine v_sel [7, 2, 9] [] rfl rfl ?_
            refine v_seq ?_
            obtain rfl : i = ps.length := by omega
            have hm1 := Int.emod_nonneg k (show (((putAll ps ps.length).length : Nat) : Int) ≠ 0 by omega)
            have hm2 := Int.emod_lt_of_pos k (show 0 < (((putAll ps ps.length).length : Nat) : Int) by omega)
            have hb2 := put_bnd hbb
            have hn12 := hb2.1
            obtain ⟨K0, hK0, hKn⟩ : ∃ K0 : Nat, (k % (((putAll ps ps.length).length : Nat) : Int) : Int) = (K0 : Int) ∧ K0 ≤ (putAll ps ps.length).length := ⟨(k % (((putAll ps ps.length).length : Nat) : Int)).toNat, by omega, by omega⟩
            have hbx := ord_bnd hb2 K0 hKn
            have hol := ord_len hKn
            have h384 := edgesAll_lenX hbx
            have h3202 := edgesAll_len hb2.bnd
            have hro := row_order r (putAll ps ps.length) K0
            have hso2 := all_spOk hb2.bnd r
            have hsl2 : (rowS (crs r (liveT r (edgesAll (putAll ps ps.length))))).length ≤ (edgesAll (putAll ps ps.length)).length := by have h1 := rowS_len (crs r (liveT r (edgesAll (putAll ps ps.length)))); rw [crs_len] at h1; exact Nat.le_trans h1 (List.length_filter_le _ _)
            have hqv := hQ.lenv
            have hdv : All2 RV (qvs.drop K0 ++ qvs.take K0 ++ qvs) ((putAll ps ps.length).drop K0 ++ (putAll ps ps.length).take K0 ++ (putAll ps ps.length)) := ((hQ.all.drop K0).append (hQ.all.take K0)).append hQ.all
            have hda : ∀ w2, G w2 → All2 (RP w2) (qvs.drop K0 ++ qvs.take K0 ++ qvs) ((putAll ps ps.length).drop K0 ++ (putAll ps ps.length).take K0 ++ (putAll ps ps.length)) := fun w2 h => (((((hG w2 h).2.all hQ).drop K0).append (((hG w2 h).2.all hQ).take K0))).append ((hG w2 h).2.all hQ)
            refine v_drawW [(54, 0 + ((putAll ps ps.length).length - K0)), (58, 0 + ((putAll ps ps.length).length - K0) + K0), (60, 0 + ((putAll ps ps.length).length - K0) + K0 + (putAll ps ps.length).length)] [[], [], [], [], [50], [], [], [], [50], [], [50], []] mixed ?_ (by kernel_rfl) (by kernel_rfl)
            refine d_bsO (n := 0) (vs := fun _ => []) (cs := fun _ => []) (fun _ => rfl) (fun _ => rfl) (fun _ => rfl) rfl rfl (fun _ => rfl) (fun _ => rfl) ?_
            refine d_val (fun _ => rfl) rfl rfl (fun σ11 => o_move rfl) ?_
            refine d_val (fun _ => rfl) rfl rfl (fun σ11 => o_move rfl) ?_
            refine d_val (fun _ => rfl) rfl rfl (fun _ => o_sliceFrom (lo := K0) rfl hQ.V rfl hK0 (by omega)) ?_
            refine d_app 50 (n := 0) (mm := (putAll ps ps.length).length - K0) (κ := []) (fun _ => rfl) (fun _ => rfl) (fun _ => rfl) (fun _ => rfl) rfl (fun σ11 => rowV_from hQ.V (by omega)) (fun σ11 => row_imm (fun w2 hg => by have := rowAt_drop (hG w2 hg).2.row hQ.V hcp (show K0 ≤ (putAll ps ps.length).length by omega); rwa [Nat.mul_one] at this)) (by omega) (fun _ h => h) ?_
            refine d_val (fun _ => rfl) rfl rfl (fun σ11 => o_move rfl) ?_
            refine d_val (fun _ => rfl) rfl rfl (fun σ11 => o_move rfl) ?_
            refine d_val (fun _ => rfl) rfl rfl (fun _ => o_sliceToC K0 rfl hQ.V hcp rfl hK0 (by omega)) ?_
            refine d_app 50 (n := 0 + ((putAll ps ps.length).length - K0)) (mm := K0) (κ := []) (fun _ => rfl) (fun _ => rfl) (fun _ => rfl) (fun _ => rfl) rfl (fun σ11 => rowV_to hQ.V (by omega)) (fun σ11 => row_imm (fun w2 hg => by have := rowAt_to (hG w2 hg).2.row (show K0 ≤ (putAll ps ps.length).length by omega); rwa [Nat.mul_one] at this)) (by omega) (fun _ h => h) ?_
            refine d_val (fun _ => rfl) rfl rfl (fun σ11 => o_move rfl) ?_
            refine d_app 50 (n := 0 + ((putAll ps ps.length).length - K0) + K0) (mm := (putAll ps ps.length).length) (κ := []) (fun _ => rfl) (fun _ => rfl) (fun _ => rfl) (fun _ => rfl) rfl (fun σ11 => hQ.V) (fun σ11 => row_imm (fun w2 hg => (hG w2 hg).2.row)) (by omega) (fun _ h => h) ?_
            refine d_val (fun _ => rfl) rfl rfl (fun σ11 => o_assign rfl) ?_
            refine d_nil (fun σ11 => ?_)
            refine l_nil ?_
            refine kt_norm ?_
            refine v_sel [7, 2, 10] [50] rfl rfl ?_
            refine v_seq ?_
            refine v_region ?_
            have hv60 : RowV (σ11.v 60) ((putAll ps ps.length).drop K0 ++ (putAll ps ps.length).take K0 ++ (putAll ps ps.length)).length := by rw [hol]; exact σ11.ok 60
            refine l_val rfl (o_move rfl) ?_
            refine l_gown (ks := []) (caps := #[]) (vs := [_]) rfl rfl (ent_of Tryz.func19 rfl rfl) rfl (fun w' hg hh => a_all w' _ qvs (putAll ps ps.length) hb2.bnd (hb2.bnd.pcsV hQ) (hG w' hg).2) fun yla hyla => ?_
            refine l_val rfl (o_move rfl) ?_
            refine l_gown (ks := [62]) (caps := #[]) (vs := [_, _]) rfl rfl (ent_of Tryz.func18 rfl rfl) rfl (fun w' hg hh => a_Spans w' yla (edgesAll (putAll ps ps.length)) r (by omega) hyla (rowAt_own (hh 62 (by simp) _ rfl)) (all_cross hb2.bnd r)) fun ya hya => ?_
            refine l_gown (ks := [64]) (caps := #[]) (vs := [_]) rfl rfl (ent_of Tryz.func17 rfl rfl) rfl (fun w' hg hh => r_own20 w' ya (rowS (crs r (liveT r (edgesAll (putAll ps ps.length))))) (by omega) hya (rowAt_own (hh 64 (by simp) _ rfl))) fun yo hyo => ?_
            refine l_val rfl (o_move rfl) ?_
            refine l_gown (ks := [50]) (caps := #[]) (vs := [_]) rfl rfl (ent_of Tryz.func19 rfl rfl) rfl (fun w' hg hh => a_allX w' _ _ ((putAll ps ps.length).drop K0 ++ (putAll ps ps.length).take K0 ++ (putAll ps ps.length)) hbx (hbx.pcsV (pcsW_of hv60 (by omega) hdv)) (pcsAt_of (hol.symm ▸ rowAt_own (hh 50 (by simp) _ rfl)) (hda w' hg))) fun ylb hylb => ?_
            refine l_val rfl (o_move rfl) ?_
            refine l_gown (ks := [67]) (caps := #[]) (vs := [_, _]) rfl rfl (ent_of Tryz.func18 rfl rfl) rfl (fun w' hg hh => hro ▸ a_Spans w' ylb (edgesAll ((putAll ps ps.length).drop K0 ++ (putAll ps ps.length).take K0 ++ (putAll ps ps.length))) r (by omega) hylb (rowAt_own (hh 67 (by simp) _ rfl)) (all_crossX hbx r)) fun yb hyb => ?_
            refine l_gown (ks := [69]) (caps := #[]) (vs := [_]) rfl rfl (ent_of Tryz.func17 rfl rfl) rfl (fun w' hg hh => r_own20 w' yb (rowS (crs r (liveT r (edgesAll (putAll ps ps.length))))) (by omega) hyb (rowAt_own (hh 69 (by simp) _ rfl))) fun yp hyp => ?_
            refine l_call (ks := [65, 70]) rfl (o_callC (vs := [_, _]) (r := .bool true) (ent_of Tryz.func16 rfl rfl) rfl (fun w' hg hh => r_Same20 w' yo yp (rowS (crs r (liveT r (edgesAll (putAll ps ps.length))))) (by omega) hyo (rowAt_own (hh 65 (by simp) _ rfl)) hyp (rowAt_own (hh 70 (by simp) _ rfl)))) ?_
            refine l_val rfl (o_assign rfl) ?_
            refine l_nil ?_
            refine kt_norm ?_
            refine v_sel [6] [50] rfl rfl ?_
            refine v_ret ?_
            refine ⟨[_], .cons (.tmp rfl) (ResAll.nil), ?_⟩
            rfl
          · skip
            refine l_nil ?_
            refine kt_norm ?_
            refine v_condF rfl ?_
            refine v_skip ?_
            refine kt_norm ?_
            refine v_seq ?_
            obtain rfl : i = ps.length := by omega
            have hb2 := put_bnd hbb
            have hn12 := hb2.1
            obtain ⟨K0, hK0, hKn⟩ : ∃ K0 : Nat, (0 : Int) = (K0 : Int) ∧ K0 ≤ (putAll ps ps.length).length := ⟨0, by omega, by omega⟩
            have hbx := ord_bnd hb2 K0 hKn
            have hol := ord_len hKn
            have h384 := edgesAll_lenX hbx
            have h3202 := edgesAll_len hb2.bnd
            have hro := row_order r (putAll ps ps.length) K0
            have hso2 := all_spOk hb2.bnd r
            have hsl2 : (rowS (crs r (liveT r (edgesAll (putAll ps ps.length))))).length ≤ (edgesAll (putAll ps ps.length)).length := by have h1 := rowS_len (crs r (liveT r (edgesAll (putAll ps ps.length)))); rw [crs_len] at h1; exact Nat.le_trans h1 (List.length_filter_le _ _)
            have hqv := hQ.lenv
            have hdv : All2 RV (qvs.drop K0 ++ qvs.take K0 ++ qvs) ((putAll ps ps.length).drop K0 ++ (putAll ps ps.length).take K0 ++ (putAll ps ps.length)) := ((hQ.all.drop K0).append (hQ.all.take K0)).append hQ.all
            have hda : ∀ w2, G w2 → All2 (RP w2) (qvs.drop K0 ++ qvs.take K0 ++ qvs) ((putAll ps ps.length).drop K0 ++ (putAll ps ps.length).take K0 ++ (putAll ps ps.length)) := fun w2 h => (((((hG w2 h).2.all hQ).drop K0).append (((hG w2 h).2.all hQ).take K0))).append ((hG w2 h).2.all hQ)
            refine v_drawW [(54, 0 + ((putAll ps ps.length).length - K0)), (58, 0 + ((putAll ps ps.length).length - K0) + K0), (60, 0 + ((putAll ps ps.length).length - K0) + K0 + (putAll ps ps.length).length)] [[], [], [], [], [50], [], [], [], [50], [], [50], []] mixed ?_ (by kernel_rfl) (by kernel_rfl)
            refine d_bsO (n := 0) (vs := fun _ => []) (cs := fun _ => []) (fun _ => rfl) (fun _ => rfl) (fun _ => rfl) rfl rfl (fun _ => rfl) (fun _ => rfl) ?_
            refine d_val (fun _ => rfl) rfl rfl (fun σ11 => o_move rfl) ?_
            refine d_val (fun _ => rfl) rfl rfl (fun σ11 => o_move rfl) ?_
            refine d_val (fun _ => rfl) rfl rfl (fun _ => o_sliceFrom (lo := K0) rfl hQ.V rfl hK0 (by omega)) ?_
            refine d_app 50 (n := 0) (mm := (putAll ps ps.length).length - K0) (κ := []) (fun _ => rfl) (fun _ => rfl) (fun _ => rfl) (fun _ => rfl) rfl (fun σ11 => rowV_from hQ.V (by omega)) (fun σ11 => row_imm (fun w2 hg => by have := rowAt_drop (hG w2 hg).2.row hQ.V hcp (show K0 ≤ (putAll ps ps.length).length by omega); rwa [Nat.mul_one] at this)) (by omega) (fun _ h => h) ?_
            refine d_val (fun _ => rfl) rfl rfl (fun σ11 => o_move rfl) ?_
            refine d_val (fun _ => rfl) rfl rfl (fun σ11 => o_move rfl) ?_
            refine d_val (fun _ => rfl) rfl rfl (fun _ => o_sliceToC K0 rfl hQ.V hcp rfl hK0 (by omega)) ?_
            refine d_app 50 (n := 0 + ((putAll ps ps.length).length - K0)) (mm := K0) (κ := []) (fun _ => rfl) (fun _ => rfl) (fun _ => rfl) (fun _ => rfl) rfl (fun σ11 => rowV_to hQ.V (by omega)) (fun σ11 => row_imm (fun w2 hg => by have := rowAt_to (hG w2 hg).2.row (show K0 ≤ (putAll ps ps.length).length by omega); rwa [Nat.mul_one] at this)) (by omega) (fun _ h => h) ?_
            refine d_val (fun _ => rfl) rfl rfl (fun σ11 => o_move rfl) ?_
            refine d_app 50 (n := 0 + ((putAll ps ps.length).length - K0) + K0) (mm := (putAll ps ps.length).length) (κ := []) (fun _ => rfl) (fun _ => rfl) (fun _ => rfl) (fun _ => rfl) rfl (fun σ11 => hQ.V) (fun σ11 => row_imm (fun w2 hg => (hG w2 hg).2.row)) (by omega) (fun _ h => h) ?_
            refine d_val (fun _ => rfl) rfl rfl (fun σ11 => o_assign rfl) ?_
            refine d_nil (fun σ11 => ?_)
            refine l_nil ?_
            refine kt_norm ?_
            refine v_sel [7, 2, 10] [50] rfl rfl ?_
            refine v_seq ?_
            refine v_region ?_
            have hv60 : RowV (σ11.v 60) ((putAll ps ps.length).drop K0 ++ (putAll ps ps.length).take K0 ++ (putAll ps ps.length)).length := by rw [hol]; exact σ11.ok 60
            refine l_val rfl (o_move rfl) ?_
            refine l_gown (ks := []) (caps := #[]) (vs := [_]) rfl rfl (ent_of Tryz.func19 rfl rfl) rfl (fun w' hg hh => a_all w' _ qvs (putAll ps ps.length) hb2.bnd (hb2.bnd.pcsV hQ) (hG w' hg).2) fun yla hyla => ?_
            refine l_val rfl (o_move rfl) ?_
            refine l_gown (ks := [62]) (caps := #[]) (vs := [_, _]) rfl rfl (ent_of Tryz.func18 rfl rfl) rfl (fun w' hg hh => a_Spans w' yla (edgesAll (putAll ps ps.length)) r (by omega) hyla (rowAt_own (hh 62 (by simp) _ rfl)) (all_cross hb2.bnd r)) fun ya hya => ?_
            refine l_gown (ks := [64]) (caps := #[]) (vs := [_]) rfl rfl (ent_of Tryz.func17 rfl rfl) rfl (fun w' hg hh => r_own20 w' ya (rowS (crs r (liveT r (edgesAll (putAll ps ps.length))))) (by omega) hya (rowAt_own (hh 64 (by simp) _ rfl))) fun yo hyo => ?_
            refine l_val rfl (o_move rfl) ?_
            refine l_gown (ks := [50]) (caps := #[]) (vs := [_]) rfl rfl (ent_of Tryz.func19 rfl rfl) rfl (fun w' hg hh => a_allX w' _ _ ((putAll ps ps.length).drop K0 ++ (putAll ps ps.length).take K0 ++ (putAll ps ps.length)) hbx (hbx.pcsV (pcsW_of hv60 (by omega) hdv)) (pcsAt_of (hol.symm ▸ rowAt_own (hh 50 (by simp) _ rfl)) (hda w' hg))) fun ylb hylb => ?_
            refine l_val rfl (o_move rfl) ?_
            refine l_gown (ks := [67]) (caps := #[]) (vs := [_, _]) rfl rfl (ent_of Tryz.func18 rfl rfl) rfl (fun w' hg hh => hro ▸ a_Spans w' ylb (edgesAll ((putAll ps ps.length).drop K0 ++ (putAll ps ps.length).take K0 ++ (putAll ps ps.length))) r (by omega) hylb (rowAt_own (hh 67 (by simp) _ rfl)) (all_crossX hbx r)) fun yb hyb => ?_
            refine l_gown (ks := [69]) (caps := #[]) (vs := [_]) rfl rfl (ent_of Tryz.func17 rfl rfl) rfl (fun w' hg hh => r_own20 w' yb (rowS (crs r (liveT r (edgesAll (putAll ps ps.length))))) (by omega) hyb (rowAt_own (hh 69 (by simp) _ rfl))) fun yp hyp => ?_
            refine l_call (ks := [65, 70]) rfl (o_callC (vs := [_, _]) (r := .bool true) (ent_of Tryz.func16 rfl rfl) rfl (fun w' hg hh => r_Same20 w' yo yp (rowS (crs r (liveT r (edgesAll (putAll ps ps.length))))) (by omega) hyo (rowAt_own (hh 65 (by simp) _ rfl)) hyp (rowAt_own (hh 70 (by simp) _ rfl)))) ?_
            refine l_val rfl (o_assign rfl) ?_
            refine l_nil ?_
            refine kt_norm ?_
            refine v_sel [6] [50] rfl rfl ?_
            refine v_ret ?_
            refine ⟨[_], .cons (.tmp rfl) (ResAll.nil), ?_⟩
            rfl
    · skip
      refine l_val rfl (o_not rfl rfl) ?_
      refine l_val rfl (o_pickF rfl rfl) ?_
      refine l_val rfl (o_move rfl) ?_
      refine l_no rfl ?_
      refine l_no rfl ?_
      refine l_no rfl ?_
      refine l_val rfl (o_pickT rfl rfl) ?_
      refine l_val rfl (o_move rfl) ?_
      refine l_no rfl ?_
      refine l_no rfl ?_
      refine l_val rfl (o_pickT rfl rfl) ?_
      refine l_nil ?_
      refine kt_norm ?_
      refine v_sel [0, 1, 2, 27] [] rfl rfl ?_
      refine v_condT rfl ?_
      refine v_seq ?_
      refine v_region ?_
      refine l_ans (vs := []) rfl rfl (a_shown20) ?_
      refine l_val rfl (o_assign rfl) ?_
      refine l_nil ?_
      refine kt_norm ?_
      refine v_ret ?_
      refine kt_ret ?_
      refine ⟨[_], .cons (.tmp rfl) (ResAll.nil), ?_⟩
      rfl
  · skip
    refine l_val rfl (o_not rfl rfl) ?_
    refine l_val rfl (o_move rfl) ?_
    refine l_no rfl ?_
    refine l_no rfl ?_
    refine l_no rfl ?_
    refine l_val rfl (o_pickT rfl rfl) ?_
    refine l_val rfl (o_move rfl) ?_
    refine l_no rfl ?_
    refine l_no rfl ?_
    refine l_no rfl ?_
    refine l_val rfl (o_pickT rfl rfl) ?_
    refine l_val rfl (o_move rfl) ?_
    refine l_no rfl ?_
    refine l_no rfl ?_
    refine l_val rfl (o_pickT rfl rfl) ?_
    refine l_nil ?_
    refine kt_norm ?_
    refine v_sel [0, 1, 2, 27] [] rfl rfl ?_
    refine v_condT rfl ?_
    refine v_seq ?_
    refine v_region ?_
    refine l_ans (vs := []) rfl rfl (a_shown20) ?_
    refine l_val rfl (o_assign rfl) ?_
    refine l_nil ?_
    refine kt_norm ?_
    refine v_ret ?_
    refine kt_ret ?_
    refine ⟨[_], .cons (.tmp rfl) (ResAll.nil), ?_⟩
    rfl
end Go.Proofs.YtllhohbenniaaaaGreat

/- Whether two images are the same; any part of an image is as the document has it. Conditions: none. -/
namespace Go.Proofs.YtllhohbenniaaaaGreat
open Go.Proofs Go.RowKit Go.Shelf

theorem ext_int {p q : List Int} (h : p.length = q.length) (hb : ∀ k, k < p.length → p.getD k 0 = q.getD k 0) : p = q := List.ext_getElem h fun k h1 h2 => by
  have := hb k h1
  rwa [List.getD_eq_getElem?_getD, List.getD_eq_getElem?_getD, List.getElem?_eq_getElem h1, List.getElem?_eq_getElem h2] at this
theorem rowAt_nilU (w : World) : RowAt w (.slice none 0 0) 1 ([] : List Int).length (iU []) := ⟨rfl, fun j u hu => by simp [iU] at hu, fun u hu => by simp [iU] at hu⟩


theorem r_SameG (w : World) (v u : Value) (N H N2 H2 : Int) (p q : List Int) (hn : p.length ≤ 1000000) (hn2 : q.length ≤ 1000000) (hV : RowV v p.length) (hrow : RowAt w v 1 p.length (iU p)) (hU : RowV u q.length) (hrow2 : RowAt w u 1 q.length (iU q)) :
    Calls Tryz.prog 10 #[.agg #[.int .i64 N, .int .i64 H, v], .agg #[.int .i64 N2, .int .i64 H2, u]] w fun e w' => e = .returned (.bool (decide (N = N2 ∧ H = H2 ∧ p = q))) ∧ Below w.heap.size w w' := by
  have hr : ∀ w', Chg (fun _ => False) w w' → RowAt w' v 1 p.length (iU p) := fun w' h => hrow.chg h (fun h => h)
  have hr2 : ∀ w', Chg (fun _ => False) w w' → RowAt w' u 1 q.length (iU q) := fun w' h => hrow2.chg h (fun h => h)
  obtain ⟨a1, c1, rfl⟩ := hV.sl
  obtain ⟨a2, c2, rfl⟩ := hU.sl
  refine calls_of (args := [.agg #[.int .i64 N, .int .i64 H, .slice a1 p.length c1], .agg #[.int .i64 N2, .int .i64 H2, .slice a2 q.length c2]]) Tryz.func10 rfl Tryz.ntmps10 Tryz.results10 rfl ?_
  refine v_seq ?_
  refine v_region ?_
  refine l_new rfl (o_box (cs := [_, _, _]) rfl rfl) fun b2 => ?_
  refine l_new rfl (o_box (cs := [_, _, _]) rfl rfl) fun b3 => ?_
  refine l_val rfl (o_assign rfl) ?_
  refine l_nil ?_
  refine kt_norm ?_
  refine v_seq ?_
  refine v_seq ?_
  refine v_region ?_
  skip
  refine l_val rfl (o_fld rfl) ?_
  refine l_val rfl (o_load1 (key := 2) rfl rfl rfl) ?_
  refine l_val rfl (o_fld rfl) ?_
  refine l_val rfl (o_load1 (key := 3) rfl rfl rfl) ?_
  refine l_split rfl (o_neq rfl rfl) (fun q1 => ?_) (fun q1 => ?_)
  · skip
    refine l_val rfl (o_move rfl) ?_
    refine l_no rfl ?_
    refine l_no rfl ?_
    refine l_no rfl ?_
    refine l_no rfl ?_
    refine l_no rfl ?_
    refine l_val rfl (o_pickT rfl rfl) ?_
    refine l_val rfl (o_move rfl) ?_
    refine l_no rfl ?_
    refine l_no rfl ?_
    refine l_no rfl ?_
    refine l_no rfl ?_
    refine l_no rfl ?_
    refine l_no rfl ?_
    refine l_no rfl ?_
    refine l_val rfl (o_pickT rfl rfl) ?_
    refine l_nil ?_
    refine kt_norm ?_
    refine v_sel [2, 3, 26] [2, 3] rfl rfl ?_
    refine v_condT rfl ?_
    refine v_seq ?_
    refine v_region ?_
    refine l_val rfl (o_assign rfl) ?_
    refine l_nil ?_
    refine kt_norm ?_
    refine v_ret ?_
    refine kt_ret ?_
    refine ⟨[_], .cons (.tmp rfl) (ResAll.nil), ?_⟩
    first
      | (exact congrArg Value.bool (decide_eq_false (fun hd => by have h1 := hd.1; have h2 := hd.2.1; clear hd; omega)).symm)
      | (exact congrArg Value.bool (decide_eq_false (fun hd => by have h3 := hd.2.2; clear hd; subst h3; omega)).symm)
      | exact congrArg Value.bool (decide_congr ⟨fun h => ⟨by omega, by omega, h⟩, fun h => h.2.2⟩)
      | exact congrArg Value.bool (decide_eq_true ⟨by omega, by omega, ext_int (by omega) (fun k hk => hB k (by omega))⟩).symm
  · skip
    refine l_val rfl (o_move rfl) ?_
    refine l_val rfl (o_fld rfl) ?_
    refine l_val rfl (o_load1 (key := 2) rfl rfl rfl) ?_
    refine l_val rfl (o_fld rfl) ?_
    refine l_val rfl (o_load1 (key := 3) rfl rfl rfl) ?_
    refine l_split rfl (o_neq rfl rfl) (fun q2 => ?_) (fun q2 => ?_)
    · skip
      refine l_val rfl (o_pickF rfl rfl) ?_
      refine l_val rfl (o_move rfl) ?_
      refine l_no rfl ?_
      refine l_no rfl ?_
      refine l_no rfl ?_
      refine l_no rfl ?_
      refine l_no rfl ?_
      refine l_no rfl ?_
      refine l_no rfl ?_
      refine l_val rfl (o_pickT rfl rfl) ?_
      refine l_nil ?_
      refine kt_norm ?_
      refine v_sel [2, 3, 26] [2, 3] rfl rfl ?_
      refine v_condT rfl ?_
      refine v_seq ?_
      refine v_region ?_
      refine l_val rfl (o_assign rfl) ?_
      refine l_nil ?_
      refine kt_norm ?_
      refine v_ret ?_
      refine kt_ret ?_
      refine ⟨[_], .cons (.tmp rfl) (ResAll.nil), ?_⟩
      first
        | (exact congrArg Value.bool (decide_eq_false (fun hd => by have h1 := hd.1; have h2 := hd.2.1; clear hd; omega)).symm)
        | (exact congrArg Value.bool (decide_eq_false (fun hd => by have h3 := hd.2.2; clear hd; subst h3; omega)).symm)
        | exact congrArg Value.bool (decide_congr ⟨fun h => ⟨by omega, by omega, h⟩, fun h => h.2.2⟩)
        | exact congrArg Value.bool (decide_eq_true ⟨by omega, by omega, ext_int (by omega) (fun k hk => hB k (by omega))⟩).symm
    · skip
      refine l_val rfl (o_pickF rfl rfl) ?_
      refine l_val rfl (o_move rfl) ?_
      refine l_val rfl (o_fld rfl) ?_
      refine l_val rfl (o_load1 (key := 2) rfl rfl rfl) ?_
      refine l_val rfl (o_len rfl hV) ?_
      refine l_val rfl (o_fld rfl) ?_
      refine l_val rfl (o_load1 (key := 3) rfl rfl rfl) ?_
      refine l_val rfl (o_len rfl hU) ?_
      refine l_split rfl (o_neq rfl rfl) (fun q3 => ?_) (fun q3 => ?_)
      · skip
        refine l_val rfl (o_pickF rfl rfl) ?_
        refine l_nil ?_
        refine kt_norm ?_
        refine v_sel [2, 3, 26] [2, 3] rfl rfl ?_
        refine v_condT rfl ?_
        refine v_seq ?_
        refine v_region ?_
        refine l_val rfl (o_assign rfl) ?_
        refine l_nil ?_
        refine kt_norm ?_
        refine v_ret ?_
        refine kt_ret ?_
        refine ⟨[_], .cons (.tmp rfl) (ResAll.nil), ?_⟩
        first
          | (exact congrArg Value.bool (decide_eq_false (fun hd => by have h1 := hd.1; have h2 := hd.2.1; clear hd; omega)).symm)
          | (exact congrArg Value.bool (decide_eq_false (fun hd => by have h3 := hd.2.2; clear hd; subst h3; omega)).symm)
          | exact congrArg Value.bool (decide_congr ⟨fun h => ⟨by omega, by omega, h⟩, fun h => h.2.2⟩)
          | exact congrArg Value.bool (decide_eq_true ⟨by omega, by omega, ext_int (by omega) (fun k hk => hB k (by omega))⟩).symm
      · skip
        refine l_val rfl (o_pickF rfl rfl) ?_
        refine l_nil ?_
        refine kt_norm ?_
        refine v_sel [2, 3, 26] [2, 3] rfl rfl ?_
        refine v_condF rfl ?_
        refine v_skip ?_
        refine kt_norm ?_
        refine v_seq ?_
        refine v_seq ?_
        refine v_region ?_
        refine l_val rfl (o_assign rfl) ?_
        refine l_nil ?_
        refine kt_norm ?_
        refine v_block ?_
        refine v_loopS (α := Nat) (fun i => [(5, .int .i64 (i : Int))]) (fun i => [])  (fun i => i ≤ p.length ∧ ∀ k, k < i → p.getD k 0 = q.getD k 0) (fun i => p.length - i) 0 [2, 3] [2, 3] ⟨Nat.zero_le _, fun k hk => absurd hk (Nat.not_lt_zero k)⟩  (And.intro rfl (True.intro)) rfl (True.intro) rfl ?_
        rintro i ⟨hi, hB⟩
        refine v_seq ?_
        refine v_seq ?_
        refine v_region ?_
        refine l_val rfl (o_move rfl) ?_
        refine l_val rfl (o_fld rfl) ?_
        refine l_val rfl (o_load1 (key := 2) rfl rfl rfl) ?_
        refine l_val rfl (o_len rfl hV) ?_
        refine l_split rfl (o_lss rfl rfl) (fun q4 => ?_) (fun q4 => ?_)
        · skip
          refine l_nil ?_
          refine kt_norm ?_
          refine v_condT rfl ?_
          refine v_skip ?_
          refine kt_norm ?_
          refine v_seq ?_
          refine v_block ?_
          refine v_seq ?_
          refine v_drawZ [[], [2], [], [], [], [], [3], [], [], [], []] mixed ?_ (by kernel_rfl) (by kernel_rfl)
          refine d_val (fun _ => rfl) rfl rfl (fun _ => o_fld rfl) ?_
          refine d_val (fun _ => rfl) rfl rfl (fun _ => o_load1 (key := 2) rfl rfl rfl) ?_
          refine d_val (fun _ => rfl) rfl rfl (fun _ => o_move rfl) ?_
          refine d_val (fun _ => rfl) rfl rfl (fun _ => o_idx (i) rfl hV rfl (by first | rfl | omega) (by omega)) ?_
          refine d_val (fun _ => rfl) rfl rfl (fun _ => o_loadR1 rfl (row_imm hr) (el_u8 (l := p) (i := i) (by omega))) ?_
          refine d_val (fun _ => rfl) rfl rfl (fun _ => o_fld rfl) ?_
          refine d_val (fun _ => rfl) rfl rfl (fun _ => o_load1 (key := 3) rfl rfl rfl) ?_
          refine d_val (fun _ => rfl) rfl rfl (fun _ => o_move rfl) ?_
          refine d_val (fun _ => rfl) rfl rfl (fun _ => o_idx (i) rfl hU rfl (by first | rfl | omega) (by omega)) ?_
          refine d_val (fun _ => rfl) rfl rfl (fun _ => o_loadR1 rfl (row_imm hr2) (el_u8 (l := q) (i := i) (by omega))) ?_
          refine d_neq (fun _ => rfl) (fun _ => rfl) (fun _ => rfl) (fun q5 => ?_) (fun q5 => ?_)
          · skip
            refine d_nil (fun σ => ?_)
            refine l_nil ?_
            refine kt_norm ?_
            refine v_sel [5, 2, 3, 44] [2, 3] rfl rfl ?_
            refine v_condT rfl ?_
            refine v_seq ?_
            refine v_region ?_
            refine l_val rfl (o_assign rfl) ?_
            refine l_nil ?_
            refine kt_norm ?_
            refine v_ret ?_
            refine kb_ret ?_
            refine kt_ret ?_
            refine kt_ret ?_
            refine kb_ret ?_
            refine kt_ret ?_
            refine ⟨[_], .cons (.tmp rfl) (ResAll.nil), ?_⟩
            first
              | (exact congrArg Value.bool (decide_eq_false (fun hd => by have h1 := hd.1; have h2 := hd.2.1; clear hd; omega)).symm)
              | (exact congrArg Value.bool (decide_eq_false (fun hd => by have h3 := hd.2.2; clear hd; subst h3; omega)).symm)
              | exact congrArg Value.bool (decide_congr ⟨fun h => ⟨by omega, by omega, h⟩, fun h => h.2.2⟩)
              | exact congrArg Value.bool (decide_eq_true ⟨by omega, by omega, ext_int (by omega) (fun k hk => hB k (by omega))⟩).symm
          · skip
            refine d_nil (fun σ => ?_)
            refine l_nil ?_
            refine kt_norm ?_
            refine v_sel [5, 2, 3, 44] [2, 3] rfl rfl ?_
            refine v_condF rfl ?_
            refine v_skip ?_
            refine kb_norm ?_
            refine kt_norm ?_
            refine v_region ?_
            refine l_val rfl (o_move rfl) ?_
            refine l_val rfl (o_addi rfl rfl ?_) ?_
            · omega
            refine l_val rfl (o_assign rfl) ?_
            refine l_nil ?_
            refine kt_norm ?_
            refine ⟨i + 1, ⟨by omega, fun k hk => by rcases Nat.lt_or_eq_of_le (Nat.le_of_lt_succ hk) with h | h; exact hB k h; subst h; omega⟩, by omega, le_app (And.intro rfl (True.intro)) [2, 3] rfl (True.intro) [2, 3] rfl⟩
        · skip
          refine l_nil ?_
          refine kt_norm ?_
          refine v_condF rfl ?_
          refine v_exit ?_
          refine kt_exit ?_
          refine kt_exit ?_
          refine kb_eq ?_
          refine kt_norm ?_
          refine v_sel [] [2, 3] rfl rfl ?_
          refine v_seq ?_
          refine v_region ?_
          refine l_val rfl (o_assign rfl) ?_
          refine l_nil ?_
          refine kt_norm ?_
          refine v_ret ?_
          refine ⟨[_], .cons (.tmp rfl) (ResAll.nil), ?_⟩
          first
            | (exact congrArg Value.bool (decide_eq_false (fun hd => by have h1 := hd.1; have h2 := hd.2.1; clear hd; omega)).symm)
            | (exact congrArg Value.bool (decide_eq_false (fun hd => by have h3 := hd.2.2; clear hd; subst h3; omega)).symm)
            | exact congrArg Value.bool (decide_congr ⟨fun h => ⟨by omega, by omega, h⟩, fun h => h.2.2⟩)
            | exact congrArg Value.bool (decide_eq_true ⟨by omega, by omega, ext_int (by omega) (fun k hk => hB k (by omega))⟩).symm
theorem r_its21 (N H : Int) (a : Option Addr) (m c : Nat) : Ans Tryz.prog 11 [.agg #[.int .i64 N, .int .i64 H, .slice a m c]] (.agg #[.int .i64 N, .int .i64 H, .slice a m c]) := by
  refine ans_of Tryz.func11 rfl Tryz.ntmps11 Tryz.results11 rfl rfl fun w => ?_
  refine v_seq ?_
  refine v_region ?_
  refine l_new rfl (o_box (cs := [_, _, _]) rfl rfl) fun b1 => ?_
  refine l_new rfl o_alloc fun b2 => ?_
  refine l_nil ?_
  refine kt_norm ?_
  refine v_seq ?_
  refine v_region ?_
  refine l_val rfl (o_fld rfl) ?_
  refine l_val rfl (o_load1 (key := 1) rfl rfl rfl) ?_
  refine l_val rfl (o_fld rfl) ?_
  refine l_val rfl (o_load1 (key := 1) rfl rfl rfl) ?_
  refine l_val rfl (o_fld rfl) ?_
  refine l_val rfl (o_load1 (key := 1) rfl rfl rfl) ?_
  refine l_val rfl (o_build (vs := [_, _, _]) (cs := [_, _, _]) rfl rfl) ?_
  refine l_store rfl (o_storeW (key := 2) (xs := [_, _, _]) rfl rfl rfl rfl rfl rfl rfl) ?_
  refine l_nil ?_
  refine kt_norm ?_
  refine v_sel [2] [2] rfl rfl ?_
  refine v_ret ?_
  refine ⟨[_], .cons (.cellW (key := 2) rfl rfl rfl) (ResAll.nil), ?_⟩
  rfl



end Go.Proofs.YtllhohbenniaaaaGreat

/- The image of any pieces in any view is as the document has it, or its error. Conditions: none. -/
namespace Go.Proofs.YtllhohbenniaaaaGreat
open Go.Proofs Go.RowKit Go.Shelf

instance : TZero Tryz.prog 72 (List.replicate 16 (.slice none 0 0)) := .of (by kernel_rfl)
instance : TAgg Tryz.prog 72 16 := .of (by kernel_rfl) (by kernel_rfl)
instance : TArr Tryz.prog 72 47 1 16 (List.replicate 16 (.slice none 0 0)) := .of (by kernel_rfl) (by kernel_rfl) (by kernel_rfl) (by decide)
/-- the spans of the k-th row of a pixel's line -/
def rwT (ps : List (List PtT)) (y : Int) (k : Nat) : List SpanT := rowS (crs (16 * y + k) (liveT (16 * y + k) (edgesAll ps)))
theorem doc_tab {X Y W H r : Int} {ps : List (List PtT)} (hv : ViewOk X Y W H) (h1 : 16 * Y ≤ r) (h2 : r < 16 * (Y + H)) : docRow (crs r (liveT r (tabT X Y W H ps))) = rowS (crs r (liveT r (edgesAll ps))) := by
  rw [← row_tab hv h1 h2]
  refine docRow_eq ?_
  have hp : (crs r (liveT r (viewEs (16 * Y) (16 * (Y + H)) (edgesAll ps)))).Perm (crs r (liveT r (tabT X Y W H ps))) := by
    unfold tabT
    rw [if_pos hv]
    exact List.Perm.map _ (List.Perm.filter _ (stSort_perm _))
  rw [← sumF_perm hp, live_view h1 h2, zeroSum_crs, wind_all]
theorem covK_step (ps : List (List PtT)) (c y : Int) (k : Nat) : covK ps c y (k + 1) = covK ps c y k + sumS (clipT (256 * c) (256 * c + 256) (rwT ps y k)) := by
  rw [covK, sumS_clip]; rfl
theorem rwT_ok {ps : List (List PtT)} (hb : Bnd ps) (y : Int) (k : Nat) : SpOk (rwT ps y k) ∧ (rwT ps y k).length ≤ 320 := by
  refine ⟨all_spOk hb _, ?_⟩
  have h1 := rowS_len (crs (16 * y + k) (liveT (16 * y + k) (edgesAll ps)))
  rw [crs_len] at h1
  have h2 : (liveT (16 * y + k) (edgesAll ps)).length ≤ (edgesAll ps).length := List.length_filter_le _ _
  have h3 := edgesAll_len hb
  unfold rwT; omega
theorem covK_bound {ps : List (List PtT)} (hb : Bnd ps) (c y : Int) : ∀ k : Nat, 0 ≤ covK ps c y k ∧ covK ps c y k ≤ 81920 * k
  | 0 => by simp [covK]
  | k + 1 => by
    have ih := covK_bound hb c y k
    have h1 := sumS_bound (B := 256) (clipT (256 * c) (256 * c + 256) (rwT ps y k)) fun s hs => by have := clipT_bound hs; omega
    have h2 := clipT_len (256 * c) (256 * c + 256) (rwT ps y k)
    have h3 := (rwT_ok hb y k).2
    rw [covK_step]
    omega
/-- a line of pixels, as far as it has come -/
def lnT (ps : List (List PtT)) (X Y : Int) (n y x : Nat) : List Int := covPix ps X Y n y ++ (List.range x).map fun p : Nat => valT (covA ps (X + p) (Y + y))
theorem lnT_succ (ps : List (List PtT)) (X Y : Int) (n y x : Nat) : lnT ps X Y n y (x + 1) = lnT ps X Y n y x ++ [valT (covA ps (X + x) (Y + y))] := by
  unfold lnT; rw [List.range_succ, List.map_append, List.append_assoc]; rfl
theorem lnT_end (ps : List (List PtT)) (X Y : Int) (n y : Nat) : lnT ps X Y n y n = covPix ps X Y n (y + 1) := rfl
theorem covPix_len (ps : List (List PtT)) (X Y : Int) (n : Nat) : ∀ k, (covPix ps X Y n k).length = k * n
  | 0 => by simp [covPix]
  | k + 1 => by rw [covPix, List.length_append, covPix_len ps X Y n k, List.length_map, List.length_range, Nat.succ_mul]
theorem lnT_len (ps : List (List PtT)) (X Y : Int) (n y x : Nat) : (lnT ps X Y n y x).length = y * n + x := by
  unfold lnT; rw [List.length_append, covPix_len, List.length_map, List.length_range]
/-- the rows of a line, as they lie in the array -/
structure RwQ (T : TypeId) (ps : List (List PtT)) (y : Int) (k : Nat) (qvs : List Value) (fs : List Hp) : Prop where
  len : qvs.length = k
  V : ∀ j, j < k → RowV (qvs.getD j undef) (rwT ps y j).length
  mem : ∀ j, j < k → Hp.own (qvs.getD j undef) T 2 (rwT ps y j).length ((rwT ps y j).flatMap eS) ∈ fs
def arrC (k : Nat) (qvs : List Value) : List Value := qvs ++ List.replicate (16 - k) (.slice none 0 0)
theorem arr_set {k : Nat} {qvs : List Value} (hl : qvs.length = k) (hk : k < 16) (v : Value) : (arrC k qvs).set k v = arrC (k + 1) (qvs ++ [v]) := by
  unfold arrC
  rw [List.set_append_right _ _ (by omega), hl, Nat.sub_self, show 16 - k = (16 - (k + 1)) + 1 by omega, List.replicate_succ, List.set_cons_zero, List.append_assoc]; rfl
theorem arr_get {qvs : List Value} (hl : qvs.length = 16) {j : Nat} (hj : j < 16) : (arrC 16 qvs)[j]? = some (qvs.getD j undef) := by
  unfold arrC
  rw [List.getElem?_append_left (by omega), List.getD_eq_getElem?_getD, List.getElem?_eq_getElem (by omega)]; rfl
theorem arr_len {k : Nat} {qvs : List Value} (hl : qvs.length = k) (hk : k ≤ 16) : (arrC k qvs).length = 16 := by
  unfold arrC; rw [List.length_append, List.length_replicate]; omega
theorem RwQ.step {T : TypeId} {ps : List (List PtT)} {y : Int} {k : Nat} {qvs : List Value} {fs : List Hp} (h : RwQ T ps y k qvs fs) {v : Value} (hv : RowV v (rwT ps y k).length) : RwQ T ps y (k + 1) (qvs ++ [v]) (.own v T 2 (rwT ps y k).length ((rwT ps y k).flatMap eS) :: fs) := by
  refine ⟨by rw [List.length_append, h.len]; rfl, fun j hj => ?_, fun j hj => ?_⟩
  · rw [getD_snoc, h.len]
    split
    · rename_i e; subst e; exact hv
    · exact h.V j (by omega)
  · rw [getD_snoc, h.len]
    split
    · rename_i e; subst e; exact List.mem_cons_self
    · exact List.mem_cons_of_mem _ (h.mem j (by omega))
theorem r_pieces21 (w : World) (v : Value) (pvs : List Value) (ps : List (List PtT)) (hv : PcsV v pvs ps) (hat : PcsAt w v pvs ps) :
    Calls Tryz.prog 9 #[v] w fun e w' => ∃ y, e = .returned y ∧ Below w.heap.size w w' ∧ OwnAt w.heap.size w' y 75 1 ps.length pvs := by
  have hVp := hv.V
  have hlen := hv.len
  have hrowP : ∀ w', Chg (fun _ => False) w w' → RowAt w' v 1 ps.length pvs := fun w' h => (hat.keep h).row
  refine calls_own (args := [v]) Tryz.func9 rfl Tryz.ntmps9 Tryz.results9 rfl ?_
  refine v_seq ?_
  refine v_region ?_
  refine l_val rfl (o_assign rfl) ?_
  refine l_nil ?_
  refine kt_norm ?_
  refine v_seq ?_
  refine v_region ?_
  refine l_buildSlice (vs := []) (cs := []) rfl rfl rfl rfl rfl rfl fun v5 hv5 => ?_
  refine l_val rfl (o_assign rfl) ?_
  refine l_nil ?_
  refine kt_norm ?_
  refine v_seq ?_
  refine v_seq ?_
  refine v_region ?_
  refine l_val rfl (o_assign rfl) ?_
  refine l_nil ?_
  refine kt_norm ?_
  refine v_block ?_
  refine v_ren 5 18 [] rfl rfl rfl ?_
  refine v_loopS (α := Nat × Value) (fun ⟨i, v3⟩ => [(4, .int .i64 (i : Int)), (3, v3)]) (fun ⟨i, v3⟩ => [(18, Hp.own v3 75 1 i (pvs.take i))])  (fun ⟨i, v3⟩ => i ≤ ps.length ∧ RowV v3 i) (fun ⟨i, v3⟩ => ps.length - i) (0, v5) [0] [] ⟨Nat.zero_le _, hv5⟩  (And.intro rfl (And.intro rfl (True.intro))) rfl (And.intro rfl (True.intro)) rfl ?_
  rintro ⟨i, v3⟩ ⟨hi, hv3⟩
  refine v_seq ?_
  refine v_seq ?_
  refine v_region ?_
  refine l_val rfl (o_move rfl) ?_
  refine l_val rfl (o_move rfl) ?_
  refine l_val rfl (o_len rfl hVp) ?_
  refine l_split rfl (o_lss rfl rfl) (fun q1 => ?_) (fun q1 => ?_)
  · have hil : i < ps.length := by omega
    obtain ⟨aq, cq, hq⟩ := (hv.pV i hil).sl
    refine l_nil ?_
    refine kt_norm ?_
    refine v_condT rfl ?_
    refine v_skip ?_
    refine kt_norm ?_
    refine v_seq ?_
    refine v_block ?_
    refine v_region ?_
    refine l_val rfl (o_move rfl) ?_
    refine l_val rfl (o_move rfl) ?_
    refine l_val rfl (o_move rfl) ?_
    refine l_val rfl (o_idx (i) rfl hVp rfl (by first | rfl | omega) (by omega)) ?_
    refine l_val rfl (o_loadR1 rfl (row_imm hrowP) (el_oneE (by rw [hv.lenv]; exact hil) hq)) ?_
    refine l_buildSlice (vs := [_]) (cs := [_]) rfl rfl rfl rfl rfl rfl fun v17 hv17 => ?_
    refine l_append 18 [17] rfl rfl rfl rfl rfl rfl rfl hv17 (row_own (key := 17) rfl) (by omega) fun v18 hv18 => ?_
    refine l_val rfl (o_assign rfl) ?_
    refine l_nil ?_
    refine kb_norm ?_
    refine kt_norm ?_
    refine v_sel [4, 3, 0] [18] rfl rfl ?_
    refine v_region ?_
    refine l_val rfl (o_move rfl) ?_
    refine l_val rfl (o_addi rfl rfl ?_) ?_
    · omega
    refine l_val rfl (o_assign rfl) ?_
    refine l_nil ?_
    refine kt_norm ?_
    refine ⟨(i + 1, v18), ⟨by omega, hv18⟩, (by show ps.length - (i + 1) < ps.length - i; omega), le_app (And.intro rfl (And.intro rfl (True.intro))) [0] rfl (And.intro (congrArg some (own_congr rfl (by rw [← hq]; exact take_one (by rw [hv.lenv]; exact hil)))) (True.intro)) [] rfl⟩
  · skip
    refine l_nil ?_
    refine kt_norm ?_
    refine v_condF rfl ?_
    refine v_exit ?_
    refine kt_exit ?_
    refine kt_exit ?_
    refine kb_eq ?_
    refine kt_norm ?_
    refine v_sel [3] [18] rfl rfl ?_
    refine v_seq ?_
    refine v_region ?_
    obtain rfl : i = ps.length := by omega
    refine l_val rfl (o_move rfl) ?_
    refine l_val rfl (o_assign rfl) ?_
    refine l_nil ?_
    refine kt_norm ?_
    refine v_ret ?_
    refine ⟨[_], .cons (.tmp rfl) (ResAll.nil), ?_⟩
    exact ⟨18, congrArg some (own_congr rfl (by rw [← hv.lenv, List.take_length]))⟩
set_option maxHeartbeats 4000000 in
theorem r_cover (w : World) (v : Value) (pvs : List Value) (ps : List (List PtT)) (X Y : Int) (n h : Nat) (hb : Bnd ps) (hvp : PcsV v pvs ps) (hat : PcsAt w v pvs ps) (hvw : ViewOk X Y (n : Int) (h : Int)) :
    Calls Tryz.prog 8 #[v, .agg #[.int .i64 X, .int .i64 Y, .int .i64 (n : Int), .int .i64 (h : Int)]] w fun e w' => ∃ x : Value, e = .returned (.tuple #[.agg #[.int .i64 (n : Int), .int .i64 (h : Int), x], .int .i64 0]) ∧ Below w.heap.size w w' ∧ (Hp.own x 5 1 (pixT (tabT X Y (n : Int) (h : Int) ps) X Y n h).length (iU (pixT (tabT X Y (n : Int) (h : Int) ps) X Y n h))).ok w' ∧ ∀ b, x.ownBlock = some b → w.heap.size ≤ b := by
  have vd := (viewOk_def X Y (n : Int) (h : Int)).1 hvw
  have hTok : TOk (tabT X Y (n : Int) (h : Int) ps) := tOk_tab hb
  have hTl := hTok.len
  rw [pixT_cov hvw h (Nat.le_refl h)]
  refine calls_said (args := [v, .agg #[.int .i64 X, .int .i64 Y, .int .i64 (n : Int), .int .i64 (h : Int)]]) (fun x => .tuple #[.agg #[.int .i64 (n : Int), .int .i64 (h : Int), x], .int .i64 0]) (fun x w' => (Hp.own x 5 1 (covPix ps X Y n h).length (iU (covPix ps X Y n h))).ok w') (fun x b => x.ownBlock = some b) Tryz.func8 rfl Tryz.ntmps8 Tryz.results8 rfl ?_
  refine v_seq ?_
  refine v_region ?_
  refine l_new rfl (o_box (cs := [_, _, _, _]) rfl rfl) fun b3 => ?_
  refine l_new rfl o_alloc fun b4 => ?_
  refine l_val rfl (o_assign rfl) ?_
  refine l_nil ?_
  refine kt_norm ?_
  refine v_seq ?_
  refine v_region ?_
  refine l_val rfl (o_loadW (key := 3) rfl rfl rfl) ?_
  refine l_ans (vs := [_]) rfl rfl ((show Ans Tryz.prog _ _ (.int .i64 0) by have := r_Check X Y (n : Int) (h : Int); rwa [if_pos hvw] at this)) ?_
  refine l_val rfl (o_assign rfl) ?_
  refine l_nil ?_
  refine kt_norm ?_
  refine v_seq ?_
  refine v_seq ?_
  refine v_region ?_
  refine l_val rfl (o_move rfl) ?_
  refine l_split rfl (o_neq rfl rfl) (fun q1 => absurd q1 (by omega)) (fun q1 => ?_)
  refine l_nil ?_
  refine kt_norm ?_
  refine v_condF rfl ?_
  refine v_skip ?_
  refine kt_norm ?_
  refine v_sel [0, 3, 4] [3, 4] rfl rfl ?_
  refine v_seq ?_
  refine v_region ?_
  refine l_val rfl (o_fld rfl) ?_
  refine l_val rfl (o_load1 (key := 3) rfl rfl rfl) ?_
  refine l_val rfl (o_fld rfl) ?_
  refine l_val rfl (o_load1 (key := 3) rfl rfl rfl) ?_
  refine l_val rfl (o_build (vs := [_, _]) (cs := [_, _, _]) rfl rfl) ?_
  refine l_new rfl o_alloc fun b7 => ?_
  refine l_store rfl (o_storeW (key := 7) (xs := [_, _, _]) rfl rfl rfl rfl rfl rfl rfl) ?_
  refine l_nil ?_
  refine kt_norm ?_
  refine v_seq ?_
  refine v_region ?_
  refine l_val rfl (o_move rfl) ?_
  refine l_val rfl (o_loadW (key := 3) rfl rfl rfl) ?_
  refine l_gown (ks := []) (caps := #[]) (vs := [_, _]) rfl rfl (ent_of Tryz.func29 rfl rfl) rfl (fun w' hg hh => r_TableT w' v pvs ps X Y (n : Int) (h : Int) hb hvp (hat.keep hg)) fun tb htb => ?_
  refine l_val rfl (o_assign rfl) ?_
  refine l_nil ?_
  refine kt_norm ?_
  refine v_sel [3, 4, 7, 8] [3, 4, 7, 28] rfl rfl ?_
  refine v_seq ?_
  refine v_seq ?_
  refine v_region ?_
  refine l_val rfl (o_assign rfl) ?_
  refine l_nil ?_
  refine kt_norm ?_
  refine v_block ?_
  refine v_ghost 76 5 1 ?_
  refine v_loopL (α := Nat × Value × List Hp) (fun ⟨y, rv, fs⟩ => [(9, .int .i64 (y : Int))]) (fun ⟨y, rv, fs⟩ => [(7, Hp.box b7 33 [.int .i64 (n : Int), .int .i64 (h : Int), rv]), (76, Hp.own rv 5 1 (covPix ps X Y n y).length (iU (covPix ps X Y n y)))]) (fun ⟨y, rv, fs⟩ => gF (fun w2 => Chg (fun _ => False) w w2) fs) (fun ⟨y, rv, fs⟩ => gbF (fun b => b < w.heap.size ∧ ¬ False) fs) (fun ⟨y, rv, fs⟩ => y ≤ h ∧ RowV rv (covPix ps X Y n y).length) (fun ⟨y, rv, fs⟩ => h - y) (0, .slice none 0 0, []) [3, 4, 7, 8] [3, 4, 28] ⟨Nat.zero_le _, .nil0⟩ rfl rfl (And.intro rfl (True.intro)) rfl (And.intro rfl (And.intro rfl (True.intro))) rfl ?_
  rintro ⟨y, rv, fs⟩ ⟨hy, hrv⟩
  refine v_seq ?_
  refine v_seq ?_
  refine v_region ?_
  refine l_val rfl (o_move rfl) ?_
  refine l_val rfl (o_fld rfl) ?_
  refine l_val rfl (o_load1 (key := 3) rfl rfl rfl) ?_
  refine l_split rfl (o_lss rfl rfl) (fun q2 => ?_) (fun q2 => ?_)
  · have hyh : y < h := by omega
    refine l_nil ?_
    refine kt_norm ?_
    refine v_condT rfl ?_
    refine v_skip ?_
    refine kt_norm ?_
    refine v_seq ?_
    refine v_block ?_
    refine v_seq ?_
    refine v_region ?_
    refine l_val rfl (o_buildA (vs := []) (cs := [_, _, _, _, _, _, _, _, _, _, _, _, _, _, _, _]) rfl rfl) ?_
    refine l_new rfl o_alloc fun b10 => ?_
    refine l_store rfl (o_storeW (key := 10) (xs := [_, _, _, _, _, _, _, _, _, _, _, _, _, _, _, _]) rfl rfl rfl rfl rfl rfl rfl) ?_
    refine l_nil ?_
    refine kt_norm ?_
    refine v_seq ?_
    refine v_seq ?_
    refine v_region ?_
    refine l_val rfl (o_assign rfl) ?_
    refine l_nil ?_
    refine kt_norm ?_
    refine v_block ?_
    refine v_loopL (α := Nat × List Value × List Hp) (fun ⟨k, qvs, fs2⟩ => [(11, .int .i64 (k : Int))]) (fun ⟨k, qvs, fs2⟩ => [(10, Hp.box b10 72 (arrC k qvs))]) (fun ⟨k, qvs, fs2⟩ => gF (fun w2 => Chg (fun _ => False) w w2) fs2) (fun ⟨k, qvs, fs2⟩ => gbF (fun b => b < w.heap.size ∧ ¬ False) fs2) (fun ⟨k, qvs, fs2⟩ => k ≤ 16 ∧ RwQ 86 ps (Y + y) k qvs fs2) (fun ⟨k, qvs, fs2⟩ => 16 - k) (0, [], fs) [9, 3, 4, 7, 8, 10] [3, 4, 7, 28, 76] ⟨Nat.zero_le _, ⟨rfl, fun j h => absurd h (Nat.not_lt_zero j), fun j h => absurd h (Nat.not_lt_zero j)⟩⟩ rfl rfl (And.intro rfl (True.intro)) rfl (And.intro rfl (True.intro)) rfl ?_
    rintro ⟨k, qvs, fs2⟩ ⟨hk, hR⟩
    refine v_seq ?_
    refine v_seq ?_
    refine v_region ?_
    refine l_val rfl (o_move rfl) ?_
    refine l_split rfl (o_lss rfl rfl) (fun q3 => ?_) (fun q3 => ?_)
    · have hk16 : k < 16 := by omega
      have hdk : docRow (crs (16 * (Y + y) + k) (liveT (16 * (Y + y) + k) (tabT X Y (n : Int) (h : Int) ps))) = (rwT ps (Y + y) k) := doc_tab hvw (by omega) (by omega)
      refine l_nil ?_
      refine kt_norm ?_
      refine v_condT rfl ?_
      refine v_skip ?_
      refine kt_norm ?_
      refine v_seq ?_
      refine v_block ?_
      refine v_region ?_
      refine l_val rfl (o_move rfl) ?_
      refine l_val rfl (o_move rfl) ?_
      refine l_val rfl (o_fld rfl) ?_
      refine l_val rfl (o_load1 (key := 3) rfl rfl rfl) ?_
      refine l_val rfl (o_move rfl) ?_
      refine l_val rfl (o_addi rfl rfl ?_) ?_
      · omega
      refine l_val rfl (o_muli rfl rfl ?_) ?_
      · omega
      refine l_val rfl (o_move rfl) ?_
      refine l_val rfl (o_addi rfl rfl ?_) ?_
      · omega
      refine l_gown (ks := [28]) (caps := #[]) (vs := [_, _]) rfl rfl (ent_of Tryz.func30 rfl rfl) rfl (fun w' hg hh => hdk ▸ r_SpansR w' tb (tabT X Y (n : Int) (h : Int) ps) (16 * (Y + y) + k) (by omega) htb (rowAt_own (hh 28 (by simp) _ rfl)) (fun e he => hTok.cross e (live_mem.1 he).1 _ (live_mem.1 he).2.1 (live_mem.1 he).2.2)) fun yk hyk => ?_
      refine l_freeze 49 [3, 4, 7, 10, 28, 76] rfl rfl rfl ?_
      refine l_val rfl (o_idxA k rfl rfl rfl (by omega)) ?_
      refine l_store rfl (o_store1 (key := 10) (rs := arrC (k + 1) (qvs ++ [yk])) rfl rfl (rowV_cells hyk) rfl (Nat.ble_eq_true_of_le (by rw [arr_len hR.len (by omega)]; omega)) (rowV_one hyk) (by rw [Nat.mul_one]; exact arr_set hR.len (by omega) _)) ?_
      refine l_nil ?_
      refine kb_norm ?_
      refine kt_norm ?_
      refine v_sel [11, 9, 3, 4, 7, 8, 10] [3, 4, 7, 10, 28, 76] rfl rfl ?_
      refine v_region ?_
      refine l_val rfl (o_move rfl) ?_
      refine l_val rfl (o_addi rfl rfl ?_) ?_
      · omega
      refine l_val rfl (o_assign rfl) ?_
      refine l_nil ?_
      refine kt_norm ?_
      refine ⟨(k + 1, qvs ++ [yk], .own yk 86 2 (rwT ps (Y + y) k).length ((rwT ps (Y + y) k).flatMap eS) :: fs2), ⟨by omega, hR.step hyk⟩, (by show 16 - (k + 1) < 16 - k; omega), le_app (And.intro rfl (True.intro)) [9, 3, 4, 7, 8, 10] rfl (And.intro rfl (True.intro)) [3, 4, 7, 28, 76] rfl⟩
    · skip
      refine l_nil ?_
      refine kt_norm ?_
      refine v_condF rfl ?_
      refine v_exit ?_
      refine kt_exit ?_
      refine kt_exit ?_
      refine kb_eq ?_
      refine kt_norm ?_
      refine v_seq ?_
      refine v_region ?_
      obtain rfl : k = 16 := by omega
      refine l_val rfl (o_assign rfl) ?_
      refine l_nil ?_
      refine kt_norm ?_
      refine v_block ?_
      refine v_loopS (α := Nat × Value) (fun ⟨x, rv2⟩ => [(12, .int .i64 (x : Int))]) (fun ⟨x, rv2⟩ => [(7, Hp.box b7 33 [.int .i64 (n : Int), .int .i64 (h : Int), rv2]), (76, Hp.own rv2 5 1 (lnT ps X Y n y x).length (iU (lnT ps X Y n y x)))])  (fun ⟨x, rv2⟩ => x ≤ n ∧ RowV rv2 (lnT ps X Y n y x).length) (fun ⟨x, rv2⟩ => n - x) (0, rv) [9, 3, 4, 7, 8, 10] [3, 4, 10, 28] ⟨Nat.zero_le _, by simpa [lnT] using hrv⟩  (And.intro rfl (True.intro)) rfl (And.intro rfl (And.intro (congrArg some (own_congr (by simp [lnT]) (by simp [lnT]))) (True.intro))) rfl ?_
      rintro ⟨x, rv2⟩ ⟨hx, hrv2⟩
      refine v_seq ?_
      refine v_seq ?_
      refine v_region ?_
      refine l_val rfl (o_move rfl) ?_
      refine l_val rfl (o_fld rfl) ?_
      refine l_val rfl (o_load1 (key := 3) rfl rfl rfl) ?_
      refine l_split rfl (o_lss rfl rfl) (fun q4 => ?_) (fun q4 => ?_)
      · have hxn : x < n := by omega
        have hll := lnT_len ps X Y n y x
        have hyn : y * n ≤ 256 * 256 := Nat.mul_le_mul (by omega) (by omega)
        have hls := lnT_succ ps X Y n y x
        have hl2 := lnT_len ps X Y n y (x + 1)
        refine l_nil ?_
        refine kt_norm ?_
        refine v_condT rfl ?_
        refine v_skip ?_
        refine kt_norm ?_
        refine v_seq ?_
        refine v_block ?_
        refine v_seq ?_
        refine v_region ?_
        refine l_val rfl (o_assign rfl) ?_
        refine l_nil ?_
        refine kt_norm ?_
        refine v_seq ?_
        refine v_seq ?_
        refine v_region ?_
        refine l_val rfl (o_assign rfl) ?_
        refine l_nil ?_
        refine kt_norm ?_
        refine v_block ?_
        refine v_loopS (α := Nat) (fun k => [(14, .int .i64 (k : Int)), (13, .int .i64 (covK ps (X + x) (Y + y) k))]) (fun k => [])  (fun k => k ≤ 16) (fun k => 16 - k) 0 [12, 9, 3, 4, 7, 8, 10] [3, 4, 7, 10, 28, 76] (Nat.zero_le _)  (And.intro rfl (And.intro rfl (True.intro))) rfl (True.intro) rfl ?_
        rintro k hk
        refine v_seq ?_
        refine v_seq ?_
        refine v_region ?_
        refine l_val rfl (o_move rfl) ?_
        refine l_split rfl (o_lss rfl rfl) (fun q5 => ?_) (fun q5 => ?_)
        · have hk16 : k < 16 := by omega
          have hsp := rwT_ok hb (Y + y) k
          have hst := covK_step ps (X + x) (Y + y) k
          have hcb := covK_bound hb (X + x) (Y + y) k
          have hcb1 := covK_bound hb (X + x) (Y + y) (k + 1)
          refine l_nil ?_
          refine kt_norm ?_
          refine v_condT rfl ?_
          refine v_skip ?_
          refine kt_norm ?_
          refine v_seq ?_
          refine v_block ?_
          refine v_drawW [] [[], [], [], [10], [], [3], [], [], [], [], []] mixed ?_ (by kernel_rfl) (by kernel_rfl)
          refine d_val (fun _ => rfl) rfl rfl (fun σ21 => o_move rfl) ?_
          refine d_val (fun _ => rfl) rfl rfl (fun σ21 => o_move rfl) ?_
          refine d_val (fun _ => rfl) rfl rfl (fun σ21 => o_idxA k rfl rfl rfl (by omega)) ?_
          refine d_val (fun _ => rfl) rfl rfl (fun σ21 => o_load1 (key := 10) (v := qvs.getD k undef) rfl rfl (by rw [Nat.mul_one]; exact arr_get hR.len (by omega))) ?_
          refine d_val (fun _ => rfl) rfl rfl (fun σ21 => o_fld rfl) ?_
          refine d_val (fun _ => rfl) rfl rfl (fun σ21 => o_load1 (key := 3) rfl rfl rfl) ?_
          refine d_val (fun _ => rfl) rfl rfl (fun σ21 => o_move rfl) ?_
          refine d_val (fun _ => rfl) rfl rfl (fun σ21 => o_addi rfl rfl ?_) ?_
          · omega
          refine d_gcall (y := .int .i64 (sumS (clipT (256 * (X + x)) (256 * (X + x) + 256) (rwT ps (Y + y) k)))) (caps := #[]) (fun _ => rfl) (fun _ => rfl) (ent_of Tryz.func31 rfl rfl) (vs := fun _ => [_, _]) (fun _ => rfl) (fun σ21 w' hg hh => r_Measure w' (qvs.getD k undef) (rwT ps (Y + y) k) (X + x) (by omega) (by omega) hsp.1 (hR.V k (by omega)) (rowAt_own (gF_mem fs2 (hR.mem k (by omega)) hg))) ?_
          refine d_val (fun _ => rfl) rfl rfl (fun σ21 => o_addi rfl rfl ?_) ?_
          · omega
          refine d_val (fun _ => rfl) rfl rfl (fun σ21 => o_assign rfl) ?_
          refine d_nil (fun σ21 => ?_)
          refine l_nil ?_
          refine kb_norm ?_
          refine kt_norm ?_
          refine v_sel [14, 13, 12, 9, 3, 4, 7, 8, 10] [3, 4, 7, 10, 28, 76] rfl rfl ?_
          refine v_region ?_
          refine l_val rfl (o_move rfl) ?_
          refine l_val rfl (o_addi rfl rfl ?_) ?_
          · omega
          refine l_val rfl (o_assign rfl) ?_
          refine l_nil ?_
          refine kt_norm ?_
          refine ⟨k + 1, by omega, by omega, le_app (And.intro rfl (And.intro (congrArg (fun z => some (Value.int .i64 z)) hst.symm) (True.intro))) [12, 9, 3, 4, 7, 8, 10] rfl (True.intro) [3, 4, 7, 10, 28, 76] rfl⟩
        · skip
          refine l_nil ?_
          refine kt_norm ?_
          refine v_condF rfl ?_
          refine v_exit ?_
          refine kt_exit ?_
          refine kt_exit ?_
          refine kb_eq ?_
          refine kt_norm ?_
          refine v_drawW [(76, (lnT ps X Y n y x).length + 1)] [[], [7], [], [], [], [76, 75], [], [7]] mixed ?_ (by kernel_rfl) (by kernel_rfl)
          obtain rfl : k = 16 := by omega
          refine d_val (fun _ => rfl) rfl rfl (fun σ22 => o_fld rfl) ?_
          refine d_val (fun _ => rfl) rfl rfl (fun σ22 => o_load1 (key := 7) rfl rfl rfl) ?_
          refine d_val (fun _ => rfl) rfl rfl (fun σ22 => o_move rfl) ?_
          refine d_ans (vs := [_]) (fun _ => rfl) (fun _ => rfl) (r_Value _) ?_
          refine d_bsO (n := 1) (vs := fun _ => [_]) (cs := fun _ => [_]) (fun _ => rfl) (fun _ => rfl) (fun _ => rfl) rfl rfl (fun _ => rfl) (fun _ => rfl) ?_
          refine d_app 76 (n := (lnT ps X Y n y x).length) (mm := 1) (κ := [75]) (fun _ => rfl) (fun _ => rfl) (fun _ => rfl) (fun _ => rfl) rfl (fun σ22 => .inl ⟨_, _, _, rfl⟩) (fun σ22 => row_own (key := 75) rfl) (by omega) (fun _ h => h) ?_
          refine d_val (fun _ => rfl) rfl rfl (fun σ22 => o_fld rfl) ?_
          refine d_store (fun _ => rfl) rfl rfl (fun σ22 => o_store1 (key := 7) (rs := [_, _, _]) rfl rfl (rowV_cells (show RowV (σ22.v 76) ((lnT ps X Y n y x).length + 1) from σ22.ok 76)) rfl rfl (rowV_one (show RowV (σ22.v 76) ((lnT ps X Y n y x).length + 1) from σ22.ok 76)) rfl) ?_
          refine d_nil (fun σ22 => ?_)
          refine l_nil ?_
          refine kb_norm ?_
          refine kt_norm ?_
          refine v_sel [12, 9, 3, 4, 7, 8, 10] [3, 4, 7, 10, 28, 76] rfl rfl ?_
          refine v_region ?_
          refine l_val rfl (o_move rfl) ?_
          refine l_val rfl (o_addi rfl rfl ?_) ?_
          · omega
          refine l_val rfl (o_assign rfl) ?_
          refine l_nil ?_
          refine kt_norm ?_
          have hlo : (lnT ps X Y n y (x + 1)).length = (lnT ps X Y n y x).length + 1 := by omega
          refine ⟨(x + 1, σ22.v 76), ⟨by omega, (show RowV (σ22.v 76) ((lnT ps X Y n y x).length + 1) from σ22.ok 76).to hlo.symm⟩, (by show n - (x + 1) < n - x; omega), le_app (And.intro rfl (True.intro)) [9, 3, 4, 7, 8, 10] rfl (And.intro rfl (And.intro (congrArg some (own_congr hlo.symm (by rw [hls]; simp [iU, covA]))) (True.intro))) [3, 4, 10, 28] rfl⟩
      · skip
        refine l_nil ?_
        refine kt_norm ?_
        refine v_condF rfl ?_
        refine v_exit ?_
        refine kt_exit ?_
        refine kt_exit ?_
        refine kb_eq ?_
        refine kb_norm ?_
        refine kt_norm ?_
        refine v_sel [9, 3, 4, 7, 8] [3, 4, 7, 10, 28, 76] rfl rfl ?_
        refine v_region ?_
        refine l_val rfl (o_move rfl) ?_
        refine l_val rfl (o_addi rfl rfl ?_) ?_
        · omega
        refine l_val rfl (o_assign rfl) ?_
        refine l_nil ?_
        refine kt_norm ?_
        obtain rfl : n = x := by omega
        refine ⟨(y + 1, rv2, fs2), ⟨by omega, hrv2⟩, (by show h - (y + 1) < h - y; omega), le_app (And.intro rfl (True.intro)) [3, 4, 7, 8] rfl (And.intro rfl (And.intro rfl (True.intro))) [3, 4, 28] rfl⟩
  · skip
    refine l_nil ?_
    refine kt_norm ?_
    refine v_condF rfl ?_
    refine v_exit ?_
    refine kt_exit ?_
    refine kt_exit ?_
    refine kb_eq ?_
    refine kt_norm ?_
    refine v_sel [4, 7] [4, 7, 76] rfl rfl ?_
    refine v_seq ?_
    refine v_region ?_
    obtain rfl : h = y := by omega
    obtain ⟨ar, cr, rfl⟩ := hrv.sl
    refine l_val rfl (o_loadW (key := 7) rfl rfl rfl) ?_
    refine l_store rfl (o_storeW (key := 4) (xs := [_, _, _]) rfl rfl rfl rfl rfl rfl rfl) ?_
    refine l_val rfl (o_assign rfl) ?_
    refine l_nil ?_
    refine kt_norm ?_
    refine v_ret ?_
    refine ⟨[_, _], .cons (.cellW (key := 4) rfl rfl rfl) (.cons (.tmp rfl) (ResAll.nil)), ?_⟩
    exact ⟨.slice ar _ cr, rfl, fun w' ho => ⟨(ho.mo 76 _ rfl).1, fun b hb => ((ho.mo 76 _ rfl).2 b hb).elim id False.elim⟩⟩
theorem a_coverN (w : World) (v : Value) (X Y W H : Int) (hvw : ¬ ViewOk X Y W H) :
    Calls Tryz.prog 7 #[v, .agg #[.int .i64 X, .int .i64 Y, .int .i64 W, .int .i64 H]] w fun e w' => e = .returned (.tuple #[.agg #[.int .i64 0, .int .i64 0, .slice none 0 0], .int .i64 190]) ∧ Below w.heap.size w w' := by
  refine calls_of (args := [v, .agg #[.int .i64 X, .int .i64 Y, .int .i64 W, .int .i64 H]]) Tryz.func7 rfl Tryz.ntmps7 Tryz.results7 rfl ?_
  refine v_seq ?_
  refine v_region ?_
  refine l_new rfl (o_box (cs := [_, _, _, _]) rfl rfl) fun b3 => ?_
  refine l_new rfl o_alloc fun b4 => ?_
  refine l_val rfl (o_assign rfl) ?_
  refine l_nil ?_
  refine kt_norm ?_
  refine v_seq ?_
  refine v_seq ?_
  refine v_region ?_
  refine l_val rfl (o_loadW (key := 3) rfl rfl rfl) ?_
  refine l_ans (vs := [_]) rfl rfl ((show Ans Tryz.prog _ _ (.int .i64 190) by have := a_Check X Y W H; rwa [if_neg hvw] at this)) ?_
  refine l_val rfl (o_assign rfl) ?_
  refine l_nil ?_
  refine kt_norm ?_
  refine v_seq ?_
  refine v_region ?_
  refine l_val rfl (o_move rfl) ?_
  refine l_split rfl (o_neq rfl rfl) (fun q1 => ?_) (fun q1 => absurd (show _ by omega) q1)
  refine l_nil ?_
  refine kt_norm ?_
  refine v_condT rfl ?_
  refine v_seq ?_
  refine v_region ?_
  refine l_val rfl (o_build (vs := []) (cs := [_, _, _]) rfl rfl) ?_
  refine l_val rfl (o_move rfl) ?_
  refine l_store rfl (o_storeW (key := 4) (xs := [_, _, _]) rfl rfl rfl rfl rfl rfl rfl) ?_
  refine l_val rfl (o_assign rfl) ?_
  refine l_nil ?_
  refine kt_norm ?_
  refine v_sel [4, 5] [4] rfl rfl ?_
  refine v_ret ?_
  refine kt_ret ?_
  refine ⟨[_, _], .cons (.cellW (key := 4) rfl rfl rfl) (.cons (.tmp rfl) (ResAll.nil)), ?_⟩
  rfl
theorem r_coverN (w : World) (v : Value) (X Y W H : Int) (hvw : ¬ ViewOk X Y W H) :
    Calls Tryz.prog 8 #[v, .agg #[.int .i64 X, .int .i64 Y, .int .i64 W, .int .i64 H]] w fun e w' => e = .returned (.tuple #[.agg #[.int .i64 0, .int .i64 0, .slice none 0 0], .int .i64 190]) ∧ Below w.heap.size w w' := by
  refine calls_of (args := [v, .agg #[.int .i64 X, .int .i64 Y, .int .i64 W, .int .i64 H]]) Tryz.func8 rfl Tryz.ntmps8 Tryz.results8 rfl ?_
  refine v_seq ?_
  refine v_region ?_
  refine l_new rfl (o_box (cs := [_, _, _, _]) rfl rfl) fun b3 => ?_
  refine l_new rfl o_alloc fun b4 => ?_
  refine l_val rfl (o_assign rfl) ?_
  refine l_nil ?_
  refine kt_norm ?_
  refine v_seq ?_
  refine v_region ?_
  refine l_val rfl (o_loadW (key := 3) rfl rfl rfl) ?_
  refine l_ans (vs := [_]) rfl rfl ((show Ans Tryz.prog _ _ (.int .i64 190) by have := r_Check X Y W H; rwa [if_neg hvw] at this)) ?_
  refine l_val rfl (o_assign rfl) ?_
  refine l_nil ?_
  refine kt_norm ?_
  refine v_seq ?_
  refine v_seq ?_
  refine v_region ?_
  refine l_val rfl (o_move rfl) ?_
  refine l_split rfl (o_neq rfl rfl) (fun q1 => ?_) (fun q1 => absurd (show _ by omega) q1)
  refine l_nil ?_
  refine kt_norm ?_
  refine v_condT rfl ?_
  refine v_seq ?_
  refine v_region ?_
  refine l_val rfl (o_build (vs := []) (cs := [_, _, _]) rfl rfl) ?_
  refine l_val rfl (o_move rfl) ?_
  refine l_store rfl (o_storeW (key := 4) (xs := [_, _, _]) rfl rfl rfl rfl rfl rfl rfl) ?_
  refine l_val rfl (o_assign rfl) ?_
  refine l_nil ?_
  refine kt_norm ?_
  refine v_sel [4, 5] [4] rfl rfl ?_
  refine v_ret ?_
  refine kt_ret ?_
  refine ⟨[_, _], .cons (.cellW (key := 4) rfl rfl rfl) (.cons (.tmp rfl) (ResAll.nil)), ?_⟩
  rfl
set_option maxHeartbeats 4000000 in
theorem a_CoverTellsY (w : World) (v : Value) (pvs : List Value) (ps : List (List PtT)) (X Y : Int) (n h : Nat) (hvw : ViewOk X Y (n : Int) (h : Int)) (hv : PcsW v pvs ps) (hat : PcsAt w v pvs ps) : Calls Tryz.prog 3 #[v, .agg #[.int .i64 X, .int .i64 Y, .int .i64 (n : Int), .int .i64 (h : Int)]] w fun e w' => e = .returned (.bool true) ∧ Below w.heap.size w w' := by
  have hVp := hv.V
  have hlen := hv.len
  have hrowP : ∀ w', Chg (fun _ => False) w w' → RowAt w' v 1 ps.length pvs := fun w' h => (hat.keep h).row
  have vd := (viewOk_def X Y (n : Int) (h : Int)).1 hvw
  have hnh := @nh_le n h (by omega) (by omega)
  refine calls_of (args := [v, .agg #[.int .i64 X, .int .i64 Y, .int .i64 (n : Int), .int .i64 (h : Int)]]) Tryz.func3 rfl Tryz.ntmps3 Tryz.results3 rfl ?_
  refine v_seq ?_
  refine v_region ?_
  refine l_new rfl (o_box (cs := [_, _, _, _]) rfl rfl) fun b3 => ?_
  refine l_val rfl (o_assign rfl) ?_
  refine l_nil ?_
  refine kt_norm ?_
  refine v_seq ?_
  refine v_seq ?_
  refine v_region ?_
  refine l_val rfl (o_move rfl) ?_
  refine l_call (ks := []) rfl (o_callC (vs := [_]) (r := .bool (decide (Bn21 ps))) (ent_of Tryz.func5 rfl rfl) rfl (fun w' hg hh => a_bounded21 w' _ pvs ps hv (hat.keep hg))) ?_
  refine lz_bool (fun hbb => ?_) (fun hbb => ?_)
  · have hb := hbb.bnd
    have hvp := hb.pcsV hv
    refine l_val rfl (o_not rfl rfl) ?_
    refine l_val rfl (o_move rfl) ?_
    refine l_val rfl (o_fld rfl) ?_
    refine l_val rfl (o_load1 (key := 3) rfl rfl rfl) ?_
    refine l_split rfl (o_gtr rfl rfl) (fun q1 => ?_) (fun q1 => absurd (show _ by omega) q1)
    refine l_val rfl (o_move rfl) ?_
    refine l_val rfl (o_fld rfl) ?_
    refine l_val rfl (o_load1 (key := 3) rfl rfl rfl) ?_
    refine l_split rfl (o_gtr rfl rfl) (fun q2 => ?_) (fun q2 => absurd (show _ by omega) q2)
    refine l_val rfl (o_pickT rfl rfl) ?_
    refine l_val rfl (o_move rfl) ?_
    refine l_val rfl (o_fld rfl) ?_
    refine l_val rfl (o_load1 (key := 3) rfl rfl rfl) ?_
    refine l_split rfl (o_leq rfl rfl) (fun q3 => ?_) (fun q3 => absurd (show _ by omega) q3)
    refine l_val rfl (o_pickT rfl rfl) ?_
    refine l_val rfl (o_move rfl) ?_
    refine l_val rfl (o_fld rfl) ?_
    refine l_val rfl (o_load1 (key := 3) rfl rfl rfl) ?_
    refine l_split rfl (o_leq rfl rfl) (fun q4 => ?_) (fun q4 => absurd (show _ by omega) q4)
    refine l_val rfl (o_pickT rfl rfl) ?_
    refine l_val rfl (o_move rfl) ?_
    refine l_val rfl (o_fld rfl) ?_
    refine l_val rfl (o_load1 (key := 3) rfl rfl rfl) ?_
    refine l_val rfl (o_fld rfl) ?_
    refine l_val rfl (o_load1 (key := 3) rfl rfl rfl) ?_
    have hm1 : (n : Int) * (h : Int) ≤ 256 * 256 := Int.mul_le_mul (by omega) (by omega) (by omega) (by omega)
    have hm0 : 0 ≤ (n : Int) * (h : Int) := Int.mul_nonneg (by omega) (by omega)
    refine l_val rfl (o_muli rfl rfl ?_) ?_
    · omega
    refine l_split rfl (o_gtr rfl rfl) (fun q5 => ?_) (fun q5 => ?_)
    · skip
      refine l_val rfl (o_pickT rfl rfl) ?_
      refine l_val rfl (o_pickF rfl rfl) ?_
      refine l_val rfl (o_move rfl) ?_
      refine l_no rfl ?_
      refine l_no rfl ?_
      refine l_val rfl (o_pickT rfl rfl) ?_
      refine l_nil ?_
      refine kt_norm ?_
      refine v_sel [0, 3, 43] [3] rfl rfl ?_
      refine v_condT rfl ?_
      refine v_seq ?_
      refine v_region ?_
      refine l_ans (vs := []) rfl rfl (a_shown21) ?_
      refine l_val rfl (o_assign rfl) ?_
      refine l_nil ?_
      refine kt_norm ?_
      refine v_ret ?_
      refine kt_ret ?_
      refine ⟨[_], .cons (.tmp rfl) (ResAll.nil), ?_⟩
      rfl
    · skip
      refine l_val rfl (o_pickT rfl rfl) ?_
      refine l_val rfl (o_pickF rfl rfl) ?_
      refine l_val rfl (o_move rfl) ?_
      refine l_ans (vs := []) rfl rfl (a_shown21) ?_
      refine l_val rfl (o_not rfl rfl) ?_
      refine l_val rfl (o_pickF rfl rfl) ?_
      refine l_nil ?_
      refine kt_norm ?_
      refine v_sel [0, 3, 43] [3] rfl rfl ?_
      refine v_condF rfl ?_
      refine v_skip ?_
      refine kt_norm ?_
      refine v_seq ?_
      refine v_region ?_
      refine l_val rfl (o_move rfl) ?_
      refine l_val rfl (o_loadW (key := 3) rfl rfl rfl) ?_
      refine l_gownF (fun y => .tuple #[.agg #[.int .i64 (n : Int), .int .i64 (h : Int), y], .int .i64 0]) (ks := []) (caps := #[]) (vs := [_, _]) rfl rfl (ent_of Tryz.func7 rfl rfl) rfl (fun w' hg hh => a_cover w' v pvs ps X Y n h hb hvp (hat.keep hg) hvw) fun pa hpa => ?_
      obtain ⟨apa, cpa, rfl⟩ := hpa.sl
      refine l_val rfl (o_move rfl) ?_
      refine l_val rfl (o_extract rfl rfl) ?_
      refine l_val rfl (o_extract rfl rfl) ?_
      refine l_new rfl o_alloc fun b5 => ?_
      refine l_store rfl (o_storeW (key := 5) (xs := [_, _, _]) rfl rfl rfl rfl rfl rfl rfl) ?_
      refine l_val rfl (o_assign rfl) ?_
      refine l_nil ?_
      refine kt_norm ?_
      refine v_sel [0, 3, 5, 6] [3, 5, 48] rfl rfl ?_
      refine v_seq ?_
      refine v_drawP [(53, rowP (ps.length)), (55, rowP ((pixT (tabT X Y (n : Int) (h : Int) ps) X Y n h).length))] [[], [], [3], [53], [], [], [], [], [7], []] mixed ?_ (by kernel_rfl) (by kernel_rfl)
      refine d_val (fun _ => rfl) rfl rfl (fun σ4 => o_move rfl) ?_
      refine d_gown (caps := #[]) (fun _ => rfl) (fun _ => rfl) (ent_of Tryz.func9 rfl rfl) (vs := fun _ => [_]) (fun _ => rfl) (fun _ h => h) (fun σ4 w' hg hh => r_pieces21 w' v pvs ps hvp (hat.keep hg)) ?_
      refine d_val (fun _ => rfl) rfl rfl (fun σ4 => o_loadW (key := 3) rfl rfl rfl) ?_
      refine d_gownF (fun y => .tuple #[.agg #[.int .i64 (n : Int), .int .i64 (h : Int), y], .int .i64 0]) (κ := [53]) (caps := #[]) (fun _ => rfl) (fun _ => rfl) (ent_of Tryz.func8 rfl rfl) (vs := fun _ => [_, _]) (fun _ => rfl) (fun _ h => h) (fun σ4 w' hg hh => r_cover w' (σ4.v 53) pvs ps X Y n h hb ⟨σ4.ok 53, hvp.lenv, hvp.len, hvp.pV, hvp.short, hvp.near⟩ ⟨rowAt_own (hh 53 (by simp) _ rfl), fun i hi => (hat.keep hg).pc i hi⟩ hvw) ?_
      refine d_val (fun _ => rfl) rfl rfl (fun σ4 => o_move rfl) ?_
      refine d_val (fun _ => rfl) rfl rfl (fun σ4 => o_extract rfl rfl) ?_
      refine d_val (fun _ => rfl) rfl rfl (fun σ4 => o_extract rfl rfl) ?_
      refine d_new (fun _ => rfl) rfl rfl (fun _ => o_alloc) ?_
      refine d_store (fun _ => rfl) rfl rfl (fun σ4 => o_storeW (key := 7) (xs := [_, _, σ4.v 55]) rfl rfl rfl rfl rfl rfl (by simp only [List.all_cons, List.all_nil, rowV_one (show RowV (σ4.v 55) (pixT (tabT X Y (n : Int) (h : Int) ps) X Y n h).length from σ4.ok 55)]; rfl)) ?_
      refine d_val (fun _ => rfl) rfl rfl (fun σ4 => o_assign rfl) ?_
      refine d_nil (fun σ4 => ?_)
      refine l_nil ?_
      refine kt_norm ?_
      refine v_sel [5, 6, 7, 8] [5, 7, 48, 55] rfl rfl ?_
      refine v_seq ?_
      refine v_drawW [] [[5], [], [7], [48, 55], [], [], [], [], [], []] mixed ?_ (by kernel_rfl) (by kernel_rfl)
      refine d_val (fun _ => rfl) rfl rfl (fun σ5 => o_loadW (key := 5) rfl rfl rfl) ?_
      refine d_ans (vs := [_]) (fun _ => rfl) (fun _ => rfl) (r_its21 _ _ _ _ _) ?_
      refine d_val (fun _ => rfl) rfl rfl (fun σ5 => o_loadW (key := 7) rfl rfl rfl) ?_
      refine d_gcall (y := .bool true) (caps := #[]) (fun _ => rfl) (fun _ => rfl) (ent_of Tryz.func10 rfl rfl) (vs := fun _ => [_, _]) (fun _ => rfl) (fun σ5 w' hg hh => (show decide ((n : Int) = n ∧ (h : Int) = h ∧ (pixT (tabT X Y (n : Int) (h : Int) ps) X Y n h) = (pixT (tabT X Y (n : Int) (h : Int) ps) X Y n h)) = true from decide_eq_true ⟨rfl, rfl, rfl⟩) ▸ r_SameG w' (.slice apa (pixT (tabT X Y (n : Int) (h : Int) ps) X Y n h).length cpa) (σ4.v 55) n h n h (pixT (tabT X Y (n : Int) (h : Int) ps) X Y n h) (pixT (tabT X Y (n : Int) (h : Int) ps) X Y n h) (by rw [pix_len2]; omega) (by rw [pix_len2]; omega) hpa (rowAt_own (hh 48 (by simp) _ rfl)) (σ4.ok 55) (rowAt_own (hh 55 (by simp) _ rfl))) ?_
      refine d_val (fun _ => rfl) rfl rfl (fun σ5 => o_move rfl) ?_
      refine d_val (fun _ => rfl) rfl rfl (fun σ5 => o_move rfl) ?_
      refine d_val (fun _ => rfl) rfl rfl (fun σ5 => o_move rfl) ?_
      refine d_eql (fun _ => rfl) (fun _ => rfl) (fun _ => rfl) (fun q6 => ?_) (fun q6 => absurd (show _ by omega) q6)
      refine d_val (fun _ => rfl) rfl rfl (fun σ5 => o_pickT rfl rfl) ?_
      refine d_val (fun _ => rfl) rfl rfl (fun σ5 => o_assign rfl) ?_
      refine d_nil (fun σ5 => ?_)
      refine l_nil ?_
      refine kt_norm ?_
      refine v_sel [4] [7, 48, 55] rfl rfl ?_
      refine v_ret ?_
      refine ⟨[_], .cons (.tmp rfl) (ResAll.nil), ?_⟩
      rfl
  · skip
    refine l_val rfl (o_not rfl rfl) ?_
    refine l_val rfl (o_move rfl) ?_
    refine l_no rfl ?_
    refine l_no rfl ?_
    refine l_no rfl ?_
    refine l_no rfl ?_
    refine l_no rfl ?_
    refine l_no rfl ?_
    refine l_no rfl ?_
    refine l_no rfl ?_
    refine l_no rfl ?_
    refine l_no rfl ?_
    refine l_no rfl ?_
    refine l_no rfl ?_
    refine l_no rfl ?_
    refine l_no rfl ?_
    refine l_no rfl ?_
    refine l_no rfl ?_
    refine l_no rfl ?_
    refine l_no rfl ?_
    refine l_no rfl ?_
    refine l_no rfl ?_
    refine l_no rfl ?_
    refine l_no rfl ?_
    refine l_no rfl ?_
    have hm1 : (n : Int) * (h : Int) ≤ 256 * 256 := Int.mul_le_mul (by omega) (by omega) (by omega) (by omega)
    have hm0 : 0 ≤ (n : Int) * (h : Int) := Int.mul_nonneg (by omega) (by omega)
    refine l_no rfl ?_
    refine l_no rfl ?_
    refine l_no rfl ?_
    refine l_val rfl (o_pickT rfl rfl) ?_
    refine l_val rfl (o_move rfl) ?_
    refine l_no rfl ?_
    refine l_no rfl ?_
    refine l_val rfl (o_pickT rfl rfl) ?_
    refine l_nil ?_
    refine kt_norm ?_
    refine v_sel [0, 3, 43] [3] rfl rfl ?_
    refine v_condT rfl ?_
    refine v_seq ?_
    refine v_region ?_
    refine l_ans (vs := []) rfl rfl (a_shown21) ?_
    refine l_val rfl (o_assign rfl) ?_
    refine l_nil ?_
    refine kt_norm ?_
    refine v_ret ?_
    refine kt_ret ?_
    refine ⟨[_], .cons (.tmp rfl) (ResAll.nil), ?_⟩
    rfl
set_option maxHeartbeats 4000000 in
theorem a_CoverTellsN (w : World) (v : Value) (pvs : List Value) (ps : List (List PtT)) (X Y W H : Int) (hvw : ¬ ViewOk X Y W H) (hv : PcsW v pvs ps) (hat : PcsAt w v pvs ps) : Calls Tryz.prog 3 #[v, .agg #[.int .i64 X, .int .i64 Y, .int .i64 W, .int .i64 H]] w fun e w' => e = .returned (.bool true) ∧ Below w.heap.size w w' := by
  have hVp := hv.V
  have hlen := hv.len
  have hrowP : ∀ w', Chg (fun _ => False) w w' → RowAt w' v 1 ps.length pvs := fun w' h => (hat.keep h).row
  refine calls_of (args := [v, .agg #[.int .i64 X, .int .i64 Y, .int .i64 W, .int .i64 H]]) Tryz.func3 rfl Tryz.ntmps3 Tryz.results3 rfl ?_
  refine v_seq ?_
  refine v_region ?_
  refine l_new rfl (o_box (cs := [_, _, _, _]) rfl rfl) fun b3 => ?_
  refine l_val rfl (o_assign rfl) ?_
  refine l_nil ?_
  refine kt_norm ?_
  refine v_seq ?_
  refine v_seq ?_
  refine v_region ?_
  refine l_val rfl (o_move rfl) ?_
  refine l_call (ks := []) rfl (o_callC (vs := [_]) (r := .bool (decide (Bn21 ps))) (ent_of Tryz.func5 rfl rfl) rfl (fun w' hg hh => a_bounded21 w' _ pvs ps hv (hat.keep hg))) ?_
  refine lz_bool (fun hbb => ?_) (fun hbb => ?_)
  · have hb := hbb.bnd
    have hvp := hb.pcsV hv
    refine l_val rfl (o_not rfl rfl) ?_
    refine l_val rfl (o_move rfl) ?_
    refine l_val rfl (o_fld rfl) ?_
    refine l_val rfl (o_load1 (key := 3) rfl rfl rfl) ?_
    refine l_split rfl (o_gtr rfl rfl) (fun q1 => ?_) (fun q1 => ?_)
    · skip
      refine l_val rfl (o_move rfl) ?_
      refine l_val rfl (o_fld rfl) ?_
      refine l_val rfl (o_load1 (key := 3) rfl rfl rfl) ?_
      refine l_split rfl (o_gtr rfl rfl) (fun q2 => ?_) (fun q2 => ?_)
      · skip
        refine l_val rfl (o_pickT rfl rfl) ?_
        refine l_val rfl (o_move rfl) ?_
        refine l_val rfl (o_fld rfl) ?_
        refine l_val rfl (o_load1 (key := 3) rfl rfl rfl) ?_
        refine l_split rfl (o_leq rfl rfl) (fun q3 => ?_) (fun q3 => ?_)
        · skip
          refine l_val rfl (o_pickT rfl rfl) ?_
          refine l_val rfl (o_move rfl) ?_
          refine l_val rfl (o_fld rfl) ?_
          refine l_val rfl (o_load1 (key := 3) rfl rfl rfl) ?_
          refine l_split rfl (o_leq rfl rfl) (fun q4 => ?_) (fun q4 => ?_)
          · have hm1 : W * H ≤ 256 * 256 := Int.mul_le_mul (by omega) (by omega) (by omega) (by omega)
            have hm0 : 0 ≤ W * H := Int.mul_nonneg (by omega) (by omega)
            refine l_val rfl (o_pickT rfl rfl) ?_
            refine l_val rfl (o_move rfl) ?_
            refine l_val rfl (o_fld rfl) ?_
            refine l_val rfl (o_load1 (key := 3) rfl rfl rfl) ?_
            refine l_val rfl (o_fld rfl) ?_
            refine l_val rfl (o_load1 (key := 3) rfl rfl rfl) ?_
            refine l_val rfl (o_muli rfl rfl ?_) ?_
            · omega
            refine l_split rfl (o_gtr rfl rfl) (fun q5 => ?_) (fun q5 => ?_)
            · skip
              refine l_val rfl (o_pickT rfl rfl) ?_
              refine l_val rfl (o_pickF rfl rfl) ?_
              refine l_val rfl (o_move rfl) ?_
              refine l_no rfl ?_
              refine l_no rfl ?_
              refine l_val rfl (o_pickT rfl rfl) ?_
              refine l_nil ?_
              refine kt_norm ?_
              refine v_sel [0, 3, 43] [3] rfl rfl ?_
              refine v_condT rfl ?_
              refine v_seq ?_
              refine v_region ?_
              refine l_ans (vs := []) rfl rfl (a_shown21) ?_
              refine l_val rfl (o_assign rfl) ?_
              refine l_nil ?_
              refine kt_norm ?_
              refine v_ret ?_
              refine kt_ret ?_
              refine ⟨[_], .cons (.tmp rfl) (ResAll.nil), ?_⟩
              rfl
            · skip
              refine l_val rfl (o_pickT rfl rfl) ?_
              refine l_val rfl (o_pickF rfl rfl) ?_
              refine l_val rfl (o_move rfl) ?_
              refine l_ans (vs := []) rfl rfl (a_shown21) ?_
              refine l_val rfl (o_not rfl rfl) ?_
              refine l_val rfl (o_pickF rfl rfl) ?_
              refine l_nil ?_
              refine kt_norm ?_
              refine v_sel [0, 3, 43] [3] rfl rfl ?_
              refine v_condF rfl ?_
              refine v_skip ?_
              refine kt_norm ?_
              refine v_seq ?_
              refine v_region ?_
              refine l_val rfl (o_move rfl) ?_
              refine l_val rfl (o_loadW (key := 3) rfl rfl rfl) ?_
              refine l_call (ks := []) rfl (o_callC (vs := [_, _]) (r := .tuple #[.agg #[.int .i64 0, .int .i64 0, .slice none 0 0], .int .i64 190]) (ent_of Tryz.func7 rfl rfl) rfl (fun w' hg hh => a_coverN w' v X Y W H hvw)) ?_
              refine l_val rfl (o_move rfl) ?_
              refine l_val rfl (o_extract rfl rfl) ?_
              refine l_val rfl (o_extract rfl rfl) ?_
              refine l_new rfl o_alloc fun b5 => ?_
              refine l_store rfl (o_storeW (key := 5) (xs := [_, _, _]) rfl rfl rfl rfl rfl rfl rfl) ?_
              refine l_val rfl (o_assign rfl) ?_
              refine l_nil ?_
              refine kt_norm ?_
              refine v_sel [0, 3, 5, 6] [3, 5] rfl rfl ?_
              refine v_seq ?_
              refine v_drawP [(53, rowP (ps.length))] [[], [], [3], [], [], [], [], [], [7], []] mixed ?_ (by kernel_rfl) (by kernel_rfl)
              refine d_val (fun _ => rfl) rfl rfl (fun σ4 => o_move rfl) ?_
              refine d_gown (caps := #[]) (fun _ => rfl) (fun _ => rfl) (ent_of Tryz.func9 rfl rfl) (vs := fun _ => [_]) (fun _ => rfl) (fun _ h => h) (fun σ4 w' hg hh => r_pieces21 w' v pvs ps hvp (hat.keep hg)) ?_
              refine d_val (fun _ => rfl) rfl rfl (fun σ4 => o_loadW (key := 3) rfl rfl rfl) ?_
              refine d_gcall (y := .tuple #[.agg #[.int .i64 0, .int .i64 0, .slice none 0 0], .int .i64 190]) (caps := #[]) (fun _ => rfl) (fun _ => rfl) (ent_of Tryz.func8 rfl rfl) (vs := fun _ => [_, _]) (fun _ => rfl) (fun σ4 w' hg hh => r_coverN w' (σ4.v 53) X Y W H hvw) ?_
              refine d_val (fun _ => rfl) rfl rfl (fun σ4 => o_move rfl) ?_
              refine d_val (fun _ => rfl) rfl rfl (fun σ4 => o_extract rfl rfl) ?_
              refine d_val (fun _ => rfl) rfl rfl (fun σ4 => o_extract rfl rfl) ?_
              refine d_new (fun _ => rfl) rfl rfl (fun _ => o_alloc) ?_
              refine d_store (fun _ => rfl) rfl rfl (fun σ4 => o_storeW (key := 7) (xs := [_, _, _]) rfl rfl rfl rfl rfl rfl rfl) ?_
              refine d_val (fun _ => rfl) rfl rfl (fun σ4 => o_assign rfl) ?_
              refine d_nil (fun σ4 => ?_)
              refine l_nil ?_
              refine kt_norm ?_
              refine v_sel [5, 6, 7, 8] [5, 7] rfl rfl ?_
              refine v_seq ?_
              refine v_drawW [] [[5], [], [7], [], [], [], [], [], [], []] mixed ?_ (by kernel_rfl) (by kernel_rfl)
              refine d_val (fun _ => rfl) rfl rfl (fun σ5 => o_loadW (key := 5) rfl rfl rfl) ?_
              refine d_ans (vs := [_]) (fun _ => rfl) (fun _ => rfl) (r_its21 _ _ _ _ _) ?_
              refine d_val (fun _ => rfl) rfl rfl (fun σ5 => o_loadW (key := 7) rfl rfl rfl) ?_
              refine d_gcall (y := .bool true) (caps := #[]) (fun _ => rfl) (fun _ => rfl) (ent_of Tryz.func10 rfl rfl) (vs := fun _ => [_, _]) (fun _ => rfl) (fun σ5 w' hg hh => (show decide ((0 : Int) = 0 ∧ (0 : Int) = 0 ∧ ([] : List Int) = []) = true from decide_eq_true ⟨rfl, rfl, rfl⟩) ▸ r_SameG w' (.slice none 0 0) (.slice none 0 0) 0 0 0 0 [] [] (Nat.zero_le _) (Nat.zero_le _) .nil0 (rowAt_nilU w') .nil0 (rowAt_nilU w')) ?_
              refine d_val (fun _ => rfl) rfl rfl (fun σ5 => o_move rfl) ?_
              refine d_val (fun _ => rfl) rfl rfl (fun σ5 => o_move rfl) ?_
              refine d_val (fun _ => rfl) rfl rfl (fun σ5 => o_move rfl) ?_
              refine d_eql (fun _ => rfl) (fun _ => rfl) (fun _ => rfl) (fun q6 => ?_) (fun q6 => absurd (show _ by omega) q6)
              refine d_val (fun _ => rfl) rfl rfl (fun σ5 => o_pickT rfl rfl) ?_
              refine d_val (fun _ => rfl) rfl rfl (fun σ5 => o_assign rfl) ?_
              refine d_nil (fun σ5 => ?_)
              refine l_nil ?_
              refine kt_norm ?_
              refine v_sel [4] [] rfl rfl ?_
              refine v_ret ?_
              refine ⟨[_], .cons (.tmp rfl) (ResAll.nil), ?_⟩
              rfl
          · skip
            refine l_val rfl (o_pickT rfl rfl) ?_
            refine l_val rfl (o_move rfl) ?_
            refine l_no rfl ?_
            refine l_no rfl ?_
            refine l_no rfl ?_
            refine l_no rfl ?_
            refine l_no rfl ?_
            refine l_no rfl ?_
            refine l_val rfl (o_pickF rfl rfl) ?_
            refine l_val rfl (o_pickF rfl rfl) ?_
            refine l_val rfl (o_move rfl) ?_
            refine l_ans (vs := []) rfl rfl (a_shown21) ?_
            refine l_val rfl (o_not rfl rfl) ?_
            refine l_val rfl (o_pickF rfl rfl) ?_
            refine l_nil ?_
            refine kt_norm ?_
            refine v_sel [0, 3, 43] [3] rfl rfl ?_
            refine v_condF rfl ?_
            refine v_skip ?_
            refine kt_norm ?_
            refine v_seq ?_
            refine v_region ?_
            refine l_val rfl (o_move rfl) ?_
            refine l_val rfl (o_loadW (key := 3) rfl rfl rfl) ?_
            refine l_call (ks := []) rfl (o_callC (vs := [_, _]) (r := .tuple #[.agg #[.int .i64 0, .int .i64 0, .slice none 0 0], .int .i64 190]) (ent_of Tryz.func7 rfl rfl) rfl (fun w' hg hh => a_coverN w' v X Y W H hvw)) ?_
            refine l_val rfl (o_move rfl) ?_
            refine l_val rfl (o_extract rfl rfl) ?_
            refine l_val rfl (o_extract rfl rfl) ?_
            refine l_new rfl o_alloc fun b5 => ?_
            refine l_store rfl (o_storeW (key := 5) (xs := [_, _, _]) rfl rfl rfl rfl rfl rfl rfl) ?_
            refine l_val rfl (o_assign rfl) ?_
            refine l_nil ?_
            refine kt_norm ?_
            refine v_sel [0, 3, 5, 6] [3, 5] rfl rfl ?_
            refine v_seq ?_
            refine v_drawP [(53, rowP (ps.length))] [[], [], [3], [], [], [], [], [], [7], []] mixed ?_ (by kernel_rfl) (by kernel_rfl)
            refine d_val (fun _ => rfl) rfl rfl (fun σ4 => o_move rfl) ?_
            refine d_gown (caps := #[]) (fun _ => rfl) (fun _ => rfl) (ent_of Tryz.func9 rfl rfl) (vs := fun _ => [_]) (fun _ => rfl) (fun _ h => h) (fun σ4 w' hg hh => r_pieces21 w' v pvs ps hvp (hat.keep hg)) ?_
            refine d_val (fun _ => rfl) rfl rfl (fun σ4 => o_loadW (key := 3) rfl rfl rfl) ?_
            refine d_gcall (y := .tuple #[.agg #[.int .i64 0, .int .i64 0, .slice none 0 0], .int .i64 190]) (caps := #[]) (fun _ => rfl) (fun _ => rfl) (ent_of Tryz.func8 rfl rfl) (vs := fun _ => [_, _]) (fun _ => rfl) (fun σ4 w' hg hh => r_coverN w' (σ4.v 53) X Y W H hvw) ?_
            refine d_val (fun _ => rfl) rfl rfl (fun σ4 => o_move rfl) ?_
            refine d_val (fun _ => rfl) rfl rfl (fun σ4 => o_extract rfl rfl) ?_
            refine d_val (fun _ => rfl) rfl rfl (fun σ4 => o_extract rfl rfl) ?_
            refine d_new (fun _ => rfl) rfl rfl (fun _ => o_alloc) ?_
            refine d_store (fun _ => rfl) rfl rfl (fun σ4 => o_storeW (key := 7) (xs := [_, _, _]) rfl rfl rfl rfl rfl rfl rfl) ?_
            refine d_val (fun _ => rfl) rfl rfl (fun σ4 => o_assign rfl) ?_
            refine d_nil (fun σ4 => ?_)
            refine l_nil ?_
            refine kt_norm ?_
            refine v_sel [5, 6, 7, 8] [5, 7] rfl rfl ?_
            refine v_seq ?_
            refine v_drawW [] [[5], [], [7], [], [], [], [], [], [], []] mixed ?_ (by kernel_rfl) (by kernel_rfl)
            refine d_val (fun _ => rfl) rfl rfl (fun σ5 => o_loadW (key := 5) rfl rfl rfl) ?_
            refine d_ans (vs := [_]) (fun _ => rfl) (fun _ => rfl) (r_its21 _ _ _ _ _) ?_
            refine d_val (fun _ => rfl) rfl rfl (fun σ5 => o_loadW (key := 7) rfl rfl rfl) ?_
            refine d_gcall (y := .bool true) (caps := #[]) (fun _ => rfl) (fun _ => rfl) (ent_of Tryz.func10 rfl rfl) (vs := fun _ => [_, _]) (fun _ => rfl) (fun σ5 w' hg hh => (show decide ((0 : Int) = 0 ∧ (0 : Int) = 0 ∧ ([] : List Int) = []) = true from decide_eq_true ⟨rfl, rfl, rfl⟩) ▸ r_SameG w' (.slice none 0 0) (.slice none 0 0) 0 0 0 0 [] [] (Nat.zero_le _) (Nat.zero_le _) .nil0 (rowAt_nilU w') .nil0 (rowAt_nilU w')) ?_
            refine d_val (fun _ => rfl) rfl rfl (fun σ5 => o_move rfl) ?_
            refine d_val (fun _ => rfl) rfl rfl (fun σ5 => o_move rfl) ?_
            refine d_val (fun _ => rfl) rfl rfl (fun σ5 => o_move rfl) ?_
            refine d_eql (fun _ => rfl) (fun _ => rfl) (fun _ => rfl) (fun q7 => ?_) (fun q7 => absurd (show _ by omega) q7)
            refine d_val (fun _ => rfl) rfl rfl (fun σ5 => o_pickT rfl rfl) ?_
            refine d_val (fun _ => rfl) rfl rfl (fun σ5 => o_assign rfl) ?_
            refine d_nil (fun σ5 => ?_)
            refine l_nil ?_
            refine kt_norm ?_
            refine v_sel [4] [] rfl rfl ?_
            refine v_ret ?_
            refine ⟨[_], .cons (.tmp rfl) (ResAll.nil), ?_⟩
            rfl
        · skip
          refine l_val rfl (o_pickT rfl rfl) ?_
          refine l_val rfl (o_move rfl) ?_
          refine l_no rfl ?_
          refine l_no rfl ?_
          refine l_no rfl ?_
          refine l_val rfl (o_pickF rfl rfl) ?_
          refine l_val rfl (o_move rfl) ?_
          refine l_no rfl ?_
          refine l_no rfl ?_
          refine l_no rfl ?_
          refine l_no rfl ?_
          refine l_no rfl ?_
          refine l_no rfl ?_
          refine l_val rfl (o_pickF rfl rfl) ?_
          refine l_val rfl (o_pickF rfl rfl) ?_
          refine l_val rfl (o_move rfl) ?_
          refine l_ans (vs := []) rfl rfl (a_shown21) ?_
          refine l_val rfl (o_not rfl rfl) ?_
          refine l_val rfl (o_pickF rfl rfl) ?_
          refine l_nil ?_
          refine kt_norm ?_
          refine v_sel [0, 3, 43] [3] rfl rfl ?_
          refine v_condF rfl ?_
          refine v_skip ?_
          refine kt_norm ?_
          refine v_seq ?_
          refine v_region ?_
          refine l_val rfl (o_move rfl) ?_
          refine l_val rfl (o_loadW (key := 3) rfl rfl rfl) ?_
          refine l_call (ks := []) rfl (o_callC (vs := [_, _]) (r := .tuple #[.agg #[.int .i64 0, .int .i64 0, .slice none 0 0], .int .i64 190]) (ent_of Tryz.func7 rfl rfl) rfl (fun w' hg hh => a_coverN w' v X Y W H hvw)) ?_
          refine l_val rfl (o_move rfl) ?_
          refine l_val rfl (o_extract rfl rfl) ?_
          refine l_val rfl (o_extract rfl rfl) ?_
          refine l_new rfl o_alloc fun b5 => ?_
          refine l_store rfl (o_storeW (key := 5) (xs := [_, _, _]) rfl rfl rfl rfl rfl rfl rfl) ?_
          refine l_val rfl (o_assign rfl) ?_
          refine l_nil ?_
          refine kt_norm ?_
          refine v_sel [0, 3, 5, 6] [3, 5] rfl rfl ?_
          refine v_seq ?_
          refine v_drawP [(53, rowP (ps.length))] [[], [], [3], [], [], [], [], [], [7], []] mixed ?_ (by kernel_rfl) (by kernel_rfl)
          refine d_val (fun _ => rfl) rfl rfl (fun σ4 => o_move rfl) ?_
          refine d_gown (caps := #[]) (fun _ => rfl) (fun _ => rfl) (ent_of Tryz.func9 rfl rfl) (vs := fun _ => [_]) (fun _ => rfl) (fun _ h => h) (fun σ4 w' hg hh => r_pieces21 w' v pvs ps hvp (hat.keep hg)) ?_
          refine d_val (fun _ => rfl) rfl rfl (fun σ4 => o_loadW (key := 3) rfl rfl rfl) ?_
          refine d_gcall (y := .tuple #[.agg #[.int .i64 0, .int .i64 0, .slice none 0 0], .int .i64 190]) (caps := #[]) (fun _ => rfl) (fun _ => rfl) (ent_of Tryz.func8 rfl rfl) (vs := fun _ => [_, _]) (fun _ => rfl) (fun σ4 w' hg hh => r_coverN w' (σ4.v 53) X Y W H hvw) ?_
          refine d_val (fun _ => rfl) rfl rfl (fun σ4 => o_move rfl) ?_
          refine d_val (fun _ => rfl) rfl rfl (fun σ4 => o_extract rfl rfl) ?_
          refine d_val (fun _ => rfl) rfl rfl (fun σ4 => o_extract rfl rfl) ?_
          refine d_new (fun _ => rfl) rfl rfl (fun _ => o_alloc) ?_
          refine d_store (fun _ => rfl) rfl rfl (fun σ4 => o_storeW (key := 7) (xs := [_, _, _]) rfl rfl rfl rfl rfl rfl rfl) ?_
          refine d_val (fun _ => rfl) rfl rfl (fun σ4 => o_assign rfl) ?_
          refine d_nil (fun σ4 => ?_)
          refine l_nil ?_
          refine kt_norm ?_
          refine v_sel [5, 6, 7, 8] [5, 7] rfl rfl ?_
          refine v_seq ?_
          refine v_drawW [] [[5], [], [7], [], [], [], [], [], [], []] mixed ?_ (by kernel_rfl) (by kernel_rfl)
          refine d_val (fun _ => rfl) rfl rfl (fun σ5 => o_loadW (key := 5) rfl rfl rfl) ?_
          refine d_ans (vs := [_]) (fun _ => rfl) (fun _ => rfl) (r_its21 _ _ _ _ _) ?_
          refine d_val (fun _ => rfl) rfl rfl (fun σ5 => o_loadW (key := 7) rfl rfl rfl) ?_
          refine d_gcall (y := .bool true) (caps := #[]) (fun _ => rfl) (fun _ => rfl) (ent_of Tryz.func10 rfl rfl) (vs := fun _ => [_, _]) (fun _ => rfl) (fun σ5 w' hg hh => (show decide ((0 : Int) = 0 ∧ (0 : Int) = 0 ∧ ([] : List Int) = []) = true from decide_eq_true ⟨rfl, rfl, rfl⟩) ▸ r_SameG w' (.slice none 0 0) (.slice none 0 0) 0 0 0 0 [] [] (Nat.zero_le _) (Nat.zero_le _) .nil0 (rowAt_nilU w') .nil0 (rowAt_nilU w')) ?_
          refine d_val (fun _ => rfl) rfl rfl (fun σ5 => o_move rfl) ?_
          refine d_val (fun _ => rfl) rfl rfl (fun σ5 => o_move rfl) ?_
          refine d_val (fun _ => rfl) rfl rfl (fun σ5 => o_move rfl) ?_
          refine d_eql (fun _ => rfl) (fun _ => rfl) (fun _ => rfl) (fun q8 => ?_) (fun q8 => absurd (show _ by omega) q8)
          refine d_val (fun _ => rfl) rfl rfl (fun σ5 => o_pickT rfl rfl) ?_
          refine d_val (fun _ => rfl) rfl rfl (fun σ5 => o_assign rfl) ?_
          refine d_nil (fun σ5 => ?_)
          refine l_nil ?_
          refine kt_norm ?_
          refine v_sel [4] [] rfl rfl ?_
          refine v_ret ?_
          refine ⟨[_], .cons (.tmp rfl) (ResAll.nil), ?_⟩
          rfl
      · skip
        refine l_val rfl (o_pickT rfl rfl) ?_
        refine l_val rfl (o_move rfl) ?_
        refine l_no rfl ?_
        refine l_no rfl ?_
        refine l_no rfl ?_
        refine l_val rfl (o_pickF rfl rfl) ?_
        refine l_val rfl (o_move rfl) ?_
        refine l_no rfl ?_
        refine l_no rfl ?_
        refine l_no rfl ?_
        refine l_val rfl (o_pickF rfl rfl) ?_
        refine l_val rfl (o_move rfl) ?_
        refine l_no rfl ?_
        refine l_no rfl ?_
        refine l_no rfl ?_
        refine l_no rfl ?_
        refine l_no rfl ?_
        refine l_no rfl ?_
        refine l_val rfl (o_pickF rfl rfl) ?_
        refine l_val rfl (o_pickF rfl rfl) ?_
        refine l_val rfl (o_move rfl) ?_
        refine l_ans (vs := []) rfl rfl (a_shown21) ?_
        refine l_val rfl (o_not rfl rfl) ?_
        refine l_val rfl (o_pickF rfl rfl) ?_
        refine l_nil ?_
        refine kt_norm ?_
        refine v_sel [0, 3, 43] [3] rfl rfl ?_
        refine v_condF rfl ?_
        refine v_skip ?_
        refine kt_norm ?_
        refine v_seq ?_
        refine v_region ?_
        refine l_val rfl (o_move rfl) ?_
        refine l_val rfl (o_loadW (key := 3) rfl rfl rfl) ?_
        refine l_call (ks := []) rfl (o_callC (vs := [_, _]) (r := .tuple #[.agg #[.int .i64 0, .int .i64 0, .slice none 0 0], .int .i64 190]) (ent_of Tryz.func7 rfl rfl) rfl (fun w' hg hh => a_coverN w' v X Y W H hvw)) ?_
        refine l_val rfl (o_move rfl) ?_
        refine l_val rfl (o_extract rfl rfl) ?_
        refine l_val rfl (o_extract rfl rfl) ?_
        refine l_new rfl o_alloc fun b5 => ?_
        refine l_store rfl (o_storeW (key := 5) (xs := [_, _, _]) rfl rfl rfl rfl rfl rfl rfl) ?_
        refine l_val rfl (o_assign rfl) ?_
        refine l_nil ?_
        refine kt_norm ?_
        refine v_sel [0, 3, 5, 6] [3, 5] rfl rfl ?_
        refine v_seq ?_
        refine v_drawP [(53, rowP (ps.length))] [[], [], [3], [], [], [], [], [], [7], []] mixed ?_ (by kernel_rfl) (by kernel_rfl)
        refine d_val (fun _ => rfl) rfl rfl (fun σ4 => o_move rfl) ?_
        refine d_gown (caps := #[]) (fun _ => rfl) (fun _ => rfl) (ent_of Tryz.func9 rfl rfl) (vs := fun _ => [_]) (fun _ => rfl) (fun _ h => h) (fun σ4 w' hg hh => r_pieces21 w' v pvs ps hvp (hat.keep hg)) ?_
        refine d_val (fun _ => rfl) rfl rfl (fun σ4 => o_loadW (key := 3) rfl rfl rfl) ?_
        refine d_gcall (y := .tuple #[.agg #[.int .i64 0, .int .i64 0, .slice none 0 0], .int .i64 190]) (caps := #[]) (fun _ => rfl) (fun _ => rfl) (ent_of Tryz.func8 rfl rfl) (vs := fun _ => [_, _]) (fun _ => rfl) (fun σ4 w' hg hh => r_coverN w' (σ4.v 53) X Y W H hvw) ?_
        refine d_val (fun _ => rfl) rfl rfl (fun σ4 => o_move rfl) ?_
        refine d_val (fun _ => rfl) rfl rfl (fun σ4 => o_extract rfl rfl) ?_
        refine d_val (fun _ => rfl) rfl rfl (fun σ4 => o_extract rfl rfl) ?_
        refine d_new (fun _ => rfl) rfl rfl (fun _ => o_alloc) ?_
        refine d_store (fun _ => rfl) rfl rfl (fun σ4 => o_storeW (key := 7) (xs := [_, _, _]) rfl rfl rfl rfl rfl rfl rfl) ?_
        refine d_val (fun _ => rfl) rfl rfl (fun σ4 => o_assign rfl) ?_
        refine d_nil (fun σ4 => ?_)
        refine l_nil ?_
        refine kt_norm ?_
        refine v_sel [5, 6, 7, 8] [5, 7] rfl rfl ?_
        refine v_seq ?_
        refine v_drawW [] [[5], [], [7], [], [], [], [], [], [], []] mixed ?_ (by kernel_rfl) (by kernel_rfl)
        refine d_val (fun _ => rfl) rfl rfl (fun σ5 => o_loadW (key := 5) rfl rfl rfl) ?_
        refine d_ans (vs := [_]) (fun _ => rfl) (fun _ => rfl) (r_its21 _ _ _ _ _) ?_
        refine d_val (fun _ => rfl) rfl rfl (fun σ5 => o_loadW (key := 7) rfl rfl rfl) ?_
        refine d_gcall (y := .bool true) (caps := #[]) (fun _ => rfl) (fun _ => rfl) (ent_of Tryz.func10 rfl rfl) (vs := fun _ => [_, _]) (fun _ => rfl) (fun σ5 w' hg hh => (show decide ((0 : Int) = 0 ∧ (0 : Int) = 0 ∧ ([] : List Int) = []) = true from decide_eq_true ⟨rfl, rfl, rfl⟩) ▸ r_SameG w' (.slice none 0 0) (.slice none 0 0) 0 0 0 0 [] [] (Nat.zero_le _) (Nat.zero_le _) .nil0 (rowAt_nilU w') .nil0 (rowAt_nilU w')) ?_
        refine d_val (fun _ => rfl) rfl rfl (fun σ5 => o_move rfl) ?_
        refine d_val (fun _ => rfl) rfl rfl (fun σ5 => o_move rfl) ?_
        refine d_val (fun _ => rfl) rfl rfl (fun σ5 => o_move rfl) ?_
        refine d_eql (fun _ => rfl) (fun _ => rfl) (fun _ => rfl) (fun q9 => ?_) (fun q9 => absurd (show _ by omega) q9)
        refine d_val (fun _ => rfl) rfl rfl (fun σ5 => o_pickT rfl rfl) ?_
        refine d_val (fun _ => rfl) rfl rfl (fun σ5 => o_assign rfl) ?_
        refine d_nil (fun σ5 => ?_)
        refine l_nil ?_
        refine kt_norm ?_
        refine v_sel [4] [] rfl rfl ?_
        refine v_ret ?_
        refine ⟨[_], .cons (.tmp rfl) (ResAll.nil), ?_⟩
        rfl
    · skip
      refine l_val rfl (o_move rfl) ?_
      refine l_no rfl ?_
      refine l_no rfl ?_
      refine l_no rfl ?_
      refine l_val rfl (o_pickF rfl rfl) ?_
      refine l_val rfl (o_move rfl) ?_
      refine l_no rfl ?_
      refine l_no rfl ?_
      refine l_no rfl ?_
      refine l_val rfl (o_pickF rfl rfl) ?_
      refine l_val rfl (o_move rfl) ?_
      refine l_no rfl ?_
      refine l_no rfl ?_
      refine l_no rfl ?_
      refine l_val rfl (o_pickF rfl rfl) ?_
      refine l_val rfl (o_move rfl) ?_
      refine l_no rfl ?_
      refine l_no rfl ?_
      refine l_no rfl ?_
      refine l_no rfl ?_
      refine l_no rfl ?_
      refine l_no rfl ?_
      refine l_val rfl (o_pickF rfl rfl) ?_
      refine l_val rfl (o_pickF rfl rfl) ?_
      refine l_val rfl (o_move rfl) ?_
      refine l_ans (vs := []) rfl rfl (a_shown21) ?_
      refine l_val rfl (o_not rfl rfl) ?_
      refine l_val rfl (o_pickF rfl rfl) ?_
      refine l_nil ?_
      refine kt_norm ?_
      refine v_sel [0, 3, 43] [3] rfl rfl ?_
      refine v_condF rfl ?_
      refine v_skip ?_
      refine kt_norm ?_
      refine v_seq ?_
      refine v_region ?_
      refine l_val rfl (o_move rfl) ?_
      refine l_val rfl (o_loadW (key := 3) rfl rfl rfl) ?_
      refine l_call (ks := []) rfl (o_callC (vs := [_, _]) (r := .tuple #[.agg #[.int .i64 0, .int .i64 0, .slice none 0 0], .int .i64 190]) (ent_of Tryz.func7 rfl rfl) rfl (fun w' hg hh => a_coverN w' v X Y W H hvw)) ?_
      refine l_val rfl (o_move rfl) ?_
      refine l_val rfl (o_extract rfl rfl) ?_
      refine l_val rfl (o_extract rfl rfl) ?_
      refine l_new rfl o_alloc fun b5 => ?_
      refine l_store rfl (o_storeW (key := 5) (xs := [_, _, _]) rfl rfl rfl rfl rfl rfl rfl) ?_
      refine l_val rfl (o_assign rfl) ?_
      refine l_nil ?_
      refine kt_norm ?_
      refine v_sel [0, 3, 5, 6] [3, 5] rfl rfl ?_
      refine v_seq ?_
      refine v_drawP [(53, rowP (ps.length))] [[], [], [3], [], [], [], [], [], [7], []] mixed ?_ (by kernel_rfl) (by kernel_rfl)
      refine d_val (fun _ => rfl) rfl rfl (fun σ4 => o_move rfl) ?_
      refine d_gown (caps := #[]) (fun _ => rfl) (fun _ => rfl) (ent_of Tryz.func9 rfl rfl) (vs := fun _ => [_]) (fun _ => rfl) (fun _ h => h) (fun σ4 w' hg hh => r_pieces21 w' v pvs ps hvp (hat.keep hg)) ?_
      refine d_val (fun _ => rfl) rfl rfl (fun σ4 => o_loadW (key := 3) rfl rfl rfl) ?_
      refine d_gcall (y := .tuple #[.agg #[.int .i64 0, .int .i64 0, .slice none 0 0], .int .i64 190]) (caps := #[]) (fun _ => rfl) (fun _ => rfl) (ent_of Tryz.func8 rfl rfl) (vs := fun _ => [_, _]) (fun _ => rfl) (fun σ4 w' hg hh => r_coverN w' (σ4.v 53) X Y W H hvw) ?_
      refine d_val (fun _ => rfl) rfl rfl (fun σ4 => o_move rfl) ?_
      refine d_val (fun _ => rfl) rfl rfl (fun σ4 => o_extract rfl rfl) ?_
      refine d_val (fun _ => rfl) rfl rfl (fun σ4 => o_extract rfl rfl) ?_
      refine d_new (fun _ => rfl) rfl rfl (fun _ => o_alloc) ?_
      refine d_store (fun _ => rfl) rfl rfl (fun σ4 => o_storeW (key := 7) (xs := [_, _, _]) rfl rfl rfl rfl rfl rfl rfl) ?_
      refine d_val (fun _ => rfl) rfl rfl (fun σ4 => o_assign rfl) ?_
      refine d_nil (fun σ4 => ?_)
      refine l_nil ?_
      refine kt_norm ?_
      refine v_sel [5, 6, 7, 8] [5, 7] rfl rfl ?_
      refine v_seq ?_
      refine v_drawW [] [[5], [], [7], [], [], [], [], [], [], []] mixed ?_ (by kernel_rfl) (by kernel_rfl)
      refine d_val (fun _ => rfl) rfl rfl (fun σ5 => o_loadW (key := 5) rfl rfl rfl) ?_
      refine d_ans (vs := [_]) (fun _ => rfl) (fun _ => rfl) (r_its21 _ _ _ _ _) ?_
      refine d_val (fun _ => rfl) rfl rfl (fun σ5 => o_loadW (key := 7) rfl rfl rfl) ?_
      refine d_gcall (y := .bool true) (caps := #[]) (fun _ => rfl) (fun _ => rfl) (ent_of Tryz.func10 rfl rfl) (vs := fun _ => [_, _]) (fun _ => rfl) (fun σ5 w' hg hh => (show decide ((0 : Int) = 0 ∧ (0 : Int) = 0 ∧ ([] : List Int) = []) = true from decide_eq_true ⟨rfl, rfl, rfl⟩) ▸ r_SameG w' (.slice none 0 0) (.slice none 0 0) 0 0 0 0 [] [] (Nat.zero_le _) (Nat.zero_le _) .nil0 (rowAt_nilU w') .nil0 (rowAt_nilU w')) ?_
      refine d_val (fun _ => rfl) rfl rfl (fun σ5 => o_move rfl) ?_
      refine d_val (fun _ => rfl) rfl rfl (fun σ5 => o_move rfl) ?_
      refine d_val (fun _ => rfl) rfl rfl (fun σ5 => o_move rfl) ?_
      refine d_eql (fun _ => rfl) (fun _ => rfl) (fun _ => rfl) (fun q10 => ?_) (fun q10 => absurd (show _ by omega) q10)
      refine d_val (fun _ => rfl) rfl rfl (fun σ5 => o_pickT rfl rfl) ?_
      refine d_val (fun _ => rfl) rfl rfl (fun σ5 => o_assign rfl) ?_
      refine d_nil (fun σ5 => ?_)
      refine l_nil ?_
      refine kt_norm ?_
      refine v_sel [4] [] rfl rfl ?_
      refine v_ret ?_
      refine ⟨[_], .cons (.tmp rfl) (ResAll.nil), ?_⟩
      rfl
  · skip
    refine l_val rfl (o_not rfl rfl) ?_
    refine l_val rfl (o_move rfl) ?_
    refine l_no rfl ?_
    refine l_no rfl ?_
    refine l_no rfl ?_
    refine l_no rfl ?_
    refine l_no rfl ?_
    refine l_no rfl ?_
    refine l_no rfl ?_
    refine l_no rfl ?_
    refine l_no rfl ?_
    refine l_no rfl ?_
    refine l_no rfl ?_
    refine l_no rfl ?_
    refine l_no rfl ?_
    refine l_no rfl ?_
    refine l_no rfl ?_
    refine l_no rfl ?_
    refine l_no rfl ?_
    refine l_no rfl ?_
    refine l_no rfl ?_
    refine l_no rfl ?_
    refine l_no rfl ?_
    refine l_no rfl ?_
    refine l_no rfl ?_
    refine l_no rfl ?_
    refine l_no rfl ?_
    refine l_no rfl ?_
    refine l_val rfl (o_pickT rfl rfl) ?_
    refine l_val rfl (o_move rfl) ?_
    refine l_no rfl ?_
    refine l_no rfl ?_
    refine l_val rfl (o_pickT rfl rfl) ?_
    refine l_nil ?_
    refine kt_norm ?_
    refine v_sel [0, 3, 43] [3] rfl rfl ?_
    refine v_condT rfl ?_
    refine v_seq ?_
    refine v_region ?_
    refine l_ans (vs := []) rfl rfl (a_shown21) ?_
    refine l_val rfl (o_assign rfl) ?_
    refine l_nil ?_
    refine kt_norm ?_
    refine v_ret ?_
    refine kt_ret ?_
    refine ⟨[_], .cons (.tmp rfl) (ResAll.nil), ?_⟩
    rfl
theorem a_CoverTells (w : World) (v : Value) (pvs : List Value) (ps : List (List PtT)) (X Y W H : Int) (hv : PcsW v pvs ps) (hat : PcsAt w v pvs ps) : Calls Tryz.prog 3 #[v, .agg #[.int .i64 X, .int .i64 Y, .int .i64 W, .int .i64 H]] w fun e w' => e = .returned (.bool true) ∧ Below w.heap.size w w' := by
  by_cases hvw : ViewOk X Y W H
  · have vd := (viewOk_def X Y W H).1 hvw
    obtain ⟨n, rfl⟩ : ∃ k : Nat, (k : Int) = W := ⟨W.toNat, by omega⟩
    obtain ⟨h, rfl⟩ : ∃ k : Nat, (k : Int) = H := ⟨H.toNat, by omega⟩
    exact a_CoverTellsY w v pvs ps X Y n h hvw hv hat
  · exact a_CoverTellsN w v pvs ps X Y W H hvw hv hat
end Go.Proofs.YtllhohbenniaaaaGreat
