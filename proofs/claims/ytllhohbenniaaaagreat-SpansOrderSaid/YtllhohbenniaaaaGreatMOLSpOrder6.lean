import Derived.Test.YtllhohbenniaaaaGreatM1
import Derived.Test.YtllhohbenniaaaaGreatM2
import Derived.Test.YtllhohbenniaaaaGreatM3
import Derived.Test.YtllhohbenniaaaaGreatM4
import Derived.Test.YtllhohbenniaaaaGreatM5
import Derived.Test.YtllhohbenniaaaaGreatM6
/- Spans are the same, in whatever order the pieces come, also if they come again. Conditions: none. -/
namespace Go.Proofs.YtllhohbenniaaaaGreat
open Go.Proofs Go.RowKit Go.Shelf

variable {C : Cx} {K : Exit → St → Prop} {ops : Array Oper} {rest : List Oper} {l : List (Nat × Value)} {m : List (Nat × Hp)} {g : World → Prop} {gb : Nat → Prop} {dd : List Nat} in
theorem l_capd (key : Nat) {v : Value} {E esz n : Nat} {xs : List Value} (hk : lk m key = some (.own v E esz n xs)) (next : Capd v → VL C ops rest K (mk l m g gb dd)) : VL C ops rest K (mk l m g gb dd) :=
  fun a w hr => next (capd_own (hr.mo key _ hk).1) a w hr
def All2 (R : Value → List PtT → Prop) (vs : List Value) (ps : List (List PtT)) : Prop := vs.length = ps.length ∧ ∀ i, i < ps.length → R (vs.getD i undef) (ps.getD i [])
theorem All2.append {R : Value → List PtT → Prop} {a b : List Value} {p q : List (List PtT)} (h : All2 R a p) (k : All2 R b q) : All2 R (a ++ b) (p ++ q) := by
  refine ⟨by rw [List.length_append, List.length_append, h.1, k.1], fun i hi => ?_⟩
  rw [List.length_append] at hi
  rw [List.getD_eq_getElem?_getD, List.getD_eq_getElem?_getD, List.getElem?_append, List.getElem?_append, h.1]
  by_cases e : i < p.length
  · rw [if_pos e, if_pos e, ← List.getD_eq_getElem?_getD, ← List.getD_eq_getElem?_getD]; exact h.2 i e
  · rw [if_neg e, if_neg e, ← List.getD_eq_getElem?_getD, ← List.getD_eq_getElem?_getD]; exact k.2 _ (by omega)
theorem All2.drop {R : Value → List PtT → Prop} {a : List Value} {p : List (List PtT)} (h : All2 R a p) (k : Nat) : All2 R (a.drop k) (p.drop k) := by
  refine ⟨by rw [List.length_drop, List.length_drop, h.1], fun i hi => ?_⟩
  rw [List.length_drop] at hi
  rw [List.getD_eq_getElem?_getD, List.getD_eq_getElem?_getD, List.getElem?_drop, List.getElem?_drop, ← List.getD_eq_getElem?_getD, ← List.getD_eq_getElem?_getD]
  exact h.2 _ (by omega)
theorem All2.take {R : Value → List PtT → Prop} {a : List Value} {p : List (List PtT)} (h : All2 R a p) (k : Nat) : All2 R (a.take k) (p.take k) := by
  refine ⟨by rw [List.length_take, List.length_take, h.1], fun i hi => ?_⟩
  rw [List.length_take] at hi
  rw [List.getD_eq_getElem?_getD, List.getD_eq_getElem?_getD, List.getElem?_take_of_lt (by omega), List.getElem?_take_of_lt (by omega), ← List.getD_eq_getElem?_getD, ← List.getD_eq_getElem?_getD]
  exact h.2 _ (by omega)
theorem All2.nil {R : Value → List PtT → Prop} : All2 R [] [] := ⟨rfl, fun i hi => absurd hi (Nat.not_lt_zero i)⟩
theorem All2.one {R : Value → List PtT → Prop} {u : Value} {pc : List PtT} (h : R u pc) : All2 R [u] [pc] := ⟨rfl, fun i hi => by
  obtain rfl : i = 0 := by simpa using hi
  exact h⟩
def RV (u : Value) (pc : List PtT) : Prop := RowV u pc.length
def RP (w : World) (u : Value) (pc : List PtT) : Prop := RowAt w u 2 pc.length (pc.flatMap eP)
theorem PcsW.all {v : Value} {vs : List Value} {ps : List (List PtT)} (h : PcsW v vs ps) : All2 RV vs ps := ⟨h.lenv, h.pV⟩
theorem pcsW_of {v : Value} {vs : List Value} {ps : List (List PtT)} (h : RowV v ps.length) (hl : ps.length ≤ 1000000) (k : All2 RV vs ps) : PcsW v vs ps := ⟨h, k.1, by omega, k.2⟩
theorem PcsAt.all {w : World} {v : Value} {vs : List Value} {ps : List (List PtT)} (h : PcsAt w v vs ps) (hw : PcsW v vs ps) : All2 (RP w) vs ps := ⟨hw.lenv, h.pc⟩
theorem pcsAt_of {w : World} {v : Value} {vs : List Value} {ps : List (List PtT)} (h : RowAt w v 1 ps.length vs) (k : All2 (RP w) vs ps) : PcsAt w v vs ps := ⟨h, k.2⟩
theorem oriT_len (pc : List PtT) : (oriT pc).length = pc.length := by unfold oriT; split; exact List.length_reverse; rfl
theorem oriT_bnd {pc : List PtT} (h : BndP pc) : BndP (oriT pc) := by
  refine ⟨by rw [oriT_len]; exact h.1, fun j hj => ?_⟩
  have hm : (oriT pc).getD j dP ∈ oriT pc := pt_mem hj
  have hm2 : (oriT pc).getD j dP ∈ pc := by
    generalize (oriT pc).getD j dP = p at hm
    unfold oriT at hm
    split at hm
    · exact List.mem_reverse.1 hm
    · exact hm
  exact h.near _ hm2
theorem putT_yes {qs : List (List PtT)} {pc : List PtT} (h : convexB (oriT pc) = true) : putT qs pc = qs ++ [oriT pc] := if_pos h
theorem putT_no {qs : List (List PtT)} {pc : List PtT} (h : convexB (oriT pc) = false) : putT qs pc = qs := if_neg (by rw [h]; exact Bool.false_ne_true)
theorem put_mem {ps : List (List PtT)} : ∀ k, k ≤ ps.length → ∀ q ∈ putAll ps k, ∃ pc ∈ ps, q = oriT pc ∧ convexB (oriT pc) = true
  | 0, _, q, h => by simp [putAll] at h
  | k + 1, hk, q, h => by
    rw [putAll_succ (by omega)] at h
    have hm : ps.getD k [] ∈ ps := by
      rw [List.getD_eq_getElem?_getD, List.getElem?_eq_getElem (show k < ps.length by omega)]; exact List.getElem_mem _
    unfold putT at h
    split at h
    · rename_i hc
      rcases List.mem_append.1 h with h | h
      · exact put_mem k (by omega) q h
      · rw [List.mem_singleton.1 h]; exact ⟨_, hm, rfl, hc⟩
    · exact put_mem k (by omega) q h
theorem put_bnd {ps : List (List PtT)} (h : Bn20 ps) : Bn20 (putAll ps ps.length) := by
  have hl := putAll_len ps ps.length (Nat.le_refl _)
  refine ⟨by have := h.1; omega, fun i hi => ?_⟩
  have hm : (putAll ps ps.length).getD i [] ∈ putAll ps ps.length := by
    rw [List.getD_eq_getElem?_getD, List.getElem?_eq_getElem hi]; exact List.getElem_mem _
  obtain ⟨pc, hp, e, _⟩ := put_mem ps.length (Nat.le_refl _) _ hm
  rw [e]
  exact oriT_bnd (h.bnd.x.mem hp)
theorem ord_bnd {qs : List (List PtT)} (h : Bn20 qs) (k : Nat) (hk : k ≤ qs.length) : BndX (qs.drop k ++ qs.take k ++ qs) := by
  refine ⟨by simp only [List.length_append, List.length_drop, List.length_take]; have := h.1; omega, fun i hi => ?_⟩
  have hm : (qs.drop k ++ qs.take k ++ qs).getD i [] ∈ qs.drop k ++ qs.take k ++ qs := by
    rw [List.getD_eq_getElem?_getD, List.getElem?_eq_getElem hi]; exact List.getElem_mem _
  have : (qs.drop k ++ qs.take k ++ qs).getD i [] ∈ qs := by
    rcases List.mem_append.1 hm with h1 | h1
    · rcases List.mem_append.1 h1 with h1 | h1
      · exact List.mem_of_mem_drop h1
      · exact List.mem_of_mem_take h1
    · exact h1
  exact h.bnd.x.mem this
theorem ord_len {qs : List (List PtT)} {k : Nat} (hk : k ≤ qs.length) : (qs.drop k ++ qs.take k ++ qs).length = 0 + (qs.length - k) + k + qs.length := by
  simp only [List.length_append, List.length_drop, List.length_take]; omega
theorem rowAt_takeV {w : World} {v : Value} {esz n : Nat} {xs : List Value} (h : RowAt w v esz n xs) {hi : Nat} (hle : hi ≤ n) : RowAt w (subTo v hi) esz hi (xs.take (hi * esz)) := rowAt_to h hle
theorem o_sliceToC {C : Cx} {s : St} {d : Option Nat} {x z : Operand} {T E ty : TypeId} {pos : String} {aft : Array Edge} {gd : Option (Nat × Bool)} {v : Value} {n esz : Nat} {k : IntKind} {q : Int} (hi : Nat) [ht : TSl C.P T E esz] (h : ev C s x = some v) (hv : RowV v n) (hcap : Capd v) (h2 : ev C s z = some (.int k q)) (hq : q = ((hi : Nat) : Int)) (hle : hi ≤ n) :
    OpV C s ⟨d, .slice T x none (some z) none, ty, pos, aft, gd⟩ [] (subTo v hi) := opv _ _ (by simp) fun ρ w hr => by
  have hx := rd1 hr (x := x) (by simp [Op.operands]) h
  have hz := rd1 hr (x := z) (by simp [Op.operands]) h2
  subst hq
  obtain ⟨b, c, rfl⟩ := hv.sl
  have h6 := hcap _ _ _ rfl
  simp [execOp, hx, hz, run_sliceTo (P := C.P) (w := w) (T := T) (k := k) (b := b) n (show hi ≤ c by omega), Sem.run_bind, Result.andThen, subTo]
/-- what a put comes to: nothing, or a slice and a row -/
abbrev PutX (n m : Nat) := Option {x : Value × Value // RowV x.1 (n + 1) ∧ Capd x.1 ∧ RowV x.2 m}
def putV {n m : Nat} (v : Value) (o : PutX n m) : Value := match o with | none => v | some x => x.1.1
def putW {n m : Nat} (vs : List Value) (o : PutX n m) : List Value := match o with | none => vs | some x => vs ++ [x.1.2]
def putG {n m : Nat} (vs : List Value) (pc : List PtT) (o : PutX n m) (w : World) : Prop := match o with | none => True | some x => (Hp.own x.1.1 45 1 (n + 1) (vs ++ [x.1.2])).ok w ∧ (Hp.own x.1.2 56 2 m ((oriT pc).flatMap eP)).ok w
def putB {n m : Nat} (o : PutX n m) (b : Nat) : Prop := match o with | none => False | some x => x.1.1.ownBlock = some b ∨ x.1.2.ownBlock = some b
abbrev PutY (n : Nat) (pc : List PtT) := {o : PutX n pc.length // o.isSome = convexB (oriT pc)}
theorem putG_keep {n m : Nat} {vs : List Value} {pc : List PtT} (o : PutX n m) (w1 w2 : World) (h : putG vs pc o w1) (hb : ∀ b, putB o b → w2.heap[b]? = w1.heap[b]?) : putG vs pc o w2 := by
  match o, h, hb with
  | none, _, _ => trivial
  | some x, h, hb => exact ⟨Hp.keep h.1 fun b e => hb b (.inl e), Hp.keep h.2 fun b e => hb b (.inr e)⟩
theorem putG_lt {n m : Nat} {vs : List Value} {pc : List PtT} (o : PutX n m) (w1 : World) (b : Nat) (h : putG vs pc o w1) (hb : putB o b) : b < w1.heap.size := by
  match o, h, hb with
  | some x, h, hb => exact hb.elim (fun e => Hp.lt h.1 e) (fun e => Hp.lt h.2 e)
theorem capd_put {n m : Nat} {v : Value} (h : Capd v) (o : PutX n m) : Capd (putV v o) := by
  match o with
  | none => exact h
  | some x => exact x.2.2.1
theorem pcsW_put {v : Value} {vs : List Value} {qs : List (List PtT)} {pc : List PtT} (h : PcsW v vs qs) (hl : qs.length ≤ 100000) (o : PutY qs.length pc) : PcsW (putV v o.1) (putW vs o.1) (putT qs pc) := by
  obtain ⟨o, ho⟩ := o
  match o, ho with
  | none, ho => rw [putT_no ho.symm]; exact h
  | some x, ho =>
    rw [putT_yes ho.symm]
    exact pcsW_of (by rw [List.length_append]; exact x.2.1) (by rw [List.length_append, List.length_singleton]; omega) (h.all.append (.one (by unfold RV; rw [oriT_len]; exact x.2.2.2)))
theorem pcsAt_put {w : World} {v : Value} {vs : List Value} {qs : List (List PtT)} {pc : List PtT} (hW : PcsW v vs qs) (h : PcsAt w v vs qs) (o : PutY qs.length pc) (hg : putG vs pc o.1 w) : PcsAt w (putV v o.1) (putW vs o.1) (putT qs pc) := by
  obtain ⟨o, ho⟩ := o
  match o, ho, hg with
  | none, ho, _ => rw [putT_no ho.symm]; exact h
  | some x, ho, hg =>
    rw [putT_yes ho.symm]
    exact pcsAt_of (by rw [List.length_append]; exact rowAt_own hg.1) ((h.all hW).append (.one (by unfold RP; rw [oriT_len]; exact rowAt_own hg.2)))
theorem a_Put (w : World) (a : Option Addr) (n c : Nat) (pvs : List Value) (u : Value) (pc : List PtT) (hn : n ≤ 1000000) (hcap : n ≤ c) (hV : RowV (.slice a n c) n) (hrow : RowAt w (.slice a n c) 1 n pvs) (hs : pc.length ≤ 1000000) (hU : RowV u pc.length) (hrowU : RowAt w u 2 pc.length (pc.flatMap eP)) (hnear : ∀ p ∈ pc, NearT p) :
    Calls Tryz.prog 15 #[.slice a n c, u] w fun e w' => ∃ o : PutY n pc, e = .returned (putV (.slice a n c) o.1) ∧ Below w.heap.size w w' ∧ putG pvs pc o.1 w' ∧ ∀ b, putB o.1 b → w.heap.size ≤ b := by
  by_cases hcx : convexB (oriT pc) = true
  · exact (a_PutYes w a n c pvs u pc hn hcap hV hrow hs hU hrowU hnear hcx).mono fun e w2 ⟨x, h1, h2, h3, h4⟩ => ⟨⟨some ⟨x, rowV_own h3.1, capd_own h3.1, rowV_own h3.2⟩, hcx.symm⟩, h1, h2, h3, h4⟩
  · rw [Bool.not_eq_true] at hcx
    exact (a_PutNo w a n c pvs u pc hn hcap hV hrow hs hU hrowU hnear hcx).mono fun e w2 ⟨h1, h2⟩ => ⟨⟨none, hcx.symm⟩, h1, h2, trivial, fun b hb => hb.elim⟩
set_option maxHeartbeats 4000000 in
theorem a_SpansOrder (w : World) (v : Value) (pvs : List Value) (ps : List (List PtT)) (k r : Int) (hv : PcsW v pvs ps) (hat : PcsAt w v pvs ps) (hk : 0 ≤ k ∧ k < 256) : Calls Tryz.prog 4 #[v, .int .u8 k, .int .i64 r] w fun e w' => e = .returned (.bool true) ∧ Below w.heap.size w w' := by
  have hVp := hv.V
  have hlen := hv.len
  have hrowP : ∀ w', Chg (fun _ => False) w w' → RowAt w' v 1 ps.length pvs := fun w' h => (hat.keep h).row
  refine calls_of (args := [v, .int .u8 k, .int .i64 r]) Tryz.func4 rfl Tryz.ntmps4 Tryz.results4 rfl ?_
  refine v_seq ?_
  refine v_region ?_
  refine l_val rfl (o_assign rfl) ?_
  refine l_nil ?_
  refine kt_norm ?_
  refine v_seq ?_
  refine v_seq ?_
  refine v_region ?_
  refine l_val rfl (o_move rfl) ?_
  refine l_call (ks := []) rfl (o_callC (vs := [_]) (r := .bool (decide (Bn20 ps))) (ent_of Tryz.func12 rfl rfl) rfl (fun w' hg hh => a_bounded20 w' _ pvs ps hv (hat.keep hg))) ?_
  refine lz_bool (fun hbb => ?_) (fun hbb => ?_)
  · have hb := hbb.bnd
    have hvp := hb.pcsV hv
    have h320 := edgesAll_len hb
    have hso := all_spOk hb r
    have hsl : (rowS (crs r (liveT r (edgesAll ps)))).length ≤ (edgesAll ps).length := by have h1 := rowS_len (crs r (liveT r (edgesAll ps))); rw [crs_len] at h1; exact Nat.le_trans h1 (List.length_filter_le _ _)
    have hp12 := hbb.1
    refine l_val rfl (o_not rfl rfl) ?_
    refine l_val rfl (o_move rfl) ?_
    refine l_val rfl (o_move rfl) ?_
    refine l_ans (vs := [_]) rfl rfl (a_row20 _) ?_
    refine lz_bool (fun q1 => ?_) (fun q1 => ?_)
    · skip
      refine l_val rfl (o_not rfl rfl) ?_
      refine l_val rfl (o_pickF rfl rfl) ?_
      refine l_val rfl (o_move rfl) ?_
      refine l_val rfl (o_move rfl) ?_
      refine l_val rfl (o_len rfl hVp) ?_
      refine l_split rfl (o_eql rfl rfl) (fun q2 => ?_) (fun q2 => ?_)
      · skip
        refine l_val rfl (o_pickF rfl rfl) ?_
        refine l_val rfl (o_move rfl) ?_
        refine l_no rfl ?_
        refine l_no rfl ?_
        refine l_val rfl (o_pickT rfl rfl) ?_
        refine l_nil ?_
        refine kt_norm ?_
        refine v_sel [0, 1, 2, 27] [] rfl rfl ?_
        refine v_condT rfl ?_
        refine v_seq ?_
        refine v_region ?_
        refine l_ans (vs := []) rfl rfl (a_shown20) ?_
        refine l_val rfl (o_assign rfl) ?_
        refine l_nil ?_
        refine kt_norm ?_
        refine v_ret ?_
        refine kt_ret ?_
        refine ⟨[_], .cons (.tmp rfl) (ResAll.nil), ?_⟩
        rfl
      · skip
        refine l_val rfl (o_pickF rfl rfl) ?_
        refine l_val rfl (o_move rfl) ?_
        refine l_ans (vs := []) rfl rfl (a_shown20) ?_
        refine l_val rfl (o_not rfl rfl) ?_
        refine l_val rfl (o_pickF rfl rfl) ?_
        refine l_nil ?_
        refine kt_norm ?_
        refine v_sel [0, 1, 2, 27] [] rfl rfl ?_
        refine v_condF rfl ?_
        refine v_skip ?_
        refine kt_norm ?_
        refine v_seq ?_
        refine v_region ?_
        refine l_buildSlice (vs := []) (cs := []) rfl rfl rfl rfl rfl rfl fun v29 hv29 => ?_
        refine l_capd 29 rfl fun hcap0 => ?_
        refine l_val rfl (o_assign rfl) ?_
        refine l_nil ?_
        refine kt_norm ?_
        refine v_seq ?_
        refine v_seq ?_
        refine v_region ?_
        refine l_val rfl (o_assign rfl) ?_
        refine l_nil ?_
        refine kt_norm ?_
        refine v_block ?_
        refine v_loopL (α := Nat × Value × List Value × (World → Prop) × (Nat → Prop)) (fun ⟨i, tv, qvs, G, B⟩ => [(8, .int .i64 (i : Int)), (7, tv)]) (fun ⟨i, tv, qvs, G, B⟩ => []) (fun ⟨i, tv, qvs, G, B⟩ => G) (fun ⟨i, tv, qvs, G, B⟩ => B) (fun ⟨i, tv, qvs, G, B⟩ => i ≤ ps.length ∧ PcsW tv qvs (putAll ps i) ∧ Capd tv ∧ ∀ w2, G w2 → Chg (fun _ => False) w w2 ∧ PcsAt w2 tv qvs (putAll ps i)) (fun ⟨i, tv, qvs, G, B⟩ => ps.length - i) (0, v29, [], fun w2 => Chg (fun _ => False) w w2, fun b => b < w.heap.size ∧ ¬ False) [0, 1, 2] [] ⟨Nat.zero_le _, pcsW_of hv29 (Nat.zero_le _) .nil, hcap0, fun w2 hw => ⟨hw, pcsAt_of ⟨rfl, fun j u hu => by simp at hu, fun u hu => by simp at hu⟩ .nil⟩⟩ rfl rfl (And.intro rfl (And.intro rfl (True.intro))) rfl (True.intro) rfl ?_
        rintro ⟨i, tv, qvs, G, B⟩ ⟨hi, hQ, hcp, hG⟩
        refine v_seq ?_
        refine v_seq ?_
        refine v_region ?_
        refine l_val rfl (o_move rfl) ?_
        refine l_val rfl (o_move rfl) ?_
        refine l_val rfl (o_len rfl hVp) ?_
        refine l_split rfl (o_lss rfl rfl) (fun q3 => ?_) (fun q3 => ?_)
        · have hil : i < ps.length := by omega
          have hpl := putAll_len ps i (by omega)
          obtain ⟨pc, hpc⟩ : ∃ pc, ps.getD i [] = pc := ⟨_, rfl⟩
          have hps := putAll_succ hil
          have hVq := hvp.pV i hil
          have hnear := hvp.near i hil
          have hbi := (hbb.2 i hil).1
          have hrowQ : ∀ w', Chg (fun _ => False) w w' → RowAt w' (pvs.getD i undef) 2 (ps.getD i []).length ((ps.getD i []).flatMap eP) := fun w' h => (hat.keep h).pc i hil
          rw [hpc] at hVq hnear hrowQ hbi hps
          refine l_nil ?_
          refine kt_norm ?_
          refine v_condT rfl ?_
          refine v_skip ?_
          refine kt_norm ?_
          refine v_seq ?_
          refine v_block ?_
          refine v_region ?_
          refine l_val rfl (o_move rfl) ?_
          refine l_val rfl (o_move rfl) ?_
          refine l_val rfl (o_move rfl) ?_
          refine l_val rfl (o_idx (i) rfl hVp rfl (by first | rfl | omega) (by omega)) ?_
          refine l_val rfl (o_loadR1 rfl (row_imm (fun w2 hg => hrowP w2 (hG w2 hg).1)) (el_one (by rw [hv.lenv]; exact hil))) ?_
          obtain ⟨aT, cT, rfl⟩ := hQ.V.sl
          refine l_gsaid (ks := []) (caps := #[]) (vs := [_, _]) (α := PutY (putAll ps i).length pc) (fun o => putV _ o.1) (fun o w2 => putG qvs pc o.1 w2) (fun o b => putB o.1 b) rfl rfl (ent_of Tryz.func15 rfl rfl) rfl (fun o => putG_keep o.1) (fun o => putG_lt o.1) (fun w' hg hh => a_Put w' aT (putAll ps i).length cT qvs (pvs.getD i undef) pc (by omega) (hcp _ _ _ rfl) hQ.V (hG w' hg).2.row (by omega) hVq (hrowQ w' (hG w' hg).1) hnear) fun o => ?_
          refine l_val rfl (o_assign rfl) ?_
          refine l_nil ?_
          refine kb_norm ?_
          refine kt_norm ?_
          refine v_sel [8, 7, 0, 1, 2] [] rfl rfl ?_
          refine v_region ?_
          refine l_val rfl (o_move rfl) ?_
          refine l_val rfl (o_addi rfl rfl ?_) ?_
          · omega
          refine l_val rfl (o_assign rfl) ?_
          refine l_nil ?_
          refine kt_norm ?_
          refine ⟨(i + 1, putV (.slice aT (putAll ps i).length cT) o.1, putW qvs o.1, fun w2 => G w2 ∧ putG qvs pc o.1 w2, fun b => B b ∨ putB o.1 b), ⟨hil, by rw [hps]; exact pcsW_put hQ (by omega) o, capd_put hcp o.1, fun w2 hw => ⟨(hG w2 hw.1).1, by rw [hps]; exact pcsAt_put hQ (hG w2 hw.1).2 o hw.2⟩⟩, (by show ps.length - (i + 1) < ps.length - i; omega), le_app (And.intro rfl (And.intro rfl (True.intro))) [0, 1, 2] rfl (True.intro) [] rfl⟩
        · skip
          refine l_nil ?_
          refine kt_norm ?_
          refine v_condF rfl ?_
          refine v_exit ?_
          refine kt_exit ?_
          refine kt_exit ?_
          refine kb_eq ?_
          refine kt_norm ?_
          refine v_sel [7, 1, 2] [] rfl rfl ?_
          refine v_seq ?_
          refine v_region ?_
          refine l_val rfl (o_assign rfl) ?_
          refine l_nil ?_
          refine kt_norm ?_
          refine v_seq ?_
          refine v_seq ?_
          refine v_region ?_
          refine l_val rfl (o_move rfl) ?_
          refine l_val rfl (o_len rfl hQ.V) ?_
          refine l_split rfl (o_gtr rfl rfl) (fun q4 => ?_) (fun q4 => ?_)
          · skip
            refine l_nil ?_
            refine kt_norm ?_
            refine v_condT rfl ?_
            refine v_region ?_
            refine l_val rfl (o_move rfl) ?_
            refine l_val rfl (o_convi rfl ?_) ?_
            · omega
            refine l_val rfl (o_move rfl) ?_
            refine l_val rfl (o_len rfl hQ.V) ?_
            refine l_val rfl (o_remn rfl rfl ?_) ?_
            · omega
            refine l_val rfl (o_assign rfl) ?_
            refine l_nil ?_
            refine kt_norm ?_
            refine v_sel [7, 2, 9] [] rfl rfl ?_
            refine v_seq ?_
            obtain rfl : i = ps.length := by omega
            have hm1 := Int.emod_nonneg k (show (((putAll ps ps.length).length : Nat) : Int) ≠ 0 by omega)
            have hm2 := Int.emod_lt_of_pos k (show 0 < (((putAll ps ps.length).length : Nat) : Int) by omega)
            have hb2 := put_bnd hbb
            have hn12 := hb2.1
            obtain ⟨K0, hK0, hKn⟩ : ∃ K0 : Nat, (k % (((putAll ps ps.length).length : Nat) : Int) : Int) = (K0 : Int) ∧ K0 ≤ (putAll ps ps.length).length := ⟨(k % (((putAll ps ps.length).length : Nat) : Int)).toNat, by omega, by omega⟩
            have hbx := ord_bnd hb2 K0 hKn
            have hol := ord_len hKn
            have h384 := edgesAll_lenX hbx
            have h3202 := edgesAll_len hb2.bnd
            have hro := row_order r (putAll ps ps.length) K0
            have hso2 := all_spOk hb2.bnd r
            have hsl2 : (rowS (crs r (liveT r (edgesAll (putAll ps ps.length))))).length ≤ (edgesAll (putAll ps ps.length)).length := by have h1 := rowS_len (crs r (liveT r (edgesAll (putAll ps ps.length)))); rw [crs_len] at h1; exact Nat.le_trans h1 (List.length_filter_le _ _)
            have hqv := hQ.lenv
            have hdv : All2 RV (qvs.drop K0 ++ qvs.take K0 ++ qvs) ((putAll ps ps.length).drop K0 ++ (putAll ps ps.length).take K0 ++ (putAll ps ps.length)) := ((hQ.all.drop K0).append (hQ.all.take K0)).append hQ.all
            have hda : ∀ w2, G w2 → All2 (RP w2) (qvs.drop K0 ++ qvs.take K0 ++ qvs) ((putAll ps ps.length).drop K0 ++ (putAll ps ps.length).take K0 ++ (putAll ps ps.length)) := fun w2 h => (((((hG w2 h).2.all hQ).drop K0).append (((hG w2 h).2.all hQ).take K0))).append ((hG w2 h).2.all hQ)
            refine v_drawW [(54, 0 + ((putAll ps ps.length).length - K0)), (58, 0 + ((putAll ps ps.length).length - K0) + K0), (60, 0 + ((putAll ps ps.length).length - K0) + K0 + (putAll ps ps.length).length)] [[], [], [], [], [50], [], [], [], [50], [], [50], []] mixed ?_ (by kernel_rfl) (by kernel_rfl)
            refine d_bsO (n := 0) (vs := fun _ => []) (cs := fun _ => []) (fun _ => rfl) (fun _ => rfl) (fun _ => rfl) rfl rfl (fun _ => rfl) (fun _ => rfl) ?_
            refine d_val (fun _ => rfl) rfl rfl (fun σ11 => o_move rfl) ?_
            refine d_val (fun _ => rfl) rfl rfl (fun σ11 => o_move rfl) ?_
            refine d_val (fun _ => rfl) rfl rfl (fun _ => o_sliceFrom (lo := K0) rfl hQ.V rfl hK0 (by omega)) ?_
            refine d_app 50 (n := 0) (mm := (putAll ps ps.length).length - K0) (κ := []) (fun _ => rfl) (fun _ => rfl) (fun _ => rfl) (fun _ => rfl) rfl (fun σ11 => rowV_from hQ.V (by omega)) (fun σ11 => row_imm (fun w2 hg => by have := rowAt_drop (hG w2 hg).2.row hQ.V hcp (show K0 ≤ (putAll ps ps.length).length by omega); rwa [Nat.mul_one] at this)) (by omega) (fun _ h => h) ?_
            refine d_val (fun _ => rfl) rfl rfl (fun σ11 => o_move rfl) ?_
            refine d_val (fun _ => rfl) rfl rfl (fun σ11 => o_move rfl) ?_
            refine d_val (fun _ => rfl) rfl rfl (fun _ => o_sliceToC K0 rfl hQ.V hcp rfl hK0 (by omega)) ?_
            refine d_app 50 (n := 0 + ((putAll ps ps.length).length - K0)) (mm := K0) (κ := []) (fun _ => rfl) (fun _ => rfl) (fun _ => rfl) (fun _ => rfl) rfl (fun σ11 => rowV_to hQ.V (by omega)) (fun σ11 => row_imm (fun w2 hg => by have := rowAt_to (hG w2 hg).2.row (show K0 ≤ (putAll ps ps.length).length by omega); rwa [Nat.mul_one] at this)) (by omega) (fun _ h => h) ?_
            refine d_val (fun _ => rfl) rfl rfl (fun σ11 => o_move rfl) ?_
            refine d_app 50 (n := 0 + ((putAll ps ps.length).length - K0) + K0) (mm := (putAll ps ps.length).length) (κ := []) (fun _ => rfl) (fun _ => rfl) (fun _ => rfl) (fun _ => rfl) rfl (fun σ11 => hQ.V) (fun σ11 => row_imm (fun w2 hg => (hG w2 hg).2.row)) (by omega) (fun _ h => h) ?_
            refine d_val (fun _ => rfl) rfl rfl (fun σ11 => o_assign rfl) ?_
            refine d_nil (fun σ11 => ?_)
            refine l_nil ?_
            refine kt_norm ?_
            refine v_sel [7, 2, 10] [50] rfl rfl ?_
            refine v_seq ?_
            refine v_region ?_
            have hv60 : RowV (σ11.v 60) ((putAll ps ps.length).drop K0 ++ (putAll ps ps.length).take K0 ++ (putAll ps ps.length)).length := by rw [hol]; exact σ11.ok 60
            refine l_val rfl (o_move rfl) ?_
            refine l_gown (ks := []) (caps := #[]) (vs := [_]) rfl rfl (ent_of Tryz.func19 rfl rfl) rfl (fun w' hg hh => a_all w' _ qvs (putAll ps ps.length) hb2.bnd (hb2.bnd.pcsV hQ) (hG w' hg).2) fun yla hyla => ?_
            refine l_val rfl (o_move rfl) ?_
            refine l_gown (ks := [62]) (caps := #[]) (vs := [_, _]) rfl rfl (ent_of Tryz.func18 rfl rfl) rfl (fun w' hg hh => a_Spans w' yla (edgesAll (putAll ps ps.length)) r (by omega) hyla (rowAt_own (hh 62 (by simp) _ rfl)) (all_cross hb2.bnd r)) fun ya hya => ?_
            refine l_gown (ks := [64]) (caps := #[]) (vs := [_]) rfl rfl (ent_of Tryz.func17 rfl rfl) rfl (fun w' hg hh => r_own20 w' ya (rowS (crs r (liveT r (edgesAll (putAll ps ps.length))))) (by omega) hya (rowAt_own (hh 64 (by simp) _ rfl))) fun yo hyo => ?_
            refine l_val rfl (o_move rfl) ?_
            refine l_gown (ks := [50]) (caps := #[]) (vs := [_]) rfl rfl (ent_of Tryz.func19 rfl rfl) rfl (fun w' hg hh => a_allX w' _ _ ((putAll ps ps.length).drop K0 ++ (putAll ps ps.length).take K0 ++ (putAll ps ps.length)) hbx (hbx.pcsV (pcsW_of hv60 (by omega) hdv)) (pcsAt_of (hol.symm ▸ rowAt_own (hh 50 (by simp) _ rfl)) (hda w' hg))) fun ylb hylb => ?_
            refine l_val rfl (o_move rfl) ?_
            refine l_gown (ks := [67]) (caps := #[]) (vs := [_, _]) rfl rfl (ent_of Tryz.func18 rfl rfl) rfl (fun w' hg hh => hro ▸ a_Spans w' ylb (edgesAll ((putAll ps ps.length).drop K0 ++ (putAll ps ps.length).take K0 ++ (putAll ps ps.length))) r (by omega) hylb (rowAt_own (hh 67 (by simp) _ rfl)) (all_crossX hbx r)) fun yb hyb => ?_
            refine l_gown (ks := [69]) (caps := #[]) (vs := [_]) rfl rfl (ent_of Tryz.func17 rfl rfl) rfl (fun w' hg hh => r_own20 w' yb (rowS (crs r (liveT r (edgesAll (putAll ps ps.length))))) (by omega) hyb (rowAt_own (hh 69 (by simp) _ rfl))) fun yp hyp => ?_
            refine l_call (ks := [65, 70]) rfl (o_callC (vs := [_, _]) (r := .bool true) (ent_of Tryz.func16 rfl rfl) rfl (fun w' hg hh => r_Same20 w' yo yp (rowS (crs r (liveT r (edgesAll (putAll ps ps.length))))) (by omega) hyo (rowAt_own (hh 65 (by simp) _ rfl)) hyp (rowAt_own (hh 70 (by simp) _ rfl)))) ?_
            refine l_val rfl (o_assign rfl) ?_
            refine l_nil ?_
            refine kt_norm ?_
            refine v_sel [6] [50] rfl rfl ?_
            refine v_ret ?_
            refine ⟨[_], .cons (.tmp rfl) (ResAll.nil), ?_⟩
            rfl
          · skip
            refine l_nil ?_
            refine kt_norm ?_
            refine v_condF rfl ?_
            refine v_skip ?_
            refine kt_norm ?_
            refine v_seq ?_
            obtain rfl : i = ps.length := by omega
            have hb2 := put_bnd hbb
            have hn12 := hb2.1
            obtain ⟨K0, hK0, hKn⟩ : ∃ K0 : Nat, (0 : Int) = (K0 : Int) ∧ K0 ≤ (putAll ps ps.length).length := ⟨0, by omega, by omega⟩
            have hbx := ord_bnd hb2 K0 hKn
            have hol := ord_len hKn
            have h384 := edgesAll_lenX hbx
            have h3202 := edgesAll_len hb2.bnd
            have hro := row_order r (putAll ps ps.length) K0
            have hso2 := all_spOk hb2.bnd r
            have hsl2 : (rowS (crs r (liveT r (edgesAll (putAll ps ps.length))))).length ≤ (edgesAll (putAll ps ps.length)).length := by have h1 := rowS_len (crs r (liveT r (edgesAll (putAll ps ps.length)))); rw [crs_len] at h1; exact Nat.le_trans h1 (List.length_filter_le _ _)
            have hqv := hQ.lenv
            have hdv : All2 RV (qvs.drop K0 ++ qvs.take K0 ++ qvs) ((putAll ps ps.length).drop K0 ++ (putAll ps ps.length).take K0 ++ (putAll ps ps.length)) := ((hQ.all.drop K0).append (hQ.all.take K0)).append hQ.all
            have hda : ∀ w2, G w2 → All2 (RP w2) (qvs.drop K0 ++ qvs.take K0 ++ qvs) ((putAll ps ps.length).drop K0 ++ (putAll ps ps.length).take K0 ++ (putAll ps ps.length)) := fun w2 h => (((((hG w2 h).2.all hQ).drop K0).append (((hG w2 h).2.all hQ).take K0))).append ((hG w2 h).2.all hQ)
            refine v_drawW [(54, 0 + ((putAll ps ps.length).length - K0)), (58, 0 + ((putAll ps ps.length).length - K0) + K0), (60, 0 + ((putAll ps ps.length).length - K0) + K0 + (putAll ps ps.length).length)] [[], [], [], [], [50], [], [], [], [50], [], [50], []] mixed ?_ (by kernel_rfl) (by kernel_rfl)
            refine d_bsO (n := 0) (vs := fun _ => []) (cs := fun _ => []) (fun _ => rfl) (fun _ => rfl) (fun _ => rfl) rfl rfl (fun _ => rfl) (fun _ => rfl) ?_
            refine d_val (fun _ => rfl) rfl rfl (fun σ11 => o_move rfl) ?_
            refine d_val (fun _ => rfl) rfl rfl (fun σ11 => o_move rfl) ?_
            refine d_val (fun _ => rfl) rfl rfl (fun _ => o_sliceFrom (lo := K0) rfl hQ.V rfl hK0 (by omega)) ?_
            refine d_app 50 (n := 0) (mm := (putAll ps ps.length).length - K0) (κ := []) (fun _ => rfl) (fun _ => rfl) (fun _ => rfl) (fun _ => rfl) rfl (fun σ11 => rowV_from hQ.V (by omega)) (fun σ11 => row_imm (fun w2 hg => by have := rowAt_drop (hG w2 hg).2.row hQ.V hcp (show K0 ≤ (putAll ps ps.length).length by omega); rwa [Nat.mul_one] at this)) (by omega) (fun _ h => h) ?_
            refine d_val (fun _ => rfl) rfl rfl (fun σ11 => o_move rfl) ?_
            refine d_val (fun _ => rfl) rfl rfl (fun σ11 => o_move rfl) ?_
            refine d_val (fun _ => rfl) rfl rfl (fun _ => o_sliceToC K0 rfl hQ.V hcp rfl hK0 (by omega)) ?_
            refine d_app 50 (n := 0 + ((putAll ps ps.length).length - K0)) (mm := K0) (κ := []) (fun _ => rfl) (fun _ => rfl) (fun _ => rfl) (fun _ => rfl) rfl (fun σ11 => rowV_to hQ.V (by omega)) (fun σ11 => row_imm (fun w2 hg => by have := rowAt_to (hG w2 hg).2.row (show K0 ≤ (putAll ps ps.length).length by omega); rwa [Nat.mul_one] at this)) (by omega) (fun _ h => h) ?_
            refine d_val (fun _ => rfl) rfl rfl (fun σ11 => o_move rfl) ?_
            refine d_app 50 (n := 0 + ((putAll ps ps.length).length - K0) + K0) (mm := (putAll ps ps.length).length) (κ := []) (fun _ => rfl) (fun _ => rfl) (fun _ => rfl) (fun _ => rfl) rfl (fun σ11 => hQ.V) (fun σ11 => row_imm (fun w2 hg => (hG w2 hg).2.row)) (by omega) (fun _ h => h) ?_
            refine d_val (fun _ => rfl) rfl rfl (fun σ11 => o_assign rfl) ?_
            refine d_nil (fun σ11 => ?_)
            refine l_nil ?_
            refine kt_norm ?_
            refine v_sel [7, 2, 10] [50] rfl rfl ?_
            refine v_seq ?_
            refine v_region ?_
            have hv60 : RowV (σ11.v 60) ((putAll ps ps.length).drop K0 ++ (putAll ps ps.length).take K0 ++ (putAll ps ps.length)).length := by rw [hol]; exact σ11.ok 60
            refine l_val rfl (o_move rfl) ?_
            refine l_gown (ks := []) (caps := #[]) (vs := [_]) rfl rfl (ent_of Tryz.func19 rfl rfl) rfl (fun w' hg hh => a_all w' _ qvs (putAll ps ps.length) hb2.bnd (hb2.bnd.pcsV hQ) (hG w' hg).2) fun yla hyla => ?_
            refine l_val rfl (o_move rfl) ?_
            refine l_gown (ks := [62]) (caps := #[]) (vs := [_, _]) rfl rfl (ent_of Tryz.func18 rfl rfl) rfl (fun w' hg hh => a_Spans w' yla (edgesAll (putAll ps ps.length)) r (by omega) hyla (rowAt_own (hh 62 (by simp) _ rfl)) (all_cross hb2.bnd r)) fun ya hya => ?_
            refine l_gown (ks := [64]) (caps := #[]) (vs := [_]) rfl rfl (ent_of Tryz.func17 rfl rfl) rfl (fun w' hg hh => r_own20 w' ya (rowS (crs r (liveT r (edgesAll (putAll ps ps.length))))) (by omega) hya (rowAt_own (hh 64 (by simp) _ rfl))) fun yo hyo => ?_
            refine l_val rfl (o_move rfl) ?_
            refine l_gown (ks := [50]) (caps := #[]) (vs := [_]) rfl rfl (ent_of Tryz.func19 rfl rfl) rfl (fun w' hg hh => a_allX w' _ _ ((putAll ps ps.length).drop K0 ++ (putAll ps ps.length).take K0 ++ (putAll ps ps.length)) hbx (hbx.pcsV (pcsW_of hv60 (by omega) hdv)) (pcsAt_of (hol.symm ▸ rowAt_own (hh 50 (by simp) _ rfl)) (hda w' hg))) fun ylb hylb => ?_
            refine l_val rfl (o_move rfl) ?_
            refine l_gown (ks := [67]) (caps := #[]) (vs := [_, _]) rfl rfl (ent_of Tryz.func18 rfl rfl) rfl (fun w' hg hh => hro ▸ a_Spans w' ylb (edgesAll ((putAll ps ps.length).drop K0 ++ (putAll ps ps.length).take K0 ++ (putAll ps ps.length))) r (by omega) hylb (rowAt_own (hh 67 (by simp) _ rfl)) (all_crossX hbx r)) fun yb hyb => ?_
            refine l_gown (ks := [69]) (caps := #[]) (vs := [_]) rfl rfl (ent_of Tryz.func17 rfl rfl) rfl (fun w' hg hh => r_own20 w' yb (rowS (crs r (liveT r (edgesAll (putAll ps ps.length))))) (by omega) hyb (rowAt_own (hh 69 (by simp) _ rfl))) fun yp hyp => ?_
            refine l_call (ks := [65, 70]) rfl (o_callC (vs := [_, _]) (r := .bool true) (ent_of Tryz.func16 rfl rfl) rfl (fun w' hg hh => r_Same20 w' yo yp (rowS (crs r (liveT r (edgesAll (putAll ps ps.length))))) (by omega) hyo (rowAt_own (hh 65 (by simp) _ rfl)) hyp (rowAt_own (hh 70 (by simp) _ rfl)))) ?_
            refine l_val rfl (o_assign rfl) ?_
            refine l_nil ?_
            refine kt_norm ?_
            refine v_sel [6] [50] rfl rfl ?_
            refine v_ret ?_
            refine ⟨[_], .cons (.tmp rfl) (ResAll.nil), ?_⟩
            rfl
    · skip
      refine l_val rfl (o_not rfl rfl) ?_
      refine l_val rfl (o_pickF rfl rfl) ?_
      refine l_val rfl (o_move rfl) ?_
      refine l_no rfl ?_
      refine l_no rfl ?_
      refine l_no rfl ?_
      refine l_val rfl (o_pickT rfl rfl) ?_
      refine l_val rfl (o_move rfl) ?_
      refine l_no rfl ?_
      refine l_no rfl ?_
      refine l_val rfl (o_pickT rfl rfl) ?_
      refine l_nil ?_
      refine kt_norm ?_
      refine v_sel [0, 1, 2, 27] [] rfl rfl ?_
      refine v_condT rfl ?_
      refine v_seq ?_
      refine v_region ?_
      refine l_ans (vs := []) rfl rfl (a_shown20) ?_
      refine l_val rfl (o_assign rfl) ?_
      refine l_nil ?_
      refine kt_norm ?_
      refine v_ret ?_
      refine kt_ret ?_
      refine ⟨[_], .cons (.tmp rfl) (ResAll.nil), ?_⟩
      rfl
  · skip
    refine l_val rfl (o_not rfl rfl) ?_
    refine l_val rfl (o_move rfl) ?_
    refine l_no rfl ?_
    refine l_no rfl ?_
    refine l_no rfl ?_
    refine l_val rfl (o_pickT rfl rfl) ?_
    refine l_val rfl (o_move rfl) ?_
    refine l_no rfl ?_
    refine l_no rfl ?_
    refine l_no rfl ?_
    refine l_val rfl (o_pickT rfl rfl) ?_
    refine l_val rfl (o_move rfl) ?_
    refine l_no rfl ?_
    refine l_no rfl ?_
    refine l_val rfl (o_pickT rfl rfl) ?_
    refine l_nil ?_
    refine kt_norm ?_
    refine v_sel [0, 1, 2, 27] [] rfl rfl ?_
    refine v_condT rfl ?_
    refine v_seq ?_
    refine v_region ?_
    refine l_ans (vs := []) rfl rfl (a_shown20) ?_
    refine l_val rfl (o_assign rfl) ?_
    refine l_nil ?_
    refine kt_norm ?_
    refine v_ret ?_
    refine kt_ret ?_
    refine ⟨[_], .cons (.tmp rfl) (ResAll.nil), ?_⟩
    rfl
end Go.Proofs.YtllhohbenniaaaaGreat
