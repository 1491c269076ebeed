import Derived.Test.YtaijclimdfchfaaKJ
import Derived.Test.YtaijclimdfchfaaE3
/- Rows of edges: the first that a predicate takes; the others; a copy; what a row of pixels meets. Conditions: none. -/
namespace Go.Proofs.Ytaijclimdfchfaa
open Go.Proofs Go.RowKit Go.Shelf

theorem eE_def (e : EdgeT) : eE e = [.int .i64 e.x, .int .i64 e.y, .int .i64 e.dx, .int .i64 e.dy, .int .i64 e.wi, .int .i64 e.fr, .int .i64 e.to] := rfl
/-- where the first element is that p takes; or -1 -/
def idxF (p : EdgeT → Bool) (es : List EdgeT) : Int := if es.findIdx p = es.length then -1 else ((es.findIdx p : Nat) : Int)
theorem idxF_yes {p : EdgeT → Bool} {es : List EdgeT} {i : Nat} (hi : i < es.length) (hb : ∀ j, j < i → p (es.getD j dE) = false) (h : p (es.getD i dE) = true) : idxF p es = i := by
  have e : es.findIdx p = i := (List.findIdx_eq hi).2 ⟨by simpa [List.getD_eq_getElem?_getD, hi] using h, fun j hj => by
    have := hb j hj
    simpa [List.getD_eq_getElem?_getD, show j < es.length by omega] using this⟩
  unfold idxF; rw [e, if_neg (by omega)]
theorem idxF_no {p : EdgeT → Bool} {es : List EdgeT} (hb : ∀ j, j < es.length → p (es.getD j dE) = false) : idxF p es = -1 := by
  have e : es.findIdx p = es.length := List.findIdx_eq_length.2 fun x hx => by
    obtain ⟨j, hj, rfl⟩ := List.getElem_of_mem hx
    simpa [List.getD_eq_getElem?_getD, hj] using hb j hj
  unfold idxF; rw [if_pos e]
theorem idxF_spec (p : EdgeT → Bool) (es : List EdgeT) : (idxF p es = -1 ∧ es.filter (fun e => !p e) = es) ∨ ∃ i : Nat, idxF p es = i ∧ i < es.length ∧ (es.take i).filter (fun e => !p e) = es.take i ∧ p (es.getD i dE) = true := by
  by_cases h : es.findIdx p = es.length
  · left
    refine ⟨by unfold idxF; rw [if_pos h], List.filter_eq_self.2 fun x hx => ?_⟩
    simp [List.findIdx_eq_length.1 h x hx]
  · right
    have hlt : es.findIdx p < es.length := by have := List.findIdx_le_length (p := p) (xs := es); omega
    have := (List.findIdx_eq hlt).1 rfl
    refine ⟨es.findIdx p, by unfold idxF; rw [if_neg h], hlt, List.filter_eq_self.2 fun x hx => ?_, ?_⟩
    · obtain ⟨j, hj, rfl⟩ := List.getElem_of_mem hx
      have hj' : j < es.findIdx p := by simp at hj; omega
      have := this.2 j hj'
      simp [List.getElem_take, this]
    · simpa [List.getD_eq_getElem?_getD, hlt] using this.1
theorem idxF_filter {p : EdgeT → Bool} {es : List EdgeT} (h : idxF p es = -1) : es.filter (fun e => !p e) = es := by
  rcases idxF_spec p es with h1 | ⟨i, h1, _⟩
  · exact h1.2
  · omega
theorem idxF_some {p : EdgeT → Bool} {es : List EdgeT} (h : ¬ idxF p es = -1) : ∃ i : Nat, idxF p es = i ∧ i < es.length ∧ (es.take i).filter (fun e => !p e) = es.take i ∧ p (es.getD i dE) = true := by
  rcases idxF_spec p es with h1 | h1
  · exact absurd h1.1 h
  · exact h1
/-- what stands while elements are taken out: i have been kept of the first j -/
structure DelQ (p : EdgeT → Bool) (es : List EdgeT) (i j : Nat) (cur : List EdgeT) : Prop where
  le : i < j
  len : cur.length = es.length
  jle : j ≤ es.length
  took : cur.take i = (es.take j).filter (fun e => !p e)
  rest : cur.drop j = es.drop j
theorem DelQ.here {p : EdgeT → Bool} {es cur : List EdgeT} {i j : Nat} (h : DelQ p es i j cur) (hj : j < es.length) : cur.getD j dE = es.getD j dE := by
  have := congrArg (fun l => l[0]?) h.rest
  simp only [List.getElem?_drop, Nat.add_zero] at this
  rw [List.getD_eq_getElem?_getD, List.getD_eq_getElem?_getD, this]
theorem drop_succ {α : Type} {a b : List α} {j : Nat} (h : a.drop j = b.drop j) : a.drop (j + 1) = b.drop (j + 1) := by
  have := congrArg (List.drop 1) h
  rwa [List.drop_drop, List.drop_drop] at this
theorem take_succ' {es : List EdgeT} {j : Nat} (hj : j < es.length) : es.take (j + 1) = es.take j ++ [es.getD j dE] := by
  rw [List.take_add_one, List.getElem?_eq_getElem hj, List.getD_eq_getElem?_getD, List.getElem?_eq_getElem hj]; rfl
theorem DelQ.start {p : EdgeT → Bool} {es : List EdgeT} {i : Nat} (hi : i < es.length) (hf : (es.take i).filter (fun e => !p e) = es.take i) (h : p (es.getD i dE) = true) : DelQ p es i (i + 1) es :=
  ⟨by omega, rfl, by omega, by rw [take_succ' hi, List.filter_append, hf]; simp only [List.filter, h, Bool.not_true, List.append_nil], rfl⟩
theorem DelQ.out {p : EdgeT → Bool} {es cur : List EdgeT} {i j : Nat} (h : DelQ p es i j cur) (hj : j < es.length) (hp : p (cur.getD j dE) = true) : DelQ p es i (j + 1) cur :=
  ⟨by have := h.le; omega, h.len, hj, by rw [h.here hj] at hp; rw [take_succ' hj, List.filter_append, ← h.took]; simp only [List.filter, hp, Bool.not_true, List.append_nil], drop_succ h.rest⟩
theorem DelQ.keep {p : EdgeT → Bool} {es cur : List EdgeT} {i j : Nat} (h : DelQ p es i j cur) (hj : j < es.length) (hp : p (cur.getD j dE) = false) : DelQ p es (i + 1) (j + 1) (cur.set i (cur.getD j dE)) := by
  have h1 := h.le
  have h2 := h.len
  refine ⟨by omega, by rw [List.length_set]; exact h2, hj, ?_, ?_⟩
  · rw [h.here hj] at hp
    rw [take_succ' hj, List.filter_append, ← h.took, h.here hj]
    simp only [List.filter, hp, Bool.not_false]
    rw [List.take_add_one, List.getElem?_set_self (by omega), List.take_set_of_le (Nat.le_refl i)]; rfl
  · rw [List.drop_set_of_lt (by omega)]
    exact drop_succ h.rest
theorem DelQ.done {p : EdgeT → Bool} {es cur : List EdgeT} {i j : Nat} (h : DelQ p es i j cur) (hj : ¬ j < es.length) : cur.take i = es.filter (fun e => !p e) := by
  rw [h.took, List.take_of_length_le (by omega)]
theorem DelQ.ile {p : EdgeT → Bool} {es cur : List EdgeT} {i j : Nat} (h : DelQ p es i j cur) : i ≤ es.length := by have := h.le; have := h.jle; omega
/-- the edges that a row meets -/
def liveT (r : Int) (es : List EdgeT) : List EdgeT := es.filter fun e => !(decide (r < e.fr) || decide (r ≥ e.to))
theorem cut_flat {p : EdgeT → Bool} {es cur : List EdgeT} {i j : Nat} {zs : List Value} (h : DelQ p es i j cur) (hj : ¬ j < es.length) : ((((cur.flatMap eE).take (i * 7)) ++ zs).take (i * 7)) = (es.filter (fun e => !p e)).flatMap eE := by
  have e1 : ((cur.flatMap eE).take (i * 7)).length = i * 7 := by
    rw [List.length_take, flat_len eE_len, h.len]; have := h.ile; omega
  rw [List.take_append, e1, Nat.sub_self, List.take_zero, List.append_nil, List.take_take, Nat.min_self, flat_take eE_len, h.done hj]
theorem cut_len {p : EdgeT → Bool} {es cur : List EdgeT} {i j : Nat} (h : DelQ p es i j cur) (hj : ¬ j < es.length) : i = (es.filter (fun e => !p e)).length := by
  rw [← h.done hj, List.length_take, h.len]; have := h.ile; omega

theorem a_Live1 (r : Int) (b : Nat) : PredF Try.prog 74 #[.pointer (some ⟨b, 0, none⟩)] eE (fun e => decide (r < e.fr) || decide (r ≥ e.to)) (fun w => Blk w b #[.int .i64 r] 3) := by
  refine ⟨ent_of Try.func74 rfl rfl, fun w e hG => ?_⟩
  have hG' : ∀ w', Chg (fun _ => False) w w' → Blk w' b #[.int .i64 r] 3 := fun w' h => (h.block b (Blk.lt hG) (fun h => h)).trans hG
  refine calls_of (args := [.agg #[.int .i64 e.x, .int .i64 e.y, .int .i64 e.dx, .int .i64 e.dy, .int .i64 e.wi, .int .i64 e.fr, .int .i64 e.to], .pointer (some ⟨b, 0, none⟩)]) Try.func74 rfl Try.ntmps74 Try.results74 rfl ?_
  refine v_seq ?_
  refine v_region ?_
  refine l_new rfl (o_box (cs := [_, _, _, _, _, _, _]) rfl rfl) fun b2 => ?_
  refine l_val rfl (o_assign rfl) ?_
  refine l_nil ?_
  refine kt_norm ?_
  refine v_seq ?_
  refine v_region ?_
  refine l_val rfl (o_loadG1 rfl (fun w hg => (hG' w hg).cell 0 _ rfl)) ?_
  refine l_val rfl (o_fld rfl) ?_
  refine l_val rfl (o_load1 (key := 2) rfl rfl rfl) ?_
  refine l_split rfl (o_lss rfl rfl) (fun q1 => ?_) (fun q1 => ?_)
  · first
    | (exfalso; omega; done)
    | (
        refine l_val rfl (o_move rfl) ?_
        refine l_no rfl ?_
        refine l_no rfl ?_
        refine l_no rfl ?_
        refine l_no rfl ?_
        refine l_val rfl (o_pickT rfl rfl) ?_
        refine l_val rfl (o_assign rfl) ?_
        refine l_nil ?_
        refine kt_norm ?_
        refine v_sel [3] [] rfl rfl ?_
        refine v_ret ?_
        refine ⟨[_], .cons (.tmp rfl) (ResAll.nil), ?_⟩
        exact congrArg Value.bool (by first | (rw [decide_eq_true (show r < e.fr by omega)]; rfl) | (rw [decide_eq_false (show ¬ r < e.fr by omega)]; first | (rw [decide_eq_true (show r ≥ e.to by omega)]; rfl) | (rw [decide_eq_false (show ¬ r ≥ e.to by omega)]; rfl))))
  · first
    | (exfalso; omega; done)
    | (
        refine l_val rfl (o_move rfl) ?_
        refine l_val rfl (o_loadG1 rfl (fun w hg => (hG' w hg).cell 0 _ rfl)) ?_
        refine l_val rfl (o_fld rfl) ?_
        refine l_val rfl (o_load1 (key := 2) rfl rfl rfl) ?_
        refine l_split rfl (o_geq rfl rfl) (fun q2 => ?_) (fun q2 => ?_)
        · first
          | (exfalso; omega; done)
          | (
              refine l_val rfl (o_pickF rfl rfl) ?_
              refine l_val rfl (o_assign rfl) ?_
              refine l_nil ?_
              refine kt_norm ?_
              refine v_sel [3] [] rfl rfl ?_
              refine v_ret ?_
              refine ⟨[_], .cons (.tmp rfl) (ResAll.nil), ?_⟩
              exact congrArg Value.bool (by first | (rw [decide_eq_true (show r < e.fr by omega)]; rfl) | (rw [decide_eq_false (show ¬ r < e.fr by omega)]; first | (rw [decide_eq_true (show r ≥ e.to by omega)]; rfl) | (rw [decide_eq_false (show ¬ r ≥ e.to by omega)]; rfl))))
        · first
          | (exfalso; omega; done)
          | (
              refine l_val rfl (o_pickF rfl rfl) ?_
              refine l_val rfl (o_assign rfl) ?_
              refine l_nil ?_
              refine kt_norm ?_
              refine v_sel [3] [] rfl rfl ?_
              refine v_ret ?_
              refine ⟨[_], .cons (.tmp rfl) (ResAll.nil), ?_⟩
              exact congrArg Value.bool (by first | (rw [decide_eq_true (show r < e.fr by omega)]; rfl) | (rw [decide_eq_false (show ¬ r < e.fr by omega)]; first | (rw [decide_eq_true (show r ≥ e.to by omega)]; rfl) | (rw [decide_eq_false (show ¬ r ≥ e.to by omega)]; rfl)))))
theorem a_IndexF {f : Nat} {caps : Array Value} {p : EdgeT → Bool} {G : World → Prop} (hp : PredF Try.prog f caps eE p G) (w : World) (v : Value) (es : List EdgeT) (hn : es.length ≤ 1099511627776) (hV : RowV v es.length) (hrow : RowAt w v 7 es.length (es.flatMap eE)) (hG : ∀ w', Chg (fun _ => False) w w' → G w') :
    Calls Try.prog 87 #[v, .func (.func f) #[] caps] w fun e w' => e = .returned (.int .i64 (idxF p es)) ∧ Below w.heap.size w w' := by
  have hr : ∀ w', Chg (fun _ => False) w w' → RowAt w' v 7 es.length (es.flatMap eE) := fun w' h => hrow.chg h (fun h => h)
  refine calls_of (args := [v, .func (.func f) #[] caps]) Try.func87 rfl Try.ntmps87 Try.results87 rfl ?_
  refine v_seq ?_
  refine v_region ?_
  refine l_val rfl (o_assign rfl) ?_
  refine l_nil ?_
  refine kt_norm ?_
  refine v_seq ?_
  refine v_seq ?_
  refine v_region ?_
  refine l_val rfl (o_move rfl) ?_
  refine l_val rfl (o_len rfl hV) ?_
  refine l_val rfl (o_move rfl) ?_
  refine l_nil ?_
  refine kt_norm ?_
  refine v_block ?_
  refine v_loopS (α := Nat) (fun i => [(8, .int .i64 (i : Int))]) (fun i => [])  (fun i => i ≤ es.length ∧ ∀ j, j < i → p (es.getD j dE) = false) (fun i => es.length - i) 0 [0, 1, 7] [] ⟨by omega, fun j h => by omega⟩  (And.intro rfl (True.intro)) rfl (True.intro) rfl ?_
  rintro i ⟨hi, hb⟩
  refine v_seq ?_
  refine v_region ?_
  refine l_split rfl (o_lss rfl rfl) (fun q1 => ?_) (fun q1 => ?_)
  · first
    | (exfalso; assumption; done)
    | (
        refine l_nil ?_
        refine kt_norm ?_
        refine v_seq ?_
        refine v_condT rfl ?_
        refine v_skip ?_
        refine kt_norm ?_
        refine v_seq ?_
        refine v_block ?_
        refine v_seq ?_
        refine v_region ?_
        refine l_val rfl (o_move rfl) ?_
        refine l_val rfl (o_assign rfl) ?_
        refine l_nil ?_
        refine kt_norm ?_
        refine v_seq ?_
        refine v_region ?_
        refine l_val rfl (o_move rfl) ?_
        refine l_val rfl (o_move rfl) ?_
        refine l_val rfl (o_move rfl) ?_
        refine l_val rfl (o_idx (i) rfl hV rfl (by first | rfl | omega) (by omega)) ?_
        refine l_val rfl (o_loadRE (c' := [_, _, _, _, _, _, _]) rfl (row_imm hr) (el_flat eE_len dE es (i) (by omega)) rfl) ?_
        refine l_call (ks := []) rfl (o_callF (caps := caps) (vs := [_]) (r := .bool (p (es.getD i dE))) rfl hp.ent rfl (fun w' hg _ => hp.ans w' (es.getD i dE) (hG w' hg))) ?_
        refine lz_cases (fun q2 => ?_) (fun q2 => ?_)
        · first
          | (exfalso; assumption; done)
          | (
              refine l_nil ?_
              refine kt_norm ?_
              refine v_sel [8, 0, 1, 7, 5, 16] [] rfl rfl ?_
              refine v_condT rfl ?_
              refine v_seq ?_
              refine v_region ?_
              refine l_val rfl (o_move rfl) ?_
              refine l_val rfl (o_assign rfl) ?_
              refine l_nil ?_
              refine kt_norm ?_
              refine v_sel [4] [] rfl rfl ?_
              refine v_ret ?_
              refine kb_ret ?_
              refine kt_ret ?_
              refine kt_ret ?_
              refine kb_ret ?_
              refine kt_ret ?_
              refine ⟨[_], .cons (.tmp rfl) (ResAll.nil), ?_⟩
              first
                | exact congrArg (Value.int .i64) (idxF_yes (by omega) hb (by assumption)).symm
                | exact congrArg (Value.int .i64) (idxF_no (fun j hj => hb j (by omega))).symm)
        · first
          | (exfalso; assumption; done)
          | (
              refine l_nil ?_
              refine kt_norm ?_
              refine v_sel [8, 0, 1, 7, 5, 16] [] rfl rfl ?_
              refine v_condF rfl ?_
              refine v_skip ?_
              refine kb_norm ?_
              refine kt_norm ?_
              refine v_region ?_
              refine l_val rfl (o_addi rfl rfl ?_) ?_
              · omega
              refine l_val rfl (o_move rfl) ?_
              refine l_nil ?_
              refine kt_norm ?_
              refine ⟨i + 1, ⟨by omega, fun j hj => by rcases Nat.lt_or_eq_of_le (Nat.le_of_lt_succ hj) with h | h; exact hb j h; subst h; assumption⟩, by omega, le_app (And.intro rfl (True.intro)) [0, 1, 7] rfl (True.intro) [] rfl⟩))
  · first
    | (exfalso; assumption; done)
    | (
        refine l_nil ?_
        refine kt_norm ?_
        refine v_seq ?_
        refine v_condF rfl ?_
        refine v_exit ?_
        refine kt_exit ?_
        refine kt_exit ?_
        refine kb_eq ?_
        refine kt_norm ?_
        refine v_seq ?_
        refine v_region ?_
        refine l_val rfl (o_assign rfl) ?_
        refine l_nil ?_
        refine kt_norm ?_
        refine v_ret ?_
        refine ⟨[_], .cons (.tmp rfl) (ResAll.nil), ?_⟩
        first
          | exact congrArg (Value.int .i64) (idxF_yes (by omega) hb (by assumption)).symm
          | exact congrArg (Value.int .i64) (idxF_no (fun j hj => hb j (by omega))).symm)
theorem a_DeleteF {f : Nat} {caps : Array Value} {p : EdgeT → Bool} {G : World → Prop} (hp : PredF Try.prog f caps eE p G) (w : World) (v : Value) (es : List EdgeT) (hn : es.length ≤ 1099511627776) (hok : (Hp.own v 90 7 es.length (es.flatMap eE)).ok w) (hG : ∀ w', Chg (fun b => v.ownBlock = some b) w w' → G w') :
    Calls Try.prog 72 #[v, .func (.func f) #[] caps] w fun e w' => ∃ y, e = .returned y ∧ Chg (fun b => v.ownBlock = some b) w w' ∧ (Hp.own y 90 7 (es.filter (fun e => !p e)).length ((es.filter (fun e => !p e)).flatMap eE)).ok w' ∧ ∀ b, y.ownBlock = some b → v.ownBlock = some b ∨ w.heap.size ≤ b := by
  have hV := rowV_own hok
  refine calls_mut (args := [v, .func (.func f) #[] caps]) v Try.func72 rfl Try.ntmps72 Try.results72 rfl hok ?_
  refine v_seq ?_
  refine v_region ?_
  refine l_val rfl (o_assign rfl) ?_
  refine l_nil ?_
  refine kt_norm ?_
  refine v_seq ?_
  refine v_region ?_
  refine l_val rfl (o_move rfl) ?_
  refine l_val rfl (o_move rfl) ?_
  refine l_call (ks := [1000]) rfl (o_callC (vs := [_, _]) (r := .int .i64 (idxF p es)) (ent_of Try.func87 rfl rfl) rfl (fun w' hg hh => a_IndexF hp w' v es hn hV (rowAt_own (hh 1000 (by simp) _ rfl)) (fun w2 hc => hG w2 (hg.trans (hc.mono fun k _ h => h.elim))))) ?_
  refine l_val rfl (o_assign rfl) ?_
  refine l_nil ?_
  refine kt_norm ?_
  refine v_seq ?_
  refine v_seq ?_
  refine v_region ?_
  refine l_val rfl (o_move rfl) ?_
  refine l_split rfl (o_eql rfl rfl) (fun hp1 => ?_) (fun hp1 => ?_)
  · have hff := idxF_filter hp1
    first
    | (exfalso; assumption; done)
    | (
        refine l_nil ?_
        refine kt_norm ?_
        refine v_condT rfl ?_
        refine v_seq ?_
        refine v_region ?_
        refine l_val rfl (o_move rfl) ?_
        refine l_val rfl (o_assign rfl) ?_
        refine l_nil ?_
        refine kt_norm ?_
        refine v_sel [4] [1000] rfl rfl ?_
        refine v_ret ?_
        refine kt_ret ?_
        refine ⟨[_], .cons (.tmp rfl) (ResAll.nil), ?_⟩
        first
          | exact ⟨1000, congrArg some (own_congr (congrArg List.length hff).symm (congrArg (List.flatMap eE) hff).symm)⟩
          | exact ⟨41, congrArg some (own_congr (cut_len hQ (by omega)) (cut_flat hQ (by omega)))⟩)
  · obtain ⟨i0, hi0, hi, hf, hpi⟩ := idxF_some hp1
    first
    | (exfalso; assumption; done)
    | (
        refine l_nil ?_
        refine kt_norm ?_
        refine v_condF rfl ?_
        refine v_skip ?_
        refine kt_norm ?_
        refine v_sel [0, 1, 5] [1000] rfl rfl ?_
        refine v_seq ?_
        refine v_seq ?_
        refine v_region ?_
        refine l_val rfl (o_move rfl) ?_
        refine l_val rfl (o_addi rfl rfl ?_) ?_
        · (rw [hi0]; omega)
        refine l_val rfl (o_assign rfl) ?_
        refine l_nil ?_
        refine kt_norm ?_
        refine v_block ?_
        refine v_loopS (α := Nat × Nat × List EdgeT) (fun ⟨i, j, cur⟩ => [(5, .int .i64 (i : Int)), (6, .int .i64 (j : Int))]) (fun ⟨i, j, cur⟩ => [(1000, Hp.own v 90 7 es.length (cur.flatMap eE))])  (fun ⟨i, j, cur⟩ => DelQ p es i j cur) (fun ⟨i, j, cur⟩ => es.length - j) (i0, i0 + 1, es) [0, 1] [] (DelQ.start hi hf hpi)  (And.intro (congrArg (fun q => some (Value.int .i64 q)) hi0) (And.intro (congrArg (fun q => some (Value.int .i64 (q + 1))) hi0) (True.intro))) rfl (And.intro rfl (True.intro)) rfl ?_
        rintro ⟨i, j, cur⟩ hQ
        refine v_seq ?_
        refine v_seq ?_
        refine v_region ?_
        refine l_val rfl (o_move rfl) ?_
        refine l_val rfl (o_move rfl) ?_
        refine l_val rfl (o_len rfl hV) ?_
        refine l_split rfl (o_lss rfl rfl) (fun q1 => ?_) (fun q1 => ?_)
        · first
          | (exfalso; assumption; done)
          | (
              refine l_nil ?_
              refine kt_norm ?_
              refine v_condT rfl ?_
              refine v_skip ?_
              refine kt_norm ?_
              refine v_seq ?_
              refine v_block ?_
              refine v_seq ?_
              refine v_region ?_
              refine l_val rfl (o_move rfl) ?_
              refine l_val rfl (o_move rfl) ?_
              refine l_val rfl (o_idx (j) rfl hV rfl (by first | rfl | omega) (by omega)) ?_
              refine l_val rfl (o_loadRE (c' := [_, _, _, _, _, _, _]) rfl (row_own (key := 1000) rfl) (el_flat eE_len dE cur (j) (by have := hQ.len; omega)) rfl) ?_
              refine l_new rfl o_alloc fun b7 => ?_
              refine l_store rfl (o_storeW (key := 7) (xs := [_, _, _, _, _, _, _]) rfl rfl rfl rfl rfl rfl rfl) ?_
              refine l_nil ?_
              refine kt_norm ?_
              refine v_sel [5, 6, 0, 1, 7] [7, 1000] rfl rfl ?_
              refine v_seq ?_
              refine v_region ?_
              refine l_val rfl (o_move rfl) ?_
              refine l_val rfl (o_loadW (key := 7) rfl rfl rfl) ?_
              refine l_call (ks := []) rfl (o_callF (caps := caps) (vs := [_]) (r := .bool (p (cur.getD j dE))) rfl hp.ent rfl (fun w' hg _ => hp.ans w' (cur.getD j dE) (hG w' hg))) ?_
              refine lz_cases (fun q2 => ?_) (fun q2 => ?_)
              · first
                | (exfalso; assumption; done)
                | (
                    refine l_val rfl (o_not rfl rfl) ?_
                    refine l_nil ?_
                    refine kt_norm ?_
                    refine v_condF rfl ?_
                    refine v_skip ?_
                    refine kb_norm ?_
                    refine kt_norm ?_
                    refine v_region ?_
                    refine l_val rfl (o_move rfl) ?_
                    refine l_val rfl (o_addi rfl rfl ?_) ?_
                    · (have := hQ.jle; omega)
                    refine l_val rfl (o_assign rfl) ?_
                    refine l_nil ?_
                    refine kt_norm ?_
                    refine ⟨(i, j + 1, cur), hQ.out (by omega) (by assumption), (by show es.length - (j + 1) < es.length - j; omega), le_app (And.intro rfl (And.intro rfl (True.intro))) [0, 1] rfl (And.intro rfl (True.intro)) [] rfl⟩)
              · first
                | (exfalso; assumption; done)
                | (
                    refine l_val rfl (o_not rfl rfl) ?_
                    refine l_nil ?_
                    refine kt_norm ?_
                    refine v_condT rfl ?_
                    refine v_seq ?_
                    refine v_region ?_
                    refine l_val rfl (o_move rfl) ?_
                    refine l_val rfl (o_move rfl) ?_
                    refine l_val rfl (o_loadW (key := 7) rfl rfl rfl) ?_
                    refine l_val rfl (o_idx (i) rfl hV rfl (by first | rfl | omega) (by have := hQ.le; omega)) ?_
                    refine l_store rfl (o_storeRE (key := 1000) (c := [_, _, _, _, _, _, _]) (by decide) rfl rfl rfl rfl rfl rfl (by have := hQ.le; have := hQ.jle; omega)) ?_
                    refine l_nil ?_
                    refine kt_norm ?_
                    refine v_sel [5, 6, 0, 1] [1000] rfl rfl ?_
                    refine v_region ?_
                    refine l_val rfl (o_move rfl) ?_
                    refine l_val rfl (o_addi rfl rfl ?_) ?_
                    · (have := hQ.le; have := hQ.jle; omega)
                    refine l_val rfl (o_assign rfl) ?_
                    refine l_nil ?_
                    refine kb_norm ?_
                    refine kt_norm ?_
                    refine v_region ?_
                    refine l_val rfl (o_move rfl) ?_
                    refine l_val rfl (o_addi rfl rfl ?_) ?_
                    · (have := hQ.jle; omega)
                    refine l_val rfl (o_assign rfl) ?_
                    refine l_nil ?_
                    refine kt_norm ?_
                    refine ⟨(i + 1, j + 1, cur.set i (cur.getD j dE)), hQ.keep (by omega) (by assumption), (by show es.length - (j + 1) < es.length - j; omega), le_app (And.intro rfl (And.intro rfl (True.intro))) [0, 1] rfl (And.intro (congrArg (fun q => some (Hp.own v 90 7 es.length q)) (flat_set eE_len cur i _ (by have := hQ.le; have := hQ.len; omega))) (True.intro)) [] rfl⟩))
        · first
          | (exfalso; assumption; done)
          | (
              refine l_nil ?_
              refine kt_norm ?_
              refine v_condF rfl ?_
              refine v_exit ?_
              refine kt_exit ?_
              refine kt_exit ?_
              refine kb_eq ?_
              refine kt_norm ?_
              refine v_sel [5, 0] [1000] rfl rfl ?_
              refine v_seq ?_
              refine v_region ?_
              refine l_val rfl (o_move rfl) ?_
              refine l_val rfl (o_move rfl) ?_
              refine l_val rfl (o_sliceFrom (lo := i) rfl hV rfl rfl hQ.ile) ?_
              refine l_clear 1000 (zs := [_, _, _, _, _, _, _]) rfl rfl rfl rfl rfl hQ.ile ?_
              refine l_nil ?_
              refine kt_norm ?_
              refine v_seq ?_
              refine v_region ?_
              refine l_val rfl (o_move rfl) ?_
              refine l_val rfl (o_move rfl) ?_
              refine l_cutTo 1000 [] i rfl rfl rfl rfl rfl rfl rfl hQ.ile fun v2 hv2 => ?_
              refine l_val rfl (o_assign rfl) ?_
              refine l_nil ?_
              refine kt_norm ?_
              refine v_sel [4] [41] rfl rfl ?_
              refine v_ret ?_
              refine ⟨[_], .cons (.tmp rfl) (ResAll.nil), ?_⟩
              first
                | exact ⟨1000, congrArg some (own_congr (congrArg List.length hff).symm (congrArg (List.flatMap eE) hff).symm)⟩
                | exact ⟨41, congrArg some (own_congr (cut_len hQ (by omega)) (cut_flat hQ (by omega)))⟩))
theorem a_CloneE (w : World) (v : Value) (es : List EdgeT) (hn : es.length ≤ 1099511627776) (hV : RowV v es.length) (hrow : RowAt w v 7 es.length (es.flatMap eE)) :
    Calls Try.prog 73 #[v] w fun e w' => ∃ y, e = .returned y ∧ Below w.heap.size w w' ∧ OwnAt w.heap.size w' y 90 7 es.length (es.flatMap eE) := by
  have hr : ∀ w', Chg (fun _ => False) w w' → RowAt w' v 7 es.length (es.flatMap eE) := fun w' h => hrow.chg h (fun h => h)
  have hV0 := hV
  have hV1 : (∃ a c, v = .slice (some a) es.length c) ∨ (v = .slice none 0 0 ∧ es.length = 0) := by
    rcases hV0 with ⟨b, o, c, h⟩ | h | ⟨a, c, h, e⟩
    · exact .inl ⟨_, c, h⟩
    · exact .inr h
    · exact .inl ⟨a, c, by rw [e]; exact h⟩
  rcases hV1 with ⟨aa, cc, rfl⟩ | ⟨rfl, h0⟩
  · refine calls_own (args := [.slice (some aa) es.length cc]) Try.func73 rfl Try.ntmps73 Try.results73 rfl ?_
    refine v_seq ?_
    refine v_region ?_
    refine l_val rfl (o_assign rfl) ?_
    refine l_nil ?_
    refine kt_norm ?_
    refine v_seq ?_
    refine v_seq ?_
    refine v_region ?_
    refine l_val rfl (o_move rfl) ?_
    refine l_val rfl (o_eqnil rfl) ?_
    refine l_nil ?_
    refine kt_norm ?_
    refine v_condF rfl ?_
    refine v_skip ?_
    refine kt_norm ?_
    refine v_seq ?_
    refine v_region ?_
    refine l_buildSlice (vs := []) (cs := []) rfl rfl rfl rfl rfl rfl fun v1 hv1 => ?_
    refine l_val rfl (o_move rfl) ?_
    refine l_append 5 [] rfl rfl rfl rfl rfl rfl rfl hV (row_imm hr) (by omega) fun v2 hv2 => ?_
    refine l_val rfl (o_assign rfl) ?_
    refine l_nil ?_
    refine kt_norm ?_
    refine v_sel [2] [7] rfl rfl ?_
    refine v_ret ?_
    refine ⟨[_], .cons (.tmp rfl) (ResAll.nil), ?_⟩
    exact ⟨7, congrArg some (own_congr (Nat.zero_add _) (List.nil_append _))⟩
  · have : es = [] := List.length_eq_zero_iff.1 h0
    subst this
    refine calls_own (args := [.slice none 0 0]) Try.func73 rfl Try.ntmps73 Try.results73 rfl ?_
    refine v_ghost 77 90 7 ?_
    refine v_seq ?_
    refine v_region ?_
    refine l_val rfl (o_assign rfl) ?_
    refine l_nil ?_
    refine kt_norm ?_
    refine v_seq ?_
    refine v_seq ?_
    refine v_region ?_
    refine l_val rfl (o_move rfl) ?_
    refine l_val rfl (o_eqnil rfl) ?_
    refine l_nil ?_
    refine kt_norm ?_
    refine v_condT rfl ?_
    refine v_seq ?_
    refine v_region ?_
    refine l_val rfl (o_assign rfl) ?_
    refine l_nil ?_
    refine kt_norm ?_
    refine v_ret ?_
    refine kt_ret ?_
    refine ⟨[_], .cons (.tmp rfl) (ResAll.nil), ?_⟩
    exact ⟨77, rfl⟩
theorem a_Live (w : World) (v : Value) (es : List EdgeT) (r : Int) (hn : es.length ≤ 1099511627776) (hV : RowV v es.length) (hrow : RowAt w v 7 es.length (es.flatMap eE)) :
    Calls Try.prog 48 #[v, .int .i64 r] w fun e w' => ∃ y, e = .returned y ∧ Below w.heap.size w w' ∧ OwnAt w.heap.size w' y 90 7 (liveT r es).length ((liveT r es).flatMap eE) := by
  have hr : ∀ w', Chg (fun _ => False) w w' → RowAt w' v 7 es.length (es.flatMap eE) := fun w' h => hrow.chg h (fun h => h)
  refine calls_own (args := [v, .int .i64 r]) Try.func48 rfl Try.ntmps48 Try.results48 rfl ?_
  refine v_seq ?_
  refine v_region ?_
  refine l_new rfl (o_box (cs := [_]) rfl rfl) fun b3 => ?_
  refine l_val rfl (o_assign rfl) ?_
  refine l_nil ?_
  refine kt_norm ?_
  refine v_seq ?_
  refine v_region ?_
  refine l_val rfl (o_move rfl) ?_
  refine l_gown (ks := []) (caps := #[]) (vs := [_]) rfl rfl (ent_of Try.func73 rfl rfl) rfl (fun w' hg _ => a_CloneE w' v es hn hV (hr w' hg)) fun y hy => ?_
  refine l_val rfl (o_makeFunc (vs := [_]) rfl) ?_
  refine l_gmutD 6 [] (ks := [3]) (caps := #[]) (vs := [_, _]) rfl rfl (ent_of Try.func72 rfl rfl) rfl rfl rfl rfl (fun w' hg hh hok hne => a_DeleteF (a_Live1 r b3) w' y es hn hok (fun w2 hc => (hc.block b3 (Blk.lt (hh 3 (by simp) _ rfl)) (hne 3 _ b3 rfl (by decide) rfl)).trans (hh 3 (by simp) _ rfl))) fun z hz => ?_
  refine l_val rfl (o_assign rfl) ?_
  refine l_nil ?_
  refine kt_norm ?_
  refine v_sel [4] [8] rfl rfl ?_
  refine v_ret ?_
  refine ⟨[_], .cons (.tmp rfl) (ResAll.nil), ?_⟩
  exact ⟨8, rfl⟩
end Go.Proofs.Ytaijclimdfchfaa
