import Derived.Test.YtllhohbenniaaaaM1
import Derived.Test.YtllhohbenniaaaaM2
import Derived.Test.YtllhohbenniaaaaM3
import Derived.Test.YtllhohbenniaaaaM4
import Derived.Test.YtllhohbenniaaaaM5
/- Pieces put one by one. Conditions: none. -/
namespace Go.Proofs.Ytllhohbenniaaaa
open Go.Proofs Go.RowKit Go.Shelf

variable {C : Cx} {K : Exit → St → Prop} {ops : Array Oper} {rest : List Oper} {l : List (Nat × Value)} {m : List (Nat × Hp)} {g : World → Prop} {gb : Nat → Prop} {dd : List Nat} in
theorem l_capd (key : Nat) {v : Value} {E esz n : Nat} {xs : List Value} (hk : lk m key = some (.own v E esz n xs)) (next : Capd v → VL C ops rest K (mk l m g gb dd)) : VL C ops rest K (mk l m g gb dd) :=
  fun a w hr => next (capd_own (hr.mo key _ hk).1) a w hr
def All2 (R : Value → List PtT → Prop) (vs : List Value) (ps : List (List PtT)) : Prop := vs.length = ps.length ∧ ∀ i, i < ps.length → R (vs.getD i undef) (ps.getD i [])
theorem All2.append {R : Value → List PtT → Prop} {a b : List Value} {p q : List (List PtT)} (h : All2 R a p) (k : All2 R b q) : All2 R (a ++ b) (p ++ q) := by
  refine ⟨by rw [List.length_append, List.length_append, h.1, k.1], fun i hi => ?_⟩
  rw [List.length_append] at hi
  rw [List.getD_eq_getElem?_getD, List.getD_eq_getElem?_getD, List.getElem?_append, List.getElem?_append, h.1]
  by_cases e : i < p.length
  · rw [if_pos e, if_pos e, ← List.getD_eq_getElem?_getD, ← List.getD_eq_getElem?_getD]; exact h.2 i e
  · rw [if_neg e, if_neg e, ← List.getD_eq_getElem?_getD, ← List.getD_eq_getElem?_getD]; exact k.2 _ (by omega)
theorem All2.drop {R : Value → List PtT → Prop} {a : List Value} {p : List (List PtT)} (h : All2 R a p) (k : Nat) : All2 R (a.drop k) (p.drop k) := by
  refine ⟨by rw [List.length_drop, List.length_drop, h.1], fun i hi => ?_⟩
  rw [List.length_drop] at hi
  rw [List.getD_eq_getElem?_getD, List.getD_eq_getElem?_getD, List.getElem?_drop, List.getElem?_drop, ← List.getD_eq_getElem?_getD, ← List.getD_eq_getElem?_getD]
  exact h.2 _ (by omega)
theorem All2.take {R : Value → List PtT → Prop} {a : List Value} {p : List (List PtT)} (h : All2 R a p) (k : Nat) : All2 R (a.take k) (p.take k) := by
  refine ⟨by rw [List.length_take, List.length_take, h.1], fun i hi => ?_⟩
  rw [List.length_take] at hi
  rw [List.getD_eq_getElem?_getD, List.getD_eq_getElem?_getD, List.getElem?_take_of_lt (by omega), List.getElem?_take_of_lt (by omega), ← List.getD_eq_getElem?_getD, ← List.getD_eq_getElem?_getD]
  exact h.2 _ (by omega)
theorem All2.nil {R : Value → List PtT → Prop} : All2 R [] [] := ⟨rfl, fun i hi => absurd hi (Nat.not_lt_zero i)⟩
theorem All2.one {R : Value → List PtT → Prop} {u : Value} {pc : List PtT} (h : R u pc) : All2 R [u] [pc] := ⟨rfl, fun i hi => by
  obtain rfl : i = 0 := by simpa using hi
  exact h⟩
def RV (u : Value) (pc : List PtT) : Prop := RowV u pc.length
def RP (w : World) (u : Value) (pc : List PtT) : Prop := RowAt w u 2 pc.length (pc.flatMap eP)
theorem PcsW.all {v : Value} {vs : List Value} {ps : List (List PtT)} (h : PcsW v vs ps) : All2 RV vs ps := ⟨h.lenv, h.pV⟩
theorem pcsW_of {v : Value} {vs : List Value} {ps : List (List PtT)} (h : RowV v ps.length) (hl : ps.length ≤ 1000000) (k : All2 RV vs ps) : PcsW v vs ps := ⟨h, k.1, by omega, k.2⟩
theorem PcsAt.all {w : World} {v : Value} {vs : List Value} {ps : List (List PtT)} (h : PcsAt w v vs ps) (hw : PcsW v vs ps) : All2 (RP w) vs ps := ⟨hw.lenv, h.pc⟩
theorem pcsAt_of {w : World} {v : Value} {vs : List Value} {ps : List (List PtT)} (h : RowAt w v 1 ps.length vs) (k : All2 (RP w) vs ps) : PcsAt w v vs ps := ⟨h, k.2⟩
theorem oriT_len (pc : List PtT) : (oriT pc).length = pc.length := by unfold oriT; split; exact List.length_reverse; rfl
theorem oriT_bnd {pc : List PtT} (h : BndP pc) : BndP (oriT pc) := by
  refine ⟨by rw [oriT_len]; exact h.1, fun j hj => ?_⟩
  have hm : (oriT pc).getD j dP ∈ oriT pc := pt_mem hj
  have hm2 : (oriT pc).getD j dP ∈ pc := by
    generalize (oriT pc).getD j dP = p at hm
    unfold oriT at hm
    split at hm
    · exact List.mem_reverse.1 hm
    · exact hm
  exact h.near _ hm2
theorem putT_yes {qs : List (List PtT)} {pc : List PtT} (h : convexB (oriT pc) = true) : putT qs pc = qs ++ [oriT pc] := if_pos h
theorem putT_no {qs : List (List PtT)} {pc : List PtT} (h : convexB (oriT pc) = false) : putT qs pc = qs := if_neg (by rw [h]; exact Bool.false_ne_true)
theorem put_mem {ps : List (List PtT)} : ∀ k, k ≤ ps.length → ∀ q ∈ putAll ps k, ∃ pc ∈ ps, q = oriT pc ∧ convexB (oriT pc) = true
  | 0, _, q, h => by simp [putAll] at h
  | k + 1, hk, q, h => by
    rw [putAll_succ (by omega)] at h
    have hm : ps.getD k [] ∈ ps := by
      rw [List.getD_eq_getElem?_getD, List.getElem?_eq_getElem (show k < ps.length by omega)]; exact List.getElem_mem _
    unfold putT at h
    split at h
    · rename_i hc
      rcases List.mem_append.1 h with h | h
      · exact put_mem k (by omega) q h
      · rw [List.mem_singleton.1 h]; exact ⟨_, hm, rfl, hc⟩
    · exact put_mem k (by omega) q h
theorem put_bnd {ps : List (List PtT)} (h : Bn20 ps) : Bn20 (putAll ps ps.length) := by
  have hl := putAll_len ps ps.length (Nat.le_refl _)
  refine ⟨by have := h.1; omega, fun i hi => ?_⟩
  have hm : (putAll ps ps.length).getD i [] ∈ putAll ps ps.length := by
    rw [List.getD_eq_getElem?_getD, List.getElem?_eq_getElem hi]; exact List.getElem_mem _
  obtain ⟨pc, hp, e, _⟩ := put_mem ps.length (Nat.le_refl _) _ hm
  rw [e]
  exact oriT_bnd (h.bnd.x.mem hp)
theorem ord_bnd {qs : List (List PtT)} (h : Bn20 qs) (k : Nat) (hk : k ≤ qs.length) : BndX (qs.drop k ++ qs.take k ++ qs) := by
  refine ⟨by simp only [List.length_append, List.length_drop, List.length_take]; have := h.1; omega, fun i hi => ?_⟩
  have hm : (qs.drop k ++ qs.take k ++ qs).getD i [] ∈ qs.drop k ++ qs.take k ++ qs := by
    rw [List.getD_eq_getElem?_getD, List.getElem?_eq_getElem hi]; exact List.getElem_mem _
  have : (qs.drop k ++ qs.take k ++ qs).getD i [] ∈ qs := by
    rcases List.mem_append.1 hm with h1 | h1
    · rcases List.mem_append.1 h1 with h1 | h1
      · exact List.mem_of_mem_drop h1
      · exact List.mem_of_mem_take h1
    · exact h1
  exact h.bnd.x.mem this
theorem ord_len {qs : List (List PtT)} {k : Nat} (hk : k ≤ qs.length) : (qs.drop k ++ qs.take k ++ qs).length = 0 + (qs.length - k) + k + qs.length := by
  simp only [List.length_append, List.length_drop, List.length_take]; omega
theorem rowAt_takeV {w : World} {v : Value} {esz n : Nat} {xs : List Value} (h : RowAt w v esz n xs) {hi : Nat} (hle : hi ≤ n) : RowAt w (subTo v hi) esz hi (xs.take (hi * esz)) := rowAt_to h hle
theorem o_sliceToC {C : Cx} {s : St} {d : Option Nat} {x z : Operand} {T E ty : TypeId} {pos : String} {aft : Array Edge} {gd : Option (Nat × Bool)} {v : Value} {n esz : Nat} {k : IntKind} {q : Int} (hi : Nat) [ht : TSl C.P T E esz] (h : ev C s x = some v) (hv : RowV v n) (hcap : Capd v) (h2 : ev C s z = some (.int k q)) (hq : q = ((hi : Nat) : Int)) (hle : hi ≤ n) :
    OpV C s ⟨d, .slice T x none (some z) none, ty, pos, aft, gd⟩ [] (subTo v hi) := opv _ _ (by simp) fun ρ w hr => by
  have hx := rd1 hr (x := x) (by simp [Op.operands]) h
  have hz := rd1 hr (x := z) (by simp [Op.operands]) h2
  subst hq
  obtain ⟨b, c, rfl⟩ := hv.sl
  have h6 := hcap _ _ _ rfl
  simp [execOp, hx, hz, run_sliceTo (P := C.P) (w := w) (T := T) (k := k) (b := b) n (show hi ≤ c by omega), Sem.run_bind, Result.andThen, subTo]
/-- what a put comes to: nothing, or a slice and a row -/
abbrev PutX (n m : Nat) := Option {x : Value × Value // RowV x.1 (n + 1) ∧ Capd x.1 ∧ RowV x.2 m}
def putV {n m : Nat} (v : Value) (o : PutX n m) : Value := match o with | none => v | some x => x.1.1
def putW {n m : Nat} (vs : List Value) (o : PutX n m) : List Value := match o with | none => vs | some x => vs ++ [x.1.2]
def putG {n m : Nat} (vs : List Value) (pc : List PtT) (o : PutX n m) (w : World) : Prop := match o with | none => True | some x => (Hp.own x.1.1 46 1 (n + 1) (vs ++ [x.1.2])).ok w ∧ (Hp.own x.1.2 59 2 m ((oriT pc).flatMap eP)).ok w
def putB {n m : Nat} (o : PutX n m) (b : Nat) : Prop := match o with | none => False | some x => x.1.1.ownBlock = some b ∨ x.1.2.ownBlock = some b
abbrev PutY (n : Nat) (pc : List PtT) := {o : PutX n pc.length // o.isSome = convexB (oriT pc)}
theorem putG_keep {n m : Nat} {vs : List Value} {pc : List PtT} (o : PutX n m) (w1 w2 : World) (h : putG vs pc o w1) (hb : ∀ b, putB o b → w2.heap[b]? = w1.heap[b]?) : putG vs pc o w2 := by
  match o, h, hb with
  | none, _, _ => trivial
  | some x, h, hb => exact ⟨Hp.keep h.1 fun b e => hb b (.inl e), Hp.keep h.2 fun b e => hb b (.inr e)⟩
theorem putG_lt {n m : Nat} {vs : List Value} {pc : List PtT} (o : PutX n m) (w1 : World) (b : Nat) (h : putG vs pc o w1) (hb : putB o b) : b < w1.heap.size := by
  match o, h, hb with
  | some x, h, hb => exact hb.elim (fun e => Hp.lt h.1 e) (fun e => Hp.lt h.2 e)
theorem capd_put {n m : Nat} {v : Value} (h : Capd v) (o : PutX n m) : Capd (putV v o) := by
  match o with
  | none => exact h
  | some x => exact x.2.2.1
theorem pcsW_put {v : Value} {vs : List Value} {qs : List (List PtT)} {pc : List PtT} (h : PcsW v vs qs) (hl : qs.length ≤ 100000) (o : PutY qs.length pc) : PcsW (putV v o.1) (putW vs o.1) (putT qs pc) := by
  obtain ⟨o, ho⟩ := o
  match o, ho with
  | none, ho => rw [putT_no ho.symm]; exact h
  | some x, ho =>
    rw [putT_yes ho.symm]
    exact pcsW_of (by rw [List.length_append]; exact x.2.1) (by rw [List.length_append, List.length_singleton]; omega) (h.all.append (.one (by unfold RV; rw [oriT_len]; exact x.2.2.2)))
theorem pcsAt_put {w : World} {v : Value} {vs : List Value} {qs : List (List PtT)} {pc : List PtT} (hW : PcsW v vs qs) (h : PcsAt w v vs qs) (o : PutY qs.length pc) (hg : putG vs pc o.1 w) : PcsAt w (putV v o.1) (putW vs o.1) (putT qs pc) := by
  obtain ⟨o, ho⟩ := o
  match o, ho, hg with
  | none, ho, _ => rw [putT_no ho.symm]; exact h
  | some x, ho, hg =>
    rw [putT_yes ho.symm]
    exact pcsAt_of (by rw [List.length_append]; exact rowAt_own hg.1) ((h.all hW).append (.one (by unfold RP; rw [oriT_len]; exact rowAt_own hg.2)))
theorem a_Put (w : World) (a : Option Addr) (n c : Nat) (pvs : List Value) (u : Value) (pc : List PtT) (hn : n ≤ 1000000) (hcap : n ≤ c) (hV : RowV (.slice a n c) n) (hrow : RowAt w (.slice a n c) 1 n pvs) (hs : pc.length ≤ 1000000) (hU : RowV u pc.length) (hrowU : RowAt w u 2 pc.length (pc.flatMap eP)) (hnear : ∀ p ∈ pc, NearT p) :
    Calls Try.prog 21 #[.slice a n c, u] w fun e w' => ∃ o : PutY n pc, e = .returned (putV (.slice a n c) o.1) ∧ Below w.heap.size w w' ∧ putG pvs pc o.1 w' ∧ ∀ b, putB o.1 b → w.heap.size ≤ b := by
  by_cases hcx : convexB (oriT pc) = true
  · exact (a_PutYes w a n c pvs u pc hn hcap hV hrow hs hU hrowU hnear hcx).mono fun e w2 ⟨x, h1, h2, h3, h4⟩ => ⟨⟨some ⟨x, rowV_own h3.1, capd_own h3.1, rowV_own h3.2⟩, hcx.symm⟩, h1, h2, h3, h4⟩
  · rw [Bool.not_eq_true] at hcx
    exact (a_PutNo w a n c pvs u pc hn hcap hV hrow hs hU hrowU hnear hcx).mono fun e w2 ⟨h1, h2⟩ => ⟨⟨none, hcx.symm⟩, h1, h2, trivial, fun b hb => hb.elim⟩

end Go.Proofs.Ytllhohbenniaaaa

/- A row has one span at most of a convex piece; more pieces have all that one has. Conditions: none. -/
namespace Go.Proofs.Ytllhohbenniaaaa
open Go.Proofs Go.RowKit Go.Shelf

/-! ### where a row has spans: plain law -/
theorem sumTo_eq {cs : List (Int × Int)} {x y : Int} (h : ∀ c ∈ cs, c.1 ≤ x ↔ c.1 ≤ y) : sumTo cs x = sumTo cs y := by
  unfold sumTo
  refine sumF_congr cs fun c hc => ?_
  by_cases h1 : c.1 ≤ x
  · rw [if_pos h1, if_pos ((h c hc).1 h1)]
  · rw [if_neg h1, if_neg fun h2 => h1 ((h c hc).2 h2)]
theorem key_at {cs : List (Int × Int)} {c : Int × Int} (hc : c ∈ cs) : ∃ j, j < (keysOf cs).length ∧ c.1 = (keysOf cs).getD j 0 := by
  obtain ⟨j, hj, e⟩ := List.getElem_of_mem (keysOf_mem.2 ⟨c, hc, rfl⟩)
  exact ⟨j, hj, by rw [List.getD_eq_getElem?_getD, List.getElem?_eq_getElem hj]; exact e.symm⟩
theorem inc_le {l : List Int} (h : Inc l) {i j : Nat} (hij : i ≤ j) (hj : j < l.length) : l.getD i 0 ≤ l.getD j 0 := by
  rcases Nat.lt_or_eq_of_le hij with h' | h'
  · exact Int.le_of_lt (inc_lt h h' hj)
  · subst h'; exact Int.le_refl _
theorem hasS_iff {l : List SpanT} {x : Int} : hasS l x = true ↔ ∃ s ∈ l, s.fr ≤ x ∧ x < s.to := by
  unfold hasS
  rw [List.any_eq_true]
  constructor
  · rintro ⟨s, h1, h2⟩
    simp only [Bool.and_eq_true, decide_eq_true_eq] at h2
    exact ⟨s, h1, h2⟩
  · rintro ⟨s, h1, h2⟩
    exact ⟨s, h1, by simp only [Bool.and_eq_true, decide_eq_true_eq]; exact h2⟩
theorem hasS_snoc {l : List SpanT} {s : SpanT} {x : Int} : hasS (l ++ [s]) x = true ↔ hasS l x = true ∨ (s.fr ≤ x ∧ x < s.to) := by
  rw [hasS_iff, hasS_iff]
  constructor
  · rintro ⟨t, h1, h2⟩
    rcases List.mem_append.1 h1 with h | h
    · exact .inl ⟨t, h, h2⟩
    · rw [List.mem_singleton.1 h] at h2; exact .inr h2
  · rintro (⟨t, h1, h2⟩ | h)
    · exact ⟨t, List.mem_append.2 (.inl h1), h2⟩
    · exact ⟨s, List.mem_append.2 (.inr List.mem_cons_self), h⟩
theorem row_has (cs : List (Int × Int)) : ∀ k, k ≤ (keysOf cs).length → ∀ x, (∀ j, k ≤ j → j < (keysOf cs).length → x < (keysOf cs).getD j 0) →
    ((hasS (rowTo cs k).2.2 x = true ∨ ((rowTo cs k).1 ≠ 0 ∧ (rowTo cs k).2.1 ≤ x)) ↔ sumTo cs x ≠ 0)
  | 0, _, x, hx => by
    have e : sumTo cs x = 0 := by
      unfold sumTo
      refine (sumF_congr cs fun c hc => ?_).trans (sumF_zero cs)
      obtain ⟨j, hj, e⟩ := key_at hc
      have := hx j (Nat.zero_le _) hj
      rw [if_neg (by omega)]
    rw [e]
    simp [rowTo, hasS]
  | k + 1, h, x, hx => by
    have hk : k < (keysOf cs).length := by omega
    have hinc := keysOf_inc cs
    have e := rowTo_succ hk
    have hw := rowTo_sumTo hk
    have hq := rowQ cs (k + 1) h
    rcases Int.lt_or_le x ((keysOf cs).getD k 0) with hy | hy
    · have ih := row_has cs k (by omega) x fun j hj hj2 => by
        have := inc_le hinc hj hj2; omega
      rw [← ih, e]
      by_cases h0 : (rowTo cs k).1 = 0
      · rw [stepR0 h0]
        dsimp only
        constructor
        · rintro (h1 | ⟨h1, h2⟩)
          · exact .inl h1
          · omega
        · rintro (h1 | ⟨h1, h2⟩)
          · exact .inl h1
          · exact absurd h0 h1
      · by_cases h1 : (rowTo cs k).1 + sumAt cs ((keysOf cs).getD k 0) = 0
        · rw [stepR1 h0 h1]
          dsimp only
          rw [hasS_snoc]
          dsimp only
          constructor
          · rintro ((h2 | h2) | ⟨h2, h3⟩)
            · exact .inl h2
            · exact .inr ⟨h0, h2.1⟩
            · exact absurd h1 h2
          · rintro (h2 | ⟨h2, h3⟩)
            · exact .inl (.inl h2)
            · exact .inl (.inr ⟨h3, hy⟩)
        · rw [stepR2 h0 h1]
          dsimp only
          constructor
          · rintro (h2 | ⟨h2, h3⟩)
            · exact .inl h2
            · exact .inr ⟨h0, h3⟩
          · rintro (h2 | ⟨h2, h3⟩)
            · exact .inl h2
            · exact .inr ⟨h1, h3⟩
    · have es : sumTo cs x = sumTo cs ((keysOf cs).getD k 0) := sumTo_eq fun c hc => by
        obtain ⟨j, hj, ej⟩ := key_at hc
        rcases Nat.lt_or_ge k j with h1 | h1
        · have := hx j (by omega) hj
          have := inc_lt hinc h1 hj
          omega
        · have := inc_le hinc h1 hk
          omega
      rw [es, ← hw]
      constructor
      · rintro (h1 | ⟨h1, _⟩)
        · obtain ⟨s, hs, h2, h3⟩ := hasS_iff.1 h1
          obtain ⟨j, hj, ej⟩ := hq.below s hs
          have := inc_le hinc (show j ≤ k by omega) hk
          omega
        · exact h1
      · intro h1
        obtain ⟨j, hj, ej, _⟩ := hq.open_ h1
        have := inc_le hinc (show j ≤ k by omega) hk
        exact .inr ⟨h1, by omega⟩
/-- a row has a span at x just where the winding is not nothing -/
theorem row_hasS {cs : List (Int × Int)} (h : sumF (fun c => c.2) cs = 0) (x : Int) : hasS (rowS cs) x = true ↔ sumTo cs x ≠ 0 := by
  have hk := row_has cs (keysOf cs).length (Nat.le_refl _) x fun j hj hj2 => absurd hj2 (by omega)
  have he := rowTo_end cs
  rw [h] at he
  rw [← hk]
  unfold rowS
  constructor
  · exact .inl
  · rintro (h1 | ⟨h1, _⟩)
    · exact h1
    · exact absurd he h1
theorem rise_pair {l : List SpanT} (h : l.Pairwise fun s t => s.to < t.fr) {i j : Nat} (hij : i < j) (hj : j < l.length) : (l.getD i dS).to < (l.getD j dS).fr := by
  have := List.pairwise_iff_getElem.1 h i j (by omega) hj hij
  rwa [List.getD_eq_getElem?_getD, List.getD_eq_getElem?_getD, List.getElem?_eq_getElem hj, List.getElem?_eq_getElem (show i < l.length by omega)]
theorem mem_getD {l : List SpanT} {s : SpanT} (h : s ∈ l) : ∃ j, j < l.length ∧ l.getD j dS = s := by
  obtain ⟨j, hj, e⟩ := List.getElem_of_mem h
  exact ⟨j, hj, by rw [List.getD_eq_getElem?_getD, List.getElem?_eq_getElem hj]; exact e⟩
/-- where a span begins there is one, and none ahead of it -/
theorem row_start {l : List SpanT} (h : l.Pairwise fun s t => s.to < t.fr) (hp : ∀ s ∈ l, s.fr < s.to) {i : Nat} (hi : i < l.length) : hasS l (l.getD i dS).fr = true ∧ ¬ hasS l ((l.getD i dS).fr - 1) = true := by
  have hm : l.getD i dS ∈ l := sp_mem hi
  refine ⟨hasS_iff.2 ⟨_, hm, Int.le_refl _, hp _ hm⟩, fun hn => ?_⟩
  obtain ⟨s, hs, h1, h2⟩ := hasS_iff.1 hn
  obtain ⟨j, hj, rfl⟩ := mem_getD hs
  have h4 := hp _ hm
  rcases Nat.lt_trichotomy i j with h3 | h3 | h3
  · have := rise_pair h h3 hj
    omega
  · subst h3; omega
  · have := rise_pair h h3 hi
    omega
/-- one hump: not above nothing, and without a gap -/
structure Hump (W : Int → Int) : Prop where
  le : ∀ x, W x ≤ 0
  mid : ∀ x y z, x ≤ y → y ≤ z → W x ≠ 0 → W z ≠ 0 → W y ≠ 0
theorem rowS_rise (cs : List (Int × Int)) : (rowS cs).Pairwise (fun s t => s.to < t.fr) ∧ ∀ s ∈ rowS cs, s.fr < s.to := ⟨(rowQ cs _ (Nat.le_refl _)).rise, (rowQ cs _ (Nat.le_refl _)).pos⟩
theorem hump_len {cs : List (Int × Int)} (h : sumF (fun c => c.2) cs = 0) (hh : Hump (sumTo cs)) : (rowS cs).length ≤ 1 := by
  obtain ⟨hr, hp⟩ := rowS_rise cs
  rcases Nat.lt_or_ge 1 (rowS cs).length with hl | hl
  · exfalso
    have h0 := row_start hr hp (i := 0) (by omega)
    have h1 := row_start hr hp (i := 1) hl
    rw [row_hasS h, row_hasS h] at h0 h1
    have h2 := rise_pair hr (show 0 < 1 by omega) hl
    have h3 := hp _ (sp_mem (l := rowS cs) (i := 0) (by omega))
    exact h1.2 (hh.mid ((rowS cs).getD 0 dS).fr _ ((rowS cs).getD 1 dS).fr (by omega) (by omega) h0.1 h1.1)
  · exact hl
theorem sumTo_append (a b : List (Int × Int)) (x : Int) : sumTo (a ++ b) x = sumTo a x + sumTo b x := sumF_append _ a b
theorem humps_len {a b : List (Int × Int)} (ha : sumF (fun c => c.2) a = 0) (hb : sumF (fun c => c.2) b = 0) (h1 : Hump (sumTo a)) (h2 : Hump (sumTo b)) : (rowS (a ++ b)).length ≤ 2 := by
  obtain ⟨hr, hp⟩ := rowS_rise (a ++ b)
  have hs : sumF (fun c => c.2) (a ++ b) = 0 := by rw [sumF_append, ha, hb]; rfl
  rcases Nat.lt_or_ge 2 (rowS (a ++ b)).length with hl | hl
  · exfalso
    have key : ∀ i, i < (rowS (a ++ b)).length → sumTo a (((rowS (a ++ b)).getD i dS).fr - 1) = 0 ∧ sumTo b (((rowS (a ++ b)).getD i dS).fr - 1) = 0 ∧ (sumTo a ((rowS (a ++ b)).getD i dS).fr ≠ 0 ∨ sumTo b ((rowS (a ++ b)).getD i dS).fr ≠ 0) := fun i hi => by
      have h0 := row_start hr hp hi
      rw [row_hasS hs, row_hasS hs, sumTo_append, sumTo_append] at h0
      have a1 := h1.le ((rowS (a ++ b)).getD i dS).fr
      have a2 := h1.le (((rowS (a ++ b)).getD i dS).fr - 1)
      have b1 := h2.le ((rowS (a ++ b)).getD i dS).fr
      have b2 := h2.le (((rowS (a ++ b)).getD i dS).fr - 1)
      omega
    have lt : ∀ i j, i < j → j < (rowS (a ++ b)).length → ((rowS (a ++ b)).getD i dS).fr ≤ ((rowS (a ++ b)).getD j dS).fr - 1 := fun i j hij hj => by
      have h3 := rise_pair hr hij hj
      have h4 := hp _ (sp_mem (l := rowS (a ++ b)) (i := i) (by omega))
      omega
    have no : ∀ W : Int → Int, Hump W → ∀ i j, i < j → j < (rowS (a ++ b)).length → W (((rowS (a ++ b)).getD j dS).fr - 1) = 0 → W ((rowS (a ++ b)).getD i dS).fr ≠ 0 → W ((rowS (a ++ b)).getD j dS).fr ≠ 0 → False := fun W hW i j hij hj h0 h3 h4 =>
      hW.mid _ _ _ (lt i j hij hj) (show ((rowS (a ++ b)).getD j dS).fr - 1 ≤ ((rowS (a ++ b)).getD j dS).fr by omega) h3 h4 h0
    have k0 := key 0 (by omega)
    have k1 := key 1 (by omega)
    have k2 := key 2 hl
    rcases k0.2.2 with c0 | c0 <;> rcases k1.2.2 with c1 | c1 <;> rcases k2.2.2 with c2 | c2
    · exact no _ h1 0 1 (by omega) (by omega) k1.1 c0 c1
    · exact no _ h1 0 1 (by omega) (by omega) k1.1 c0 c1
    · exact no _ h1 0 2 (by omega) (by omega) k2.1 c0 c2
    · exact no _ h2 1 2 (by omega) (by omega) k2.2.1 c1 c2
    · exact no _ h1 1 2 (by omega) (by omega) k2.1 c1 c2
    · exact no _ h2 0 2 (by omega) (by omega) k2.2.1 c0 c2
    · exact no _ h2 0 1 (by omega) (by omega) k1.2.1 c0 c1
    · exact no _ h2 0 1 (by omega) (by omega) k1.2.1 c0 c1
  · exact hl
theorem hump_has {a b : List (Int × Int)} (ha : sumF (fun c => c.2) a = 0) (hb : sumF (fun c => c.2) b = 0) (h1 : ∀ x, sumTo a x ≤ 0) (h2 : ∀ x, sumTo b x ≤ 0) {x : Int} (h : hasS (rowS a) x = true) : hasS (rowS (a ++ b)) x = true := by
  rw [row_hasS (by rw [sumF_append, ha, hb]; rfl), sumTo_append]
  rw [row_hasS ha] at h
  have := h1 x; have := h2 x; omega
/-! #### how much lies between, place by place -/
theorem lenC_step {lo : Int} {n : Nat} {s : SpanT} : lenC lo (lo + (n + 1 : Nat)) s = lenC lo (lo + n) s + (if s.fr ≤ lo + n ∧ lo + n < s.to then 1 else 0) := by
  have d1 := lenC_def lo (lo + (n + 1 : Nat)) s
  have d2 := lenC_def lo (lo + n) s
  split <;> omega
theorem lenC_nil {lo : Int} {s : SpanT} : lenC lo (lo + (0 : Nat)) s = 0 := by
  have d1 := lenC_def lo (lo + (0 : Nat)) s
  omega
theorem one_has {x : Int} : ∀ l : List SpanT, l.Pairwise (fun s t => s.to < t.fr) → (∀ s ∈ l, s.fr < s.to) → sumF (fun s => if s.fr ≤ x ∧ x < s.to then (1 : Int) else 0) l = if hasS l x = true then 1 else 0
  | [], _, _ => rfl
  | s :: l, h, hp => by
    have hc := List.pairwise_cons.1 h
    have ih := one_has (x := x) l hc.2 fun t ht => hp t (List.mem_cons_of_mem _ ht)
    have e : hasS (s :: l) x = true ↔ (s.fr ≤ x ∧ x < s.to) ∨ hasS l x = true := by
      rw [hasS_iff, hasS_iff]
      constructor
      · rintro ⟨t, h1, h2⟩
        rcases List.mem_cons.1 h1 with rfl | h1
        · exact .inl h2
        · exact .inr ⟨t, h1, h2⟩
      · rintro (h1 | ⟨t, h1, h2⟩)
        · exact ⟨s, List.mem_cons_self, h1⟩
        · exact ⟨t, List.mem_cons_of_mem _ h1, h2⟩
    simp only [sumF]
    rw [ih]
    by_cases h1 : s.fr ≤ x ∧ x < s.to
    · have hn : ¬ hasS l x = true := fun hh => by
        obtain ⟨t, h2, h3⟩ := hasS_iff.1 hh
        have := hc.1 t h2; omega
      rw [if_pos h1, if_neg hn, if_pos (e.2 (.inl h1))]; rfl
    · rw [if_neg h1, Int.zero_add]
      by_cases h2 : hasS l x = true
      · rw [if_pos h2, if_pos (e.2 (.inr h2))]
      · rw [if_neg h2, if_neg fun h3 => (e.1 h3).elim h1 h2]
theorem len_mono {a b : List (Int × Int)} (h : ∀ x, hasS (rowS a) x = true → hasS (rowS b) x = true) (lo : Int) : ∀ n : Nat, sumF (lenC lo (lo + n)) (rowS a) ≤ sumF (lenC lo (lo + n)) (rowS b)
  | 0 => by
    rw [sumF_congr (g := fun _ => 0) _ fun s _ => lenC_nil, sumF_congr (g := fun _ => 0) (rowS b) fun s _ => lenC_nil, sumF_zero, sumF_zero]
    exact Int.le_refl _
  | n + 1 => by
    have ih := len_mono h lo n
    have e : ∀ cs, sumF (lenC lo (lo + (n + 1 : Nat))) (rowS cs) = sumF (lenC lo (lo + n)) (rowS cs) + if hasS (rowS cs) (lo + n) = true then 1 else 0 := fun cs => by
      rw [← one_has (rowS cs) (rowS_rise cs).1 (rowS_rise cs).2, ← sumF_add]
      exact sumF_congr _ fun s _ => lenC_step
    rw [e a, e b]
    have := h (lo + n)
    by_cases h1 : hasS (rowS a) (lo + n) = true
    · rw [if_pos h1, if_pos (this h1)]; omega
    · rw [if_neg h1]; split <;> omega
theorem sumS_len {lo : Int} {n : Nat} {l : List SpanT} (h : ∀ s ∈ l, lo ≤ s.fr ∧ s.fr ≤ s.to ∧ s.to ≤ lo + n) : sumS l = sumF (lenC lo (lo + n)) l := by
  unfold sumS
  refine sumF_congr l fun s hs => ?_
  have := h s hs
  have d := lenC_def lo (lo + n) s
  omega
theorem sumS_mono {a b : List (Int × Int)} (h : ∀ x, hasS (rowS a) x = true → hasS (rowS b) x = true) (ha : SpOk (rowS a)) (hb : SpOk (rowS b)) : sumS (rowS a) ≤ sumS (rowS b) := by
  have h1 := len_mono h (-2199023255552) 4398046511104
  rw [← sumS_len fun s hs => ha s hs, ← sumS_len fun s hs => hb s hs] at h1
  exact h1
/-! #### a convex piece: what goes down lies right of what goes up -/
def cntP (p : Int × Int → Bool) : List (Int × Int) → Int := sumF fun c => if p c = true then 1 else 0
theorem cnt_mono {p q : Int × Int → Bool} : ∀ l : List (Int × Int), (∀ c ∈ l, p c = true → q c = true) → cntP p l ≤ cntP q l
  | [], _ => Int.le_refl _
  | c :: l, h => by
    have ih := cnt_mono l fun d hd => h d (List.mem_cons_of_mem _ hd)
    have h1 := h c List.mem_cons_self
    unfold cntP at ih ⊢
    simp only [sumF]
    by_cases h2 : p c = true
    · rw [if_pos h2, if_pos (h1 h2)]; omega
    · rw [if_neg h2]; split <;> omega
theorem cnt_zero {p : Int × Int → Bool} (l : List (Int × Int)) (h : ∀ c ∈ l, p c = false) : cntP p l = 0 := by
  unfold cntP
  exact (sumF_congr l fun c hc => by rw [h c hc]; rfl).trans (sumF_zero l)
theorem hump_of {cs : List (Int × Int)} (hw : WiOk cs) (h0 : sumF (fun c => c.2) cs = 0) (ho : ∀ c ∈ cs, ∀ d ∈ cs, c.2 = -1 → d.2 = 1 → c.1 ≤ d.1) : Hump (sumTo cs) := by
  have e : ∀ x, sumTo cs x = cntP (fun c => decide (c.2 = 1 ∧ c.1 ≤ x)) cs - cntP (fun c => decide (c.2 = -1 ∧ c.1 ≤ x)) cs := fun x => by
    have : sumTo cs x + cntP (fun c => decide (c.2 = -1 ∧ c.1 ≤ x)) cs = cntP (fun c => decide (c.2 = 1 ∧ c.1 ≤ x)) cs := by
      unfold sumTo cntP
      rw [← sumF_add]
      refine sumF_congr cs fun c hc => ?_
      simp only [decide_eq_true_eq]
      have := hw c hc
      (repeat' split) <;> omega
    omega
  have e0 : cntP (fun c => decide (c.2 = 1)) cs = cntP (fun c => decide (c.2 = -1)) cs := by
    have : sumF (fun c => c.2) cs + cntP (fun c => decide (c.2 = -1)) cs = cntP (fun c => decide (c.2 = 1)) cs := by
      unfold cntP
      rw [← sumF_add]
      refine sumF_congr cs fun c hc => ?_
      simp only [decide_eq_true_eq]
      have := hw c hc
      (repeat' split) <;> omega
    omega
  have mN : ∀ x y, x ≤ y → cntP (fun c => decide (c.2 = -1 ∧ c.1 ≤ x)) cs ≤ cntP (fun c => decide (c.2 = -1 ∧ c.1 ≤ y)) cs := fun x y hxy => cnt_mono cs fun c _ h => by
    simp only [decide_eq_true_eq] at h ⊢; omega
  have mP : ∀ x y, x ≤ y → cntP (fun c => decide (c.2 = 1 ∧ c.1 ≤ x)) cs ≤ cntP (fun c => decide (c.2 = 1 ∧ c.1 ≤ y)) cs := fun x y hxy => cnt_mono cs fun c _ h => by
    simp only [decide_eq_true_eq] at h ⊢; omega
  have tP : ∀ x, cntP (fun c => decide (c.2 = 1 ∧ c.1 ≤ x)) cs ≤ cntP (fun c => decide (c.2 = 1)) cs := fun x => cnt_mono cs fun c _ h => by
    simp only [decide_eq_true_eq] at h ⊢; exact h.1
  have nN : ∀ x, 0 ≤ cntP (fun c => decide (c.2 = -1 ∧ c.1 ≤ x)) cs := fun x => by
    have h1 := cnt_mono (p := fun _ => false) (q := fun c => decide (c.2 = -1 ∧ c.1 ≤ x)) cs (fun c _ h => by cases h)
    have h2 := cnt_zero (p := fun _ => false) cs fun c _ => rfl
    omega
  have split_ : ∀ x, (cntP (fun c => decide (c.2 = 1 ∧ c.1 ≤ x)) cs = 0) ∨ (∀ y, x ≤ y → cntP (fun c => decide (c.2 = -1 ∧ c.1 ≤ y)) cs = cntP (fun c => decide (c.2 = -1)) cs) := fun x => by
    by_cases h : ∃ d ∈ cs, d.2 = 1 ∧ d.1 ≤ x
    · obtain ⟨d, hd, h1, h2⟩ := h
      refine .inr fun y hy => ?_
      unfold cntP
      refine sumF_congr cs fun c hc => ?_
      simp only [decide_eq_true_eq]
      by_cases hm : c.2 = -1
      · have := ho c hc d hd hm h1
        rw [if_pos ⟨hm, by omega⟩, if_pos hm]
      · rw [if_neg fun h => hm h.1, if_neg hm]
    · refine .inl (cnt_zero cs fun c hc => ?_)
      simp only [decide_eq_false_iff_not]
      exact fun h' => h ⟨c, hc, h'⟩
  refine ⟨fun x => ?_, fun x y z hxy hyz hx hz => ?_⟩
  · rw [e]
    have h1 := tP x
    have h2 := nN x
    rcases split_ x with h | h
    · omega
    · have := h x (Int.le_refl _); omega
  · rw [e] at hx hz ⊢
    have a1 := mN x y hxy
    have a2 := mP x y hxy
    have a3 := mP y z hyz
    have a4 := tP z
    have a5 := nN x
    rcases split_ y with h | h
    · have a6 := mP x y hxy
      have a7 : 0 ≤ cntP (fun c => decide (c.2 = 1 ∧ c.1 ≤ x)) cs := by
        have h1 := cnt_mono (p := fun _ => false) (q := fun c => decide (c.2 = 1 ∧ c.1 ≤ x)) cs (fun c _ h => by cases h)
        have h2 := cnt_zero (p := fun _ => false) cs fun c _ => rfl
        omega
      omega
    · have b1 := h y (Int.le_refl _)
      have b2 := h z hyz
      omega
theorem cross_le {a b c d : PtT} {Y : Int} (h1 : a.y ≤ Y) (h2 : Y < b.y) (h3 : d.y ≤ Y) (h4 : Y < c.y) (hc : 0 ≤ crossT ⟨b.x - a.x, b.y - a.y⟩ ⟨c.x - a.x, c.y - a.y⟩) (hd : 0 ≤ crossT ⟨b.x - a.x, b.y - a.y⟩ ⟨d.x - a.x, d.y - a.y⟩) :
    d.x + (Y - d.y) * (c.x - d.x) / (c.y - d.y) ≤ a.x + (Y - a.y) * (b.x - a.x) / (b.y - a.y) := by
  unfold crossT at hc hd
  dsimp only at hc hd
  have hh : 0 < b.y - a.y := by omega
  have hk : 0 < c.y - d.y := by omega
  have hq := Int.mul_ediv_self_le (x := (Y - d.y) * (c.x - d.x)) (k := c.y - d.y) (by omega)
  generalize (Y - d.y) * (c.x - d.x) / (c.y - d.y) = q at hq ⊢
  have p1 := Int.mul_nonneg (show 0 ≤ Y - d.y by omega) hc
  have p2 := Int.mul_nonneg (show 0 ≤ c.y - Y by omega) hd
  have p3 := Int.mul_le_mul_of_nonneg_left hq (Int.le_of_lt hh)
  have key : (c.y - d.y) * ((d.x + q - a.x) * (b.y - a.y)) ≤ (c.y - d.y) * ((Y - a.y) * (b.x - a.x)) := by grind
  have h5 : (d.x + q - a.x) * (b.y - a.y) ≤ (Y - a.y) * (b.x - a.x) := Int.le_of_mul_le_mul_left key hk
  have h6 := Int.le_ediv_of_mul_le hh h5
  omega
theorem sg_nonneg {x : Int} (h : ¬ sg x < 0) : 0 ≤ x := by
  have := sg_spec x; omega
theorem conv_left {pc : List PtT} (h : convexB pc = true) {i : Nat} (hi : i < pc.length) {p : PtT} (hp : p ∈ pc) : 0 ≤ crossT ⟨(pc.getD ((i + 1) % pc.length) dP).x - (pc.getD i dP).x, (pc.getD ((i + 1) % pc.length) dP).y - (pc.getD i dP).y⟩ ⟨p.x - (pc.getD i dP).x, p.y - (pc.getD i dP).y⟩ := by
  unfold convexB at h
  simp only [Bool.and_eq_true, Bool.not_eq_true'] at h
  have h1 := List.any_eq_false.1 h.2.2 p hp
  simp only [Bool.not_eq_true', Bool.not_eq_false] at h1
  refine sg_nonneg fun hn => ?_
  have := left_no (p := p) hi hn
  rw [this] at h1; cases h1
theorem mem_crs {r : Int} {pc : List PtT} {c : Int × Int} (h : c ∈ crs r (liveT r (edgesOf pc))) : ∃ i, i < pc.length ∧ c = (atE (edgeOf (pc.getD i dP) (pc.getD ((i + 1) % pc.length) dP)) r, (edgeOf (pc.getD i dP) (pc.getD ((i + 1) % pc.length) dP)).wi) ∧
    (edgeOf (pc.getD i dP) (pc.getD ((i + 1) % pc.length) dP)).fr ≤ r ∧ r < (edgeOf (pc.getD i dP) (pc.getD ((i + 1) % pc.length) dP)).to := by
  obtain ⟨e, he, rfl⟩ := List.mem_map.1 h
  have h1 := mem_live he
  obtain ⟨i, hi, hm⟩ := List.mem_flatMap.1 h1.1
  rw [List.mem_range] at hi
  unfold edgesAt at hm
  split at hm
  · rw [List.mem_singleton.1 hm] at h1 ⊢
    exact ⟨i, hi, rfl, h1.2.1, h1.2.2⟩
  · cases hm
theorem hump_piece {pc : List PtT} (hb : BndP pc) (h : convexB pc = true) (r : Int) : Hump (sumTo (crs r (liveT r (edgesOf pc)))) := by
  have he : edgesAll [pc] = edgesOf pc := by simp [edgesAll]
  refine hump_of (crs_wi (he ▸ all_crossX (bnd_one.2 hb).x r)) (by rw [zeroSum_crs, ← he, wind_all]) fun c hc d hd hc2 hd2 => ?_
  obtain ⟨i, hi, rfl, hi1, hi2⟩ := mem_crs hc
  obtain ⟨j, hj, rfl, hj1, hj2⟩ := mem_crs hd
  have hni : (i + 1) % pc.length < pc.length := Nat.mod_lt _ (by omega)
  have hnj : (j + 1) % pc.length < pc.length := Nat.mod_lt _ (by omega)
  have hl1 := conv_left h hj (pt_mem hi)
  have hl2 := conv_left h hj (pt_mem hni)
  generalize pc.getD i dP = c at *
  generalize pc.getD ((i + 1) % pc.length) dP = d at *
  generalize pc.getD j dP = a at *
  generalize pc.getD ((j + 1) % pc.length) dP = b at *
  have r1 := rowOf_def a.y
  have r2 := rowOf_def b.y
  have r3 := rowOf_def c.y
  have r4 := rowOf_def d.y
  by_cases h1 : d.y < c.y
  · by_cases h2 : b.y < a.y
    · rw [edgeOf_lt h2] at hd2; dsimp only at hd2; omega
    · rw [edgeOf_lt h1] at hi1 hi2 ⊢
      rw [edgeOf_ge h2] at hj1 hj2 ⊢
      dsimp only at *
      exact cross_le (Y := 16 * r + 8) (by omega) (by omega) (by omega) (by omega) hl1 hl2
  · rw [edgeOf_ge h1] at hc2; dsimp only at hc2; omega
/-- what is put: none, or a convex piece -/
def humps (r : Int) (ps : List (List PtT)) : Prop := ∀ pc ∈ ps, BndP pc ∧ convexB pc = true
theorem all_le (r : Int) : ∀ ps : List (List PtT), humps r ps → ∀ x, sumTo (crs r (liveT r (edgesAll ps))) x ≤ 0
  | [], _, x => by simp [edgesAll, liveT, crs, sumTo, sumF]
  | pc :: ps, h, x => by
    have ih := all_le r ps (fun q hq => h q (List.mem_cons_of_mem _ hq)) x
    have hp := (hump_piece (h pc List.mem_cons_self).1 (h pc List.mem_cons_self).2 r).le x
    have e : crs r (liveT r (edgesAll (pc :: ps))) = crs r (liveT r (edgesOf pc)) ++ crs r (liveT r (edgesAll ps)) := by
      have e1 : edgesAll (pc :: ps) = edgesOf pc ++ edgesAll ps := by simp [edgesAll]
      rw [e1, live_append]; simp [crs]
    rw [e, sumTo_append]; omega
theorem all_zero (r : Int) (ps : List (List PtT)) : sumF (fun c => c.2) (crs r (liveT r (edgesAll ps))) = 0 := by rw [zeroSum_crs, wind_all]
theorem crs_all_append (r : Int) (a b : List (List PtT)) : crs r (liveT r (edgesAll (a ++ b))) = crs r (liveT r (edgesAll a)) ++ crs r (liveT r (edgesAll b)) := by
  rw [all_append, live_append]; simp [crs]
/-- more pieces have all that fewer have -/
theorem more_has {r : Int} {a b : List (List PtT)} (ha : humps r a) (hb : humps r b) {x : Int} (h : hasS (rowS (crs r (liveT r (edgesAll a)))) x = true) : hasS (rowS (crs r (liveT r (edgesAll (a ++ b))))) x = true := by
  rw [crs_all_append]
  exact hump_has (all_zero r a) (all_zero r b) (all_le r a ha) (all_le r b hb) h
theorem hump_nil (r : Int) : Hump (sumTo (crs r (liveT r (edgesAll [])))) := ⟨fun x => by simp [edgesAll, liveT, crs, sumTo, sumF], fun x y z _ _ h => absurd (by simp [edgesAll, liveT, crs, sumTo, sumF]) h⟩
/-- what is put to pieces -/
def putO (pc : List PtT) : List (List PtT) := if convexB (oriT pc) = true then [oriT pc] else []
theorem putT_L (qs : List (List PtT)) (pc : List PtT) : putT qs pc = qs ++ putO pc := by
  unfold putT putO; split <;> simp
theorem putO_humps {pc : List PtT} (h : BndP pc) (r : Int) : humps r (putO pc) := fun q hq => by
  unfold putO at hq
  split at hq
  · rename_i hc
    rw [List.mem_singleton.1 hq]; exact ⟨oriT_bnd h, hc⟩
  · cases hq
theorem putO_hump {pc : List PtT} (h : BndP pc) (r : Int) : Hump (sumTo (crs r (liveT r (edgesAll (putO pc))))) := by
  unfold putO
  split
  · rename_i hc
    rw [show edgesAll [oriT pc] = edgesOf (oriT pc) by simp [edgesAll]]
    exact hump_piece (oriT_bnd h) hc r
  · exact hump_nil r
theorem putO_len {pc : List PtT} (h : BndP pc) (r : Int) : (rowS (crs r (liveT r (edgesAll (putO pc))))).length ≤ 1 := hump_len (all_zero r _) (putO_hump h r)
theorem putO_len2 {p q : List PtT} (hp : BndP p) (hq : BndP q) (r : Int) : (rowS (crs r (liveT r (edgesAll (putO p ++ putO q))))).length ≤ 2 := by
  rw [crs_all_append]
  exact humps_len (all_zero r _) (all_zero r _) (putO_hump hp r) (putO_hump hq r)

end Go.Proofs.Ytllhohbenniaaaa

/- A row has one span at most of a convex piece; more pieces have all that one has. Conditions: none. -/
namespace Go.Proofs.Ytllhohbenniaaaa
open Go.Proofs Go.RowKit Go.Shelf

theorem pcsW_two {v a b : Value} {p q : List PtT} (h : RowV v 2) (hp : RowV a p.length) (hq : RowV b q.length) : PcsW v [a, b] [p, q] := pcsW_of (ps := [p, q]) h (by show 2 ≤ 1000000; omega) (All2.append (.one hp) (.one hq) : All2 RV ([a] ++ [b]) ([p] ++ [q]))
theorem Bn20.two {p q : List PtT} (h : Bn20 [p, q]) : BndP p ∧ BndP q := ⟨h.2 0 (by show 0 < 2; omega), h.2 1 (by show 1 < 2; omega)⟩
theorem put_nil (p : List PtT) : putT [] p = putO p := putT_L [] p
theorem putO_size (p : List PtT) : (putO p).length ≤ 1 := by unfold putO; split <;> simp
theorem putO_bnd {p : List PtT} (h : BndP p) : ∀ q ∈ putO p, BndP q := fun q hq => (putO_humps h 0 q hq).1
theorem bnd_of {ps : List (List PtT)} (hl : ps.length ≤ 20) (h : ∀ q ∈ ps, BndP q) : Bnd ps := ⟨hl, fun i hi => h _ (by rw [List.getD_eq_getElem?_getD, List.getElem?_eq_getElem hi]; exact List.getElem_mem _)⟩
theorem pcsW_none : PcsW (.slice none 0 0) [] [] := pcsW_of .nil0 (Nat.zero_le _) .nil
theorem pcsAt_none (w : World) : PcsAt w (.slice none 0 0) [] [] := pcsAt_of ⟨rfl, fun j u hu => by simp at hu, fun u hu => by simp at hu⟩ .nil
theorem capd_none : Capd (.slice none 0 0) := fun a n c h => by cases h; exact Nat.le_refl _
theorem rows_le (r : Int) (ps : List (List PtT)) : (rowS (crs r (liveT r (edgesAll ps)))).length ≤ (edgesAll ps).length := by
  have h1 := rowS_len (crs r (liveT r (edgesAll ps))); rw [crs_len] at h1
  exact Nat.le_trans h1 (List.length_filter_le _ _)
set_option maxHeartbeats 4000000 in
theorem a_SpansConvex (w : World) (pv qv : Value) (p q : List PtT) (r x : Int) (hP : RowV pv p.length) (hQ : RowV qv q.length) (hrp : RowAt w pv 2 p.length (p.flatMap eP)) (hrq : RowAt w qv 2 q.length (q.flatMap eP)) : Calls Try.prog 4 #[pv, qv, .int .i64 r, .int .i64 x] w fun e w' => e = .returned (.bool true) ∧ Below w.heap.size w w' := by
  have hp : ∀ w', Chg (fun _ => False) w w' → RowAt w' pv 2 p.length (p.flatMap eP) := fun w' h => hrp.chg h (fun h => h)
  have hq : ∀ w', Chg (fun _ => False) w w' → RowAt w' qv 2 q.length (q.flatMap eP) := fun w' h => hrq.chg h (fun h => h)
  obtain ⟨ap, cp, rfl⟩ := hP.sl
  obtain ⟨aq, cq, rfl⟩ := hQ.sl
  refine calls_of (args := [.slice ap p.length cp, .slice aq q.length cq, .int .i64 r, .int .i64 x]) Try.func4 rfl Try.ntmps4 Try.results4 rfl ?_
  refine v_seq ?_
  refine v_region ?_
  refine l_val rfl (o_assign rfl) ?_
  refine l_nil ?_
  refine kt_norm ?_
  refine v_seq ?_
  refine v_seq ?_
  refine v_region ?_
  refine l_val rfl (o_move rfl) ?_
  refine l_val rfl (o_move rfl) ?_
  refine l_buildSlice (vs := [_, _]) (cs := [_, _]) rfl rfl rfl rfl rfl rfl fun v15 hv15 => ?_
  refine l_call (ks := [15]) rfl (o_callC (vs := [_]) (r := .bool (decide (Bn20 [p, q]))) (ent_of Try.func17 rfl rfl) rfl (fun w' hg hh => a_bounded20 w' v15 _ [p, q] (pcsW_two hv15 hP hQ) (pcsAt_two (rowAt_own (hh 15 (by simp) _ rfl)) (hp w' hg) (hq w' hg)))) ?_
  refine lz_bool (fun hbb => ?_) (fun hbb => ?_)
  · have hbp := hbb.two.1
    have hbq := hbb.two.2
    have hnp := hbp.near
    have hnq := hbq.near
    have hlp := hbp.1
    have hlq := hbq.1
    have hpl := putO_size p
    have hql := putO_size q
    have hbA : Bnd (putO p) := bnd_of (by omega) (putO_bnd hbp)
    have hbB : Bnd (putO p ++ putO q) := bnd_of (by rw [List.length_append]; omega) (fun x hx => (List.mem_append.1 hx).elim (putO_bnd hbp x) (putO_bnd hbq x))
    refine l_val rfl (o_not rfl rfl) ?_
    refine l_val rfl (o_move rfl) ?_
    refine l_val rfl (o_move rfl) ?_
    refine l_ans (vs := [_]) rfl rfl (a_row20 _) ?_
    refine lz_bool (fun q1 => ?_) (fun q1 => ?_)
    · skip
      refine l_val rfl (o_not rfl rfl) ?_
      refine l_val rfl (o_pickF rfl rfl) ?_
      refine l_val rfl (o_move rfl) ?_
      refine l_val rfl (o_move rfl) ?_
      refine l_ans (vs := [_]) rfl rfl (a_far _) ?_
      refine lz_bool (fun q2 => ?_) (fun q2 => ?_)
      · skip
        refine l_val rfl (o_pickF rfl rfl) ?_
        refine l_val rfl (o_move rfl) ?_
        refine l_no rfl ?_
        refine l_no rfl ?_
        refine l_val rfl (o_pickT rfl rfl) ?_
        refine l_nil ?_
        refine kt_norm ?_
        refine v_sel [0, 1, 2, 3, 30] [] rfl rfl ?_
        refine v_condT rfl ?_
        refine v_seq ?_
        refine v_region ?_
        refine l_ans (vs := []) rfl rfl (a_shown20) ?_
        refine l_val rfl (o_assign rfl) ?_
        refine l_nil ?_
        refine kt_norm ?_
        refine v_sel [8] [] rfl rfl ?_
        refine v_ret ?_
        refine kt_ret ?_
        refine ⟨[_], .cons (.tmp rfl) (ResAll.nil), ?_⟩
        rfl
      · skip
        refine l_val rfl (o_pickF rfl rfl) ?_
        refine l_val rfl (o_move rfl) ?_
        refine l_ans (vs := []) rfl rfl (a_shown20) ?_
        refine l_val rfl (o_not rfl rfl) ?_
        refine l_val rfl (o_pickF rfl rfl) ?_
        refine l_nil ?_
        refine kt_norm ?_
        refine v_sel [0, 1, 2, 3, 30] [] rfl rfl ?_
        refine v_condF rfl ?_
        refine v_skip ?_
        refine kt_norm ?_
        refine v_seq ?_
        refine v_region ?_
        refine l_val rfl (o_move rfl) ?_
        refine l_gsaid (ks := []) (caps := #[]) (vs := [_, _]) (α := PutY 0 p) (fun o => putV _ o.1) (fun o w2 => putG [] p o.1 w2) (fun o b => putB o.1 b) rfl rfl (ent_of Try.func21 rfl rfl) rfl (fun o => putG_keep o.1) (fun o => putG_lt o.1) (fun w' hg hh => a_Put w' none 0 0 [] (.slice ap p.length cp) p (by omega) (Nat.le_refl 0) .nil0 (pcsAt_none w').row (by omega) hP (hp w' hg) hnp) fun o1 => ?_
        have hW1 := pcsW_put pcsW_none (Nat.zero_le _) o1
        have hC1 := capd_put capd_none o1.1
        have hT1 := fun w2 (h : putG [] p o1.1 w2) => pcsAt_put pcsW_none (pcsAt_none w2) o1 h
        rw [put_nil] at hW1
        simp only [put_nil] at hT1
        obtain ⟨tv1, htv1⟩ : ∃ t, putV (.slice none 0 0) o1.1 = t := ⟨_, rfl⟩
        obtain ⟨ts1, hts1⟩ : ∃ t, putW [] o1.1 = t := ⟨_, rfl⟩
        simp only [htv1, hts1] at hW1 hC1 hT1 ⊢
        obtain ⟨a1, c1, rfl⟩ := hW1.V.sl
        refine l_val rfl (o_assign rfl) ?_
        refine l_nil ?_
        refine kt_norm ?_
        refine v_seq ?_
        refine v_region ?_
        refine l_val rfl (o_move rfl) ?_
        refine l_val rfl (o_move rfl) ?_
        refine l_gsaid (ks := []) (caps := #[]) (vs := [_, _]) (α := PutY (putO p).length q) (fun o => putV _ o.1) (fun o w2 => putG ts1 q o.1 w2) (fun o b => putB o.1 b) rfl rfl (ent_of Try.func21 rfl rfl) rfl (fun o => putG_keep o.1) (fun o => putG_lt o.1) (fun w' hg hh => a_Put w' a1 (putO p).length c1 ts1 (.slice aq q.length cq) q (by omega) (hC1 _ _ _ rfl) hW1.V (hT1 w' hg.2).row (by omega) hQ (hq w' hg.1) hnq) fun o2 => ?_
        have hW2 := pcsW_put hW1 (by omega) o2
        have hT2 := fun w2 (h1 : putG [] p o1.1 w2) (h : putG ts1 q o2.1 w2) => pcsAt_put hW1 (hT1 w2 h1) o2 h
        rw [putT_L] at hW2
        simp only [putT_L] at hT2
        obtain ⟨tv2, htv2⟩ : ∃ t, putV (.slice a1 (putO p).length c1) o2.1 = t := ⟨_, rfl⟩
        obtain ⟨ts2, hts2⟩ : ∃ t, putW ts1 o2.1 = t := ⟨_, rfl⟩
        simp only [htv2, hts2] at hW2 hT2 ⊢
        refine l_val rfl (o_assign rfl) ?_
        refine l_nil ?_
        refine kt_norm ?_
        refine v_sel [2, 3, 9, 10] [] rfl rfl ?_
        refine v_seq ?_
        refine v_region ?_
        have hA3 := edgesAll_len hbA
        have hB3 := edgesAll_len hbB
        have hAl := rows_le r (putO p)
        have hBl := rows_le r (putO p ++ putO q)
        have hAo := all_spOk hbA r
        have hBo := all_spOk hbB r
        have hA1 := putO_len hbp r
        have hB2 := putO_len2 hbp hbq r
        have hmh : ∀ x, hasS (rowS (crs r (liveT r (edgesAll (putO p))))) x = true → hasS (rowS (crs r (liveT r (edgesAll (putO p ++ putO q))))) x = true := fun x => more_has (putO_humps hbp r) (putO_humps hbq r)
        have hms := sumS_mono hmh hAo hBo
        refine l_val rfl (o_move rfl) ?_
        refine l_gown (ks := []) (caps := #[]) (vs := [_]) rfl rfl (ent_of Try.func23 rfl rfl) rfl (fun w' hg hh => a_all w' _ ts1 (putO p) hbA (hbA.pcsV hW1) (hT1 w' hg.1.2)) fun yla hyla => ?_
        refine l_val rfl (o_move rfl) ?_
        refine l_gown (ks := [38]) (caps := #[]) (vs := [_, _]) rfl rfl (ent_of Try.func22 rfl rfl) rfl (fun w' hg hh => a_Spans w' yla (edgesAll (putO p)) r (by omega) hyla (rowAt_own (hh 38 (by simp) _ rfl)) (all_cross hbA r)) fun ya hya => ?_
        refine l_val rfl (o_assign rfl) ?_
        refine l_nil ?_
        refine kt_norm ?_
        refine v_seq ?_
        refine v_region ?_
        refine l_val rfl (o_move rfl) ?_
        refine l_gown (ks := []) (caps := #[]) (vs := [_]) rfl rfl (ent_of Try.func23 rfl rfl) rfl (fun w' hg hh => a_all w' _ ts2 (putO p ++ putO q) hbB (hbB.pcsV hW2) (hT2 w' hg.1.2 hg.2)) fun ylb hylb => ?_
        refine l_val rfl (o_move rfl) ?_
        refine l_gown (ks := [42]) (caps := #[]) (vs := [_, _]) rfl rfl (ent_of Try.func22 rfl rfl) rfl (fun w' hg hh => a_Spans w' ylb (edgesAll (putO p ++ putO q)) r (by omega) hylb (rowAt_own (hh 42 (by simp) _ rfl)) (all_cross hbB r)) fun yb hyb => ?_
        refine l_val rfl (o_assign rfl) ?_
        refine l_nil ?_
        refine kt_norm ?_
        refine v_sel [3, 11, 12] [40, 44] rfl rfl ?_
        refine v_seq ?_
        refine v_region ?_
        refine l_val rfl (o_move rfl) ?_
        refine l_val rfl (o_len rfl hya) ?_
        refine l_split rfl (o_leq rfl rfl) (fun q3 => ?_) (fun q3 => absurd (show _ by omega) q3)
        refine l_val rfl (o_move rfl) ?_
        refine l_val rfl (o_move rfl) ?_
        refine l_val rfl (o_len rfl hyb) ?_
        refine l_split rfl (o_leq rfl rfl) (fun q4 => ?_) (fun q4 => absurd (show _ by omega) q4)
        refine l_val rfl (o_pickT rfl rfl) ?_
        refine l_val rfl (o_move rfl) ?_
        refine l_val rfl (o_move rfl) ?_
        refine l_val rfl (o_move rfl) ?_
        refine l_call (ks := [40]) rfl (o_callC (vs := [_, _]) (r := .bool (hasS (rowS (crs r (liveT r (edgesAll (putO p))))) x)) (ent_of Try.func24 rfl rfl) rfl (fun w' hg hh => a_Has w' ya (rowS (crs r (liveT r (edgesAll (putO p))))) x (by omega) hya (rowAt_own (hh 40 (by simp) _ rfl)))) ?_
        cases hha : hasS (rowS (crs r (liveT r (edgesAll (putO p))))) x
        · skip
          refine l_val rfl (o_not rfl rfl) ?_
          refine l_val rfl (o_move rfl) ?_
          refine l_no rfl ?_
          refine l_no rfl ?_
          refine l_no rfl ?_
          refine l_val rfl (o_pickT rfl rfl) ?_
          refine l_val rfl (o_pickT rfl rfl) ?_
          refine l_val rfl (o_move rfl) ?_
          refine l_val rfl (o_move rfl) ?_
          refine l_call (ks := [40]) rfl (o_callC (vs := [_]) (r := .int .i64 (sumS (rowS (crs r (liveT r (edgesAll (putO p))))))) (ent_of Try.func25 rfl rfl) rfl (fun w' hg hh => a_Sum w' ya (rowS (crs r (liveT r (edgesAll (putO p))))) (by omega) hAo hya (rowAt_own (hh 40 (by simp) _ rfl)))) ?_
          refine l_val rfl (o_move rfl) ?_
          refine l_call (ks := [44]) rfl (o_callC (vs := [_]) (r := .int .i64 (sumS (rowS (crs r (liveT r (edgesAll (putO p ++ putO q))))))) (ent_of Try.func25 rfl rfl) rfl (fun w' hg hh => a_Sum w' yb (rowS (crs r (liveT r (edgesAll (putO p ++ putO q))))) (by omega) hBo hyb (rowAt_own (hh 44 (by simp) _ rfl)))) ?_
          refine l_split rfl (o_leq rfl rfl) (fun q5 => ?_) (fun q5 => absurd (show _ by omega) q5)
          refine l_val rfl (o_pickT rfl rfl) ?_
          refine l_val rfl (o_assign rfl) ?_
          refine l_nil ?_
          refine kt_norm ?_
          refine v_sel [8] [] rfl rfl ?_
          refine v_ret ?_
          refine ⟨[_], .cons (.tmp rfl) (ResAll.nil), ?_⟩
          rfl
        · skip
          refine l_val rfl (o_not rfl rfl) ?_
          refine l_val rfl (o_move rfl) ?_
          refine l_val rfl (o_move rfl) ?_
          refine l_val rfl (o_move rfl) ?_
          refine l_call (ks := [44]) rfl (o_callC (vs := [_, _]) (r := .bool true) (ent_of Try.func24 rfl rfl) rfl (fun w' hg hh => hmh x hha ▸ a_Has w' yb (rowS (crs r (liveT r (edgesAll (putO p ++ putO q))))) x (by omega) hyb (rowAt_own (hh 44 (by simp) _ rfl)))) ?_
          refine l_val rfl (o_pickF rfl rfl) ?_
          refine l_val rfl (o_pickT rfl rfl) ?_
          refine l_val rfl (o_move rfl) ?_
          refine l_val rfl (o_move rfl) ?_
          refine l_call (ks := [40]) rfl (o_callC (vs := [_]) (r := .int .i64 (sumS (rowS (crs r (liveT r (edgesAll (putO p))))))) (ent_of Try.func25 rfl rfl) rfl (fun w' hg hh => a_Sum w' ya (rowS (crs r (liveT r (edgesAll (putO p))))) (by omega) hAo hya (rowAt_own (hh 40 (by simp) _ rfl)))) ?_
          refine l_val rfl (o_move rfl) ?_
          refine l_call (ks := [44]) rfl (o_callC (vs := [_]) (r := .int .i64 (sumS (rowS (crs r (liveT r (edgesAll (putO p ++ putO q))))))) (ent_of Try.func25 rfl rfl) rfl (fun w' hg hh => a_Sum w' yb (rowS (crs r (liveT r (edgesAll (putO p ++ putO q))))) (by omega) hBo hyb (rowAt_own (hh 44 (by simp) _ rfl)))) ?_
          refine l_split rfl (o_leq rfl rfl) (fun q6 => ?_) (fun q6 => absurd (show _ by omega) q6)
          refine l_val rfl (o_pickT rfl rfl) ?_
          refine l_val rfl (o_assign rfl) ?_
          refine l_nil ?_
          refine kt_norm ?_
          refine v_sel [8] [] rfl rfl ?_
          refine v_ret ?_
          refine ⟨[_], .cons (.tmp rfl) (ResAll.nil), ?_⟩
          rfl
    · skip
      refine l_val rfl (o_not rfl rfl) ?_
      refine l_val rfl (o_pickF rfl rfl) ?_
      refine l_val rfl (o_move rfl) ?_
      refine l_no rfl ?_
      refine l_no rfl ?_
      refine l_val rfl (o_pickT rfl rfl) ?_
      refine l_val rfl (o_move rfl) ?_
      refine l_no rfl ?_
      refine l_no rfl ?_
      refine l_val rfl (o_pickT rfl rfl) ?_
      refine l_nil ?_
      refine kt_norm ?_
      refine v_sel [0, 1, 2, 3, 30] [] rfl rfl ?_
      refine v_condT rfl ?_
      refine v_seq ?_
      refine v_region ?_
      refine l_ans (vs := []) rfl rfl (a_shown20) ?_
      refine l_val rfl (o_assign rfl) ?_
      refine l_nil ?_
      refine kt_norm ?_
      refine v_sel [8] [] rfl rfl ?_
      refine v_ret ?_
      refine kt_ret ?_
      refine ⟨[_], .cons (.tmp rfl) (ResAll.nil), ?_⟩
      rfl
  · skip
    refine l_val rfl (o_not rfl rfl) ?_
    refine l_val rfl (o_move rfl) ?_
    refine l_no rfl ?_
    refine l_no rfl ?_
    refine l_no rfl ?_
    refine l_val rfl (o_pickT rfl rfl) ?_
    refine l_val rfl (o_move rfl) ?_
    refine l_no rfl ?_
    refine l_no rfl ?_
    refine l_val rfl (o_pickT rfl rfl) ?_
    refine l_val rfl (o_move rfl) ?_
    refine l_no rfl ?_
    refine l_no rfl ?_
    refine l_val rfl (o_pickT rfl rfl) ?_
    refine l_nil ?_
    refine kt_norm ?_
    refine v_sel [0, 1, 2, 3, 30] [] rfl rfl ?_
    refine v_condT rfl ?_
    refine v_seq ?_
    refine v_region ?_
    refine l_ans (vs := []) rfl rfl (a_shown20) ?_
    refine l_val rfl (o_assign rfl) ?_
    refine l_nil ?_
    refine kt_norm ?_
    refine v_sel [8] [] rfl rfl ?_
    refine v_ret ?_
    refine kt_ret ?_
    refine ⟨[_], .cons (.tmp rfl) (ResAll.nil), ?_⟩
    rfl
end Go.Proofs.Ytllhohbenniaaaa

/- Crops of covers. Conditions: none. -/
namespace Go.Proofs.Ytllhohbenniaaaa
open Go.Proofs Go.RowKit Go.Shelf

theorem o_slice2 {C : Cx} {s : St} {d : Option Nat} {x z z' : Operand} {T E ty : TypeId} {pos : String} {aft : Array Edge} {gd : Option (Nat × Bool)} {v : Value} {n esz : Nat} {k k' : IntKind} {q q' : Int} {lo hi : Nat} [ht : TSl C.P T E esz] (h : ev C s x = some v) (hv : RowV v n) (hcap : Capd v) (h2 : ev C s z = some (.int k q)) (hq : q = ((lo : Nat) : Int)) (h3 : ev C s z' = some (.int k' q')) (hq' : q' = ((hi : Nat) : Int)) (h4 : lo ≤ hi) (h5 : hi ≤ n) :
    OpV C s ⟨d, .slice T x (some z) (some z') none, ty, pos, aft, gd⟩ [] (subFrom (subTo v hi) esz lo) := opv _ _ (by simp) fun ρ w hr => by
  have hx := rd1 hr (x := x) (by simp [Op.operands]) h
  have hz := rd1 hr (x := z) (by simp [Op.operands]) h2
  have hz' := rd1 hr (x := z') (by simp [Op.operands]) h3
  subst hq hq'
  obtain ⟨b, c, rfl⟩ := hv.sl
  have h6 := hcap _ _ _ rfl
  have h7 : (hi : Int) ≤ c := by omega
  have h8 : (lo : Int) ≤ hi := by omega
  simp [execOp, hx, hz, hz', Instr.sliceAt, Instr.slice, Instr.sliceBounds, Instr.sliceBound, asIntOf, Sem.run_bind, run_underlying ht.h, h7, h8, h4, show hi ≤ c by omega, ht.sz, Result.andThen, subFrom, subTo]
theorem capd_to {v : Value} {n hi : Nat} (h : Capd v) (hv : RowV v n) (hle : hi ≤ n) : Capd (subTo v hi) := fun a n' c e => by
  obtain ⟨b, c', rfl⟩ := hv.sl
  have := h _ _ _ rfl
  simp only [subTo] at e
  cases e; omega
/-- rows of a crop -/
def cropT (n : Nat) (pix : List Int) (x y cw : Nat) : Nat → List Int
  | 0 => []
  | k + 1 => cropT n pix x y cw k ++ (pix.drop ((y + k) * n + x)).take cw
theorem crop_in {n h x y cw k : Nat} (hx : x + cw ≤ n) (hk : y + k < h) : (y + k) * n + x + cw ≤ n * h := by
  have h1 : (y + k + 1) * n ≤ h * n := Nat.mul_le_mul_right n hk
  rw [Nat.succ_mul, Nat.mul_comm h n] at h1
  omega
theorem cropT_len {n h : Nat} {pix : List Int} {x y cw : Nat} (hl : pix.length = n * h) (hx : x + cw ≤ n) : ∀ k, y + k ≤ h → (cropT n pix x y cw k).length = k * cw
  | 0, _ => by simp [cropT]
  | k + 1, hk => by
    have h1 := crop_in (n := n) (h := h) (x := x) (y := y) (cw := cw) (k := k) hx (by omega)
    rw [cropT, List.length_append, cropT_len hl hx k (by omega), List.length_take, List.length_drop, hl, Nat.succ_mul]
    omega
/-- the row of a crop, pixel by pixel -/
theorem crop_step {n h : Nat} {pix : List Int} {o cw i : Nat} (ho : o + cw ≤ pix.length) (hi : i < cw) : (pix.drop o).take (i + 1) = (pix.drop o).take i ++ [pix.getD (o + i) 0] := by
  have hl : i < (pix.drop o).length := by rw [List.length_drop]; omega
  rw [List.take_add_one, List.getElem?_eq_getElem hl, List.getElem_drop, List.getD_eq_getElem?_getD, List.getElem?_eq_getElem (show o + i < pix.length by omega)]
  rfl
theorem crop_row {w : World} {pv : Value} {n h x y cw k : Nat} {pix : List Int} (hrow : RowAt w pv 1 pix.length (iU pix)) (hV : RowV pv pix.length) (hcap : Capd pv) (hle : (y + k) * n + x + cw ≤ pix.length) : RowAt w (subFrom (subTo pv ((y + k) * n + x + cw)) 1 ((y + k) * n + x)) 1 cw (iU ((pix.drop ((y + k) * n + x)).take cw)) := by
  have h1 := rowAt_to hrow hle
  have h2 := rowAt_drop (lo := (y + k) * n + x) h1 (rowV_to hV hle) (capd_to hcap hV hle) (by omega)
  rw [Nat.mul_one, Nat.mul_one] at h2
  have e : (y + k) * n + x + cw - ((y + k) * n + x) = cw := by omega
  rw [e] at h2
  have e2 : (((iU pix).take ((y + k) * n + x + cw)).drop ((y + k) * n + x)) = iU ((pix.drop ((y + k) * n + x)).take cw) := by
    rw [List.drop_take, e]
    simp only [iU, List.map_drop, List.map_take]
  rw [e2] at h2
  exact h2
theorem crop_get {n h x y i k : Nat} {pix : List Int} (hx : x + i < n) (hy : y + k < h) : atT n h pix ((x : Int) + i) ((y : Int) + k) = pix.getD ((y + k) * n + x + i) 0 := by
  unfold atT
  rw [if_pos (by omega)]
  congr 1
  rw [← Int.natCast_add, ← Int.natCast_mul, ← Int.natCast_add, ← Int.natCast_add, Int.toNat_natCast]
  omega
def CropOk (n h : Nat) (X Y CW CH : Int) : Prop := 0 ≤ X ∧ 0 ≤ Y ∧ 1 ≤ CW ∧ 1 ≤ CH ∧ X + CW ≤ n ∧ Y + CH ≤ h
instance (n h : Nat) (X Y CW CH : Int) : Decidable (CropOk n h X Y CW CH) := by unfold CropOk; infer_instance
theorem cropOk_def (n h : Nat) (X Y CW CH : Int) : CropOk n h X Y CW CH ↔ 0 ≤ X ∧ 0 ≤ Y ∧ 1 ≤ CW ∧ 1 ≤ CH ∧ X + CW ≤ n ∧ Y + CH ≤ h := Iff.rfl
set_option maxHeartbeats 1000000 in
theorem a_CropY (w : World) (pv : Value) (n h : Nat) (pix : List Int) (x y cw ch : Nat) (hn : n ≤ 256) (hh : h ≤ 256) (hx : x + cw ≤ n) (hy : y + ch ≤ h) (hcw : 1 ≤ cw) (hch : 1 ≤ ch) (hl : pix.length = n * h) (hV : RowV pv pix.length) (hcap : Capd pv) (hrow : RowAt w pv 1 pix.length (iU pix)) :
    Calls Try.prog 10 #[.agg #[.int .i64 (n : Int), .int .i64 (h : Int), pv], .int .i64 (x : Int), .int .i64 (y : Int), .int .i64 (cw : Int), .int .i64 (ch : Int)] w fun e w' => ∃ r, e = .returned (.tuple #[.agg #[.int .i64 (cw : Int), .int .i64 (ch : Int), r], .int .i64 0]) ∧ Below w.heap.size w w' ∧ OwnAt w.heap.size w' r 5 1 (cropT n pix x y cw ch).length (iU (cropT n pix x y cw ch)) := by
  have hr : ∀ w', Chg (fun _ => False) w w' → RowAt w' pv 1 pix.length (iU pix) := fun w' h => hrow.chg h (fun h => h)
  have hpb : n * h ≤ 65536 := nh_le hn hh
  obtain ⟨ap, cp, rfl⟩ := hV.sl
  refine calls_said (args := [.agg #[.int .i64 (n : Int), .int .i64 (h : Int), .slice ap pix.length cp], .int .i64 (x : Int), .int .i64 (y : Int), .int .i64 (cw : Int), .int .i64 (ch : Int)]) (fun r => .tuple #[.agg #[.int .i64 (cw : Int), .int .i64 (ch : Int), r], .int .i64 0]) (fun r w' => (Hp.own r 5 1 (cropT n pix x y cw ch).length (iU (cropT n pix x y cw ch))).ok w') (fun r b => r.ownBlock = some b) Try.func10 rfl Try.ntmps10 Try.results10 rfl ?_
  refine v_seq ?_
  refine v_region ?_
  refine l_new rfl (o_box (cs := [_, _, _]) rfl rfl) fun b5 => ?_
  refine l_new rfl o_alloc fun b10 => ?_
  refine l_val rfl (o_assign rfl) ?_
  refine l_nil ?_
  refine kt_norm ?_
  refine v_seq ?_
  refine v_seq ?_
  refine v_region ?_
  refine l_val rfl (o_move rfl) ?_
  refine l_val rfl (o_fld rfl) ?_
  refine l_val rfl (o_load1 (key := 5) rfl rfl rfl) ?_
  refine l_ans (vs := [_, _]) rfl rfl (a_within _ _) ?_
  refine lz_bool (fun hc1 => ?_) (fun hc1 => ?_)
  · skip
    refine l_val rfl (o_not rfl rfl) ?_
    refine l_val rfl (o_move rfl) ?_
    refine l_val rfl (o_move rfl) ?_
    refine l_val rfl (o_fld rfl) ?_
    refine l_val rfl (o_load1 (key := 5) rfl rfl rfl) ?_
    refine l_ans (vs := [_, _]) rfl rfl (a_within _ _) ?_
    refine lz_bool (fun hc2 => ?_) (fun hc2 => ?_)
    · skip
      refine l_val rfl (o_not rfl rfl) ?_
      refine l_val rfl (o_pickF rfl rfl) ?_
      refine l_val rfl (o_move rfl) ?_
      refine l_val rfl (o_move rfl) ?_
      refine l_val rfl (o_subi rfl rfl ?_) ?_
      · omega
      refine l_val rfl (o_fld rfl) ?_
      refine l_val rfl (o_load1 (key := 5) rfl rfl rfl) ?_
      refine l_val rfl (o_move rfl) ?_
      refine l_val rfl (o_subi rfl rfl ?_) ?_
      · omega
      refine l_ans (vs := [_, _]) rfl rfl (a_within _ _) ?_
      refine lz_bool (fun hc3 => ?_) (fun hc3 => ?_)
      · skip
        refine l_val rfl (o_not rfl rfl) ?_
        refine l_val rfl (o_pickF rfl rfl) ?_
        refine l_val rfl (o_move rfl) ?_
        refine l_val rfl (o_move rfl) ?_
        refine l_val rfl (o_subi rfl rfl ?_) ?_
        · omega
        refine l_val rfl (o_fld rfl) ?_
        refine l_val rfl (o_load1 (key := 5) rfl rfl rfl) ?_
        refine l_val rfl (o_move rfl) ?_
        refine l_val rfl (o_subi rfl rfl ?_) ?_
        · omega
        refine l_ans (vs := [_, _]) rfl rfl (a_within _ _) ?_
        refine lz_bool (fun hc4 => ?_) (fun hc4 => ?_)
        · skip
          refine l_val rfl (o_not rfl rfl) ?_
          refine l_val rfl (o_pickF rfl rfl) ?_
          refine l_nil ?_
          refine kt_norm ?_
          refine v_sel [1, 2, 3, 4, 5, 10, 45] [5, 10] rfl rfl ?_
          refine v_condF rfl ?_
          refine v_skip ?_
          refine kt_norm ?_
          refine v_seq ?_
          refine v_region ?_
          refine l_val rfl (o_move rfl) ?_
          refine l_val rfl (o_move rfl) ?_
          refine l_val rfl (o_build (vs := [_, _]) (cs := [_, _, _]) rfl rfl) ?_
          refine l_new rfl o_alloc fun b12 => ?_
          refine l_store rfl (o_storeW (key := 12) (xs := [_, _, _]) rfl rfl rfl rfl rfl rfl rfl) ?_
          refine l_nil ?_
          refine kt_norm ?_
          refine v_seq ?_
          refine v_seq ?_
          refine v_region ?_
          refine l_val rfl (o_move rfl) ?_
          refine l_val rfl (o_assign rfl) ?_
          refine l_nil ?_
          refine kt_norm ?_
          refine v_block ?_
          refine v_ghost 77 5 1 ?_
          refine v_loopS (α := Nat × Value) (fun ⟨k, rv⟩ => [(13, .int .i64 ((y + k : Nat) : Int))]) (fun ⟨k, rv⟩ => [(12, Hp.box b12 28 [.int .i64 (cw : Int), .int .i64 (ch : Int), rv]), (77, Hp.own rv 5 1 (cropT n pix x y cw k).length (iU (cropT n pix x y cw k)))])  (fun ⟨k, rv⟩ => k ≤ ch ∧ RowV rv (cropT n pix x y cw k).length) (fun ⟨k, rv⟩ => ch - k) (0, .slice none 0 0) [1, 2, 3, 4, 5, 10, 12] [5, 10] ⟨Nat.zero_le _, .nil0⟩  (And.intro (congrArg (fun z => some (Value.int .i64 z)) (by omega)) (True.intro)) rfl (And.intro rfl (And.intro rfl (True.intro))) rfl ?_
          rintro ⟨k, rv⟩ ⟨hk0, hrv⟩
          refine v_seq ?_
          refine v_seq ?_
          refine v_region ?_
          refine l_val rfl (o_move rfl) ?_
          refine l_val rfl (o_move rfl) ?_
          refine l_val rfl (o_move rfl) ?_
          refine l_val rfl (o_addi rfl rfl ?_) ?_
          · omega
          refine l_split rfl (o_lss rfl rfl) (fun q1 => ?_) (fun q1 => ?_)
          · have hk : k < ch := by omega
            have hin := crop_in (n := n) (h := h) (x := x) (y := y) (cw := cw) (k := k) hx (by omega)
            have hll := cropT_len hl hx k (show y + k ≤ h by omega)
            have hl2 := cropT_len hl hx (k + 1) (show y + (k + 1) ≤ h by omega)
            have hkb : k * cw ≤ 256 * 256 := Nat.mul_le_mul (by omega) (by omega)
            have hkb2 : (k + 1) * cw = k * cw + cw := Nat.succ_mul k cw
            have hyk : (y + k) * n ≤ 256 * 256 := Nat.mul_le_mul (by omega) (by omega)
            have hykc : (((y + k) * n : Nat) : Int) = ((y + k : Nat) : Int) * (n : Int) := Int.natCast_mul _ _
            refine l_nil ?_
            refine kt_norm ?_
            refine v_condT rfl ?_
            refine v_skip ?_
            refine kt_norm ?_
            refine v_seq ?_
            refine v_block ?_
            refine v_drawW [(77, (cropT n pix x y cw k).length + cw)] [[], [12], [], [5], [], [], [5], [], [], [], [], [], [5], [], [], [], [], [], [], [77], [], [12]] mixed ?_ (by kernel_rfl) (by kernel_rfl)
            refine d_val (fun _ => rfl) rfl rfl (fun σ7 => o_fld rfl) ?_
            refine d_val (fun _ => rfl) rfl rfl (fun σ7 => o_load1 (key := 12) rfl rfl rfl) ?_
            refine d_val (fun _ => rfl) rfl rfl (fun σ7 => o_fld rfl) ?_
            refine d_val (fun _ => rfl) rfl rfl (fun σ7 => o_load1 (key := 5) rfl rfl rfl) ?_
            refine d_val (fun _ => rfl) rfl rfl (fun σ7 => o_move rfl) ?_
            refine d_val (fun _ => rfl) rfl rfl (fun σ7 => o_fld rfl) ?_
            refine d_val (fun _ => rfl) rfl rfl (fun σ7 => o_load1 (key := 5) rfl rfl rfl) ?_
            refine d_val (fun _ => rfl) rfl rfl (fun σ7 => o_muli rfl rfl ?_) ?_
            · omega
            refine d_val (fun _ => rfl) rfl rfl (fun σ7 => o_move rfl) ?_
            refine d_val (fun _ => rfl) rfl rfl (fun σ7 => o_addi rfl rfl ?_) ?_
            · omega
            refine d_val (fun _ => rfl) rfl rfl (fun σ7 => o_move rfl) ?_
            refine d_val (fun _ => rfl) rfl rfl (fun σ7 => o_fld rfl) ?_
            refine d_val (fun _ => rfl) rfl rfl (fun σ7 => o_load1 (key := 5) rfl rfl rfl) ?_
            refine d_val (fun _ => rfl) rfl rfl (fun σ7 => o_muli rfl rfl ?_) ?_
            · omega
            refine d_val (fun _ => rfl) rfl rfl (fun σ7 => o_move rfl) ?_
            refine d_val (fun _ => rfl) rfl rfl (fun σ7 => o_addi rfl rfl ?_) ?_
            · omega
            refine d_val (fun _ => rfl) rfl rfl (fun σ7 => o_move rfl) ?_
            refine d_val (fun _ => rfl) rfl rfl (fun σ7 => o_addi rfl rfl ?_) ?_
            · omega
            refine d_val (fun _ => rfl) rfl rfl (fun _ => o_slice2 (lo := ((y + k) * n + x)) (hi := ((y + k) * n + x) + cw) rfl hV hcap rfl (by rw [← hykc]; omega) rfl (by rw [← hykc]; omega) (by omega) (by omega)) ?_
            refine d_app 77 (n := (cropT n pix x y cw k).length) (mm := cw) (κ := []) (fun _ => rfl) (fun _ => rfl) (fun _ => rfl) (fun _ => rfl) rfl (fun σ7 => (rowV_from (rowV_to hV (by omega)) (by omega)).to (by omega)) (fun σ7 => row_imm (fun w hg => crop_row (h := h) (hr w hg) hV hcap (by omega))) (by omega) (fun _ h => h) ?_
            refine d_val (fun _ => rfl) rfl rfl (fun σ7 => o_fld rfl) ?_
            refine d_store (fun _ => rfl) rfl rfl (fun σ7 => o_store1 (key := 12) (rs := [_, _, _]) rfl rfl (rowV_cells (show RowV (σ7.v 77) ((cropT n pix x y cw k).length + cw) from σ7.ok 77)) rfl rfl (rowV_one (show RowV (σ7.v 77) ((cropT n pix x y cw k).length + cw) from σ7.ok 77)) rfl) ?_
            refine d_nil (fun σ7 => ?_)
            refine l_nil ?_
            refine kb_norm ?_
            refine kt_norm ?_
            refine v_sel [13, 1, 2, 3, 4, 5, 10, 12] [5, 10, 12, 77] rfl rfl ?_
            refine v_region ?_
            refine l_val rfl (o_move rfl) ?_
            refine l_val rfl (o_addi rfl rfl ?_) ?_
            · omega
            refine l_val rfl (o_assign rfl) ?_
            refine l_nil ?_
            refine kt_norm ?_
            have hke : iU (cropT n pix x y cw k) ++ iU ((pix.drop ((y + k) * n + x)).take cw) = iU (cropT n pix x y cw (k + 1)) := by simp [cropT, iU]
            have hlk : (cropT n pix x y cw (k + 1)).length = (cropT n pix x y cw k).length + cw := by omega
            refine ⟨(k + 1, σ7.v 77), ⟨by omega, (show RowV (σ7.v 77) ((cropT n pix x y cw k).length + cw) from σ7.ok 77).to hlk.symm⟩, (by show ch - (k + 1) < ch - k; omega), le_app (And.intro (congrArg (fun z => some (Value.int .i64 z)) (by omega)) (True.intro)) [1, 2, 3, 4, 5, 10, 12] rfl (And.intro rfl (And.intro (congrArg some (own_congr hlk.symm hke)) (True.intro))) [5, 10] rfl⟩
          · skip
            refine l_nil ?_
            refine kt_norm ?_
            refine v_condF rfl ?_
            refine v_exit ?_
            refine kt_exit ?_
            refine kt_exit ?_
            refine kb_eq ?_
            refine kt_norm ?_
            refine v_sel [10, 12] [10, 12, 77] rfl rfl ?_
            refine v_seq ?_
            refine v_region ?_
            obtain rfl : k = ch := by omega
            obtain ⟨ar, cr, rfl⟩ := hrv.sl
            refine l_val rfl (o_loadW (key := 12) rfl rfl rfl) ?_
            refine l_store rfl (o_storeW (key := 10) (xs := [_, _, _]) rfl rfl rfl rfl rfl rfl rfl) ?_
            refine l_val rfl (o_assign rfl) ?_
            refine l_nil ?_
            refine kt_norm ?_
            refine v_ret ?_
            refine ⟨[_, _], .cons (.cellW (key := 10) rfl rfl rfl) (.cons (.tmp rfl) (ResAll.nil)), ?_⟩
            exact ⟨.slice ar _ cr, rfl, fun w' ho => ⟨(ho.mo 77 _ rfl).1, fun b hb => ((ho.mo 77 _ rfl).2 b hb).elim id False.elim⟩⟩
        · exfalso; omega
      · exfalso; omega
    · exfalso; omega
  · exfalso; omega
set_option maxHeartbeats 1000000 in
theorem a_CropN (w : World) (pv : Value) (n h : Nat) (pix : List Int) (X Y CW CH : Int) (hn : n ≤ 256) (hh : h ≤ 256) (hno : ¬ CropOk n h X Y CW CH) (b1 : -9223372036854775808 ≤ CW ∧ CW < 9223372036854775808) (b2 : -9223372036854775808 ≤ CH ∧ CH < 9223372036854775808) (hl : pix.length = n * h) (hV : RowV pv pix.length) (hrow : RowAt w pv 1 pix.length (iU pix)) :
    Calls Try.prog 10 #[.agg #[.int .i64 (n : Int), .int .i64 (h : Int), pv], .int .i64 X, .int .i64 Y, .int .i64 CW, .int .i64 CH] w fun e w' => e = .returned (.tuple #[.agg #[.int .i64 0, .int .i64 0, .slice none 0 0], .int .i64 1]) ∧ Below w.heap.size w w' := by
  have hr : ∀ w', Chg (fun _ => False) w w' → RowAt w' pv 1 pix.length (iU pix) := fun w' h => hrow.chg h (fun h => h)
  have hpb : n * h ≤ 65536 := nh_le hn hh
  obtain ⟨ap, cp, rfl⟩ := hV.sl
  have hnd := cropOk_def n h X Y CW CH
  refine calls_of (args := [.agg #[.int .i64 (n : Int), .int .i64 (h : Int), .slice ap pix.length cp], .int .i64 X, .int .i64 Y, .int .i64 CW, .int .i64 CH]) Try.func10 rfl Try.ntmps10 Try.results10 rfl ?_
  refine v_seq ?_
  refine v_region ?_
  refine l_new rfl (o_box (cs := [_, _, _]) rfl rfl) fun b5 => ?_
  refine l_new rfl o_alloc fun b10 => ?_
  refine l_val rfl (o_assign rfl) ?_
  refine l_nil ?_
  refine kt_norm ?_
  refine v_seq ?_
  refine v_seq ?_
  refine v_region ?_
  refine l_val rfl (o_move rfl) ?_
  refine l_val rfl (o_fld rfl) ?_
  refine l_val rfl (o_load1 (key := 5) rfl rfl rfl) ?_
  refine l_ans (vs := [_, _]) rfl rfl (a_within _ _) ?_
  refine lz_bool (fun hc1 => ?_) (fun hc1 => ?_)
  · skip
    refine l_val rfl (o_not rfl rfl) ?_
    refine l_val rfl (o_move rfl) ?_
    refine l_val rfl (o_move rfl) ?_
    refine l_val rfl (o_fld rfl) ?_
    refine l_val rfl (o_load1 (key := 5) rfl rfl rfl) ?_
    refine l_ans (vs := [_, _]) rfl rfl (a_within _ _) ?_
    refine lz_bool (fun hc2 => ?_) (fun hc2 => ?_)
    · skip
      refine l_val rfl (o_not rfl rfl) ?_
      refine l_val rfl (o_pickF rfl rfl) ?_
      refine l_val rfl (o_move rfl) ?_
      refine l_val rfl (o_move rfl) ?_
      refine l_val rfl (o_sub rfl rfl (wrap_i64m _)) ?_
      refine l_val rfl (o_fld rfl) ?_
      refine l_val rfl (o_load1 (key := 5) rfl rfl rfl) ?_
      refine l_val rfl (o_move rfl) ?_
      refine l_val rfl (o_subi rfl rfl ?_) ?_
      · omega
      refine l_ans (vs := [_, _]) rfl rfl (a_within _ _) ?_
      refine lz_bool (fun hc3 => ?_) (fun hc3 => ?_)
      · skip
        refine l_val rfl (o_not rfl rfl) ?_
        refine l_val rfl (o_pickF rfl rfl) ?_
        refine l_val rfl (o_move rfl) ?_
        refine l_val rfl (o_move rfl) ?_
        refine l_val rfl (o_sub rfl rfl (wrap_i64m _)) ?_
        refine l_val rfl (o_fld rfl) ?_
        refine l_val rfl (o_load1 (key := 5) rfl rfl rfl) ?_
        refine l_val rfl (o_move rfl) ?_
        refine l_val rfl (o_subi rfl rfl ?_) ?_
        · omega
        refine l_ans (vs := [_, _]) rfl rfl (a_within _ _) ?_
        refine lz_bool (fun hc4 => ?_) (fun hc4 => ?_)
        · exfalso; exact hno (hnd.2 (by omega))
        · skip
          refine l_val rfl (o_not rfl rfl) ?_
          refine l_val rfl (o_pickF rfl rfl) ?_
          refine l_nil ?_
          refine kt_norm ?_
          refine v_sel [1, 2, 3, 4, 5, 10, 45] [5, 10] rfl rfl ?_
          refine v_condT rfl ?_
          refine v_seq ?_
          refine v_region ?_
          refine l_val rfl (o_build (vs := []) (cs := [_, _, _]) rfl rfl) ?_
          refine l_store rfl (o_storeW (key := 10) (xs := [_, _, _]) rfl rfl rfl rfl rfl rfl rfl) ?_
          refine l_val rfl (o_assign rfl) ?_
          refine l_nil ?_
          refine kt_norm ?_
          refine v_sel [10, 11] [10] rfl rfl ?_
          refine v_ret ?_
          refine kt_ret ?_
          refine ⟨[_, _], .cons (.cellW (key := 10) rfl rfl rfl) (.cons (.tmp rfl) (ResAll.nil)), ?_⟩
          rfl
      · skip
        refine l_val rfl (o_not rfl rfl) ?_
        refine l_val rfl (o_pickF rfl rfl) ?_
        refine l_val rfl (o_move rfl) ?_
        refine l_no rfl ?_
        refine l_no rfl ?_
        refine l_no rfl ?_
        refine l_no rfl ?_
        refine l_no rfl ?_
        refine l_no rfl ?_
        refine l_no rfl ?_
        refine l_no rfl ?_
        refine l_val rfl (o_pickT rfl rfl) ?_
        refine l_nil ?_
        refine kt_norm ?_
        refine v_sel [1, 2, 3, 4, 5, 10, 45] [5, 10] rfl rfl ?_
        refine v_condT rfl ?_
        refine v_seq ?_
        refine v_region ?_
        refine l_val rfl (o_build (vs := []) (cs := [_, _, _]) rfl rfl) ?_
        refine l_store rfl (o_storeW (key := 10) (xs := [_, _, _]) rfl rfl rfl rfl rfl rfl rfl) ?_
        refine l_val rfl (o_assign rfl) ?_
        refine l_nil ?_
        refine kt_norm ?_
        refine v_sel [10, 11] [10] rfl rfl ?_
        refine v_ret ?_
        refine kt_ret ?_
        refine ⟨[_, _], .cons (.cellW (key := 10) rfl rfl rfl) (.cons (.tmp rfl) (ResAll.nil)), ?_⟩
        rfl
    · skip
      refine l_val rfl (o_not rfl rfl) ?_
      refine l_val rfl (o_pickF rfl rfl) ?_
      refine l_val rfl (o_move rfl) ?_
      refine l_no rfl ?_
      refine l_no rfl ?_
      refine l_no rfl ?_
      refine l_no rfl ?_
      refine l_no rfl ?_
      refine l_no rfl ?_
      refine l_no rfl ?_
      refine l_no rfl ?_
      refine l_val rfl (o_pickT rfl rfl) ?_
      refine l_val rfl (o_move rfl) ?_
      refine l_no rfl ?_
      refine l_no rfl ?_
      refine l_no rfl ?_
      refine l_no rfl ?_
      refine l_no rfl ?_
      refine l_no rfl ?_
      refine l_no rfl ?_
      refine l_no rfl ?_
      refine l_val rfl (o_pickT rfl rfl) ?_
      refine l_nil ?_
      refine kt_norm ?_
      refine v_sel [1, 2, 3, 4, 5, 10, 45] [5, 10] rfl rfl ?_
      refine v_condT rfl ?_
      refine v_seq ?_
      refine v_region ?_
      refine l_val rfl (o_build (vs := []) (cs := [_, _, _]) rfl rfl) ?_
      refine l_store rfl (o_storeW (key := 10) (xs := [_, _, _]) rfl rfl rfl rfl rfl rfl rfl) ?_
      refine l_val rfl (o_assign rfl) ?_
      refine l_nil ?_
      refine kt_norm ?_
      refine v_sel [10, 11] [10] rfl rfl ?_
      refine v_ret ?_
      refine kt_ret ?_
      refine ⟨[_, _], .cons (.cellW (key := 10) rfl rfl rfl) (.cons (.tmp rfl) (ResAll.nil)), ?_⟩
      rfl
  · skip
    refine l_val rfl (o_not rfl rfl) ?_
    refine l_val rfl (o_move rfl) ?_
    refine l_no rfl ?_
    refine l_no rfl ?_
    refine l_no rfl ?_
    refine l_no rfl ?_
    refine l_no rfl ?_
    refine l_val rfl (o_pickT rfl rfl) ?_
    refine l_val rfl (o_move rfl) ?_
    refine l_no rfl ?_
    refine l_no rfl ?_
    refine l_no rfl ?_
    refine l_no rfl ?_
    refine l_no rfl ?_
    refine l_no rfl ?_
    refine l_no rfl ?_
    refine l_no rfl ?_
    refine l_val rfl (o_pickT rfl rfl) ?_
    refine l_val rfl (o_move rfl) ?_
    refine l_no rfl ?_
    refine l_no rfl ?_
    refine l_no rfl ?_
    refine l_no rfl ?_
    refine l_no rfl ?_
    refine l_no rfl ?_
    refine l_no rfl ?_
    refine l_no rfl ?_
    refine l_val rfl (o_pickT rfl rfl) ?_
    refine l_nil ?_
    refine kt_norm ?_
    refine v_sel [1, 2, 3, 4, 5, 10, 45] [5, 10] rfl rfl ?_
    refine v_condT rfl ?_
    refine v_seq ?_
    refine v_region ?_
    refine l_val rfl (o_build (vs := []) (cs := [_, _, _]) rfl rfl) ?_
    refine l_store rfl (o_storeW (key := 10) (xs := [_, _, _]) rfl rfl rfl rfl rfl rfl rfl) ?_
    refine l_val rfl (o_assign rfl) ?_
    refine l_nil ?_
    refine kt_norm ?_
    refine v_sel [10, 11] [10] rfl rfl ?_
    refine v_ret ?_
    refine kt_ret ?_
    refine ⟨[_, _], .cons (.cellW (key := 10) rfl rfl rfl) (.cons (.tmp rfl) (ResAll.nil)), ?_⟩
    rfl
set_option maxHeartbeats 1000000 in
theorem r_CropN (w : World) (pv : Value) (n h : Nat) (pix : List Int) (X Y CW CH : Int) (hn : n ≤ 256) (hh : h ≤ 256) (hno : ¬ CropOk n h X Y CW CH) (b1 : -9223372036854775808 ≤ CW ∧ CW < 9223372036854775808) (b2 : -9223372036854775808 ≤ CH ∧ CH < 9223372036854775808) (hl : pix.length = n * h) (hV : RowV pv pix.length) (hrow : RowAt w pv 1 pix.length (iU pix)) :
    Calls Try.prog 11 #[.agg #[.int .i64 (n : Int), .int .i64 (h : Int), pv], .int .i64 X, .int .i64 Y, .int .i64 CW, .int .i64 CH] w fun e w' => e = .returned (.tuple #[.agg #[.int .i64 0, .int .i64 0, .slice none 0 0], .int .i64 1]) ∧ Below w.heap.size w w' := by
  have hr : ∀ w', Chg (fun _ => False) w w' → RowAt w' pv 1 pix.length (iU pix) := fun w' h => hrow.chg h (fun h => h)
  have hpb : n * h ≤ 65536 := nh_le hn hh
  obtain ⟨ap, cp, rfl⟩ := hV.sl
  have hnd := cropOk_def n h X Y CW CH
  refine calls_of (args := [.agg #[.int .i64 (n : Int), .int .i64 (h : Int), .slice ap pix.length cp], .int .i64 X, .int .i64 Y, .int .i64 CW, .int .i64 CH]) Try.func11 rfl Try.ntmps11 Try.results11 rfl ?_
  refine v_seq ?_
  refine v_region ?_
  refine l_new rfl (o_box (cs := [_, _, _]) rfl rfl) fun b5 => ?_
  refine l_new rfl o_alloc fun b10 => ?_
  refine l_val rfl (o_assign rfl) ?_
  refine l_nil ?_
  refine kt_norm ?_
  refine v_seq ?_
  refine v_seq ?_
  refine v_region ?_
  refine l_val rfl (o_move rfl) ?_
  refine l_split rfl (o_lss rfl rfl) (fun q1 => ?_) (fun q1 => ?_)
  · skip
    refine l_val rfl (o_move rfl) ?_
    refine l_no rfl ?_
    refine l_no rfl ?_
    refine l_val rfl (o_pickT rfl rfl) ?_
    refine l_val rfl (o_move rfl) ?_
    refine l_no rfl ?_
    refine l_no rfl ?_
    refine l_val rfl (o_pickT rfl rfl) ?_
    refine l_val rfl (o_move rfl) ?_
    refine l_no rfl ?_
    refine l_no rfl ?_
    refine l_val rfl (o_pickT rfl rfl) ?_
    refine l_val rfl (o_move rfl) ?_
    refine l_no rfl ?_
    refine l_no rfl ?_
    refine l_no rfl ?_
    refine l_no rfl ?_
    refine l_val rfl (o_pickT rfl rfl) ?_
    refine l_val rfl (o_move rfl) ?_
    refine l_no rfl ?_
    refine l_no rfl ?_
    refine l_no rfl ?_
    refine l_no rfl ?_
    refine l_val rfl (o_pickT rfl rfl) ?_
    refine l_val rfl (o_move rfl) ?_
    refine l_no rfl ?_
    refine l_no rfl ?_
    refine l_no rfl ?_
    refine l_no rfl ?_
    refine l_no rfl ?_
    refine l_no rfl ?_
    refine l_val rfl (o_pickT rfl rfl) ?_
    refine l_val rfl (o_move rfl) ?_
    refine l_no rfl ?_
    refine l_no rfl ?_
    refine l_no rfl ?_
    refine l_no rfl ?_
    refine l_no rfl ?_
    refine l_no rfl ?_
    refine l_val rfl (o_pickT rfl rfl) ?_
    refine l_nil ?_
    refine kt_norm ?_
    refine v_sel [1, 2, 3, 4, 5, 10, 56] [5, 10] rfl rfl ?_
    refine v_condT rfl ?_
    refine v_seq ?_
    refine v_region ?_
    refine l_val rfl (o_build (vs := []) (cs := [_, _, _]) rfl rfl) ?_
    refine l_store rfl (o_storeW (key := 10) (xs := [_, _, _]) rfl rfl rfl rfl rfl rfl rfl) ?_
    refine l_val rfl (o_assign rfl) ?_
    refine l_nil ?_
    refine kt_norm ?_
    refine v_sel [10, 11] [10] rfl rfl ?_
    refine v_ret ?_
    refine kt_ret ?_
    refine ⟨[_, _], .cons (.cellW (key := 10) rfl rfl rfl) (.cons (.tmp rfl) (ResAll.nil)), ?_⟩
    rfl
  · skip
    refine l_val rfl (o_move rfl) ?_
    refine l_val rfl (o_move rfl) ?_
    refine l_split rfl (o_lss rfl rfl) (fun q2 => ?_) (fun q2 => ?_)
    · skip
      refine l_val rfl (o_pickF rfl rfl) ?_
      refine l_val rfl (o_move rfl) ?_
      refine l_no rfl ?_
      refine l_no rfl ?_
      refine l_val rfl (o_pickT rfl rfl) ?_
      refine l_val rfl (o_move rfl) ?_
      refine l_no rfl ?_
      refine l_no rfl ?_
      refine l_val rfl (o_pickT rfl rfl) ?_
      refine l_val rfl (o_move rfl) ?_
      refine l_no rfl ?_
      refine l_no rfl ?_
      refine l_no rfl ?_
      refine l_no rfl ?_
      refine l_val rfl (o_pickT rfl rfl) ?_
      refine l_val rfl (o_move rfl) ?_
      refine l_no rfl ?_
      refine l_no rfl ?_
      refine l_no rfl ?_
      refine l_no rfl ?_
      refine l_val rfl (o_pickT rfl rfl) ?_
      refine l_val rfl (o_move rfl) ?_
      refine l_no rfl ?_
      refine l_no rfl ?_
      refine l_no rfl ?_
      refine l_no rfl ?_
      refine l_no rfl ?_
      refine l_no rfl ?_
      refine l_val rfl (o_pickT rfl rfl) ?_
      refine l_val rfl (o_move rfl) ?_
      refine l_no rfl ?_
      refine l_no rfl ?_
      refine l_no rfl ?_
      refine l_no rfl ?_
      refine l_no rfl ?_
      refine l_no rfl ?_
      refine l_val rfl (o_pickT rfl rfl) ?_
      refine l_nil ?_
      refine kt_norm ?_
      refine v_sel [1, 2, 3, 4, 5, 10, 56] [5, 10] rfl rfl ?_
      refine v_condT rfl ?_
      refine v_seq ?_
      refine v_region ?_
      refine l_val rfl (o_build (vs := []) (cs := [_, _, _]) rfl rfl) ?_
      refine l_store rfl (o_storeW (key := 10) (xs := [_, _, _]) rfl rfl rfl rfl rfl rfl rfl) ?_
      refine l_val rfl (o_assign rfl) ?_
      refine l_nil ?_
      refine kt_norm ?_
      refine v_sel [10, 11] [10] rfl rfl ?_
      refine v_ret ?_
      refine kt_ret ?_
      refine ⟨[_, _], .cons (.cellW (key := 10) rfl rfl rfl) (.cons (.tmp rfl) (ResAll.nil)), ?_⟩
      rfl
    · skip
      refine l_val rfl (o_pickF rfl rfl) ?_
      refine l_val rfl (o_move rfl) ?_
      refine l_val rfl (o_move rfl) ?_
      refine l_split rfl (o_lss rfl rfl) (fun q3 => ?_) (fun q3 => ?_)
      · skip
        refine l_val rfl (o_pickF rfl rfl) ?_
        refine l_val rfl (o_move rfl) ?_
        refine l_no rfl ?_
        refine l_no rfl ?_
        refine l_val rfl (o_pickT rfl rfl) ?_
        refine l_val rfl (o_move rfl) ?_
        refine l_no rfl ?_
        refine l_no rfl ?_
        refine l_no rfl ?_
        refine l_no rfl ?_
        refine l_val rfl (o_pickT rfl rfl) ?_
        refine l_val rfl (o_move rfl) ?_
        refine l_no rfl ?_
        refine l_no rfl ?_
        refine l_no rfl ?_
        refine l_no rfl ?_
        refine l_val rfl (o_pickT rfl rfl) ?_
        refine l_val rfl (o_move rfl) ?_
        refine l_no rfl ?_
        refine l_no rfl ?_
        refine l_no rfl ?_
        refine l_no rfl ?_
        refine l_no rfl ?_
        refine l_no rfl ?_
        refine l_val rfl (o_pickT rfl rfl) ?_
        refine l_val rfl (o_move rfl) ?_
        refine l_no rfl ?_
        refine l_no rfl ?_
        refine l_no rfl ?_
        refine l_no rfl ?_
        refine l_no rfl ?_
        refine l_no rfl ?_
        refine l_val rfl (o_pickT rfl rfl) ?_
        refine l_nil ?_
        refine kt_norm ?_
        refine v_sel [1, 2, 3, 4, 5, 10, 56] [5, 10] rfl rfl ?_
        refine v_condT rfl ?_
        refine v_seq ?_
        refine v_region ?_
        refine l_val rfl (o_build (vs := []) (cs := [_, _, _]) rfl rfl) ?_
        refine l_store rfl (o_storeW (key := 10) (xs := [_, _, _]) rfl rfl rfl rfl rfl rfl rfl) ?_
        refine l_val rfl (o_assign rfl) ?_
        refine l_nil ?_
        refine kt_norm ?_
        refine v_sel [10, 11] [10] rfl rfl ?_
        refine v_ret ?_
        refine kt_ret ?_
        refine ⟨[_, _], .cons (.cellW (key := 10) rfl rfl rfl) (.cons (.tmp rfl) (ResAll.nil)), ?_⟩
        rfl
      · skip
        refine l_val rfl (o_pickF rfl rfl) ?_
        refine l_val rfl (o_move rfl) ?_
        refine l_val rfl (o_move rfl) ?_
        refine l_split rfl (o_lss rfl rfl) (fun q4 => ?_) (fun q4 => ?_)
        · skip
          refine l_val rfl (o_pickF rfl rfl) ?_
          refine l_val rfl (o_move rfl) ?_
          refine l_no rfl ?_
          refine l_no rfl ?_
          refine l_no rfl ?_
          refine l_no rfl ?_
          refine l_val rfl (o_pickT rfl rfl) ?_
          refine l_val rfl (o_move rfl) ?_
          refine l_no rfl ?_
          refine l_no rfl ?_
          refine l_no rfl ?_
          refine l_no rfl ?_
          refine l_val rfl (o_pickT rfl rfl) ?_
          refine l_val rfl (o_move rfl) ?_
          refine l_no rfl ?_
          refine l_no rfl ?_
          refine l_no rfl ?_
          refine l_no rfl ?_
          refine l_no rfl ?_
          refine l_no rfl ?_
          refine l_val rfl (o_pickT rfl rfl) ?_
          refine l_val rfl (o_move rfl) ?_
          refine l_no rfl ?_
          refine l_no rfl ?_
          refine l_no rfl ?_
          refine l_no rfl ?_
          refine l_no rfl ?_
          refine l_no rfl ?_
          refine l_val rfl (o_pickT rfl rfl) ?_
          refine l_nil ?_
          refine kt_norm ?_
          refine v_sel [1, 2, 3, 4, 5, 10, 56] [5, 10] rfl rfl ?_
          refine v_condT rfl ?_
          refine v_seq ?_
          refine v_region ?_
          refine l_val rfl (o_build (vs := []) (cs := [_, _, _]) rfl rfl) ?_
          refine l_store rfl (o_storeW (key := 10) (xs := [_, _, _]) rfl rfl rfl rfl rfl rfl rfl) ?_
          refine l_val rfl (o_assign rfl) ?_
          refine l_nil ?_
          refine kt_norm ?_
          refine v_sel [10, 11] [10] rfl rfl ?_
          refine v_ret ?_
          refine kt_ret ?_
          refine ⟨[_, _], .cons (.cellW (key := 10) rfl rfl rfl) (.cons (.tmp rfl) (ResAll.nil)), ?_⟩
          rfl
        · skip
          refine l_val rfl (o_pickF rfl rfl) ?_
          refine l_val rfl (o_move rfl) ?_
          refine l_val rfl (o_move rfl) ?_
          refine l_val rfl (o_fld rfl) ?_
          refine l_val rfl (o_load1 (key := 5) rfl rfl rfl) ?_
          refine l_split rfl (o_gtr rfl rfl) (fun q5 => ?_) (fun q5 => ?_)
          · skip
            refine l_val rfl (o_pickF rfl rfl) ?_
            refine l_val rfl (o_move rfl) ?_
            refine l_no rfl ?_
            refine l_no rfl ?_
            refine l_no rfl ?_
            refine l_no rfl ?_
            refine l_val rfl (o_pickT rfl rfl) ?_
            refine l_val rfl (o_move rfl) ?_
            refine l_no rfl ?_
            refine l_no rfl ?_
            refine l_no rfl ?_
            refine l_no rfl ?_
            refine l_no rfl ?_
            refine l_no rfl ?_
            refine l_val rfl (o_pickT rfl rfl) ?_
            refine l_val rfl (o_move rfl) ?_
            refine l_no rfl ?_
            refine l_no rfl ?_
            refine l_no rfl ?_
            refine l_no rfl ?_
            refine l_no rfl ?_
            refine l_no rfl ?_
            refine l_val rfl (o_pickT rfl rfl) ?_
            refine l_nil ?_
            refine kt_norm ?_
            refine v_sel [1, 2, 3, 4, 5, 10, 56] [5, 10] rfl rfl ?_
            refine v_condT rfl ?_
            refine v_seq ?_
            refine v_region ?_
            refine l_val rfl (o_build (vs := []) (cs := [_, _, _]) rfl rfl) ?_
            refine l_store rfl (o_storeW (key := 10) (xs := [_, _, _]) rfl rfl rfl rfl rfl rfl rfl) ?_
            refine l_val rfl (o_assign rfl) ?_
            refine l_nil ?_
            refine kt_norm ?_
            refine v_sel [10, 11] [10] rfl rfl ?_
            refine v_ret ?_
            refine kt_ret ?_
            refine ⟨[_, _], .cons (.cellW (key := 10) rfl rfl rfl) (.cons (.tmp rfl) (ResAll.nil)), ?_⟩
            rfl
          · skip
            refine l_val rfl (o_pickF rfl rfl) ?_
            refine l_val rfl (o_move rfl) ?_
            refine l_val rfl (o_move rfl) ?_
            refine l_val rfl (o_fld rfl) ?_
            refine l_val rfl (o_load1 (key := 5) rfl rfl rfl) ?_
            refine l_split rfl (o_gtr rfl rfl) (fun q6 => ?_) (fun q6 => ?_)
            · skip
              refine l_val rfl (o_pickF rfl rfl) ?_
              refine l_val rfl (o_move rfl) ?_
              refine l_no rfl ?_
              refine l_no rfl ?_
              refine l_no rfl ?_
              refine l_no rfl ?_
              refine l_no rfl ?_
              refine l_no rfl ?_
              refine l_val rfl (o_pickT rfl rfl) ?_
              refine l_val rfl (o_move rfl) ?_
              refine l_no rfl ?_
              refine l_no rfl ?_
              refine l_no rfl ?_
              refine l_no rfl ?_
              refine l_no rfl ?_
              refine l_no rfl ?_
              refine l_val rfl (o_pickT rfl rfl) ?_
              refine l_nil ?_
              refine kt_norm ?_
              refine v_sel [1, 2, 3, 4, 5, 10, 56] [5, 10] rfl rfl ?_
              refine v_condT rfl ?_
              refine v_seq ?_
              refine v_region ?_
              refine l_val rfl (o_build (vs := []) (cs := [_, _, _]) rfl rfl) ?_
              refine l_store rfl (o_storeW (key := 10) (xs := [_, _, _]) rfl rfl rfl rfl rfl rfl rfl) ?_
              refine l_val rfl (o_assign rfl) ?_
              refine l_nil ?_
              refine kt_norm ?_
              refine v_sel [10, 11] [10] rfl rfl ?_
              refine v_ret ?_
              refine kt_ret ?_
              refine ⟨[_, _], .cons (.cellW (key := 10) rfl rfl rfl) (.cons (.tmp rfl) (ResAll.nil)), ?_⟩
              rfl
            · skip
              refine l_val rfl (o_pickF rfl rfl) ?_
              refine l_val rfl (o_move rfl) ?_
              refine l_val rfl (o_move rfl) ?_
              refine l_val rfl (o_fld rfl) ?_
              refine l_val rfl (o_load1 (key := 5) rfl rfl rfl) ?_
              refine l_val rfl (o_move rfl) ?_
              refine l_val rfl (o_subi rfl rfl ?_) ?_
              · omega
              refine l_split rfl (o_gtr rfl rfl) (fun q7 => ?_) (fun q7 => ?_)
              · skip
                refine l_val rfl (o_pickF rfl rfl) ?_
                refine l_val rfl (o_move rfl) ?_
                refine l_no rfl ?_
                refine l_no rfl ?_
                refine l_no rfl ?_
                refine l_no rfl ?_
                refine l_no rfl ?_
                refine l_no rfl ?_
                refine l_val rfl (o_pickT rfl rfl) ?_
                refine l_nil ?_
                refine kt_norm ?_
                refine v_sel [1, 2, 3, 4, 5, 10, 56] [5, 10] rfl rfl ?_
                refine v_condT rfl ?_
                refine v_seq ?_
                refine v_region ?_
                refine l_val rfl (o_build (vs := []) (cs := [_, _, _]) rfl rfl) ?_
                refine l_store rfl (o_storeW (key := 10) (xs := [_, _, _]) rfl rfl rfl rfl rfl rfl rfl) ?_
                refine l_val rfl (o_assign rfl) ?_
                refine l_nil ?_
                refine kt_norm ?_
                refine v_sel [10, 11] [10] rfl rfl ?_
                refine v_ret ?_
                refine kt_ret ?_
                refine ⟨[_, _], .cons (.cellW (key := 10) rfl rfl rfl) (.cons (.tmp rfl) (ResAll.nil)), ?_⟩
                rfl
              · skip
                refine l_val rfl (o_pickF rfl rfl) ?_
                refine l_val rfl (o_move rfl) ?_
                refine l_val rfl (o_move rfl) ?_
                refine l_val rfl (o_fld rfl) ?_
                refine l_val rfl (o_load1 (key := 5) rfl rfl rfl) ?_
                refine l_val rfl (o_move rfl) ?_
                refine l_val rfl (o_subi rfl rfl ?_) ?_
                · omega
                refine l_split rfl (o_gtr rfl rfl) (fun q8 => ?_) (fun q8 => ?_)
                · skip
                  refine l_val rfl (o_pickF rfl rfl) ?_
                  refine l_nil ?_
                  refine kt_norm ?_
                  refine v_sel [1, 2, 3, 4, 5, 10, 56] [5, 10] rfl rfl ?_
                  refine v_condT rfl ?_
                  refine v_seq ?_
                  refine v_region ?_
                  refine l_val rfl (o_build (vs := []) (cs := [_, _, _]) rfl rfl) ?_
                  refine l_store rfl (o_storeW (key := 10) (xs := [_, _, _]) rfl rfl rfl rfl rfl rfl rfl) ?_
                  refine l_val rfl (o_assign rfl) ?_
                  refine l_nil ?_
                  refine kt_norm ?_
                  refine v_sel [10, 11] [10] rfl rfl ?_
                  refine v_ret ?_
                  refine kt_ret ?_
                  refine ⟨[_, _], .cons (.cellW (key := 10) rfl rfl rfl) (.cons (.tmp rfl) (ResAll.nil)), ?_⟩
                  rfl
                · exfalso; exact hno (hnd.2 (by omega))
theorem r_AtC (w : World) (pv : Value) (n h : Nat) (pix : List Int) (x y : Int) (hnh : n * h ≤ 65536) (hl : pix.length = n * h) (hV : RowV pv pix.length) (hrow : RowAt w pv 1 pix.length (iU pix)) :
    Calls Try.prog 14 #[.agg #[.int .i64 (n : Int), .int .i64 (h : Int), pv], .int .i64 x, .int .i64 y] w fun e w' => e = .returned (.int .u8 (atT n h pix x y)) ∧ Below w.heap.size w w' := by
  have hr : ∀ w', Chg (fun _ => False) w w' → RowAt w' pv 1 pix.length (iU pix) := fun w' h => hrow.chg h (fun h => h)
  have hnn : (n : Int) ≤ 65536 ∨ h = 0 := by rcases Nat.eq_zero_or_pos h with e | e; exact .inr e; left; have := Nat.mul_le_mul_left n e; omega
  obtain ⟨ap, cp, rfl⟩ := hV.sl
  refine calls_of (args := [.agg #[.int .i64 (n : Int), .int .i64 (h : Int), .slice ap pix.length cp], .int .i64 x, .int .i64 y]) Try.func14 rfl Try.ntmps14 Try.results14 rfl ?_
  refine v_seq ?_
  refine v_region ?_
  refine l_new rfl (o_box (cs := [_, _, _]) rfl rfl) fun b3 => ?_
  refine l_val rfl (o_assign rfl) ?_
  refine l_nil ?_
  refine kt_norm ?_
  refine v_seq ?_
  refine v_seq ?_
  refine v_region ?_
  skip
  refine l_val rfl (o_move rfl) ?_
  refine l_split rfl (o_lss rfl rfl) (fun q1 => ?_) (fun q1 => ?_)
  · skip
    refine l_val rfl (o_move rfl) ?_
    refine l_no rfl ?_
    refine l_no rfl ?_
    refine l_no rfl ?_
    refine l_no rfl ?_
    refine l_val rfl (o_pickT rfl rfl) ?_
    refine l_val rfl (o_move rfl) ?_
    refine l_no rfl ?_
    refine l_no rfl ?_
    refine l_val rfl (o_pickT rfl rfl) ?_
    refine l_val rfl (o_move rfl) ?_
    refine l_no rfl ?_
    refine l_no rfl ?_
    refine l_no rfl ?_
    refine l_no rfl ?_
    refine l_val rfl (o_pickT rfl rfl) ?_
    refine l_nil ?_
    refine kt_norm ?_
    refine v_sel [1, 2, 3, 24] [3] rfl rfl ?_
    refine v_condT rfl ?_
    refine v_seq ?_
    refine v_region ?_
    refine l_val rfl (o_assign rfl) ?_
    refine l_nil ?_
    refine kt_norm ?_
    refine v_ret ?_
    refine kt_ret ?_
    refine ⟨[_], .cons (.tmp rfl) (ResAll.nil), ?_⟩
    first
      | exact congrArg (Value.int .u8) (if_pos (by omega)).symm
      | exact congrArg (Value.int .u8) (if_neg (by omega)).symm
  · skip
    refine l_val rfl (o_move rfl) ?_
    refine l_val rfl (o_move rfl) ?_
    refine l_val rfl (o_fld rfl) ?_
    refine l_val rfl (o_load1 (key := 3) rfl rfl rfl) ?_
    refine l_split rfl (o_geq rfl rfl) (fun q2 => ?_) (fun q2 => ?_)
    · skip
      refine l_val rfl (o_pickF rfl rfl) ?_
      refine l_val rfl (o_move rfl) ?_
      refine l_no rfl ?_
      refine l_no rfl ?_
      refine l_val rfl (o_pickT rfl rfl) ?_
      refine l_val rfl (o_move rfl) ?_
      refine l_no rfl ?_
      refine l_no rfl ?_
      refine l_no rfl ?_
      refine l_no rfl ?_
      refine l_val rfl (o_pickT rfl rfl) ?_
      refine l_nil ?_
      refine kt_norm ?_
      refine v_sel [1, 2, 3, 24] [3] rfl rfl ?_
      refine v_condT rfl ?_
      refine v_seq ?_
      refine v_region ?_
      refine l_val rfl (o_assign rfl) ?_
      refine l_nil ?_
      refine kt_norm ?_
      refine v_ret ?_
      refine kt_ret ?_
      refine ⟨[_], .cons (.tmp rfl) (ResAll.nil), ?_⟩
      first
        | exact congrArg (Value.int .u8) (if_pos (by omega)).symm
        | exact congrArg (Value.int .u8) (if_neg (by omega)).symm
    · skip
      refine l_val rfl (o_pickF rfl rfl) ?_
      refine l_val rfl (o_move rfl) ?_
      refine l_val rfl (o_move rfl) ?_
      refine l_split rfl (o_lss rfl rfl) (fun q3 => ?_) (fun q3 => ?_)
      · skip
        refine l_val rfl (o_pickF rfl rfl) ?_
        refine l_val rfl (o_move rfl) ?_
        refine l_no rfl ?_
        refine l_no rfl ?_
        refine l_no rfl ?_
        refine l_no rfl ?_
        refine l_val rfl (o_pickT rfl rfl) ?_
        refine l_nil ?_
        refine kt_norm ?_
        refine v_sel [1, 2, 3, 24] [3] rfl rfl ?_
        refine v_condT rfl ?_
        refine v_seq ?_
        refine v_region ?_
        refine l_val rfl (o_assign rfl) ?_
        refine l_nil ?_
        refine kt_norm ?_
        refine v_ret ?_
        refine kt_ret ?_
        refine ⟨[_], .cons (.tmp rfl) (ResAll.nil), ?_⟩
        first
          | exact congrArg (Value.int .u8) (if_pos (by omega)).symm
          | exact congrArg (Value.int .u8) (if_neg (by omega)).symm
      · skip
        refine l_val rfl (o_pickF rfl rfl) ?_
        refine l_val rfl (o_move rfl) ?_
        refine l_val rfl (o_move rfl) ?_
        refine l_val rfl (o_fld rfl) ?_
        refine l_val rfl (o_load1 (key := 3) rfl rfl rfl) ?_
        refine l_split rfl (o_geq rfl rfl) (fun q4 => ?_) (fun q4 => ?_)
        · skip
          refine l_val rfl (o_pickF rfl rfl) ?_
          refine l_nil ?_
          refine kt_norm ?_
          refine v_sel [1, 2, 3, 24] [3] rfl rfl ?_
          refine v_condT rfl ?_
          refine v_seq ?_
          refine v_region ?_
          refine l_val rfl (o_assign rfl) ?_
          refine l_nil ?_
          refine kt_norm ?_
          refine v_ret ?_
          refine kt_ret ?_
          refine ⟨[_], .cons (.tmp rfl) (ResAll.nil), ?_⟩
          first
            | exact congrArg (Value.int .u8) (if_pos (by omega)).symm
            | exact congrArg (Value.int .u8) (if_neg (by omega)).symm
        · skip
          refine l_val rfl (o_pickF rfl rfl) ?_
          refine l_nil ?_
          refine kt_norm ?_
          refine v_sel [1, 2, 3, 24] [3] rfl rfl ?_
          refine v_condF rfl ?_
          refine v_skip ?_
          refine kt_norm ?_
          refine v_seq ?_
          refine v_region ?_
          have hwx : 0 ≤ x ∧ x < n := by omega
          have hwy : 0 ≤ y ∧ y < h := by omega
          have hix := at_ix hwx hwy
          refine l_val rfl (o_fld rfl) ?_
          refine l_val rfl (o_load1 (key := 3) rfl rfl rfl) ?_
          refine l_val rfl (o_move rfl) ?_
          refine l_val rfl (o_fld rfl) ?_
          refine l_val rfl (o_load1 (key := 3) rfl rfl rfl) ?_
          refine l_val rfl (o_muli rfl rfl ?_) ?_
          · omega
          refine l_val rfl (o_move rfl) ?_
          refine l_val rfl (o_addi rfl rfl ?_) ?_
          · omega
          refine l_val rfl (o_idx ((y * n + x).toNat) rfl hV rfl (by omega) (by omega)) ?_
          refine l_val rfl (o_loadR1 rfl (row_imm hr) (el_u8 (l := pix) (i := (y * n + x).toNat) (by omega))) ?_
          refine l_val rfl (o_assign rfl) ?_
          refine l_nil ?_
          refine kt_norm ?_
          refine v_sel [6] [] rfl rfl ?_
          refine v_ret ?_
          refine ⟨[_], .cons (.tmp rfl) (ResAll.nil), ?_⟩
          first
            | exact congrArg (Value.int .u8) (if_pos (by omega)).symm
            | exact congrArg (Value.int .u8) (if_neg (by omega)).symm
set_option maxHeartbeats 1000000 in
theorem r_CropY (w : World) (pv : Value) (n h : Nat) (pix : List Int) (x y cw ch : Nat) (hn : n ≤ 256) (hh : h ≤ 256) (hx : x + cw ≤ n) (hy : y + ch ≤ h) (hcw : 1 ≤ cw) (hch : 1 ≤ ch) (hl : pix.length = n * h) (hV : RowV pv pix.length) (hrow : RowAt w pv 1 pix.length (iU pix)) :
    Calls Try.prog 11 #[.agg #[.int .i64 (n : Int), .int .i64 (h : Int), pv], .int .i64 (x : Int), .int .i64 (y : Int), .int .i64 (cw : Int), .int .i64 (ch : Int)] w fun e w' => ∃ r, e = .returned (.tuple #[.agg #[.int .i64 (cw : Int), .int .i64 (ch : Int), r], .int .i64 0]) ∧ Below w.heap.size w w' ∧ OwnAt w.heap.size w' r 5 1 (cropT n pix x y cw ch).length (iU (cropT n pix x y cw ch)) := by
  have hr : ∀ w', Chg (fun _ => False) w w' → RowAt w' pv 1 pix.length (iU pix) := fun w' h => hrow.chg h (fun h => h)
  have hpb : n * h ≤ 65536 := nh_le hn hh
  obtain ⟨ap, cp, rfl⟩ := hV.sl
  refine calls_said (args := [.agg #[.int .i64 (n : Int), .int .i64 (h : Int), .slice ap pix.length cp], .int .i64 (x : Int), .int .i64 (y : Int), .int .i64 (cw : Int), .int .i64 (ch : Int)]) (fun r => .tuple #[.agg #[.int .i64 (cw : Int), .int .i64 (ch : Int), r], .int .i64 0]) (fun r w' => (Hp.own r 5 1 (cropT n pix x y cw ch).length (iU (cropT n pix x y cw ch))).ok w') (fun r b => r.ownBlock = some b) Try.func11 rfl Try.ntmps11 Try.results11 rfl ?_
  refine v_seq ?_
  refine v_region ?_
  refine l_new rfl (o_box (cs := [_, _, _]) rfl rfl) fun b5 => ?_
  refine l_new rfl o_alloc fun b10 => ?_
  refine l_val rfl (o_assign rfl) ?_
  refine l_nil ?_
  refine kt_norm ?_
  refine v_seq ?_
  refine v_seq ?_
  refine v_region ?_
  refine l_val rfl (o_move rfl) ?_
  refine l_split rfl (o_lss rfl rfl) (fun q1 => absurd q1 (by omega)) (fun q1 => ?_)
  refine l_val rfl (o_move rfl) ?_
  refine l_val rfl (o_move rfl) ?_
  refine l_split rfl (o_lss rfl rfl) (fun q2 => absurd q2 (by omega)) (fun q2 => ?_)
  refine l_val rfl (o_pickF rfl rfl) ?_
  refine l_val rfl (o_move rfl) ?_
  refine l_val rfl (o_move rfl) ?_
  refine l_split rfl (o_lss rfl rfl) (fun q3 => absurd q3 (by omega)) (fun q3 => ?_)
  refine l_val rfl (o_pickF rfl rfl) ?_
  refine l_val rfl (o_move rfl) ?_
  refine l_val rfl (o_move rfl) ?_
  refine l_split rfl (o_lss rfl rfl) (fun q4 => absurd q4 (by omega)) (fun q4 => ?_)
  refine l_val rfl (o_pickF rfl rfl) ?_
  refine l_val rfl (o_move rfl) ?_
  refine l_val rfl (o_move rfl) ?_
  refine l_val rfl (o_fld rfl) ?_
  refine l_val rfl (o_load1 (key := 5) rfl rfl rfl) ?_
  refine l_split rfl (o_gtr rfl rfl) (fun q5 => absurd q5 (by omega)) (fun q5 => ?_)
  refine l_val rfl (o_pickF rfl rfl) ?_
  refine l_val rfl (o_move rfl) ?_
  refine l_val rfl (o_move rfl) ?_
  refine l_val rfl (o_fld rfl) ?_
  refine l_val rfl (o_load1 (key := 5) rfl rfl rfl) ?_
  refine l_split rfl (o_gtr rfl rfl) (fun q6 => absurd q6 (by omega)) (fun q6 => ?_)
  refine l_val rfl (o_pickF rfl rfl) ?_
  refine l_val rfl (o_move rfl) ?_
  refine l_val rfl (o_move rfl) ?_
  refine l_val rfl (o_fld rfl) ?_
  refine l_val rfl (o_load1 (key := 5) rfl rfl rfl) ?_
  refine l_val rfl (o_move rfl) ?_
  refine l_val rfl (o_subi rfl rfl ?_) ?_
  · omega
  refine l_split rfl (o_gtr rfl rfl) (fun q7 => absurd q7 (by omega)) (fun q7 => ?_)
  refine l_val rfl (o_pickF rfl rfl) ?_
  refine l_val rfl (o_move rfl) ?_
  refine l_val rfl (o_move rfl) ?_
  refine l_val rfl (o_fld rfl) ?_
  refine l_val rfl (o_load1 (key := 5) rfl rfl rfl) ?_
  refine l_val rfl (o_move rfl) ?_
  refine l_val rfl (o_subi rfl rfl ?_) ?_
  · omega
  refine l_split rfl (o_gtr rfl rfl) (fun q8 => absurd q8 (by omega)) (fun q8 => ?_)
  refine l_val rfl (o_pickF rfl rfl) ?_
  refine l_nil ?_
  refine kt_norm ?_
  refine v_sel [1, 2, 3, 4, 5, 10, 56] [5, 10] rfl rfl ?_
  refine v_condF rfl ?_
  refine v_skip ?_
  refine kt_norm ?_
  refine v_seq ?_
  refine v_region ?_
  refine l_val rfl (o_move rfl) ?_
  refine l_val rfl (o_move rfl) ?_
  refine l_val rfl (o_build (vs := [_, _]) (cs := [_, _, _]) rfl rfl) ?_
  refine l_new rfl o_alloc fun b12 => ?_
  refine l_store rfl (o_storeW (key := 12) (xs := [_, _, _]) rfl rfl rfl rfl rfl rfl rfl) ?_
  refine l_nil ?_
  refine kt_norm ?_
  refine v_seq ?_
  refine v_seq ?_
  refine v_region ?_
  refine l_val rfl (o_assign rfl) ?_
  refine l_nil ?_
  refine kt_norm ?_
  refine v_block ?_
  refine v_ghost 82 5 1 ?_
  refine v_loopS (α := Nat × Value) (fun ⟨k, rv⟩ => [(13, .int .i64 (k : Int))]) (fun ⟨k, rv⟩ => [(12, Hp.box b12 36 [.int .i64 (cw : Int), .int .i64 (ch : Int), rv]), (82, Hp.own rv 5 1 (cropT n pix x y cw k).length (iU (cropT n pix x y cw k)))])  (fun ⟨k, rv⟩ => k ≤ ch ∧ RowV rv (cropT n pix x y cw k).length) (fun ⟨k, rv⟩ => ch - k) (0, .slice none 0 0) [1, 2, 3, 4, 5, 10, 12] [5, 10] ⟨Nat.zero_le _, .nil0⟩  (And.intro rfl (True.intro)) rfl (And.intro rfl (And.intro rfl (True.intro))) rfl ?_
  rintro ⟨k, rv⟩ ⟨hk0, hrv⟩
  refine v_seq ?_
  refine v_seq ?_
  refine v_region ?_
  refine l_val rfl (o_move rfl) ?_
  refine l_val rfl (o_move rfl) ?_
  refine l_split rfl (o_lss rfl rfl) (fun q9 => ?_) (fun q9 => ?_)
  · have hk : k < ch := by omega
    have hin := crop_in (n := n) (h := h) (x := x) (y := y) (cw := cw) (k := k) hx (by omega)
    have hll := cropT_len hl hx k (show y + k ≤ h by omega)
    have hl2 := cropT_len hl hx (k + 1) (show y + (k + 1) ≤ h by omega)
    have hkb : k * cw ≤ 256 * 256 := Nat.mul_le_mul (by omega) (by omega)
    have hkb2 : (k + 1) * cw = k * cw + cw := Nat.succ_mul k cw
    have hyk : (y + k) * n ≤ 256 * 256 := Nat.mul_le_mul (by omega) (by omega)
    have hykc : (((y + k) * n : Nat) : Int) = ((y + k : Nat) : Int) * (n : Int) := Int.natCast_mul _ _
    refine l_nil ?_
    refine kt_norm ?_
    refine v_condT rfl ?_
    refine v_skip ?_
    refine kt_norm ?_
    refine v_seq ?_
    refine v_block ?_
    refine v_seq ?_
    refine v_region ?_
    refine l_val rfl (o_assign rfl) ?_
    refine l_nil ?_
    refine kt_norm ?_
    refine v_block ?_
    refine v_loopS (α := Nat × Value) (fun ⟨i, rv2⟩ => [(14, .int .i64 (i : Int))]) (fun ⟨i, rv2⟩ => [(12, Hp.box b12 36 [.int .i64 (cw : Int), .int .i64 (ch : Int), rv2]), (82, Hp.own rv2 5 1 ((cropT n pix x y cw k) ++ (pix.drop ((y + k) * n + x)).take i).length (iU ((cropT n pix x y cw k) ++ (pix.drop ((y + k) * n + x)).take i)))])  (fun ⟨i, rv2⟩ => i ≤ cw ∧ RowV rv2 ((cropT n pix x y cw k) ++ (pix.drop ((y + k) * n + x)).take i).length) (fun ⟨i, rv2⟩ => cw - i) (0, rv) [13, 1, 2, 3, 4, 5, 10, 12] [5, 10] ⟨Nat.zero_le _, by simpa using hrv⟩  (And.intro rfl (True.intro)) rfl (And.intro rfl (And.intro (congrArg some (own_congr (by simp) (by simp))) (True.intro))) rfl ?_
    rintro ⟨i, rv2⟩ ⟨hi0, hrv2⟩
    refine v_seq ?_
    refine v_seq ?_
    refine v_region ?_
    refine l_val rfl (o_move rfl) ?_
    refine l_val rfl (o_move rfl) ?_
    refine l_split rfl (o_lss rfl rfl) (fun q10 => ?_) (fun q10 => ?_)
    · have hi : i < cw := by omega
      have hstep := crop_step (n := n) (h := h) (o := ((y + k) * n + x)) (cw := cw) (i := i) (pix := pix) (by omega) hi
      have hpt := crop_get (n := n) (h := h) (x := x) (y := y) (i := i) (k := k) (pix := pix) (by omega) (by omega)
      have hal : ((cropT n pix x y cw k) ++ (pix.drop ((y + k) * n + x)).take i).length = k * cw + i := by rw [List.length_append, hll, List.length_take, List.length_drop]; omega
      have hal2 : ((cropT n pix x y cw k) ++ (pix.drop ((y + k) * n + x)).take (i + 1)) = ((cropT n pix x y cw k) ++ (pix.drop ((y + k) * n + x)).take i) ++ [pix.getD (((y + k) * n + x) + i) 0] := by rw [hstep, List.append_assoc]
      have hal3 : ((cropT n pix x y cw k) ++ (pix.drop ((y + k) * n + x)).take (i + 1)).length = ((cropT n pix x y cw k) ++ (pix.drop ((y + k) * n + x)).take i).length + 1 := by rw [hal2]; exact List.length_append
      refine l_nil ?_
      refine kt_norm ?_
      refine v_condT rfl ?_
      refine v_skip ?_
      refine kt_norm ?_
      refine v_seq ?_
      refine v_block ?_
      refine v_drawW [(82, ((cropT n pix x y cw k) ++ (pix.drop ((y + k) * n + x)).take i).length + 1)] [[], [12], [5], [], [], [], [], [], [], [], [], [82, 81], [], [12]] mixed ?_ (by kernel_rfl) (by kernel_rfl)
      refine d_val (fun _ => rfl) rfl rfl (fun σ10 => o_fld rfl) ?_
      refine d_val (fun _ => rfl) rfl rfl (fun σ10 => o_load1 (key := 12) rfl rfl rfl) ?_
      refine d_val (fun _ => rfl) rfl rfl (fun σ10 => o_loadW (key := 5) rfl rfl rfl) ?_
      refine d_val (fun _ => rfl) rfl rfl (fun σ10 => o_move rfl) ?_
      refine d_val (fun _ => rfl) rfl rfl (fun σ10 => o_move rfl) ?_
      refine d_val (fun _ => rfl) rfl rfl (fun σ10 => o_addi rfl rfl ?_) ?_
      · omega
      refine d_val (fun _ => rfl) rfl rfl (fun σ10 => o_move rfl) ?_
      refine d_val (fun _ => rfl) rfl rfl (fun σ10 => o_move rfl) ?_
      refine d_val (fun _ => rfl) rfl rfl (fun σ10 => o_addi rfl rfl ?_) ?_
      · omega
      refine d_gcall (y := .int .u8 (pix.getD (((y + k) * n + x) + i) 0)) (caps := #[]) (fun _ => rfl) (fun _ => rfl) (ent_of Try.func14 rfl rfl) (vs := fun _ => [_, _, _]) (fun _ => rfl) (fun σ10 w' hg hh => hpt ▸ r_AtC w' (.slice ap pix.length cp) n h pix (x + i) (y + k) (by omega) hl hV (hr w' hg)) ?_
      refine d_bsO (n := 1) (vs := fun _ => [_]) (cs := fun _ => [_]) (fun _ => rfl) (fun _ => rfl) (fun _ => rfl) rfl rfl (fun _ => rfl) (fun _ => rfl) ?_
      refine d_app 82 (n := ((cropT n pix x y cw k) ++ (pix.drop ((y + k) * n + x)).take i).length) (mm := 1) (κ := [81]) (fun _ => rfl) (fun _ => rfl) (fun _ => rfl) (fun _ => rfl) rfl (fun σ10 => .inl ⟨_, _, _, rfl⟩) (fun σ10 => row_own (key := 81) rfl) (by omega) (fun _ h => h) ?_
      refine d_val (fun _ => rfl) rfl rfl (fun σ10 => o_fld rfl) ?_
      refine d_store (fun _ => rfl) rfl rfl (fun σ10 => o_store1 (key := 12) (rs := [_, _, _]) rfl rfl (rowV_cells (show RowV (σ10.v 82) (((cropT n pix x y cw k) ++ (pix.drop ((y + k) * n + x)).take i).length + 1) from σ10.ok 82)) rfl rfl (rowV_one (show RowV (σ10.v 82) (((cropT n pix x y cw k) ++ (pix.drop ((y + k) * n + x)).take i).length + 1) from σ10.ok 82)) rfl) ?_
      refine d_nil (fun σ10 => ?_)
      refine l_nil ?_
      refine kb_norm ?_
      refine kt_norm ?_
      refine v_sel [14, 13, 1, 2, 3, 4, 5, 10, 12] [5, 10, 12, 82] rfl rfl ?_
      refine v_region ?_
      refine l_val rfl (o_move rfl) ?_
      refine l_val rfl (o_addi rfl rfl ?_) ?_
      · omega
      refine l_val rfl (o_assign rfl) ?_
      refine l_nil ?_
      refine kt_norm ?_
      refine ⟨(i + 1, σ10.v 82), ⟨by omega, (show RowV (σ10.v 82) (((cropT n pix x y cw k) ++ (pix.drop ((y + k) * n + x)).take i).length + 1) from σ10.ok 82).to hal3.symm⟩, (by show cw - (i + 1) < cw - i; omega), le_app (And.intro rfl (True.intro)) [13, 1, 2, 3, 4, 5, 10, 12] rfl (And.intro rfl (And.intro (congrArg some (own_congr hal3.symm (by rw [hal2]; simp [iU]))) (True.intro))) [5, 10] rfl⟩
    · skip
      refine l_nil ?_
      refine kt_norm ?_
      refine v_condF rfl ?_
      refine v_exit ?_
      refine kt_exit ?_
      refine kt_exit ?_
      refine kb_eq ?_
      refine kb_norm ?_
      refine kt_norm ?_
      refine v_region ?_
      refine l_val rfl (o_move rfl) ?_
      refine l_val rfl (o_addi rfl rfl ?_) ?_
      · omega
      refine l_val rfl (o_assign rfl) ?_
      refine l_nil ?_
      refine kt_norm ?_
      obtain rfl : i = cw := by omega
      have hcr : ((cropT n pix x y i k) ++ (pix.drop ((y + k) * n + x)).take i) = (cropT n pix x y i (k + 1)) := rfl
      refine ⟨(k + 1, rv2), ⟨by omega, hrv2⟩, (by show ch - (k + 1) < ch - k; omega), le_app (And.intro rfl (True.intro)) [1, 2, 3, 4, 5, 10, 12] rfl (And.intro rfl (And.intro rfl (True.intro))) [5, 10] rfl⟩
  · skip
    refine l_nil ?_
    refine kt_norm ?_
    refine v_condF rfl ?_
    refine v_exit ?_
    refine kt_exit ?_
    refine kt_exit ?_
    refine kb_eq ?_
    refine kt_norm ?_
    refine v_sel [10, 12] [10, 12, 82] rfl rfl ?_
    refine v_seq ?_
    refine v_region ?_
    obtain rfl : k = ch := by omega
    obtain ⟨ar, cr, rfl⟩ := hrv.sl
    refine l_val rfl (o_loadW (key := 12) rfl rfl rfl) ?_
    refine l_store rfl (o_storeW (key := 10) (xs := [_, _, _]) rfl rfl rfl rfl rfl rfl rfl) ?_
    refine l_val rfl (o_assign rfl) ?_
    refine l_nil ?_
    refine kt_norm ?_
    refine v_ret ?_
    refine ⟨[_, _], .cons (.cellW (key := 10) rfl rfl rfl) (.cons (.tmp rfl) (ResAll.nil)), ?_⟩
    exact ⟨.slice ar _ cr, rfl, fun w' ho => ⟨(ho.mo 82 _ rfl).1, fun b hb => ((ho.mo 82 _ rfl).2 b hb).elim id False.elim⟩⟩
end Go.Proofs.Ytllhohbenniaaaa

/- Whether two images are the same; any part of an image is as the document has it. Conditions: none. -/
namespace Go.Proofs.Ytllhohbenniaaaa
open Go.Proofs Go.RowKit Go.Shelf

theorem ext_int {p q : List Int} (h : p.length = q.length) (hb : ∀ k, k < p.length → p.getD k 0 = q.getD k 0) : p = q := List.ext_getElem h fun k h1 h2 => by
  have := hb k h1
  rwa [List.getD_eq_getElem?_getD, List.getD_eq_getElem?_getD, List.getElem?_eq_getElem h1, List.getElem?_eq_getElem h2] at this
theorem rowAt_nilU (w : World) : RowAt w (.slice none 0 0) 1 ([] : List Int).length (iU []) := ⟨rfl, fun j u hu => by simp [iU] at hu, fun u hu => by simp [iU] at hu⟩
theorem a_EqualG (w : World) (v u : Value) (p q : List Int) (hn : p.length ≤ 1000000) (hn2 : q.length ≤ 1000000) (hV : RowV v p.length) (hrow : RowAt w v 1 p.length (iU p)) (hU : RowV u q.length) (hrow2 : RowAt w u 1 q.length (iU q)) :
    Calls Try.prog 34 #[v, u] w fun e w' => e = .returned (.bool (decide (p = q))) ∧ Below w.heap.size w w' := by
  have hr : ∀ w', Chg (fun _ => False) w w' → RowAt w' v 1 p.length (iU p) := fun w' h => hrow.chg h (fun h => h)
  have hr2 : ∀ w', Chg (fun _ => False) w w' → RowAt w' u 1 q.length (iU q) := fun w' h => hrow2.chg h (fun h => h)
  refine calls_of (args := [v, u]) Try.func34 rfl Try.ntmps34 Try.results34 rfl ?_
  refine v_seq ?_
  refine v_region ?_
  refine l_val rfl (o_assign rfl) ?_
  refine l_nil ?_
  refine kt_norm ?_
  refine v_seq ?_
  refine v_seq ?_
  refine v_region ?_
  refine l_val rfl (o_move rfl) ?_
  refine l_val rfl (o_len rfl hV) ?_
  refine l_val rfl (o_move rfl) ?_
  refine l_val rfl (o_len rfl hU) ?_
  refine l_split rfl (o_neq rfl rfl) (fun q1 => ?_) (fun q1 => ?_)
  · skip
    refine l_nil ?_
    refine kt_norm ?_
    refine v_condT rfl ?_
    refine v_seq ?_
    refine v_region ?_
    refine l_val rfl (o_assign rfl) ?_
    refine l_nil ?_
    refine kt_norm ?_
    refine v_sel [4] [] rfl rfl ?_
    refine v_ret ?_
    refine kt_ret ?_
    refine ⟨[_], .cons (.tmp rfl) (ResAll.nil), ?_⟩
    first
      | (exact congrArg Value.bool (decide_eq_false (fun hd => by subst hd; omega)).symm)
      | exact congrArg Value.bool (decide_eq_true (ext_int (by omega) (fun k hk => hB k (by omega)))).symm
  · skip
    refine l_nil ?_
    refine kt_norm ?_
    refine v_condF rfl ?_
    refine v_skip ?_
    refine kt_norm ?_
    refine v_sel [0, 1] [] rfl rfl ?_
    refine v_seq ?_
    refine v_seq ?_
    refine v_region ?_
    refine l_val rfl (o_move rfl) ?_
    refine l_val rfl (o_len rfl hV) ?_
    refine l_val rfl (o_move rfl) ?_
    refine l_nil ?_
    refine kt_norm ?_
    refine v_block ?_
    refine v_loopS (α := Nat) (fun i => [(13, .int .i64 (i : Int))]) (fun i => [])  (fun i => i ≤ p.length ∧ ∀ k, k < i → p.getD k 0 = q.getD k 0) (fun i => p.length - i) 0 [0, 1, 12] [] ⟨Nat.zero_le _, fun k hk => absurd hk (Nat.not_lt_zero k)⟩  (And.intro rfl (True.intro)) rfl (True.intro) rfl ?_
    rintro i ⟨hi, hB⟩
    refine v_seq ?_
    refine v_region ?_
    refine l_split rfl (o_lss rfl rfl) (fun q2 => ?_) (fun q2 => ?_)
    · skip
      refine l_nil ?_
      refine kt_norm ?_
      refine v_seq ?_
      refine v_condT rfl ?_
      refine v_skip ?_
      refine kt_norm ?_
      refine v_seq ?_
      refine v_block ?_
      refine v_seq ?_
      refine v_region ?_
      refine l_val rfl (o_move rfl) ?_
      refine l_val rfl (o_assign rfl) ?_
      refine l_nil ?_
      refine kt_norm ?_
      refine v_seq ?_
      refine v_drawZ [[], [], [], [], [], [], [], [], []] mixed ?_ (by kernel_rfl) (by kernel_rfl)
      refine d_val (fun _ => rfl) rfl rfl (fun _ => o_move rfl) ?_
      refine d_val (fun _ => rfl) rfl rfl (fun _ => o_move rfl) ?_
      refine d_val (fun _ => rfl) rfl rfl (fun _ => o_idx (i) rfl hV rfl (by first | rfl | omega) (by omega)) ?_
      refine d_val (fun _ => rfl) rfl rfl (fun _ => o_loadR1 rfl (row_imm hr) (el_u8 (l := p) (i := i) (by omega))) ?_
      refine d_val (fun _ => rfl) rfl rfl (fun _ => o_move rfl) ?_
      refine d_val (fun _ => rfl) rfl rfl (fun _ => o_move rfl) ?_
      refine d_val (fun _ => rfl) rfl rfl (fun _ => o_idx (i) rfl hU rfl (by first | rfl | omega) (by omega)) ?_
      refine d_val (fun _ => rfl) rfl rfl (fun _ => o_loadR1 rfl (row_imm hr2) (el_u8 (l := q) (i := i) (by omega))) ?_
      refine d_neq (fun _ => rfl) (fun _ => rfl) (fun _ => rfl) (fun q3 => ?_) (fun q3 => ?_)
      · skip
        refine d_nil (fun σ => ?_)
        refine l_nil ?_
        refine kt_norm ?_
        refine v_sel [13, 0, 1, 12, 24] [] rfl rfl ?_
        refine v_condT rfl ?_
        refine v_seq ?_
        refine v_region ?_
        refine l_val rfl (o_assign rfl) ?_
        refine l_nil ?_
        refine kt_norm ?_
        refine v_ret ?_
        refine kb_ret ?_
        refine kt_ret ?_
        refine kt_ret ?_
        refine kb_ret ?_
        refine kt_ret ?_
        refine ⟨[_], .cons (.tmp rfl) (ResAll.nil), ?_⟩
        first
          | (exact congrArg Value.bool (decide_eq_false (fun hd => by subst hd; omega)).symm)
          | exact congrArg Value.bool (decide_eq_true (ext_int (by omega) (fun k hk => hB k (by omega)))).symm
      · skip
        refine d_nil (fun σ => ?_)
        refine l_nil ?_
        refine kt_norm ?_
        refine v_sel [13, 0, 1, 12, 24] [] rfl rfl ?_
        refine v_condF rfl ?_
        refine v_skip ?_
        refine kb_norm ?_
        refine kt_norm ?_
        refine v_region ?_
        refine l_val rfl (o_addi rfl rfl ?_) ?_
        · omega
        refine l_val rfl (o_move rfl) ?_
        refine l_nil ?_
        refine kt_norm ?_
        refine ⟨i + 1, ⟨by omega, fun k hk => by rcases Nat.lt_or_eq_of_le (Nat.le_of_lt_succ hk) with h | h; exact hB k h; subst h; omega⟩, by omega, le_app (And.intro rfl (True.intro)) [0, 1, 12] rfl (True.intro) [] rfl⟩
    · skip
      refine l_nil ?_
      refine kt_norm ?_
      refine v_seq ?_
      refine v_condF rfl ?_
      refine v_exit ?_
      refine kt_exit ?_
      refine kt_exit ?_
      refine kb_eq ?_
      refine kt_norm ?_
      refine v_seq ?_
      refine v_region ?_
      refine l_val rfl (o_assign rfl) ?_
      refine l_nil ?_
      refine kt_norm ?_
      refine v_ret ?_
      refine ⟨[_], .cons (.tmp rfl) (ResAll.nil), ?_⟩
      first
        | (exact congrArg Value.bool (decide_eq_false (fun hd => by subst hd; omega)).symm)
        | exact congrArg Value.bool (decide_eq_true (ext_int (by omega) (fun k hk => hB k (by omega)))).symm
theorem a_SameG (w : World) (v u : Value) (N H N2 H2 : Int) (p q : List Int) (hn : p.length ≤ 1000000) (hn2 : q.length ≤ 1000000) (hV : RowV v p.length) (hrow : RowAt w v 1 p.length (iU p)) (hU : RowV u q.length) (hrow2 : RowAt w u 1 q.length (iU q)) :
    Calls Try.prog 16 #[.agg #[.int .i64 N, .int .i64 H, v], .agg #[.int .i64 N2, .int .i64 H2, u]] w fun e w' => e = .returned (.bool (decide (N = N2 ∧ H = H2 ∧ p = q))) ∧ Below w.heap.size w w' := by
  have hr : ∀ w', Chg (fun _ => False) w w' → RowAt w' v 1 p.length (iU p) := fun w' h => hrow.chg h (fun h => h)
  have hr2 : ∀ w', Chg (fun _ => False) w w' → RowAt w' u 1 q.length (iU q) := fun w' h => hrow2.chg h (fun h => h)
  obtain ⟨a1, c1, rfl⟩ := hV.sl
  obtain ⟨a2, c2, rfl⟩ := hU.sl
  refine calls_of (args := [.agg #[.int .i64 N, .int .i64 H, .slice a1 p.length c1], .agg #[.int .i64 N2, .int .i64 H2, .slice a2 q.length c2]]) Try.func16 rfl Try.ntmps16 Try.results16 rfl ?_
  refine v_seq ?_
  refine v_region ?_
  refine l_new rfl (o_box (cs := [_, _, _]) rfl rfl) fun b2 => ?_
  refine l_new rfl (o_box (cs := [_, _, _]) rfl rfl) fun b3 => ?_
  refine l_val rfl (o_assign rfl) ?_
  refine l_nil ?_
  refine kt_norm ?_
  refine v_seq ?_
  refine v_region ?_
  refine l_val rfl (o_fld rfl) ?_
  refine l_val rfl (o_load1 (key := 2) rfl rfl rfl) ?_
  refine l_val rfl (o_fld rfl) ?_
  refine l_val rfl (o_load1 (key := 3) rfl rfl rfl) ?_
  refine l_split rfl (o_eql rfl rfl) (fun q1 => ?_) (fun q1 => ?_)
  · skip
    refine l_val rfl (o_move rfl) ?_
    refine l_val rfl (o_fld rfl) ?_
    refine l_val rfl (o_load1 (key := 2) rfl rfl rfl) ?_
    refine l_val rfl (o_fld rfl) ?_
    refine l_val rfl (o_load1 (key := 3) rfl rfl rfl) ?_
    refine l_split rfl (o_eql rfl rfl) (fun q2 => ?_) (fun q2 => ?_)
    · skip
      refine l_val rfl (o_pickT rfl rfl) ?_
      refine l_val rfl (o_move rfl) ?_
      refine l_val rfl (o_fld rfl) ?_
      refine l_val rfl (o_load1 (key := 2) rfl rfl rfl) ?_
      refine l_val rfl (o_fld rfl) ?_
      refine l_val rfl (o_load1 (key := 3) rfl rfl rfl) ?_
      refine l_call (ks := []) rfl (o_callC (vs := [_, _]) (r := .bool (decide (p = q))) (ent_of Try.func34 rfl rfl) rfl (fun w' hg hh => a_EqualG w' (.slice a1 p.length c1) (.slice a2 q.length c2) p q hn hn2 hV (hr w' hg) hU (hr2 w' hg))) ?_
      refine l_val rfl (o_pickT rfl rfl) ?_
      refine l_val rfl (o_assign rfl) ?_
      refine l_nil ?_
      refine kt_norm ?_
      refine v_sel [4] [] rfl rfl ?_
      refine v_ret ?_
      refine ⟨[_], .cons (.tmp rfl) (ResAll.nil), ?_⟩
      first
        | (exact congrArg Value.bool (decide_eq_false (fun hd => by have h1 := hd.1; have h2 := hd.2.1; clear hd; omega)).symm)
        | (exact congrArg Value.bool (decide_eq_false (fun hd => by have h3 := hd.2.2; clear hd; subst h3; omega)).symm)
        | exact congrArg Value.bool (decide_congr ⟨fun h => ⟨by omega, by omega, h⟩, fun h => h.2.2⟩)
        | exact congrArg Value.bool (decide_eq_true ⟨by omega, by omega, ext_int (by omega) (fun k hk => hB k (by omega))⟩).symm
    · skip
      refine l_val rfl (o_pickT rfl rfl) ?_
      refine l_val rfl (o_move rfl) ?_
      refine l_no rfl ?_
      refine l_no rfl ?_
      refine l_no rfl ?_
      refine l_no rfl ?_
      refine l_no rfl ?_
      refine l_val rfl (o_pickF rfl rfl) ?_
      refine l_val rfl (o_assign rfl) ?_
      refine l_nil ?_
      refine kt_norm ?_
      refine v_sel [4] [] rfl rfl ?_
      refine v_ret ?_
      refine ⟨[_], .cons (.tmp rfl) (ResAll.nil), ?_⟩
      first
        | (exact congrArg Value.bool (decide_eq_false (fun hd => by have h1 := hd.1; have h2 := hd.2.1; clear hd; omega)).symm)
        | (exact congrArg Value.bool (decide_eq_false (fun hd => by have h3 := hd.2.2; clear hd; subst h3; omega)).symm)
        | exact congrArg Value.bool (decide_congr ⟨fun h => ⟨by omega, by omega, h⟩, fun h => h.2.2⟩)
        | exact congrArg Value.bool (decide_eq_true ⟨by omega, by omega, ext_int (by omega) (fun k hk => hB k (by omega))⟩).symm
  · skip
    refine l_val rfl (o_move rfl) ?_
    refine l_no rfl ?_
    refine l_no rfl ?_
    refine l_no rfl ?_
    refine l_no rfl ?_
    refine l_no rfl ?_
    refine l_val rfl (o_pickF rfl rfl) ?_
    refine l_val rfl (o_move rfl) ?_
    refine l_no rfl ?_
    refine l_no rfl ?_
    refine l_no rfl ?_
    refine l_no rfl ?_
    refine l_no rfl ?_
    refine l_val rfl (o_pickF rfl rfl) ?_
    refine l_val rfl (o_assign rfl) ?_
    refine l_nil ?_
    refine kt_norm ?_
    refine v_sel [4] [] rfl rfl ?_
    refine v_ret ?_
    refine ⟨[_], .cons (.tmp rfl) (ResAll.nil), ?_⟩
    first
      | (exact congrArg Value.bool (decide_eq_false (fun hd => by have h1 := hd.1; have h2 := hd.2.1; clear hd; omega)).symm)
      | (exact congrArg Value.bool (decide_eq_false (fun hd => by have h3 := hd.2.2; clear hd; subst h3; omega)).symm)
      | exact congrArg Value.bool (decide_congr ⟨fun h => ⟨by omega, by omega, h⟩, fun h => h.2.2⟩)
      | exact congrArg Value.bool (decide_eq_true ⟨by omega, by omega, ext_int (by omega) (fun k hk => hB k (by omega))⟩).symm
theorem r_SameG (w : World) (v u : Value) (N H N2 H2 : Int) (p q : List Int) (hn : p.length ≤ 1000000) (hn2 : q.length ≤ 1000000) (hV : RowV v p.length) (hrow : RowAt w v 1 p.length (iU p)) (hU : RowV u q.length) (hrow2 : RowAt w u 1 q.length (iU q)) :
    Calls Try.prog 15 #[.agg #[.int .i64 N, .int .i64 H, v], .agg #[.int .i64 N2, .int .i64 H2, u]] w fun e w' => e = .returned (.bool (decide (N = N2 ∧ H = H2 ∧ p = q))) ∧ Below w.heap.size w w' := by
  have hr : ∀ w', Chg (fun _ => False) w w' → RowAt w' v 1 p.length (iU p) := fun w' h => hrow.chg h (fun h => h)
  have hr2 : ∀ w', Chg (fun _ => False) w w' → RowAt w' u 1 q.length (iU q) := fun w' h => hrow2.chg h (fun h => h)
  obtain ⟨a1, c1, rfl⟩ := hV.sl
  obtain ⟨a2, c2, rfl⟩ := hU.sl
  refine calls_of (args := [.agg #[.int .i64 N, .int .i64 H, .slice a1 p.length c1], .agg #[.int .i64 N2, .int .i64 H2, .slice a2 q.length c2]]) Try.func15 rfl Try.ntmps15 Try.results15 rfl ?_
  refine v_seq ?_
  refine v_region ?_
  refine l_new rfl (o_box (cs := [_, _, _]) rfl rfl) fun b2 => ?_
  refine l_new rfl (o_box (cs := [_, _, _]) rfl rfl) fun b3 => ?_
  refine l_val rfl (o_assign rfl) ?_
  refine l_nil ?_
  refine kt_norm ?_
  refine v_seq ?_
  refine v_seq ?_
  refine v_region ?_
  skip
  refine l_val rfl (o_fld rfl) ?_
  refine l_val rfl (o_load1 (key := 2) rfl rfl rfl) ?_
  refine l_val rfl (o_fld rfl) ?_
  refine l_val rfl (o_load1 (key := 3) rfl rfl rfl) ?_
  refine l_split rfl (o_neq rfl rfl) (fun q1 => ?_) (fun q1 => ?_)
  · skip
    refine l_val rfl (o_move rfl) ?_
    refine l_no rfl ?_
    refine l_no rfl ?_
    refine l_no rfl ?_
    refine l_no rfl ?_
    refine l_no rfl ?_
    refine l_val rfl (o_pickT rfl rfl) ?_
    refine l_val rfl (o_move rfl) ?_
    refine l_no rfl ?_
    refine l_no rfl ?_
    refine l_no rfl ?_
    refine l_no rfl ?_
    refine l_no rfl ?_
    refine l_no rfl ?_
    refine l_no rfl ?_
    refine l_val rfl (o_pickT rfl rfl) ?_
    refine l_nil ?_
    refine kt_norm ?_
    refine v_sel [2, 3, 26] [2, 3] rfl rfl ?_
    refine v_condT rfl ?_
    refine v_seq ?_
    refine v_region ?_
    refine l_val rfl (o_assign rfl) ?_
    refine l_nil ?_
    refine kt_norm ?_
    refine v_ret ?_
    refine kt_ret ?_
    refine ⟨[_], .cons (.tmp rfl) (ResAll.nil), ?_⟩
    first
      | (exact congrArg Value.bool (decide_eq_false (fun hd => by have h1 := hd.1; have h2 := hd.2.1; clear hd; omega)).symm)
      | (exact congrArg Value.bool (decide_eq_false (fun hd => by have h3 := hd.2.2; clear hd; subst h3; omega)).symm)
      | exact congrArg Value.bool (decide_congr ⟨fun h => ⟨by omega, by omega, h⟩, fun h => h.2.2⟩)
      | exact congrArg Value.bool (decide_eq_true ⟨by omega, by omega, ext_int (by omega) (fun k hk => hB k (by omega))⟩).symm
  · skip
    refine l_val rfl (o_move rfl) ?_
    refine l_val rfl (o_fld rfl) ?_
    refine l_val rfl (o_load1 (key := 2) rfl rfl rfl) ?_
    refine l_val rfl (o_fld rfl) ?_
    refine l_val rfl (o_load1 (key := 3) rfl rfl rfl) ?_
    refine l_split rfl (o_neq rfl rfl) (fun q2 => ?_) (fun q2 => ?_)
    · skip
      refine l_val rfl (o_pickF rfl rfl) ?_
      refine l_val rfl (o_move rfl) ?_
      refine l_no rfl ?_
      refine l_no rfl ?_
      refine l_no rfl ?_
      refine l_no rfl ?_
      refine l_no rfl ?_
      refine l_no rfl ?_
      refine l_no rfl ?_
      refine l_val rfl (o_pickT rfl rfl) ?_
      refine l_nil ?_
      refine kt_norm ?_
      refine v_sel [2, 3, 26] [2, 3] rfl rfl ?_
      refine v_condT rfl ?_
      refine v_seq ?_
      refine v_region ?_
      refine l_val rfl (o_assign rfl) ?_
      refine l_nil ?_
      refine kt_norm ?_
      refine v_ret ?_
      refine kt_ret ?_
      refine ⟨[_], .cons (.tmp rfl) (ResAll.nil), ?_⟩
      first
        | (exact congrArg Value.bool (decide_eq_false (fun hd => by have h1 := hd.1; have h2 := hd.2.1; clear hd; omega)).symm)
        | (exact congrArg Value.bool (decide_eq_false (fun hd => by have h3 := hd.2.2; clear hd; subst h3; omega)).symm)
        | exact congrArg Value.bool (decide_congr ⟨fun h => ⟨by omega, by omega, h⟩, fun h => h.2.2⟩)
        | exact congrArg Value.bool (decide_eq_true ⟨by omega, by omega, ext_int (by omega) (fun k hk => hB k (by omega))⟩).symm
    · skip
      refine l_val rfl (o_pickF rfl rfl) ?_
      refine l_val rfl (o_move rfl) ?_
      refine l_val rfl (o_fld rfl) ?_
      refine l_val rfl (o_load1 (key := 2) rfl rfl rfl) ?_
      refine l_val rfl (o_len rfl hV) ?_
      refine l_val rfl (o_fld rfl) ?_
      refine l_val rfl (o_load1 (key := 3) rfl rfl rfl) ?_
      refine l_val rfl (o_len rfl hU) ?_
      refine l_split rfl (o_neq rfl rfl) (fun q3 => ?_) (fun q3 => ?_)
      · skip
        refine l_val rfl (o_pickF rfl rfl) ?_
        refine l_nil ?_
        refine kt_norm ?_
        refine v_sel [2, 3, 26] [2, 3] rfl rfl ?_
        refine v_condT rfl ?_
        refine v_seq ?_
        refine v_region ?_
        refine l_val rfl (o_assign rfl) ?_
        refine l_nil ?_
        refine kt_norm ?_
        refine v_ret ?_
        refine kt_ret ?_
        refine ⟨[_], .cons (.tmp rfl) (ResAll.nil), ?_⟩
        first
          | (exact congrArg Value.bool (decide_eq_false (fun hd => by have h1 := hd.1; have h2 := hd.2.1; clear hd; omega)).symm)
          | (exact congrArg Value.bool (decide_eq_false (fun hd => by have h3 := hd.2.2; clear hd; subst h3; omega)).symm)
          | exact congrArg Value.bool (decide_congr ⟨fun h => ⟨by omega, by omega, h⟩, fun h => h.2.2⟩)
          | exact congrArg Value.bool (decide_eq_true ⟨by omega, by omega, ext_int (by omega) (fun k hk => hB k (by omega))⟩).symm
      · skip
        refine l_val rfl (o_pickF rfl rfl) ?_
        refine l_nil ?_
        refine kt_norm ?_
        refine v_sel [2, 3, 26] [2, 3] rfl rfl ?_
        refine v_condF rfl ?_
        refine v_skip ?_
        refine kt_norm ?_
        refine v_seq ?_
        refine v_seq ?_
        refine v_region ?_
        refine l_val rfl (o_assign rfl) ?_
        refine l_nil ?_
        refine kt_norm ?_
        refine v_block ?_
        refine v_loopS (α := Nat) (fun i => [(5, .int .i64 (i : Int))]) (fun i => [])  (fun i => i ≤ p.length ∧ ∀ k, k < i → p.getD k 0 = q.getD k 0) (fun i => p.length - i) 0 [2, 3] [2, 3] ⟨Nat.zero_le _, fun k hk => absurd hk (Nat.not_lt_zero k)⟩  (And.intro rfl (True.intro)) rfl (True.intro) rfl ?_
        rintro i ⟨hi, hB⟩
        refine v_seq ?_
        refine v_seq ?_
        refine v_region ?_
        refine l_val rfl (o_move rfl) ?_
        refine l_val rfl (o_fld rfl) ?_
        refine l_val rfl (o_load1 (key := 2) rfl rfl rfl) ?_
        refine l_val rfl (o_len rfl hV) ?_
        refine l_split rfl (o_lss rfl rfl) (fun q4 => ?_) (fun q4 => ?_)
        · skip
          refine l_nil ?_
          refine kt_norm ?_
          refine v_condT rfl ?_
          refine v_skip ?_
          refine kt_norm ?_
          refine v_seq ?_
          refine v_block ?_
          refine v_seq ?_
          refine v_drawZ [[], [2], [], [], [], [], [3], [], [], [], []] mixed ?_ (by kernel_rfl) (by kernel_rfl)
          refine d_val (fun _ => rfl) rfl rfl (fun _ => o_fld rfl) ?_
          refine d_val (fun _ => rfl) rfl rfl (fun _ => o_load1 (key := 2) rfl rfl rfl) ?_
          refine d_val (fun _ => rfl) rfl rfl (fun _ => o_move rfl) ?_
          refine d_val (fun _ => rfl) rfl rfl (fun _ => o_idx (i) rfl hV rfl (by first | rfl | omega) (by omega)) ?_
          refine d_val (fun _ => rfl) rfl rfl (fun _ => o_loadR1 rfl (row_imm hr) (el_u8 (l := p) (i := i) (by omega))) ?_
          refine d_val (fun _ => rfl) rfl rfl (fun _ => o_fld rfl) ?_
          refine d_val (fun _ => rfl) rfl rfl (fun _ => o_load1 (key := 3) rfl rfl rfl) ?_
          refine d_val (fun _ => rfl) rfl rfl (fun _ => o_move rfl) ?_
          refine d_val (fun _ => rfl) rfl rfl (fun _ => o_idx (i) rfl hU rfl (by first | rfl | omega) (by omega)) ?_
          refine d_val (fun _ => rfl) rfl rfl (fun _ => o_loadR1 rfl (row_imm hr2) (el_u8 (l := q) (i := i) (by omega))) ?_
          refine d_neq (fun _ => rfl) (fun _ => rfl) (fun _ => rfl) (fun q5 => ?_) (fun q5 => ?_)
          · skip
            refine d_nil (fun σ => ?_)
            refine l_nil ?_
            refine kt_norm ?_
            refine v_sel [5, 2, 3, 44] [2, 3] rfl rfl ?_
            refine v_condT rfl ?_
            refine v_seq ?_
            refine v_region ?_
            refine l_val rfl (o_assign rfl) ?_
            refine l_nil ?_
            refine kt_norm ?_
            refine v_ret ?_
            refine kb_ret ?_
            refine kt_ret ?_
            refine kt_ret ?_
            refine kb_ret ?_
            refine kt_ret ?_
            refine ⟨[_], .cons (.tmp rfl) (ResAll.nil), ?_⟩
            first
              | (exact congrArg Value.bool (decide_eq_false (fun hd => by have h1 := hd.1; have h2 := hd.2.1; clear hd; omega)).symm)
              | (exact congrArg Value.bool (decide_eq_false (fun hd => by have h3 := hd.2.2; clear hd; subst h3; omega)).symm)
              | exact congrArg Value.bool (decide_congr ⟨fun h => ⟨by omega, by omega, h⟩, fun h => h.2.2⟩)
              | exact congrArg Value.bool (decide_eq_true ⟨by omega, by omega, ext_int (by omega) (fun k hk => hB k (by omega))⟩).symm
          · skip
            refine d_nil (fun σ => ?_)
            refine l_nil ?_
            refine kt_norm ?_
            refine v_sel [5, 2, 3, 44] [2, 3] rfl rfl ?_
            refine v_condF rfl ?_
            refine v_skip ?_
            refine kb_norm ?_
            refine kt_norm ?_
            refine v_region ?_
            refine l_val rfl (o_move rfl) ?_
            refine l_val rfl (o_addi rfl rfl ?_) ?_
            · omega
            refine l_val rfl (o_assign rfl) ?_
            refine l_nil ?_
            refine kt_norm ?_
            refine ⟨i + 1, ⟨by omega, fun k hk => by rcases Nat.lt_or_eq_of_le (Nat.le_of_lt_succ hk) with h | h; exact hB k h; subst h; omega⟩, by omega, le_app (And.intro rfl (True.intro)) [2, 3] rfl (True.intro) [2, 3] rfl⟩
        · skip
          refine l_nil ?_
          refine kt_norm ?_
          refine v_condF rfl ?_
          refine v_exit ?_
          refine kt_exit ?_
          refine kt_exit ?_
          refine kb_eq ?_
          refine kt_norm ?_
          refine v_sel [] [2, 3] rfl rfl ?_
          refine v_seq ?_
          refine v_region ?_
          refine l_val rfl (o_assign rfl) ?_
          refine l_nil ?_
          refine kt_norm ?_
          refine v_ret ?_
          refine ⟨[_], .cons (.tmp rfl) (ResAll.nil), ?_⟩
          first
            | (exact congrArg Value.bool (decide_eq_false (fun hd => by have h1 := hd.1; have h2 := hd.2.1; clear hd; omega)).symm)
            | (exact congrArg Value.bool (decide_eq_false (fun hd => by have h3 := hd.2.2; clear hd; subst h3; omega)).symm)
            | exact congrArg Value.bool (decide_congr ⟨fun h => ⟨by omega, by omega, h⟩, fun h => h.2.2⟩)
            | exact congrArg Value.bool (decide_eq_true ⟨by omega, by omega, ext_int (by omega) (fun k hk => hB k (by omega))⟩).symm
theorem r_its21 (N H : Int) (a : Option Addr) (m c : Nat) : Ans Try.prog 12 [.agg #[.int .i64 N, .int .i64 H, .slice a m c]] (.agg #[.int .i64 N, .int .i64 H, .slice a m c]) := by
  refine ans_of Try.func12 rfl Try.ntmps12 Try.results12 rfl rfl fun w => ?_
  refine v_seq ?_
  refine v_region ?_
  refine l_new rfl (o_box (cs := [_, _, _]) rfl rfl) fun b1 => ?_
  refine l_new rfl o_alloc fun b2 => ?_
  refine l_nil ?_
  refine kt_norm ?_
  refine v_seq ?_
  refine v_region ?_
  refine l_val rfl (o_fld rfl) ?_
  refine l_val rfl (o_load1 (key := 1) rfl rfl rfl) ?_
  refine l_val rfl (o_fld rfl) ?_
  refine l_val rfl (o_load1 (key := 1) rfl rfl rfl) ?_
  refine l_val rfl (o_fld rfl) ?_
  refine l_val rfl (o_load1 (key := 1) rfl rfl rfl) ?_
  refine l_val rfl (o_build (vs := [_, _, _]) (cs := [_, _, _]) rfl rfl) ?_
  refine l_store rfl (o_storeW (key := 2) (xs := [_, _, _]) rfl rfl rfl rfl rfl rfl rfl) ?_
  refine l_nil ?_
  refine kt_norm ?_
  refine v_sel [2] [2] rfl rfl ?_
  refine v_ret ?_
  refine ⟨[_], .cons (.cellW (key := 2) rfl rfl rfl) (ResAll.nil), ?_⟩
  rfl
set_option maxHeartbeats 4000000 in
theorem a_CoverCropsY (w : World) (v : Value) (pvs : List Value) (ps : List (List PtT)) (X Y W H : Int) (x y cw ch : Nat) (hv : PcsW v pvs ps) (hat : PcsAt w v pvs ps) (hX : -32768 ≤ X ∧ X < 32768) (hY : -32768 ≤ Y ∧ Y < 32768) (hW : 0 ≤ W ∧ W < 256) (hH : 0 ≤ H ∧ H < 256) (n h : Nat) (hnA : (n : Int) = 1 + W % 12) (hhA : (h : Int) = 1 + H % 8) (hx : x + cw ≤ n) (hy : y + ch ≤ h) (hcw : 1 ≤ cw) (hch : 1 ≤ ch)  :
    Calls Try.prog 3 #[v, .int .i16 X, .int .i16 Y, .int .u8 W, .int .u8 H, .int .i64 (x : Int), .int .i64 (y : Int), .int .i64 (cw : Int), .int .i64 (ch : Int)] w fun e w' => e = .returned (.bool true) ∧ Below w.heap.size w w' := by
  have hVp := hv.V
  have hlen := hv.len
  have hrowP : ∀ w', Chg (fun _ => False) w w' → RowAt w' v 1 ps.length pvs := fun w' h => (hat.keep h).row
  have hVA : Ans Try.prog 9 [.int .i16 X, .int .i16 Y, .int .u8 W, .int .u8 H] (.agg #[.int .i64 X, .int .i64 Y, .int .i64 (n : Int), .int .i64 (h : Int)]) := by rw [hnA, hhA]; exact a_view21 _ _ _ _ (by omega) (by omega) (by omega) (by omega)
  have hvA : ViewOk X Y (n : Int) (h : Int) := (viewOk_def _ _ _ _).2 (by omega)
  have hnh := @nh_le n h (by omega) (by omega)
  have hcc : ch * cw ≤ 256 * 256 := Nat.mul_le_mul (by omega) (by omega)
  refine calls_of (args := [v, .int .i16 X, .int .i16 Y, .int .u8 W, .int .u8 H, .int .i64 (x : Int), .int .i64 (y : Int), .int .i64 (cw : Int), .int .i64 (ch : Int)]) Try.func3 rfl Try.ntmps3 Try.results3 rfl ?_
  refine v_seq ?_
  refine v_region ?_
  refine l_val rfl (o_assign rfl) ?_
  refine l_nil ?_
  refine kt_norm ?_
  refine v_seq ?_
  refine v_seq ?_
  refine v_region ?_
  refine l_val rfl (o_move rfl) ?_
  refine l_call (ks := []) rfl (o_callC (vs := [_]) (r := .bool (decide (Bn21 ps))) (ent_of Try.func6 rfl rfl) rfl (fun w' hg hh => a_bounded21 w' _ pvs ps hv (hat.keep hg))) ?_
  refine lz_bool (fun hbb => ?_) (fun hbb => ?_)
  · have hb := hbb.bnd
    have hvp := hb.pcsV hv
    refine l_val rfl (o_not rfl rfl) ?_
    refine l_val rfl (o_move rfl) ?_
    refine l_ans (vs := []) rfl rfl (a_shown21) ?_
    refine l_val rfl (o_not rfl rfl) ?_
    refine l_val rfl (o_pickF rfl rfl) ?_
    refine l_nil ?_
    refine kt_norm ?_
    refine v_sel [0, 1, 2, 3, 4, 5, 6, 7, 8, 31] [] rfl rfl ?_
    refine v_condF rfl ?_
    refine v_skip ?_
    refine kt_norm ?_
    refine v_seq ?_
    refine v_region ?_
    refine l_val rfl (o_move rfl) ?_
    refine l_val rfl (o_move rfl) ?_
    refine l_val rfl (o_move rfl) ?_
    refine l_val rfl (o_move rfl) ?_
    refine l_val rfl (o_move rfl) ?_
    refine l_ans (vs := [_, _, _, _]) rfl rfl (hVA) ?_
    refine l_gownF (fun y => .tuple #[.agg #[.int .i64 (n : Int), .int .i64 (h : Int), y], .int .i64 0]) (ks := []) (caps := #[]) (vs := [_, _]) rfl rfl (ent_of Try.func8 rfl rfl) rfl (fun w' hg hh => a_cover w' v pvs ps X Y n h hb hvp (hat.keep hg) hvA) fun pa hpa => ?_
    refine l_capd 40 rfl fun hcap => ?_
    obtain ⟨apa, cpa, rfl⟩ := hpa.sl
    refine l_val rfl (o_move rfl) ?_
    refine l_val rfl (o_extract rfl rfl) ?_
    refine l_val rfl (o_extract rfl rfl) ?_
    refine l_new rfl o_alloc fun b19 => ?_
    refine l_store rfl (o_storeW (key := 19) (xs := [_, _, _]) rfl rfl rfl rfl rfl rfl rfl) ?_
    refine l_val rfl (o_assign rfl) ?_
    refine l_nil ?_
    refine kt_norm ?_
    refine v_sel [5, 6, 7, 8, 19, 20] [19, 40] rfl rfl ?_
    refine v_seq ?_
    refine v_region ?_
    refine l_val rfl (o_loadW (key := 19) rfl rfl rfl) ?_
    refine l_val rfl (o_move rfl) ?_
    refine l_val rfl (o_move rfl) ?_
    refine l_val rfl (o_move rfl) ?_
    refine l_val rfl (o_move rfl) ?_
    refine l_gownF (fun y => .tuple #[.agg #[.int .i64 (cw : Int), .int .i64 (ch : Int), y], .int .i64 0]) (ks := [40]) (caps := #[]) (vs := [_, _, _, _, _]) rfl rfl (ent_of Try.func10 rfl rfl) rfl (fun w' hg hh => a_CropY w' (.slice apa (pixT (tabT X Y (n : Int) (h : Int) ps) X Y n h).length cpa) n h (pixT (tabT X Y (n : Int) (h : Int) ps) X Y n h) x y cw ch (by omega) (by omega) hx hy hcw hch pix_len2 hpa hcap (rowAt_own (hh 40 (by simp) _ rfl))) fun pc hpc => ?_
    obtain ⟨apc, cpc, rfl⟩ := hpc.sl
    refine l_val rfl (o_move rfl) ?_
    refine l_val rfl (o_extract rfl rfl) ?_
    refine l_val rfl (o_extract rfl rfl) ?_
    refine l_new rfl o_alloc fun b21 => ?_
    refine l_store rfl (o_storeW (key := 21) (xs := [_, _, _]) rfl rfl rfl rfl rfl rfl rfl) ?_
    refine l_val rfl (o_assign rfl) ?_
    refine l_nil ?_
    refine kt_norm ?_
    refine v_sel [5, 6, 7, 8, 19, 20, 21, 22] [19, 21, 40, 49] rfl rfl ?_
    refine v_seq ?_
    refine v_region ?_
    refine l_val rfl (o_loadW (key := 19) rfl rfl rfl) ?_
    refine l_ans (vs := [_]) rfl rfl (r_its21 _ _ _ _ _) ?_
    refine l_val rfl (o_move rfl) ?_
    refine l_val rfl (o_move rfl) ?_
    refine l_val rfl (o_move rfl) ?_
    refine l_val rfl (o_move rfl) ?_
    refine l_gownF (fun y => .tuple #[.agg #[.int .i64 (cw : Int), .int .i64 (ch : Int), y], .int .i64 0]) (ks := [40]) (caps := #[]) (vs := [_, _, _, _, _]) rfl rfl (ent_of Try.func11 rfl rfl) rfl (fun w' hg hh => r_CropY w' (.slice apa (pixT (tabT X Y (n : Int) (h : Int) ps) X Y n h).length cpa) n h (pixT (tabT X Y (n : Int) (h : Int) ps) X Y n h) x y cw ch (by omega) (by omega) hx hy hcw hch pix_len2 hpa (rowAt_own (hh 40 (by simp) _ rfl))) fun pd hpd => ?_
    obtain ⟨apd, cpd, rfl⟩ := hpd.sl
    refine l_val rfl (o_move rfl) ?_
    refine l_val rfl (o_extract rfl rfl) ?_
    refine l_val rfl (o_extract rfl rfl) ?_
    refine l_new rfl o_alloc fun b23 => ?_
    refine l_store rfl (o_storeW (key := 23) (xs := [_, _, _]) rfl rfl rfl rfl rfl rfl rfl) ?_
    refine l_val rfl (o_assign rfl) ?_
    refine l_nil ?_
    refine kt_norm ?_
    refine v_sel [5, 6, 19, 20, 21, 22, 23, 24] [19, 21, 23, 40, 49, 59] rfl rfl ?_
    refine v_seq ?_
    refine v_drawW [] [[], [], [], [19], [], [], [40], [19], [], [], [], [40], [], [], [], [21], [], [23], [49, 59], [], [], [], [], [], [], [], [19], [19], [40], [], [], [19], [21], [40, 49], [19], [], [23], [40, 59], [], [], []] mixed ?_ (by kernel_rfl) (by kernel_rfl)
    refine d_val (fun _ => rfl) rfl rfl (fun σ6 => o_move rfl) ?_
    refine d_eql (fun _ => rfl) (fun _ => rfl) (fun _ => rfl) (fun q1 => ?_) (fun q1 => absurd (show _ by omega) q1)
    refine d_val (fun _ => rfl) rfl rfl (fun σ6 => o_move rfl) ?_
    refine d_val (fun _ => rfl) rfl rfl (fun σ6 => o_loadW (key := 19) rfl rfl rfl) ?_
    refine d_val (fun _ => rfl) rfl rfl (fun σ6 => o_move rfl) ?_
    refine d_val (fun _ => rfl) rfl rfl (fun σ6 => o_move rfl) ?_
    refine d_gcall (y := .int .u8 (atT n h (pixT (tabT X Y (n : Int) (h : Int) ps) X Y n h) x y)) (caps := #[]) (fun _ => rfl) (fun _ => rfl) (ent_of Try.func13 rfl rfl) (vs := fun _ => [_, _, _]) (fun _ => rfl) (fun σ6 w' hg hh => a_AtC w' (.slice apa (pixT (tabT X Y (n : Int) (h : Int) ps) X Y n h).length cpa) n h (pixT (tabT X Y (n : Int) (h : Int) ps) X Y n h) x y hnh pix_len2 hpa (rowAt_own (hh 40 (by simp) _ rfl))) ?_
    refine d_val (fun _ => rfl) rfl rfl (fun σ6 => o_loadW (key := 19) rfl rfl rfl) ?_
    refine d_ans (vs := [_]) (fun _ => rfl) (fun _ => rfl) (r_its21 _ _ _ _ _) ?_
    refine d_val (fun _ => rfl) rfl rfl (fun σ6 => o_move rfl) ?_
    refine d_val (fun _ => rfl) rfl rfl (fun σ6 => o_move rfl) ?_
    refine d_gcall (y := .int .u8 (atT n h (pixT (tabT X Y (n : Int) (h : Int) ps) X Y n h) x y)) (caps := #[]) (fun _ => rfl) (fun _ => rfl) (ent_of Try.func14 rfl rfl) (vs := fun _ => [_, _, _]) (fun _ => rfl) (fun σ6 w' hg hh => r_AtC w' (.slice apa (pixT (tabT X Y (n : Int) (h : Int) ps) X Y n h).length cpa) n h (pixT (tabT X Y (n : Int) (h : Int) ps) X Y n h) x y hnh pix_len2 hpa (rowAt_own (hh 40 (by simp) _ rfl))) ?_
    refine d_eql (fun _ => rfl) (fun _ => rfl) (fun _ => rfl) (fun q2 => ?_) (fun q2 => absurd (show _ by omega) q2)
    refine d_val (fun _ => rfl) rfl rfl (fun σ6 => o_pickT rfl rfl) ?_
    refine d_val (fun _ => rfl) rfl rfl (fun σ6 => o_move rfl) ?_
    refine d_val (fun _ => rfl) rfl rfl (fun σ6 => o_loadW (key := 21) rfl rfl rfl) ?_
    refine d_ans (vs := [_]) (fun _ => rfl) (fun _ => rfl) (r_its21 _ _ _ _ _) ?_
    refine d_val (fun _ => rfl) rfl rfl (fun σ6 => o_loadW (key := 23) rfl rfl rfl) ?_
    refine d_gcall (y := .bool true) (caps := #[]) (fun _ => rfl) (fun _ => rfl) (ent_of Try.func15 rfl rfl) (vs := fun _ => [_, _]) (fun _ => rfl) (fun σ6 w' hg hh => (show decide ((cw : Int) = cw ∧ (ch : Int) = ch ∧ (cropT n (pixT (tabT X Y (n : Int) (h : Int) ps) X Y n h) x y cw ch) = (cropT n (pixT (tabT X Y (n : Int) (h : Int) ps) X Y n h) x y cw ch)) = true from decide_eq_true ⟨rfl, rfl, rfl⟩) ▸ r_SameG w' (.slice apc (cropT n (pixT (tabT X Y (n : Int) (h : Int) ps) X Y n h) x y cw ch).length cpc) (.slice apd (cropT n (pixT (tabT X Y (n : Int) (h : Int) ps) X Y n h) x y cw ch).length cpd) cw ch cw ch (cropT n (pixT (tabT X Y (n : Int) (h : Int) ps) X Y n h) x y cw ch) (cropT n (pixT (tabT X Y (n : Int) (h : Int) ps) X Y n h) x y cw ch) (by rw [cropT_len pix_len2 hx ch hy]; omega) (by rw [cropT_len pix_len2 hx ch hy]; omega) hpc (rowAt_own (hh 49 (by simp) _ rfl)) hpd (rowAt_own (hh 59 (by simp) _ rfl))) ?_
    refine d_val (fun _ => rfl) rfl rfl (fun σ6 => o_pickT rfl rfl) ?_
    refine d_val (fun _ => rfl) rfl rfl (fun σ6 => o_move rfl) ?_
    refine d_val (fun _ => rfl) rfl rfl (fun σ6 => o_move rfl) ?_
    refine d_val (fun _ => rfl) rfl rfl (fun σ6 => o_move rfl) ?_
    refine d_eql (fun _ => rfl) (fun _ => rfl) (fun _ => rfl) (fun q3 => ?_) (fun q3 => absurd (show _ by omega) q3)
    refine d_val (fun _ => rfl) rfl rfl (fun σ6 => o_pickT rfl rfl) ?_
    refine d_val (fun _ => rfl) rfl rfl (fun σ6 => o_move rfl) ?_
    refine d_val (fun _ => rfl) rfl rfl (fun σ6 => o_loadW (key := 19) rfl rfl rfl) ?_
    refine d_val (fun _ => rfl) rfl rfl (fun σ6 => o_loadW (key := 19) rfl rfl rfl) ?_
    refine d_gcall (y := .bool true) (caps := #[]) (fun _ => rfl) (fun _ => rfl) (ent_of Try.func16 rfl rfl) (vs := fun _ => [_, _]) (fun _ => rfl) (fun σ6 w' hg hh => (show decide ((n : Int) = n ∧ (h : Int) = h ∧ (pixT (tabT X Y (n : Int) (h : Int) ps) X Y n h) = (pixT (tabT X Y (n : Int) (h : Int) ps) X Y n h)) = true from decide_eq_true ⟨rfl, rfl, rfl⟩) ▸ a_SameG w' (.slice apa (pixT (tabT X Y (n : Int) (h : Int) ps) X Y n h).length cpa) (.slice apa (pixT (tabT X Y (n : Int) (h : Int) ps) X Y n h).length cpa) n h n h (pixT (tabT X Y (n : Int) (h : Int) ps) X Y n h) (pixT (tabT X Y (n : Int) (h : Int) ps) X Y n h) (by rw [pix_len2]; omega) (by rw [pix_len2]; omega) hpa (rowAt_own (hh 40 (by simp) _ rfl)) hpa (rowAt_own (hh 40 (by simp) _ rfl))) ?_
    refine d_val (fun _ => rfl) rfl rfl (fun σ6 => o_pickT rfl rfl) ?_
    refine d_val (fun _ => rfl) rfl rfl (fun σ6 => o_move rfl) ?_
    refine d_val (fun _ => rfl) rfl rfl (fun σ6 => o_loadW (key := 19) rfl rfl rfl) ?_
    refine d_val (fun _ => rfl) rfl rfl (fun σ6 => o_loadW (key := 21) rfl rfl rfl) ?_
    refine d_gcall (y := .bool (decide ((n : Int) = cw ∧ (h : Int) = ch ∧ (pixT (tabT X Y (n : Int) (h : Int) ps) X Y n h) = (cropT n (pixT (tabT X Y (n : Int) (h : Int) ps) X Y n h) x y cw ch)))) (caps := #[]) (fun _ => rfl) (fun _ => rfl) (ent_of Try.func16 rfl rfl) (vs := fun _ => [_, _]) (fun _ => rfl) (fun σ6 w' hg hh => a_SameG w' (.slice apa (pixT (tabT X Y (n : Int) (h : Int) ps) X Y n h).length cpa) (.slice apc (cropT n (pixT (tabT X Y (n : Int) (h : Int) ps) X Y n h) x y cw ch).length cpc) n h cw ch (pixT (tabT X Y (n : Int) (h : Int) ps) X Y n h) (cropT n (pixT (tabT X Y (n : Int) (h : Int) ps) X Y n h) x y cw ch) (by rw [pix_len2]; omega) (by rw [cropT_len pix_len2 hx ch hy]; omega) hpa (rowAt_own (hh 40 (by simp) _ rfl)) hpc (rowAt_own (hh 49 (by simp) _ rfl))) ?_
    refine d_val (fun _ => rfl) rfl rfl (fun σ6 => o_loadW (key := 19) rfl rfl rfl) ?_
    refine d_ans (vs := [_]) (fun _ => rfl) (fun _ => rfl) (r_its21 _ _ _ _ _) ?_
    refine d_val (fun _ => rfl) rfl rfl (fun σ6 => o_loadW (key := 23) rfl rfl rfl) ?_
    refine d_gcall (y := .bool (decide ((n : Int) = cw ∧ (h : Int) = ch ∧ (pixT (tabT X Y (n : Int) (h : Int) ps) X Y n h) = (cropT n (pixT (tabT X Y (n : Int) (h : Int) ps) X Y n h) x y cw ch)))) (caps := #[]) (fun _ => rfl) (fun _ => rfl) (ent_of Try.func15 rfl rfl) (vs := fun _ => [_, _]) (fun _ => rfl) (fun σ6 w' hg hh => r_SameG w' (.slice apa (pixT (tabT X Y (n : Int) (h : Int) ps) X Y n h).length cpa) (.slice apd (cropT n (pixT (tabT X Y (n : Int) (h : Int) ps) X Y n h) x y cw ch).length cpd) n h cw ch (pixT (tabT X Y (n : Int) (h : Int) ps) X Y n h) (cropT n (pixT (tabT X Y (n : Int) (h : Int) ps) X Y n h) x y cw ch) (by rw [pix_len2]; omega) (by rw [cropT_len pix_len2 hx ch hy]; omega) hpa (rowAt_own (hh 40 (by simp) _ rfl)) hpd (rowAt_own (hh 59 (by simp) _ rfl))) ?_
    refine d_val (fun _ => rfl) rfl rfl (fun σ6 => o_eqlb rfl rfl (BEq.rfl)) ?_
    refine d_val (fun _ => rfl) rfl rfl (fun σ6 => o_pickT rfl rfl) ?_
    refine d_val (fun _ => rfl) rfl rfl (fun σ6 => o_assign rfl) ?_
    refine d_nil (fun σ6 => ?_)
    refine l_nil ?_
    refine kt_norm ?_
    refine v_sel [18] [40, 49, 59] rfl rfl ?_
    refine v_ret ?_
    refine ⟨[_], .cons (.tmp rfl) (ResAll.nil), ?_⟩
    rfl
  · skip
    refine l_val rfl (o_not rfl rfl) ?_
    refine l_val rfl (o_move rfl) ?_
    refine l_no rfl ?_
    refine l_no rfl ?_
    refine l_val rfl (o_pickT rfl rfl) ?_
    refine l_nil ?_
    refine kt_norm ?_
    refine v_sel [0, 1, 2, 3, 4, 5, 6, 7, 8, 31] [] rfl rfl ?_
    refine v_condT rfl ?_
    refine v_seq ?_
    refine v_region ?_
    refine l_ans (vs := []) rfl rfl (a_shown21) ?_
    refine l_val rfl (o_assign rfl) ?_
    refine l_nil ?_
    refine kt_norm ?_
    refine v_sel [18] [] rfl rfl ?_
    refine v_ret ?_
    refine kt_ret ?_
    refine ⟨[_], .cons (.tmp rfl) (ResAll.nil), ?_⟩
    rfl
set_option maxHeartbeats 4000000 in
theorem a_CoverCropsN (w : World) (v : Value) (pvs : List Value) (ps : List (List PtT)) (X Y W H x y cw ch : Int) (hv : PcsW v pvs ps) (hat : PcsAt w v pvs ps) (hX : -32768 ≤ X ∧ X < 32768) (hY : -32768 ≤ Y ∧ Y < 32768) (hW : 0 ≤ W ∧ W < 256) (hH : 0 ≤ H ∧ H < 256) (n h : Nat) (hnA : (n : Int) = 1 + W % 12) (hhA : (h : Int) = 1 + H % 8) (hno : ¬ CropOk n h x y cw ch) (hcw : -9223372036854775808 ≤ cw ∧ cw < 9223372036854775808) (hch : -9223372036854775808 ≤ ch ∧ ch < 9223372036854775808) :
    Calls Try.prog 3 #[v, .int .i16 X, .int .i16 Y, .int .u8 W, .int .u8 H, .int .i64 (x : Int), .int .i64 (y : Int), .int .i64 (cw : Int), .int .i64 (ch : Int)] w fun e w' => e = .returned (.bool true) ∧ Below w.heap.size w w' := by
  have hVp := hv.V
  have hlen := hv.len
  have hrowP : ∀ w', Chg (fun _ => False) w w' → RowAt w' v 1 ps.length pvs := fun w' h => (hat.keep h).row
  have hVA : Ans Try.prog 9 [.int .i16 X, .int .i16 Y, .int .u8 W, .int .u8 H] (.agg #[.int .i64 X, .int .i64 Y, .int .i64 (n : Int), .int .i64 (h : Int)]) := by rw [hnA, hhA]; exact a_view21 _ _ _ _ (by omega) (by omega) (by omega) (by omega)
  have hvA : ViewOk X Y (n : Int) (h : Int) := (viewOk_def _ _ _ _).2 (by omega)
  have hnh := @nh_le n h (by omega) (by omega)
  refine calls_of (args := [v, .int .i16 X, .int .i16 Y, .int .u8 W, .int .u8 H, .int .i64 (x : Int), .int .i64 (y : Int), .int .i64 (cw : Int), .int .i64 (ch : Int)]) Try.func3 rfl Try.ntmps3 Try.results3 rfl ?_
  refine v_seq ?_
  refine v_region ?_
  refine l_val rfl (o_assign rfl) ?_
  refine l_nil ?_
  refine kt_norm ?_
  refine v_seq ?_
  refine v_seq ?_
  refine v_region ?_
  refine l_val rfl (o_move rfl) ?_
  refine l_call (ks := []) rfl (o_callC (vs := [_]) (r := .bool (decide (Bn21 ps))) (ent_of Try.func6 rfl rfl) rfl (fun w' hg hh => a_bounded21 w' _ pvs ps hv (hat.keep hg))) ?_
  refine lz_bool (fun hbb => ?_) (fun hbb => ?_)
  · have hb := hbb.bnd
    have hvp := hb.pcsV hv
    refine l_val rfl (o_not rfl rfl) ?_
    refine l_val rfl (o_move rfl) ?_
    refine l_ans (vs := []) rfl rfl (a_shown21) ?_
    refine l_val rfl (o_not rfl rfl) ?_
    refine l_val rfl (o_pickF rfl rfl) ?_
    refine l_nil ?_
    refine kt_norm ?_
    refine v_sel [0, 1, 2, 3, 4, 5, 6, 7, 8, 31] [] rfl rfl ?_
    refine v_condF rfl ?_
    refine v_skip ?_
    refine kt_norm ?_
    refine v_seq ?_
    refine v_region ?_
    refine l_val rfl (o_move rfl) ?_
    refine l_val rfl (o_move rfl) ?_
    refine l_val rfl (o_move rfl) ?_
    refine l_val rfl (o_move rfl) ?_
    refine l_val rfl (o_move rfl) ?_
    refine l_ans (vs := [_, _, _, _]) rfl rfl (hVA) ?_
    refine l_gownF (fun y => .tuple #[.agg #[.int .i64 (n : Int), .int .i64 (h : Int), y], .int .i64 0]) (ks := []) (caps := #[]) (vs := [_, _]) rfl rfl (ent_of Try.func8 rfl rfl) rfl (fun w' hg hh => a_cover w' v pvs ps X Y n h hb hvp (hat.keep hg) hvA) fun pa hpa => ?_
    refine l_capd 40 rfl fun hcap => ?_
    obtain ⟨apa, cpa, rfl⟩ := hpa.sl
    refine l_val rfl (o_move rfl) ?_
    refine l_val rfl (o_extract rfl rfl) ?_
    refine l_val rfl (o_extract rfl rfl) ?_
    refine l_new rfl o_alloc fun b19 => ?_
    refine l_store rfl (o_storeW (key := 19) (xs := [_, _, _]) rfl rfl rfl rfl rfl rfl rfl) ?_
    refine l_val rfl (o_assign rfl) ?_
    refine l_nil ?_
    refine kt_norm ?_
    refine v_sel [5, 6, 7, 8, 19, 20] [19, 40] rfl rfl ?_
    refine v_seq ?_
    refine v_region ?_
    refine l_val rfl (o_loadW (key := 19) rfl rfl rfl) ?_
    refine l_val rfl (o_move rfl) ?_
    refine l_val rfl (o_move rfl) ?_
    refine l_val rfl (o_move rfl) ?_
    refine l_val rfl (o_move rfl) ?_
    refine l_call (ks := [40]) rfl (o_callC (vs := [_, _, _, _, _]) (r := .tuple #[.agg #[.int .i64 0, .int .i64 0, .slice none 0 0], .int .i64 1]) (ent_of Try.func10 rfl rfl) rfl (fun w' hg hh => a_CropN w' (.slice apa (pixT (tabT X Y (n : Int) (h : Int) ps) X Y n h).length cpa) n h (pixT (tabT X Y (n : Int) (h : Int) ps) X Y n h) x y cw ch (by omega) (by omega) hno hcw hch pix_len2 hpa (rowAt_own (hh 40 (by simp) _ rfl)))) ?_
    refine l_val rfl (o_move rfl) ?_
    refine l_val rfl (o_extract rfl rfl) ?_
    refine l_val rfl (o_extract rfl rfl) ?_
    refine l_new rfl o_alloc fun b21 => ?_
    refine l_store rfl (o_storeW (key := 21) (xs := [_, _, _]) rfl rfl rfl rfl rfl rfl rfl) ?_
    refine l_val rfl (o_assign rfl) ?_
    refine l_nil ?_
    refine kt_norm ?_
    refine v_sel [5, 6, 7, 8, 19, 20, 21, 22] [19, 21, 40] rfl rfl ?_
    refine v_seq ?_
    refine v_region ?_
    refine l_val rfl (o_loadW (key := 19) rfl rfl rfl) ?_
    refine l_ans (vs := [_]) rfl rfl (r_its21 _ _ _ _ _) ?_
    refine l_val rfl (o_move rfl) ?_
    refine l_val rfl (o_move rfl) ?_
    refine l_val rfl (o_move rfl) ?_
    refine l_val rfl (o_move rfl) ?_
    refine l_call (ks := [40]) rfl (o_callC (vs := [_, _, _, _, _]) (r := .tuple #[.agg #[.int .i64 0, .int .i64 0, .slice none 0 0], .int .i64 1]) (ent_of Try.func11 rfl rfl) rfl (fun w' hg hh => r_CropN w' (.slice apa (pixT (tabT X Y (n : Int) (h : Int) ps) X Y n h).length cpa) n h (pixT (tabT X Y (n : Int) (h : Int) ps) X Y n h) x y cw ch (by omega) (by omega) hno hcw hch pix_len2 hpa (rowAt_own (hh 40 (by simp) _ rfl)))) ?_
    refine l_val rfl (o_move rfl) ?_
    refine l_val rfl (o_extract rfl rfl) ?_
    refine l_val rfl (o_extract rfl rfl) ?_
    refine l_new rfl o_alloc fun b23 => ?_
    refine l_store rfl (o_storeW (key := 23) (xs := [_, _, _]) rfl rfl rfl rfl rfl rfl rfl) ?_
    refine l_val rfl (o_assign rfl) ?_
    refine l_nil ?_
    refine kt_norm ?_
    refine v_sel [5, 6, 19, 20, 21, 22, 23, 24] [19, 21, 23, 40] rfl rfl ?_
    refine v_seq ?_
    refine v_drawW [] [[], [], [], [19], [], [], [40], [19], [], [], [], [40], [], [], [], [21], [], [23], [], [], [], [], [], [], [], [], [19], [19], [40], [], [], [19], [21], [40], [19], [], [23], [40], [], [], []] mixed ?_ (by kernel_rfl) (by kernel_rfl)
    refine d_val (fun _ => rfl) rfl rfl (fun σ6 => o_move rfl) ?_
    refine d_eql (fun _ => rfl) (fun _ => rfl) (fun _ => rfl) (fun q1 => ?_) (fun q1 => absurd (show _ by omega) q1)
    refine d_val (fun _ => rfl) rfl rfl (fun σ6 => o_move rfl) ?_
    refine d_val (fun _ => rfl) rfl rfl (fun σ6 => o_loadW (key := 19) rfl rfl rfl) ?_
    refine d_val (fun _ => rfl) rfl rfl (fun σ6 => o_move rfl) ?_
    refine d_val (fun _ => rfl) rfl rfl (fun σ6 => o_move rfl) ?_
    refine d_gcall (y := .int .u8 (atT n h (pixT (tabT X Y (n : Int) (h : Int) ps) X Y n h) x y)) (caps := #[]) (fun _ => rfl) (fun _ => rfl) (ent_of Try.func13 rfl rfl) (vs := fun _ => [_, _, _]) (fun _ => rfl) (fun σ6 w' hg hh => a_AtC w' (.slice apa (pixT (tabT X Y (n : Int) (h : Int) ps) X Y n h).length cpa) n h (pixT (tabT X Y (n : Int) (h : Int) ps) X Y n h) x y hnh pix_len2 hpa (rowAt_own (hh 40 (by simp) _ rfl))) ?_
    refine d_val (fun _ => rfl) rfl rfl (fun σ6 => o_loadW (key := 19) rfl rfl rfl) ?_
    refine d_ans (vs := [_]) (fun _ => rfl) (fun _ => rfl) (r_its21 _ _ _ _ _) ?_
    refine d_val (fun _ => rfl) rfl rfl (fun σ6 => o_move rfl) ?_
    refine d_val (fun _ => rfl) rfl rfl (fun σ6 => o_move rfl) ?_
    refine d_gcall (y := .int .u8 (atT n h (pixT (tabT X Y (n : Int) (h : Int) ps) X Y n h) x y)) (caps := #[]) (fun _ => rfl) (fun _ => rfl) (ent_of Try.func14 rfl rfl) (vs := fun _ => [_, _, _]) (fun _ => rfl) (fun σ6 w' hg hh => r_AtC w' (.slice apa (pixT (tabT X Y (n : Int) (h : Int) ps) X Y n h).length cpa) n h (pixT (tabT X Y (n : Int) (h : Int) ps) X Y n h) x y hnh pix_len2 hpa (rowAt_own (hh 40 (by simp) _ rfl))) ?_
    refine d_eql (fun _ => rfl) (fun _ => rfl) (fun _ => rfl) (fun q2 => ?_) (fun q2 => absurd (show _ by omega) q2)
    refine d_val (fun _ => rfl) rfl rfl (fun σ6 => o_pickT rfl rfl) ?_
    refine d_val (fun _ => rfl) rfl rfl (fun σ6 => o_move rfl) ?_
    refine d_val (fun _ => rfl) rfl rfl (fun σ6 => o_loadW (key := 21) rfl rfl rfl) ?_
    refine d_ans (vs := [_]) (fun _ => rfl) (fun _ => rfl) (r_its21 _ _ _ _ _) ?_
    refine d_val (fun _ => rfl) rfl rfl (fun σ6 => o_loadW (key := 23) rfl rfl rfl) ?_
    refine d_gcall (y := .bool true) (caps := #[]) (fun _ => rfl) (fun _ => rfl) (ent_of Try.func15 rfl rfl) (vs := fun _ => [_, _]) (fun _ => rfl) (fun σ6 w' hg hh => (show decide ((0 : Int) = 0 ∧ (0 : Int) = 0 ∧ [] = []) = true from decide_eq_true ⟨rfl, rfl, rfl⟩) ▸ r_SameG w' (.slice none 0 0) (.slice none 0 0) 0 0 0 0 [] [] (Nat.zero_le _) (Nat.zero_le _) .nil0 (rowAt_nilU w') .nil0 (rowAt_nilU w')) ?_
    refine d_val (fun _ => rfl) rfl rfl (fun σ6 => o_pickT rfl rfl) ?_
    refine d_val (fun _ => rfl) rfl rfl (fun σ6 => o_move rfl) ?_
    refine d_val (fun _ => rfl) rfl rfl (fun σ6 => o_move rfl) ?_
    refine d_val (fun _ => rfl) rfl rfl (fun σ6 => o_move rfl) ?_
    refine d_eql (fun _ => rfl) (fun _ => rfl) (fun _ => rfl) (fun q3 => ?_) (fun q3 => absurd (show _ by omega) q3)
    refine d_val (fun _ => rfl) rfl rfl (fun σ6 => o_pickT rfl rfl) ?_
    refine d_val (fun _ => rfl) rfl rfl (fun σ6 => o_move rfl) ?_
    refine d_val (fun _ => rfl) rfl rfl (fun σ6 => o_loadW (key := 19) rfl rfl rfl) ?_
    refine d_val (fun _ => rfl) rfl rfl (fun σ6 => o_loadW (key := 19) rfl rfl rfl) ?_
    refine d_gcall (y := .bool true) (caps := #[]) (fun _ => rfl) (fun _ => rfl) (ent_of Try.func16 rfl rfl) (vs := fun _ => [_, _]) (fun _ => rfl) (fun σ6 w' hg hh => (show decide ((n : Int) = n ∧ (h : Int) = h ∧ (pixT (tabT X Y (n : Int) (h : Int) ps) X Y n h) = (pixT (tabT X Y (n : Int) (h : Int) ps) X Y n h)) = true from decide_eq_true ⟨rfl, rfl, rfl⟩) ▸ a_SameG w' (.slice apa (pixT (tabT X Y (n : Int) (h : Int) ps) X Y n h).length cpa) (.slice apa (pixT (tabT X Y (n : Int) (h : Int) ps) X Y n h).length cpa) n h n h (pixT (tabT X Y (n : Int) (h : Int) ps) X Y n h) (pixT (tabT X Y (n : Int) (h : Int) ps) X Y n h) (by rw [pix_len2]; omega) (by rw [pix_len2]; omega) hpa (rowAt_own (hh 40 (by simp) _ rfl)) hpa (rowAt_own (hh 40 (by simp) _ rfl))) ?_
    refine d_val (fun _ => rfl) rfl rfl (fun σ6 => o_pickT rfl rfl) ?_
    refine d_val (fun _ => rfl) rfl rfl (fun σ6 => o_move rfl) ?_
    refine d_val (fun _ => rfl) rfl rfl (fun σ6 => o_loadW (key := 19) rfl rfl rfl) ?_
    refine d_val (fun _ => rfl) rfl rfl (fun σ6 => o_loadW (key := 21) rfl rfl rfl) ?_
    refine d_gcall (y := .bool (decide ((n : Int) = 0 ∧ (h : Int) = 0 ∧ (pixT (tabT X Y (n : Int) (h : Int) ps) X Y n h) = []))) (caps := #[]) (fun _ => rfl) (fun _ => rfl) (ent_of Try.func16 rfl rfl) (vs := fun _ => [_, _]) (fun _ => rfl) (fun σ6 w' hg hh => a_SameG w' (.slice apa (pixT (tabT X Y (n : Int) (h : Int) ps) X Y n h).length cpa) (.slice none 0 0) n h 0 0 (pixT (tabT X Y (n : Int) (h : Int) ps) X Y n h) [] (by rw [pix_len2]; omega) (Nat.zero_le _) hpa (rowAt_own (hh 40 (by simp) _ rfl)) .nil0 (rowAt_nilU w')) ?_
    refine d_val (fun _ => rfl) rfl rfl (fun σ6 => o_loadW (key := 19) rfl rfl rfl) ?_
    refine d_ans (vs := [_]) (fun _ => rfl) (fun _ => rfl) (r_its21 _ _ _ _ _) ?_
    refine d_val (fun _ => rfl) rfl rfl (fun σ6 => o_loadW (key := 23) rfl rfl rfl) ?_
    refine d_gcall (y := .bool (decide ((n : Int) = 0 ∧ (h : Int) = 0 ∧ (pixT (tabT X Y (n : Int) (h : Int) ps) X Y n h) = []))) (caps := #[]) (fun _ => rfl) (fun _ => rfl) (ent_of Try.func15 rfl rfl) (vs := fun _ => [_, _]) (fun _ => rfl) (fun σ6 w' hg hh => r_SameG w' (.slice apa (pixT (tabT X Y (n : Int) (h : Int) ps) X Y n h).length cpa) (.slice none 0 0) n h 0 0 (pixT (tabT X Y (n : Int) (h : Int) ps) X Y n h) [] (by rw [pix_len2]; omega) (Nat.zero_le _) hpa (rowAt_own (hh 40 (by simp) _ rfl)) .nil0 (rowAt_nilU w')) ?_
    refine d_val (fun _ => rfl) rfl rfl (fun σ6 => o_eqlb rfl rfl (BEq.rfl)) ?_
    refine d_val (fun _ => rfl) rfl rfl (fun σ6 => o_pickT rfl rfl) ?_
    refine d_val (fun _ => rfl) rfl rfl (fun σ6 => o_assign rfl) ?_
    refine d_nil (fun σ6 => ?_)
    refine l_nil ?_
    refine kt_norm ?_
    refine v_sel [18] [40] rfl rfl ?_
    refine v_ret ?_
    refine ⟨[_], .cons (.tmp rfl) (ResAll.nil), ?_⟩
    rfl
  · skip
    refine l_val rfl (o_not rfl rfl) ?_
    refine l_val rfl (o_move rfl) ?_
    refine l_no rfl ?_
    refine l_no rfl ?_
    refine l_val rfl (o_pickT rfl rfl) ?_
    refine l_nil ?_
    refine kt_norm ?_
    refine v_sel [0, 1, 2, 3, 4, 5, 6, 7, 8, 31] [] rfl rfl ?_
    refine v_condT rfl ?_
    refine v_seq ?_
    refine v_region ?_
    refine l_ans (vs := []) rfl rfl (a_shown21) ?_
    refine l_val rfl (o_assign rfl) ?_
    refine l_nil ?_
    refine kt_norm ?_
    refine v_sel [18] [] rfl rfl ?_
    refine v_ret ?_
    refine kt_ret ?_
    refine ⟨[_], .cons (.tmp rfl) (ResAll.nil), ?_⟩
    rfl
theorem a_CoverCrops (w : World) (v : Value) (pvs : List Value) (ps : List (List PtT)) (X Y W H x y cw ch : Int) (hv : PcsW v pvs ps) (hat : PcsAt w v pvs ps) (hX : -32768 ≤ X ∧ X < 32768) (hY : -32768 ≤ Y ∧ Y < 32768) (hW : 0 ≤ W ∧ W < 256) (hH : 0 ≤ H ∧ H < 256) (hcw : -9223372036854775808 ≤ cw ∧ cw < 9223372036854775808) (hch : -9223372036854775808 ≤ ch ∧ ch < 9223372036854775808) :
    Calls Try.prog 3 #[v, .int .i16 X, .int .i16 Y, .int .u8 W, .int .u8 H, .int .i64 x, .int .i64 y, .int .i64 cw, .int .i64 ch] w fun e w' => e = .returned (.bool true) ∧ Below w.heap.size w w' := by
  obtain ⟨n, hn⟩ : ∃ k : Nat, (k : Int) = 1 + W % 12 := ⟨(1 + W % 12).toNat, by omega⟩
  obtain ⟨h, hh⟩ : ∃ k : Nat, (k : Int) = 1 + H % 8 := ⟨(1 + H % 8).toNat, by omega⟩
  by_cases hc : CropOk n h x y cw ch
  · have hd := (cropOk_def n h x y cw ch).1 hc
    obtain ⟨x, rfl⟩ : ∃ k : Nat, (k : Int) = x := ⟨x.toNat, by omega⟩
    obtain ⟨y, rfl⟩ : ∃ k : Nat, (k : Int) = y := ⟨y.toNat, by omega⟩
    obtain ⟨cw, rfl⟩ : ∃ k : Nat, (k : Int) = cw := ⟨cw.toNat, by omega⟩
    obtain ⟨ch, rfl⟩ : ∃ k : Nat, (k : Int) = ch := ⟨ch.toNat, by omega⟩
    exact a_CoverCropsY w v pvs ps X Y W H x y cw ch hv hat hX hY hW hH n h hn hh (by omega) (by omega) (by omega) (by omega)
  · exact a_CoverCropsN w v pvs ps X Y W H x y cw ch hv hat hX hY hW hH n h hn hh hc hcw hch
end Go.Proofs.Ytllhohbenniaaaa

/- More pieces cover no pixel less; none at all cover nothing. Conditions: none. -/
namespace Go.Proofs.Ytllhohbenniaaaa
open Go.Proofs Go.RowKit Go.Shelf

theorem two_ok {Ps : Value → Value → Prop} {v : Value} (h : ∃ y u, v = .tuple #[y, u] ∧ Ps y u) : Ps (fstV v) (sndV v) := by
  obtain ⟨y, u, rfl, h⟩ := h; exact h
def twoP (n m : Nat) : WfP := ⟨fun v => ∃ y u, v = .tuple #[y, u] ∧ (RowV y n ∧ Capd y ∧ RowV u m), ⟨_, .slice (some ⟨0, 0, none⟩) n n, .slice (some ⟨0, 0, none⟩) m m, rfl, .inl ⟨0, 0, n, rfl⟩, fun a n c h => by cases h; exact Nat.le_refl _, .inl ⟨0, 0, m, rfl⟩⟩⟩
theorem two_wf {n m : Nat} {y u : Value} (h : RowV y n ∧ Capd y ∧ RowV u m) : (twoP n m).1 (.tuple #[y, u]) := ⟨y, u, rfl, h⟩
theorem pcs_two {v0 v u : Value} {ts : List Value} {qs : List (List PtT)} {q : List PtT} (hW : PcsW v0 ts qs) (hl : qs.length ≤ 1000) (h : RowV v (qs.length + 1) ∧ Capd v ∧ RowV u q.length) : PcsW v (ts ++ [u]) (qs ++ [oriT q]) :=
  pcsW_of (by rw [List.length_append]; exact h.1) (by rw [List.length_append, List.length_singleton]; omega) (hW.all.append (.one (by unfold RV; rw [oriT_len]; exact h.2.2)))
theorem pcs_twoAt {w : World} {v0 v u : Value} {ts : List Value} {qs : List (List PtT)} {q : List PtT} {E E' : TypeId} (hW : PcsW v0 ts qs) (hA : PcsAt w v0 ts qs) (hok : (Hp.two v E 1 (qs.length + 1) (ts ++ [u]) u E' 2 q.length ((oriT q).flatMap eP)).ok w) : PcsAt w v (ts ++ [u]) (qs ++ [oriT q]) :=
  pcsAt_of (by rw [List.length_append]; exact rowAt_own (E := E) hok.1) ((hA.all hW).append (.one (by unfold RP; rw [oriT_len]; exact rowAt_own (E := E') hok.2)))
theorem covK_none (c y : Int) : ∀ k, covK [] c y k = 0
  | 0 => rfl
  | k + 1 => by rw [covK, covK_none c y k]; rfl
theorem covK_more {a b : List (List PtT)} (ha : ∀ r, humps r a) (hb : ∀ r, humps r b) (c y : Int) : ∀ k, covK a c y k ≤ covK (a ++ b) c y k
  | 0 => Int.le_refl _
  | k + 1 => by
    have ih := covK_more ha hb c y k
    have h1 := len_mono (a := crs (16 * y + k) (liveT (16 * y + k) (edgesAll a))) (b := crs (16 * y + k) (liveT (16 * y + k) (edgesAll (a ++ b)))) (fun x => more_has (ha _) (hb _)) (256 * c) 256
    have e : 256 * c + ((256 : Nat) : Int) = 256 * c + 256 := rfl
    rw [e] at h1
    rw [covK, covK]; omega
theorem valT_mono {x y : Int} (h : x ≤ y) : valT x ≤ valT y := by
  unfold valT valM; (repeat' split) <;> omega
theorem pix_at {X Y : Int} {n h : Nat} {ps : List (List PtT)} (hv : ViewOk X Y (n : Int) (h : Int)) {q : Nat} (hq : q < n * h) : (pixT (tabT X Y (n : Int) (h : Int) ps) X Y n h).getD q 0 = valT (covA ps (X + (q % n : Nat)) (Y + (q / n : Nat))) := by
  have hn : 0 < n := by
    rcases Nat.eq_zero_or_pos n with e | e
    · subst e; rw [Nat.zero_mul] at hq; omega
    · exact e
  have h1 : q % n < n := Nat.mod_lt _ hn
  have h2 : q / n < h := Nat.div_lt_of_lt_mul hq
  have h3 : q / n * n + q % n = q := by rw [Nat.mul_comm]; exact Nat.div_add_mod q n
  have h4 := pixT_get (T := tabT X Y (n : Int) (h : Int) ps) (X := X) (Y := Y) h (q / n) (q % n) h1 h2
  rw [h3] at h4
  rw [h4, cov_row hv h2 (q % n) 16 (Nat.le_refl _)]; rfl
theorem pix_none {X Y : Int} {n h : Nat} (hv : ViewOk X Y (n : Int) (h : Int)) {q : Nat} (hq : q < n * h) : (pixT (tabT X Y (n : Int) (h : Int) []) X Y n h).getD q 0 = 0 := by
  rw [pix_at hv hq, covA, covK_none]; rfl
theorem pix_more {X Y : Int} {n h : Nat} {a b : List (List PtT)} (hv : ViewOk X Y (n : Int) (h : Int)) (ha : ∀ r, humps r a) (hb : ∀ r, humps r b) {q : Nat} (hq : q < n * h) : (pixT (tabT X Y (n : Int) (h : Int) a) X Y n h).getD q 0 ≤ (pixT (tabT X Y (n : Int) (h : Int) (a ++ b)) X Y n h).getD q 0 := by
  rw [pix_at hv hq, pix_at hv hq]
  exact valT_mono (covK_more ha hb _ _ 16)
theorem Bn21.two {p q : List PtT} (h : Bn21 [p, q]) : BndP p ∧ BndP q := ⟨h.bnd.2 0 (by show 0 < 2; omega), h.bnd.2 1 (by show 1 < 2; omega)⟩
theorem bnd_nil : Bnd [] := ⟨Nat.zero_le _, fun i hi => absurd hi (Nat.not_lt_zero i)⟩
theorem humps_nil (r : Int) : humps r [] := fun _ h => (by cases h)
theorem putO_yes {q : List PtT} (h : convexB (oriT q) = true) : putO q = [oriT q] := if_pos h
set_option maxHeartbeats 4000000 in
theorem a_CoverMoreY (w : World) (pv qv : Value) (p q : List PtT) (X Y W H : Int) (hP : RowV pv p.length) (hQ : RowV qv q.length) (hrp : RowAt w pv 2 p.length (p.flatMap eP)) (hrq : RowAt w qv 2 q.length (q.flatMap eP)) (hX : -32768 ≤ X ∧ X < 32768) (hY : -32768 ≤ Y ∧ Y < 32768) (hW : 0 ≤ W ∧ W < 256) (hH : 0 ≤ H ∧ H < 256) (hcq : convexB (oriT q) = true) :
    Calls Try.prog 5 #[pv, qv, .int .i16 X, .int .i16 Y, .int .u8 W, .int .u8 H] w fun e w' => e = .returned (.bool true) ∧ Below w.heap.size w w' := by
  have hp : ∀ w', Chg (fun _ => False) w w' → RowAt w' pv 2 p.length (p.flatMap eP) := fun w' h => hrp.chg h (fun h => h)
  have hq : ∀ w', Chg (fun _ => False) w w' → RowAt w' qv 2 q.length (q.flatMap eP) := fun w' h => hrq.chg h (fun h => h)
  obtain ⟨ap, cp, rfl⟩ := hP.sl
  obtain ⟨aq, cq, rfl⟩ := hQ.sl
  obtain ⟨n, hnA⟩ : ∃ k : Nat, (k : Int) = 1 + W % 12 := ⟨(1 + W % 12).toNat, by omega⟩
  obtain ⟨h, hhA⟩ : ∃ k : Nat, (k : Int) = 1 + H % 8 := ⟨(1 + H % 8).toNat, by omega⟩
  have hVA : Ans Try.prog 9 [.int .i16 X, .int .i16 Y, .int .u8 W, .int .u8 H] (.agg #[.int .i64 X, .int .i64 Y, .int .i64 (n : Int), .int .i64 (h : Int)]) := by rw [hnA, hhA]; exact a_view21 _ _ _ _ (by omega) (by omega) (by omega) (by omega)
  have hvA : ViewOk X Y (n : Int) (h : Int) := (viewOk_def _ _ _ _).2 (by omega)
  refine calls_of (args := [.slice ap p.length cp, .slice aq q.length cq, .int .i16 X, .int .i16 Y, .int .u8 W, .int .u8 H]) Try.func5 rfl Try.ntmps5 Try.results5 rfl ?_
  refine v_seq ?_
  refine v_region ?_
  refine l_val rfl (o_assign rfl) ?_
  refine l_nil ?_
  refine kt_norm ?_
  refine v_seq ?_
  refine v_seq ?_
  refine v_region ?_
  refine l_val rfl (o_move rfl) ?_
  refine l_val rfl (o_move rfl) ?_
  refine l_buildSlice (vs := [_, _]) (cs := [_, _]) rfl rfl rfl rfl rfl rfl fun v24 hv24 => ?_
  refine l_call (ks := [24]) rfl (o_callC (vs := [_]) (r := .bool (decide (Bn21 [p, q]))) (ent_of Try.func6 rfl rfl) rfl (fun w' hg hh => a_bounded21 w' v24 _ [p, q] (pcsW_two hv24 hP hQ) (pcsAt_two (rowAt_own (hh 24 (by simp) _ rfl)) (hp w' hg) (hq w' hg)))) ?_
  refine lz_bool (fun hbb => ?_) (fun hbb => ?_)
  · have hbp := hbb.two.1
    have hbq := hbb.two.2
    have hnp := hbp.near
    have hnq := hbq.near
    have hlp := hbp.1
    have hlq := hbq.1
    have hpl := putO_size p
    have hql := putO_size q
    have hbA : Bnd (putO p) := bnd_of (by omega) (putO_bnd hbp)
    have hbB : Bnd (putO p ++ putO q) := bnd_of (by rw [List.length_append]; omega) (fun x hx => (List.mem_append.1 hx).elim (putO_bnd hbp x) (putO_bnd hbq x))
    have hbC : Bnd (putO p ++ [oriT q]) := (putO_yes hcq ▸ hbB : Bnd (putO p ++ [oriT q]))
    refine l_val rfl (o_not rfl rfl) ?_
    refine l_val rfl (o_move rfl) ?_
    refine l_ans (vs := []) rfl rfl (a_shown21) ?_
    refine l_val rfl (o_not rfl rfl) ?_
    refine l_val rfl (o_pickF rfl rfl) ?_
    refine l_nil ?_
    refine kt_norm ?_
    refine v_sel [0, 1, 2, 3, 4, 5, 30] [] rfl rfl ?_
    refine v_condF rfl ?_
    refine v_skip ?_
    refine kt_norm ?_
    refine v_seq ?_
    refine v_region ?_
    refine l_val rfl (o_move rfl) ?_
    refine l_val rfl (o_move rfl) ?_
    refine l_val rfl (o_move rfl) ?_
    refine l_val rfl (o_move rfl) ?_
    refine l_ans (vs := [_, _, _, _]) rfl rfl (hVA) ?_
    refine l_new rfl o_alloc fun b13 => ?_
    refine l_store rfl (o_storeW (key := 13) (xs := [_, _, _, _]) rfl rfl rfl rfl rfl rfl rfl) ?_
    refine l_nil ?_
    refine kt_norm ?_
    refine v_sel [0, 1, 13] [13] rfl rfl ?_
    refine v_seq ?_
    refine v_region ?_
    refine l_val rfl (o_move rfl) ?_
    refine l_gsaid (ks := []) (caps := #[]) (vs := [_, _]) (α := PutY 0 p) (fun o => putV _ o.1) (fun o w2 => putG [] p o.1 w2) (fun o b => putB o.1 b) rfl rfl (ent_of Try.func21 rfl rfl) rfl (fun o => putG_keep o.1) (fun o => putG_lt o.1) (fun w' hg hh => a_Put w' none 0 0 [] (.slice ap p.length cp) p (by omega) (Nat.le_refl 0) .nil0 (pcsAt_none w').row (by omega) hP (hp w' hg) hnp) fun o1 => ?_
    have hW1 := pcsW_put pcsW_none (Nat.zero_le _) o1
    have hC1 := capd_put capd_none o1.1
    have hT1 := fun w2 (h : putG [] p o1.1 w2) => pcsAt_put pcsW_none (pcsAt_none w2) o1 h
    rw [put_nil] at hW1
    simp only [put_nil] at hT1
    obtain ⟨tv1, htv1⟩ : ∃ t, putV (.slice none 0 0) o1.1 = t := ⟨_, rfl⟩
    obtain ⟨ts1, hts1⟩ : ∃ t, putW [] o1.1 = t := ⟨_, rfl⟩
    simp only [htv1, hts1] at hW1 hC1 hT1 ⊢
    obtain ⟨a1, c1, rfl⟩ := hW1.V.sl
    refine l_val rfl (o_assign rfl) ?_
    refine l_nil ?_
    refine kt_norm ?_
    refine v_seq ?_
    refine v_region ?_
    refine l_val rfl (o_loadW (key := 13) rfl rfl rfl) ?_
    refine l_gownF (fun y => .tuple #[.agg #[.int .i64 (n : Int), .int .i64 (h : Int), y], .int .i64 0]) (ks := []) (caps := #[]) (vs := [_, _]) rfl rfl (ent_of Try.func8 rfl rfl) rfl (fun w' hg hh => a_cover w' (.slice none 0 0) [] [] X Y n h bnd_nil (bnd_nil.pcsV pcsW_none) (pcsAt_none w') hvA) fun pa hpa => ?_
    obtain ⟨apa, cpa, rfl⟩ := hpa.sl
    refine l_val rfl (o_move rfl) ?_
    refine l_val rfl (o_extract rfl rfl) ?_
    refine l_val rfl (o_extract rfl rfl) ?_
    refine l_new rfl o_alloc fun b15 => ?_
    refine l_store rfl (o_storeW (key := 15) (xs := [_, _, _]) rfl rfl rfl rfl rfl rfl rfl) ?_
    refine l_val rfl (o_assign rfl) ?_
    refine l_nil ?_
    refine kt_norm ?_
    refine v_sel [1, 13, 14, 15, 16] [13, 15, 41] rfl rfl ?_
    refine v_seq ?_
    refine v_region ?_
    skip
    refine l_val rfl (o_move rfl) ?_
    refine l_val rfl (o_loadW (key := 13) rfl rfl rfl) ?_
    refine l_gownF (fun y => .tuple #[.agg #[.int .i64 (n : Int), .int .i64 (h : Int), y], .int .i64 0]) (ks := []) (caps := #[]) (vs := [_, _]) rfl rfl (ent_of Try.func8 rfl rfl) rfl (fun w' hg hh => a_cover w' (.slice a1 (putO p).length c1) ts1 (putO p) X Y n h hbA (hbA.pcsV hW1) (hT1 w' hg.2) hvA) fun pb hpb => ?_
    obtain ⟨apb, cpb, rfl⟩ := hpb.sl
    refine l_val rfl (o_move rfl) ?_
    refine l_val rfl (o_extract rfl rfl) ?_
    refine l_val rfl (o_extract rfl rfl) ?_
    refine l_new rfl o_alloc fun b17 => ?_
    refine l_store rfl (o_storeW (key := 17) (xs := [_, _, _]) rfl rfl rfl rfl rfl rfl rfl) ?_
    refine l_val rfl (o_assign rfl) ?_
    refine l_nil ?_
    refine kt_norm ?_
    refine v_sel [1, 13, 14, 15, 16, 17, 18] [13, 15, 17, 41, 47] rfl rfl ?_
    refine v_seq ?_
    refine v_drawP [(53, ⟨(twoP ((putO p).length + 1) q.length).1, (twoP ((putO p).length + 1) q.length).2⟩), (55, rowP ((pixT (tabT X Y (n : Int) (h : Int) (putO p ++ [oriT q])) X Y n h).length))] [[], [], [], [13], [53], [], [], [], [], [19], []] mixed ?_ (by kernel_rfl) (by kernel_rfl)
    skip
    refine d_val (fun _ => rfl) rfl rfl (fun σ7 => o_move rfl) ?_
    refine d_val (fun _ => rfl) rfl rfl (fun σ7 => o_move rfl) ?_
    refine d_two (κ := []) (n := (putO p).length + 1) (E := 46) (esz := 1) (E' := 59) (esz' := 2) (n' := q.length) (fun y u => RowV y ((putO p).length + 1) ∧ Capd y ∧ RowV u q.length) (fun u => ts1 ++ [u]) (xs' := (oriT q).flatMap eP) (caps := #[]) (fun _ => rfl) (fun _ => rfl) (ent_of Try.func21 rfl rfl) (vs := fun _ => [_, _]) (fun _ => rfl) (fun y u h => two_wf h) (fun σ7 w' hg hh => (a_PutYes w' a1 (putO p).length c1 ts1 (.slice aq q.length cq) q (by omega) (hC1 _ _ _ rfl) hW1.V (hT1 w' hg.2).row (by omega) hQ (hq w' hg.1) hnq hcq).mono fun e w2 ⟨x, h1, h2, h3, h4⟩ => ⟨x.1, x.2, h1, ⟨rowV_own h3.1, capd_own h3.1, rowV_own h3.2⟩, h2, h3, h4⟩) ?_
    refine d_val (fun _ => rfl) rfl rfl (fun σ7 => o_loadW (key := 13) rfl rfl rfl) ?_
    refine d_gownF (fun y => .tuple #[.agg #[.int .i64 (n : Int), .int .i64 (h : Int), y], .int .i64 0]) (κ := [53]) (caps := #[]) (fun _ => rfl) (fun _ => rfl) (ent_of Try.func8 rfl rfl) (vs := fun _ => [_, _]) (fun _ => rfl) (fun _ h => h) (fun σ7 w' hg hh => a_cover w' (fstV (σ7.v 53)) (ts1 ++ [sndV (σ7.v 53)]) (putO p ++ [oriT q]) X Y n h hbC (hbC.pcsV (pcs_two hW1 (by omega) (two_ok (σ7.ok 53)))) (pcs_twoAt hW1 (hT1 w' hg.2) (hh 53 (by simp) _ rfl)) hvA) ?_
    refine d_val (fun _ => rfl) rfl rfl (fun σ7 => o_move rfl) ?_
    refine d_val (fun _ => rfl) rfl rfl (fun σ7 => o_extract rfl rfl) ?_
    refine d_val (fun _ => rfl) rfl rfl (fun σ7 => o_extract rfl rfl) ?_
    refine d_new (fun _ => rfl) rfl rfl (fun _ => o_alloc) ?_
    refine d_store (fun _ => rfl) rfl rfl (fun σ7 => o_storeW (key := 19) (xs := [_, _, σ7.v 55]) rfl rfl rfl rfl rfl rfl (by simp only [List.all_cons, List.all_nil, rowV_one (show RowV (σ7.v 55) (pixT (tabT X Y (n : Int) (h : Int) (putO p ++ [oriT q])) X Y n h).length from σ7.ok 55)]; rfl)) ?_
    refine d_val (fun _ => rfl) rfl rfl (fun σ7 => o_assign rfl) ?_
    refine d_nil (fun σ7 => ?_)
    refine l_nil ?_
    refine kt_norm ?_
    refine v_sel [13, 15, 16, 17, 18, 19, 20] [13, 15, 17, 19, 41, 47, 53, 55] rfl rfl ?_
    refine v_seq ?_
    refine v_seq ?_
    refine v_region ?_
    have hpA : (pixT (tabT X Y (n : Int) (h : Int) []) X Y n h).length = n * h := pix_len2
    have hpB : (pixT (tabT X Y (n : Int) (h : Int) (putO p)) X Y n h).length = n * h := pix_len2
    have hpC : (pixT (tabT X Y (n : Int) (h : Int) (putO p ++ [oriT q])) X Y n h).length = n * h := pix_len2
    have hpi : ((((pixT (tabT X Y (n : Int) (h : Int) []) X Y n h).length : Nat)) : Int) = (n : Int) * h := by rw [hpA, Int.natCast_mul]
    have hnh : (n : Int) * h ≤ 256 * 256 := Int.mul_le_mul (by omega) (by omega) (by omega) (by omega)
    have hnh0 : 0 ≤ (n : Int) * h := Int.mul_nonneg (by omega) (by omega)
    refine l_val rfl (o_move rfl) ?_
    refine l_split rfl (o_neq rfl rfl) (fun q1 => absurd q1 (by omega)) (fun q1 => ?_)
    refine l_val rfl (o_move rfl) ?_
    refine l_val rfl (o_move rfl) ?_
    refine l_split rfl (o_neq rfl rfl) (fun q2 => absurd q2 (by omega)) (fun q2 => ?_)
    refine l_val rfl (o_pickF rfl rfl) ?_
    refine l_val rfl (o_move rfl) ?_
    refine l_val rfl (o_move rfl) ?_
    refine l_split rfl (o_neq rfl rfl) (fun q3 => absurd q3 (by omega)) (fun q3 => ?_)
    refine l_val rfl (o_pickF rfl rfl) ?_
    refine l_val rfl (o_move rfl) ?_
    refine l_val rfl (o_fld rfl) ?_
    refine l_val rfl (o_load1 (key := 15) rfl rfl rfl) ?_
    refine l_val rfl (o_len rfl hpa) ?_
    refine l_val rfl (o_fld rfl) ?_
    refine l_val rfl (o_load1 (key := 13) rfl rfl rfl) ?_
    refine l_val rfl (o_fld rfl) ?_
    refine l_val rfl (o_load1 (key := 13) rfl rfl rfl) ?_
    refine l_val rfl (o_muli rfl rfl ?_) ?_
    · omega
    refine l_split rfl (o_neq rfl rfl) (fun q4 => absurd q4 (by omega)) (fun q4 => ?_)
    refine l_val rfl (o_pickF rfl rfl) ?_
    refine l_val rfl (o_move rfl) ?_
    refine l_val rfl (o_fld rfl) ?_
    refine l_val rfl (o_load1 (key := 17) rfl rfl rfl) ?_
    refine l_val rfl (o_len rfl hpb) ?_
    refine l_val rfl (o_fld rfl) ?_
    refine l_val rfl (o_load1 (key := 15) rfl rfl rfl) ?_
    refine l_val rfl (o_len rfl hpa) ?_
    refine l_split rfl (o_neq rfl rfl) (fun q5 => absurd q5 (by omega)) (fun q5 => ?_)
    refine l_val rfl (o_pickF rfl rfl) ?_
    refine l_val rfl (o_move rfl) ?_
    refine l_val rfl (o_fld rfl) ?_
    refine l_val rfl (o_load1 (key := 19) rfl rfl rfl) ?_
    refine l_val rfl (o_len rfl (show RowV (σ7.v 55) (pixT (tabT X Y (n : Int) (h : Int) (putO p ++ [oriT q])) X Y n h).length from σ7.ok 55)) ?_
    refine l_val rfl (o_fld rfl) ?_
    refine l_val rfl (o_load1 (key := 15) rfl rfl rfl) ?_
    refine l_val rfl (o_len rfl hpa) ?_
    refine l_split rfl (o_neq rfl rfl) (fun q6 => absurd q6 (by omega)) (fun q6 => ?_)
    refine l_val rfl (o_pickF rfl rfl) ?_
    refine l_nil ?_
    refine kt_norm ?_
    refine v_sel [15, 17, 19, 96] [15, 17, 19, 41, 47, 53, 55] rfl rfl ?_
    refine v_condF rfl ?_
    refine v_skip ?_
    refine kt_norm ?_
    refine v_seq ?_
    refine v_seq ?_
    refine v_region ?_
    refine l_val rfl (o_assign rfl) ?_
    refine l_nil ?_
    refine kt_norm ?_
    refine v_block ?_
    refine v_loopS (α := Nat) (fun i => [(21, .int .i64 (i : Int))]) (fun i => [])  (fun i => i ≤ n * h) (fun i => n * h - i) 0 [15, 17, 19] [15, 17, 19, 41, 47, 53, 55] (Nat.zero_le _)  (And.intro rfl (True.intro)) rfl (True.intro) rfl ?_
    rintro i hi
    refine v_seq ?_
    refine v_seq ?_
    refine v_region ?_
    refine l_val rfl (o_move rfl) ?_
    refine l_val rfl (o_fld rfl) ?_
    refine l_val rfl (o_load1 (key := 15) rfl rfl rfl) ?_
    refine l_val rfl (o_len rfl hpa) ?_
    refine l_split rfl (o_lss rfl rfl) (fun q7 => ?_) (fun q7 => ?_)
    · have hil : i < n * h := by omega
      have hz := pix_none hvA hil
      have hm : (pixT (tabT X Y (n : Int) (h : Int) (putO p)) X Y n h).getD i 0 ≤ (pixT (tabT X Y (n : Int) (h : Int) (putO p ++ [oriT q])) X Y n h).getD i 0 := putO_yes hcq ▸ pix_more hvA (putO_humps hbp) (putO_humps hbq) hil
      refine l_nil ?_
      refine kt_norm ?_
      refine v_condT rfl ?_
      refine v_skip ?_
      refine kt_norm ?_
      refine v_seq ?_
      refine v_block ?_
      refine v_seq ?_
      refine v_drawW [] [[], [15], [], [], [41], [], [], [], [19], [], [], [55], [], [17], [], [], [47], [], []] mixed ?_ (by kernel_rfl) (by kernel_rfl)
      refine d_val (fun _ => rfl) rfl rfl (fun σ13 => o_fld rfl) ?_
      refine d_val (fun _ => rfl) rfl rfl (fun σ13 => o_load1 (key := 15) rfl rfl rfl) ?_
      refine d_val (fun _ => rfl) rfl rfl (fun σ13 => o_move rfl) ?_
      refine d_val (fun _ => rfl) rfl rfl (fun σ13 => o_idx (i) rfl hpa rfl (by first | rfl | omega) (by omega)) ?_
      refine d_val (fun _ => rfl) rfl rfl (fun σ13 => o_loadR1 rfl (row_own (key := 41) rfl) (el_u8 (l := (pixT (tabT X Y (n : Int) (h : Int) []) X Y n h)) (i := i) (by omega))) ?_
      refine d_neq (fun _ => rfl) (fun _ => rfl) (fun _ => rfl) (fun q8 => absurd q8 (by omega)) (fun q8 => ?_)
      refine d_val (fun _ => rfl) rfl rfl (fun σ13 => o_move rfl) ?_
      refine d_val (fun _ => rfl) rfl rfl (fun σ13 => o_fld rfl) ?_
      refine d_val (fun _ => rfl) rfl rfl (fun σ13 => o_load1 (key := 19) rfl rfl rfl) ?_
      refine d_val (fun _ => rfl) rfl rfl (fun σ13 => o_move rfl) ?_
      refine d_val (fun _ => rfl) rfl rfl (fun σ13 => o_idx (i) rfl (show RowV (σ7.v 55) (pixT (tabT X Y (n : Int) (h : Int) (putO p ++ [oriT q])) X Y n h).length from σ7.ok 55) rfl (by first | rfl | omega) (by omega)) ?_
      refine d_val (fun _ => rfl) rfl rfl (fun σ13 => o_loadR1 rfl (row_own (key := 55) rfl) (el_u8 (l := (pixT (tabT X Y (n : Int) (h : Int) (putO p ++ [oriT q])) X Y n h)) (i := i) (by omega))) ?_
      refine d_val (fun _ => rfl) rfl rfl (fun σ13 => o_fld rfl) ?_
      refine d_val (fun _ => rfl) rfl rfl (fun σ13 => o_load1 (key := 17) rfl rfl rfl) ?_
      refine d_val (fun _ => rfl) rfl rfl (fun σ13 => o_move rfl) ?_
      refine d_val (fun _ => rfl) rfl rfl (fun σ13 => o_idx (i) rfl hpb rfl (by first | rfl | omega) (by omega)) ?_
      refine d_val (fun _ => rfl) rfl rfl (fun σ13 => o_loadR1 rfl (row_own (key := 47) rfl) (el_u8 (l := (pixT (tabT X Y (n : Int) (h : Int) (putO p)) X Y n h)) (i := i) (by omega))) ?_
      refine d_lss (fun _ => rfl) (fun _ => rfl) (fun _ => rfl) (fun q9 => absurd q9 (by omega)) (fun q9 => ?_)
      refine d_val (fun _ => rfl) rfl rfl (fun σ13 => o_pickF rfl rfl) ?_
      refine d_nil (fun σ13 => ?_)
      refine l_nil ?_
      refine kt_norm ?_
      refine v_sel [21, 15, 17, 19, 111, 112, 113, 114, 115, 116, 117, 118, 119, 120, 121, 122] [15, 17, 19, 41, 47, 53, 55] rfl rfl ?_
      refine v_condF rfl ?_
      refine v_skip ?_
      refine kb_norm ?_
      refine kt_norm ?_
      refine v_region ?_
      refine l_val rfl (o_move rfl) ?_
      refine l_val rfl (o_addi rfl rfl ?_) ?_
      · omega
      refine l_val rfl (o_assign rfl) ?_
      refine l_nil ?_
      refine kt_norm ?_
      refine ⟨i + 1, by omega, by omega, le_app (And.intro rfl (True.intro)) [15, 17, 19] rfl (True.intro) [15, 17, 19, 41, 47, 53, 55] rfl⟩
    · skip
      refine l_nil ?_
      refine kt_norm ?_
      refine v_condF rfl ?_
      refine v_exit ?_
      refine kt_exit ?_
      refine kt_exit ?_
      refine kb_eq ?_
      refine kt_norm ?_
      refine v_sel [] [15, 17, 19, 41, 47, 53, 55] rfl rfl ?_
      refine v_seq ?_
      refine v_region ?_
      refine l_val rfl (o_assign rfl) ?_
      refine l_nil ?_
      refine kt_norm ?_
      refine v_ret ?_
      refine ⟨[_], .cons (.tmp rfl) (ResAll.nil), ?_⟩
      rfl
  · skip
    refine l_val rfl (o_not rfl rfl) ?_
    refine l_val rfl (o_move rfl) ?_
    refine l_no rfl ?_
    refine l_no rfl ?_
    refine l_val rfl (o_pickT rfl rfl) ?_
    refine l_nil ?_
    refine kt_norm ?_
    refine v_sel [0, 1, 2, 3, 4, 5, 30] [] rfl rfl ?_
    refine v_condT rfl ?_
    refine v_seq ?_
    refine v_region ?_
    refine l_ans (vs := []) rfl rfl (a_shown21) ?_
    refine l_val rfl (o_assign rfl) ?_
    refine l_nil ?_
    refine kt_norm ?_
    refine v_sel [12] [] rfl rfl ?_
    refine v_ret ?_
    refine kt_ret ?_
    refine ⟨[_], .cons (.tmp rfl) (ResAll.nil), ?_⟩
    rfl
set_option maxHeartbeats 4000000 in
theorem a_CoverMoreN (w : World) (pv qv : Value) (p q : List PtT) (X Y W H : Int) (hP : RowV pv p.length) (hQ : RowV qv q.length) (hrp : RowAt w pv 2 p.length (p.flatMap eP)) (hrq : RowAt w qv 2 q.length (q.flatMap eP)) (hX : -32768 ≤ X ∧ X < 32768) (hY : -32768 ≤ Y ∧ Y < 32768) (hW : 0 ≤ W ∧ W < 256) (hH : 0 ≤ H ∧ H < 256) (hcq : convexB (oriT q) = false) :
    Calls Try.prog 5 #[pv, qv, .int .i16 X, .int .i16 Y, .int .u8 W, .int .u8 H] w fun e w' => e = .returned (.bool true) ∧ Below w.heap.size w w' := by
  have hp : ∀ w', Chg (fun _ => False) w w' → RowAt w' pv 2 p.length (p.flatMap eP) := fun w' h => hrp.chg h (fun h => h)
  have hq : ∀ w', Chg (fun _ => False) w w' → RowAt w' qv 2 q.length (q.flatMap eP) := fun w' h => hrq.chg h (fun h => h)
  obtain ⟨ap, cp, rfl⟩ := hP.sl
  obtain ⟨aq, cq, rfl⟩ := hQ.sl
  obtain ⟨n, hnA⟩ : ∃ k : Nat, (k : Int) = 1 + W % 12 := ⟨(1 + W % 12).toNat, by omega⟩
  obtain ⟨h, hhA⟩ : ∃ k : Nat, (k : Int) = 1 + H % 8 := ⟨(1 + H % 8).toNat, by omega⟩
  have hVA : Ans Try.prog 9 [.int .i16 X, .int .i16 Y, .int .u8 W, .int .u8 H] (.agg #[.int .i64 X, .int .i64 Y, .int .i64 (n : Int), .int .i64 (h : Int)]) := by rw [hnA, hhA]; exact a_view21 _ _ _ _ (by omega) (by omega) (by omega) (by omega)
  have hvA : ViewOk X Y (n : Int) (h : Int) := (viewOk_def _ _ _ _).2 (by omega)
  refine calls_of (args := [.slice ap p.length cp, .slice aq q.length cq, .int .i16 X, .int .i16 Y, .int .u8 W, .int .u8 H]) Try.func5 rfl Try.ntmps5 Try.results5 rfl ?_
  refine v_seq ?_
  refine v_region ?_
  refine l_val rfl (o_assign rfl) ?_
  refine l_nil ?_
  refine kt_norm ?_
  refine v_seq ?_
  refine v_seq ?_
  refine v_region ?_
  refine l_val rfl (o_move rfl) ?_
  refine l_val rfl (o_move rfl) ?_
  refine l_buildSlice (vs := [_, _]) (cs := [_, _]) rfl rfl rfl rfl rfl rfl fun v24 hv24 => ?_
  refine l_call (ks := [24]) rfl (o_callC (vs := [_]) (r := .bool (decide (Bn21 [p, q]))) (ent_of Try.func6 rfl rfl) rfl (fun w' hg hh => a_bounded21 w' v24 _ [p, q] (pcsW_two hv24 hP hQ) (pcsAt_two (rowAt_own (hh 24 (by simp) _ rfl)) (hp w' hg) (hq w' hg)))) ?_
  refine lz_bool (fun hbb => ?_) (fun hbb => ?_)
  · have hbp := hbb.two.1
    have hbq := hbb.two.2
    have hnp := hbp.near
    have hnq := hbq.near
    have hlp := hbp.1
    have hlq := hbq.1
    have hpl := putO_size p
    have hql := putO_size q
    have hbA : Bnd (putO p) := bnd_of (by omega) (putO_bnd hbp)
    have hbB : Bnd (putO p ++ putO q) := bnd_of (by rw [List.length_append]; omega) (fun x hx => (List.mem_append.1 hx).elim (putO_bnd hbp x) (putO_bnd hbq x))
    refine l_val rfl (o_not rfl rfl) ?_
    refine l_val rfl (o_move rfl) ?_
    refine l_ans (vs := []) rfl rfl (a_shown21) ?_
    refine l_val rfl (o_not rfl rfl) ?_
    refine l_val rfl (o_pickF rfl rfl) ?_
    refine l_nil ?_
    refine kt_norm ?_
    refine v_sel [0, 1, 2, 3, 4, 5, 30] [] rfl rfl ?_
    refine v_condF rfl ?_
    refine v_skip ?_
    refine kt_norm ?_
    refine v_seq ?_
    refine v_region ?_
    refine l_val rfl (o_move rfl) ?_
    refine l_val rfl (o_move rfl) ?_
    refine l_val rfl (o_move rfl) ?_
    refine l_val rfl (o_move rfl) ?_
    refine l_ans (vs := [_, _, _, _]) rfl rfl (hVA) ?_
    refine l_new rfl o_alloc fun b13 => ?_
    refine l_store rfl (o_storeW (key := 13) (xs := [_, _, _, _]) rfl rfl rfl rfl rfl rfl rfl) ?_
    refine l_nil ?_
    refine kt_norm ?_
    refine v_sel [0, 1, 13] [13] rfl rfl ?_
    refine v_seq ?_
    refine v_region ?_
    refine l_val rfl (o_move rfl) ?_
    refine l_gsaid (ks := []) (caps := #[]) (vs := [_, _]) (α := PutY 0 p) (fun o => putV _ o.1) (fun o w2 => putG [] p o.1 w2) (fun o b => putB o.1 b) rfl rfl (ent_of Try.func21 rfl rfl) rfl (fun o => putG_keep o.1) (fun o => putG_lt o.1) (fun w' hg hh => a_Put w' none 0 0 [] (.slice ap p.length cp) p (by omega) (Nat.le_refl 0) .nil0 (pcsAt_none w').row (by omega) hP (hp w' hg) hnp) fun o1 => ?_
    have hW1 := pcsW_put pcsW_none (Nat.zero_le _) o1
    have hC1 := capd_put capd_none o1.1
    have hT1 := fun w2 (h : putG [] p o1.1 w2) => pcsAt_put pcsW_none (pcsAt_none w2) o1 h
    rw [put_nil] at hW1
    simp only [put_nil] at hT1
    obtain ⟨tv1, htv1⟩ : ∃ t, putV (.slice none 0 0) o1.1 = t := ⟨_, rfl⟩
    obtain ⟨ts1, hts1⟩ : ∃ t, putW [] o1.1 = t := ⟨_, rfl⟩
    simp only [htv1, hts1] at hW1 hC1 hT1 ⊢
    obtain ⟨a1, c1, rfl⟩ := hW1.V.sl
    refine l_val rfl (o_assign rfl) ?_
    refine l_nil ?_
    refine kt_norm ?_
    refine v_seq ?_
    refine v_region ?_
    refine l_val rfl (o_loadW (key := 13) rfl rfl rfl) ?_
    refine l_gownF (fun y => .tuple #[.agg #[.int .i64 (n : Int), .int .i64 (h : Int), y], .int .i64 0]) (ks := []) (caps := #[]) (vs := [_, _]) rfl rfl (ent_of Try.func8 rfl rfl) rfl (fun w' hg hh => a_cover w' (.slice none 0 0) [] [] X Y n h bnd_nil (bnd_nil.pcsV pcsW_none) (pcsAt_none w') hvA) fun pa hpa => ?_
    obtain ⟨apa, cpa, rfl⟩ := hpa.sl
    refine l_val rfl (o_move rfl) ?_
    refine l_val rfl (o_extract rfl rfl) ?_
    refine l_val rfl (o_extract rfl rfl) ?_
    refine l_new rfl o_alloc fun b15 => ?_
    refine l_store rfl (o_storeW (key := 15) (xs := [_, _, _]) rfl rfl rfl rfl rfl rfl rfl) ?_
    refine l_val rfl (o_assign rfl) ?_
    refine l_nil ?_
    refine kt_norm ?_
    refine v_sel [1, 13, 14, 15, 16] [13, 15, 41] rfl rfl ?_
    refine v_seq ?_
    refine v_region ?_
    skip
    refine l_val rfl (o_move rfl) ?_
    refine l_val rfl (o_loadW (key := 13) rfl rfl rfl) ?_
    refine l_gownF (fun y => .tuple #[.agg #[.int .i64 (n : Int), .int .i64 (h : Int), y], .int .i64 0]) (ks := []) (caps := #[]) (vs := [_, _]) rfl rfl (ent_of Try.func8 rfl rfl) rfl (fun w' hg hh => a_cover w' (.slice a1 (putO p).length c1) ts1 (putO p) X Y n h hbA (hbA.pcsV hW1) (hT1 w' hg.2) hvA) fun pb hpb => ?_
    obtain ⟨apb, cpb, rfl⟩ := hpb.sl
    refine l_val rfl (o_move rfl) ?_
    refine l_val rfl (o_extract rfl rfl) ?_
    refine l_val rfl (o_extract rfl rfl) ?_
    refine l_new rfl o_alloc fun b17 => ?_
    refine l_store rfl (o_storeW (key := 17) (xs := [_, _, _]) rfl rfl rfl rfl rfl rfl rfl) ?_
    refine l_val rfl (o_assign rfl) ?_
    refine l_nil ?_
    refine kt_norm ?_
    refine v_sel [1, 13, 14, 15, 16, 17, 18] [13, 15, 17, 41, 47] rfl rfl ?_
    refine v_seq ?_
    refine v_drawP [(55, rowP ((pixT (tabT X Y (n : Int) (h : Int) (putO p)) X Y n h).length))] [[], [], [], [13], [], [], [], [], [], [19], []] mixed ?_ (by kernel_rfl) (by kernel_rfl)
    skip
    refine d_val (fun _ => rfl) rfl rfl (fun σ7 => o_move rfl) ?_
    refine d_val (fun _ => rfl) rfl rfl (fun σ7 => o_move rfl) ?_
    refine d_gcall (y := .slice a1 (putO p).length c1) (caps := #[]) (fun _ => rfl) (fun _ => rfl) (ent_of Try.func21 rfl rfl) (vs := fun _ => [_, _]) (fun _ => rfl) (fun σ7 w' hg hh => a_PutNo w' a1 (putO p).length c1 ts1 (.slice aq q.length cq) q (by omega) (hC1 _ _ _ rfl) hW1.V (hT1 w' hg.2).row (by omega) hQ (hq w' hg.1) hnq hcq) ?_
    refine d_val (fun _ => rfl) rfl rfl (fun σ7 => o_loadW (key := 13) rfl rfl rfl) ?_
    refine d_gownF (fun y => .tuple #[.agg #[.int .i64 (n : Int), .int .i64 (h : Int), y], .int .i64 0]) (κ := []) (caps := #[]) (fun _ => rfl) (fun _ => rfl) (ent_of Try.func8 rfl rfl) (vs := fun _ => [_, _]) (fun _ => rfl) (fun _ h => h) (fun σ7 w' hg hh => a_cover w' (.slice a1 (putO p).length c1) ts1 (putO p) X Y n h hbA (hbA.pcsV hW1) (hT1 w' hg.2) hvA) ?_
    refine d_val (fun _ => rfl) rfl rfl (fun σ7 => o_move rfl) ?_
    refine d_val (fun _ => rfl) rfl rfl (fun σ7 => o_extract rfl rfl) ?_
    refine d_val (fun _ => rfl) rfl rfl (fun σ7 => o_extract rfl rfl) ?_
    refine d_new (fun _ => rfl) rfl rfl (fun _ => o_alloc) ?_
    refine d_store (fun _ => rfl) rfl rfl (fun σ7 => o_storeW (key := 19) (xs := [_, _, σ7.v 55]) rfl rfl rfl rfl rfl rfl (by simp only [List.all_cons, List.all_nil, rowV_one (show RowV (σ7.v 55) (pixT (tabT X Y (n : Int) (h : Int) (putO p)) X Y n h).length from σ7.ok 55)]; rfl)) ?_
    refine d_val (fun _ => rfl) rfl rfl (fun σ7 => o_assign rfl) ?_
    refine d_nil (fun σ7 => ?_)
    refine l_nil ?_
    refine kt_norm ?_
    refine v_sel [13, 15, 16, 17, 18, 19, 20] [13, 15, 17, 19, 41, 47, 55] rfl rfl ?_
    refine v_seq ?_
    refine v_seq ?_
    refine v_region ?_
    have hpA : (pixT (tabT X Y (n : Int) (h : Int) []) X Y n h).length = n * h := pix_len2
    have hpB : (pixT (tabT X Y (n : Int) (h : Int) (putO p)) X Y n h).length = n * h := pix_len2
    have hpC : (pixT (tabT X Y (n : Int) (h : Int) (putO p)) X Y n h).length = n * h := pix_len2
    have hpi : ((((pixT (tabT X Y (n : Int) (h : Int) []) X Y n h).length : Nat)) : Int) = (n : Int) * h := by rw [hpA, Int.natCast_mul]
    have hnh : (n : Int) * h ≤ 256 * 256 := Int.mul_le_mul (by omega) (by omega) (by omega) (by omega)
    have hnh0 : 0 ≤ (n : Int) * h := Int.mul_nonneg (by omega) (by omega)
    refine l_val rfl (o_move rfl) ?_
    refine l_split rfl (o_neq rfl rfl) (fun q1 => absurd q1 (by omega)) (fun q1 => ?_)
    refine l_val rfl (o_move rfl) ?_
    refine l_val rfl (o_move rfl) ?_
    refine l_split rfl (o_neq rfl rfl) (fun q2 => absurd q2 (by omega)) (fun q2 => ?_)
    refine l_val rfl (o_pickF rfl rfl) ?_
    refine l_val rfl (o_move rfl) ?_
    refine l_val rfl (o_move rfl) ?_
    refine l_split rfl (o_neq rfl rfl) (fun q3 => absurd q3 (by omega)) (fun q3 => ?_)
    refine l_val rfl (o_pickF rfl rfl) ?_
    refine l_val rfl (o_move rfl) ?_
    refine l_val rfl (o_fld rfl) ?_
    refine l_val rfl (o_load1 (key := 15) rfl rfl rfl) ?_
    refine l_val rfl (o_len rfl hpa) ?_
    refine l_val rfl (o_fld rfl) ?_
    refine l_val rfl (o_load1 (key := 13) rfl rfl rfl) ?_
    refine l_val rfl (o_fld rfl) ?_
    refine l_val rfl (o_load1 (key := 13) rfl rfl rfl) ?_
    refine l_val rfl (o_muli rfl rfl ?_) ?_
    · omega
    refine l_split rfl (o_neq rfl rfl) (fun q4 => absurd q4 (by omega)) (fun q4 => ?_)
    refine l_val rfl (o_pickF rfl rfl) ?_
    refine l_val rfl (o_move rfl) ?_
    refine l_val rfl (o_fld rfl) ?_
    refine l_val rfl (o_load1 (key := 17) rfl rfl rfl) ?_
    refine l_val rfl (o_len rfl hpb) ?_
    refine l_val rfl (o_fld rfl) ?_
    refine l_val rfl (o_load1 (key := 15) rfl rfl rfl) ?_
    refine l_val rfl (o_len rfl hpa) ?_
    refine l_split rfl (o_neq rfl rfl) (fun q5 => absurd q5 (by omega)) (fun q5 => ?_)
    refine l_val rfl (o_pickF rfl rfl) ?_
    refine l_val rfl (o_move rfl) ?_
    refine l_val rfl (o_fld rfl) ?_
    refine l_val rfl (o_load1 (key := 19) rfl rfl rfl) ?_
    refine l_val rfl (o_len rfl (show RowV (σ7.v 55) (pixT (tabT X Y (n : Int) (h : Int) (putO p)) X Y n h).length from σ7.ok 55)) ?_
    refine l_val rfl (o_fld rfl) ?_
    refine l_val rfl (o_load1 (key := 15) rfl rfl rfl) ?_
    refine l_val rfl (o_len rfl hpa) ?_
    refine l_split rfl (o_neq rfl rfl) (fun q6 => absurd q6 (by omega)) (fun q6 => ?_)
    refine l_val rfl (o_pickF rfl rfl) ?_
    refine l_nil ?_
    refine kt_norm ?_
    refine v_sel [15, 17, 19, 96] [15, 17, 19, 41, 47, 55] rfl rfl ?_
    refine v_condF rfl ?_
    refine v_skip ?_
    refine kt_norm ?_
    refine v_seq ?_
    refine v_seq ?_
    refine v_region ?_
    refine l_val rfl (o_assign rfl) ?_
    refine l_nil ?_
    refine kt_norm ?_
    refine v_block ?_
    refine v_loopS (α := Nat) (fun i => [(21, .int .i64 (i : Int))]) (fun i => [])  (fun i => i ≤ n * h) (fun i => n * h - i) 0 [15, 17, 19] [15, 17, 19, 41, 47, 55] (Nat.zero_le _)  (And.intro rfl (True.intro)) rfl (True.intro) rfl ?_
    rintro i hi
    refine v_seq ?_
    refine v_seq ?_
    refine v_region ?_
    refine l_val rfl (o_move rfl) ?_
    refine l_val rfl (o_fld rfl) ?_
    refine l_val rfl (o_load1 (key := 15) rfl rfl rfl) ?_
    refine l_val rfl (o_len rfl hpa) ?_
    refine l_split rfl (o_lss rfl rfl) (fun q7 => ?_) (fun q7 => ?_)
    · have hil : i < n * h := by omega
      have hz := pix_none hvA hil
      have hm : (pixT (tabT X Y (n : Int) (h : Int) (putO p)) X Y n h).getD i 0 ≤ (pixT (tabT X Y (n : Int) (h : Int) (putO p)) X Y n h).getD i 0 := Int.le_refl _
      refine l_nil ?_
      refine kt_norm ?_
      refine v_condT rfl ?_
      refine v_skip ?_
      refine kt_norm ?_
      refine v_seq ?_
      refine v_block ?_
      refine v_seq ?_
      refine v_drawW [] [[], [15], [], [], [41], [], [], [], [19], [], [], [55], [], [17], [], [], [47], [], []] mixed ?_ (by kernel_rfl) (by kernel_rfl)
      refine d_val (fun _ => rfl) rfl rfl (fun σ13 => o_fld rfl) ?_
      refine d_val (fun _ => rfl) rfl rfl (fun σ13 => o_load1 (key := 15) rfl rfl rfl) ?_
      refine d_val (fun _ => rfl) rfl rfl (fun σ13 => o_move rfl) ?_
      refine d_val (fun _ => rfl) rfl rfl (fun σ13 => o_idx (i) rfl hpa rfl (by first | rfl | omega) (by omega)) ?_
      refine d_val (fun _ => rfl) rfl rfl (fun σ13 => o_loadR1 rfl (row_own (key := 41) rfl) (el_u8 (l := (pixT (tabT X Y (n : Int) (h : Int) []) X Y n h)) (i := i) (by omega))) ?_
      refine d_neq (fun _ => rfl) (fun _ => rfl) (fun _ => rfl) (fun q8 => absurd q8 (by omega)) (fun q8 => ?_)
      refine d_val (fun _ => rfl) rfl rfl (fun σ13 => o_move rfl) ?_
      refine d_val (fun _ => rfl) rfl rfl (fun σ13 => o_fld rfl) ?_
      refine d_val (fun _ => rfl) rfl rfl (fun σ13 => o_load1 (key := 19) rfl rfl rfl) ?_
      refine d_val (fun _ => rfl) rfl rfl (fun σ13 => o_move rfl) ?_
      refine d_val (fun _ => rfl) rfl rfl (fun σ13 => o_idx (i) rfl (show RowV (σ7.v 55) (pixT (tabT X Y (n : Int) (h : Int) (putO p)) X Y n h).length from σ7.ok 55) rfl (by first | rfl | omega) (by omega)) ?_
      refine d_val (fun _ => rfl) rfl rfl (fun σ13 => o_loadR1 rfl (row_own (key := 55) rfl) (el_u8 (l := (pixT (tabT X Y (n : Int) (h : Int) (putO p)) X Y n h)) (i := i) (by omega))) ?_
      refine d_val (fun _ => rfl) rfl rfl (fun σ13 => o_fld rfl) ?_
      refine d_val (fun _ => rfl) rfl rfl (fun σ13 => o_load1 (key := 17) rfl rfl rfl) ?_
      refine d_val (fun _ => rfl) rfl rfl (fun σ13 => o_move rfl) ?_
      refine d_val (fun _ => rfl) rfl rfl (fun σ13 => o_idx (i) rfl hpb rfl (by first | rfl | omega) (by omega)) ?_
      refine d_val (fun _ => rfl) rfl rfl (fun σ13 => o_loadR1 rfl (row_own (key := 47) rfl) (el_u8 (l := (pixT (tabT X Y (n : Int) (h : Int) (putO p)) X Y n h)) (i := i) (by omega))) ?_
      refine d_lss (fun _ => rfl) (fun _ => rfl) (fun _ => rfl) (fun q9 => absurd q9 (by omega)) (fun q9 => ?_)
      refine d_val (fun _ => rfl) rfl rfl (fun σ13 => o_pickF rfl rfl) ?_
      refine d_nil (fun σ13 => ?_)
      refine l_nil ?_
      refine kt_norm ?_
      refine v_sel [21, 15, 17, 19, 111, 112, 113, 114, 115, 116, 117, 118, 119, 120, 121, 122] [15, 17, 19, 41, 47, 55] rfl rfl ?_
      refine v_condF rfl ?_
      refine v_skip ?_
      refine kb_norm ?_
      refine kt_norm ?_
      refine v_region ?_
      refine l_val rfl (o_move rfl) ?_
      refine l_val rfl (o_addi rfl rfl ?_) ?_
      · omega
      refine l_val rfl (o_assign rfl) ?_
      refine l_nil ?_
      refine kt_norm ?_
      refine ⟨i + 1, by omega, by omega, le_app (And.intro rfl (True.intro)) [15, 17, 19] rfl (True.intro) [15, 17, 19, 41, 47, 55] rfl⟩
    · skip
      refine l_nil ?_
      refine kt_norm ?_
      refine v_condF rfl ?_
      refine v_exit ?_
      refine kt_exit ?_
      refine kt_exit ?_
      refine kb_eq ?_
      refine kt_norm ?_
      refine v_sel [] [15, 17, 19, 41, 47, 55] rfl rfl ?_
      refine v_seq ?_
      refine v_region ?_
      refine l_val rfl (o_assign rfl) ?_
      refine l_nil ?_
      refine kt_norm ?_
      refine v_ret ?_
      refine ⟨[_], .cons (.tmp rfl) (ResAll.nil), ?_⟩
      rfl
  · skip
    refine l_val rfl (o_not rfl rfl) ?_
    refine l_val rfl (o_move rfl) ?_
    refine l_no rfl ?_
    refine l_no rfl ?_
    refine l_val rfl (o_pickT rfl rfl) ?_
    refine l_nil ?_
    refine kt_norm ?_
    refine v_sel [0, 1, 2, 3, 4, 5, 30] [] rfl rfl ?_
    refine v_condT rfl ?_
    refine v_seq ?_
    refine v_region ?_
    refine l_ans (vs := []) rfl rfl (a_shown21) ?_
    refine l_val rfl (o_assign rfl) ?_
    refine l_nil ?_
    refine kt_norm ?_
    refine v_sel [12] [] rfl rfl ?_
    refine v_ret ?_
    refine kt_ret ?_
    refine ⟨[_], .cons (.tmp rfl) (ResAll.nil), ?_⟩
    rfl
theorem a_CoverMore (w : World) (pv qv : Value) (p q : List PtT) (X Y W H : Int) (hP : RowV pv p.length) (hQ : RowV qv q.length) (hrp : RowAt w pv 2 p.length (p.flatMap eP)) (hrq : RowAt w qv 2 q.length (q.flatMap eP)) (hX : -32768 ≤ X ∧ X < 32768) (hY : -32768 ≤ Y ∧ Y < 32768) (hW : 0 ≤ W ∧ W < 256) (hH : 0 ≤ H ∧ H < 256) :
    Calls Try.prog 5 #[pv, qv, .int .i16 X, .int .i16 Y, .int .u8 W, .int .u8 H] w fun e w' => e = .returned (.bool true) ∧ Below w.heap.size w w' := by
  by_cases hcq : convexB (oriT q) = true
  · exact a_CoverMoreY w pv qv p q X Y W H hP hQ hrp hrq hX hY hW hH hcq
  · rw [Bool.not_eq_true] at hcq
    exact a_CoverMoreN w pv qv p q X Y W H hP hQ hrp hrq hX hY hW hH hcq
end Go.Proofs.Ytllhohbenniaaaa
