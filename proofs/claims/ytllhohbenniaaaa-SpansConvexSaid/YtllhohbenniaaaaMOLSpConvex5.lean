import Derived.Test.YtllhohbenniaaaaM1
import Derived.Test.YtllhohbenniaaaaM2
import Derived.Test.YtllhohbenniaaaaM3
import Derived.Test.YtllhohbenniaaaaM4
import Derived.Test.YtllhohbenniaaaaM5
/- Pieces put one by one. Conditions: none. -/
namespace Go.Proofs.Ytllhohbenniaaaa
open Go.Proofs Go.RowKit Go.Shelf

variable {C : Cx} {K : Exit → St → Prop} {ops : Array Oper} {rest : List Oper} {l : List (Nat × Value)} {m : List (Nat × Hp)} {g : World → Prop} {gb : Nat → Prop} {dd : List Nat} in
theorem l_capd (key : Nat) {v : Value} {E esz n : Nat} {xs : List Value} (hk : lk m key = some (.own v E esz n xs)) (next : Capd v → VL C ops rest K (mk l m g gb dd)) : VL C ops rest K (mk l m g gb dd) :=
  fun a w hr => next (capd_own (hr.mo key _ hk).1) a w hr
def All2 (R : Value → List PtT → Prop) (vs : List Value) (ps : List (List PtT)) : Prop := vs.length = ps.length ∧ ∀ i, i < ps.length → R (vs.getD i undef) (ps.getD i [])
theorem All2.append {R : Value → List PtT → Prop} {a b : List Value} {p q : List (List PtT)} (h : All2 R a p) (k : All2 R b q) : All2 R (a ++ b) (p ++ q) := by
  refine ⟨by rw [List.length_append, List.length_append, h.1, k.1], fun i hi => ?_⟩
  rw [List.length_append] at hi
  rw [List.getD_eq_getElem?_getD, List.getD_eq_getElem?_getD, List.getElem?_append, List.getElem?_append, h.1]
  by_cases e : i < p.length
  · rw [if_pos e, if_pos e, ← List.getD_eq_getElem?_getD, ← List.getD_eq_getElem?_getD]; exact h.2 i e
  · rw [if_neg e, if_neg e, ← List.getD_eq_getElem?_getD, ← List.getD_eq_getElem?_getD]; exact k.2 _ (by omega)
theorem All2.drop {R : Value → List PtT → Prop} {a : List Value} {p : List (List PtT)} (h : All2 R a p) (k : Nat) : All2 R (a.drop k) (p.drop k) := by
  refine ⟨by rw [List.length_drop, List.length_drop, h.1], fun i hi => ?_⟩
  rw [List.length_drop] at hi
  rw [List.getD_eq_getElem?_getD, List.getD_eq_getElem?_getD, List.getElem?_drop, List.getElem?_drop, ← List.getD_eq_getElem?_getD, ← List.getD_eq_getElem?_getD]
  exact h.2 _ (by omega)
theorem All2.take {R : Value → List PtT → Prop} {a : List Value} {p : List (List PtT)} (h : All2 R a p) (k : Nat) : All2 R (a.take k) (p.take k) := by
  refine ⟨by rw [List.length_take, List.length_take, h.1], fun i hi => ?_⟩
  rw [List.length_take] at hi
  rw [List.getD_eq_getElem?_getD, List.getD_eq_getElem?_getD, List.getElem?_take_of_lt (by omega), List.getElem?_take_of_lt (by omega), ← List.getD_eq_getElem?_getD, ← List.getD_eq_getElem?_getD]
  exact h.2 _ (by omega)
theorem All2.nil {R : Value → List PtT → Prop} : All2 R [] [] := ⟨rfl, fun i hi => absurd hi (Nat.not_lt_zero i)⟩
theorem All2.one {R : Value → List PtT → Prop} {u : Value} {pc : List PtT} (h : R u pc) : All2 R [u] [pc] := ⟨rfl, fun i hi => by
  obtain rfl : i = 0 := by simpa using hi
  exact h⟩
def RV (u : Value) (pc : List PtT) : Prop := RowV u pc.length
def RP (w : World) (u : Value) (pc : List PtT) : Prop := RowAt w u 2 pc.length (pc.flatMap eP)
theorem PcsW.all {v : Value} {vs : List Value} {ps : List (List PtT)} (h : PcsW v vs ps) : All2 RV vs ps := ⟨h.lenv, h.pV⟩
theorem pcsW_of {v : Value} {vs : List Value} {ps : List (List PtT)} (h : RowV v ps.length) (hl : ps.length ≤ 1000000) (k : All2 RV vs ps) : PcsW v vs ps := ⟨h, k.1, by omega, k.2⟩
theorem PcsAt.all {w : World} {v : Value} {vs : List Value} {ps : List (List PtT)} (h : PcsAt w v vs ps) (hw : PcsW v vs ps) : All2 (RP w) vs ps := ⟨hw.lenv, h.pc⟩
theorem pcsAt_of {w : World} {v : Value} {vs : List Value} {ps : List (List PtT)} (h : RowAt w v 1 ps.length vs) (k : All2 (RP w) vs ps) : PcsAt w v vs ps := ⟨h, k.2⟩
theorem oriT_len (pc : List PtT) : (oriT pc).length = pc.length := by unfold oriT; split; exact List.length_reverse; rfl
theorem oriT_bnd {pc : List PtT} (h : BndP pc) : BndP (oriT pc) := by
  refine ⟨by rw [oriT_len]; exact h.1, fun j hj => ?_⟩
  have hm : (oriT pc).getD j dP ∈ oriT pc := pt_mem hj
  have hm2 : (oriT pc).getD j dP ∈ pc := by
    generalize (oriT pc).getD j dP = p at hm
    unfold oriT at hm
    split at hm
    · exact List.mem_reverse.1 hm
    · exact hm
  exact h.near _ hm2
theorem putT_yes {qs : List (List PtT)} {pc : List PtT} (h : convexB (oriT pc) = true) : putT qs pc = qs ++ [oriT pc] := if_pos h
theorem putT_no {qs : List (List PtT)} {pc : List PtT} (h : convexB (oriT pc) = false) : putT qs pc = qs := if_neg (by rw [h]; exact Bool.false_ne_true)
theorem put_mem {ps : List (List PtT)} : ∀ k, k ≤ ps.length → ∀ q ∈ putAll ps k, ∃ pc ∈ ps, q = oriT pc ∧ convexB (oriT pc) = true
  | 0, _, q, h => by simp [putAll] at h
  | k + 1, hk, q, h => by
    rw [putAll_succ (by omega)] at h
    have hm : ps.getD k [] ∈ ps := by
      rw [List.getD_eq_getElem?_getD, List.getElem?_eq_getElem (show k < ps.length by omega)]; exact List.getElem_mem _
    unfold putT at h
    split at h
    · rename_i hc
      rcases List.mem_append.1 h with h | h
      · exact put_mem k (by omega) q h
      · rw [List.mem_singleton.1 h]; exact ⟨_, hm, rfl, hc⟩
    · exact put_mem k (by omega) q h
theorem put_bnd {ps : List (List PtT)} (h : Bn20 ps) : Bn20 (putAll ps ps.length) := by
  have hl := putAll_len ps ps.length (Nat.le_refl _)
  refine ⟨by have := h.1; omega, fun i hi => ?_⟩
  have hm : (putAll ps ps.length).getD i [] ∈ putAll ps ps.length := by
    rw [List.getD_eq_getElem?_getD, List.getElem?_eq_getElem hi]; exact List.getElem_mem _
  obtain ⟨pc, hp, e, _⟩ := put_mem ps.length (Nat.le_refl _) _ hm
  rw [e]
  exact oriT_bnd (h.bnd.x.mem hp)
theorem ord_bnd {qs : List (List PtT)} (h : Bn20 qs) (k : Nat) (hk : k ≤ qs.length) : BndX (qs.drop k ++ qs.take k ++ qs) := by
  refine ⟨by simp only [List.length_append, List.length_drop, List.length_take]; have := h.1; omega, fun i hi => ?_⟩
  have hm : (qs.drop k ++ qs.take k ++ qs).getD i [] ∈ qs.drop k ++ qs.take k ++ qs := by
    rw [List.getD_eq_getElem?_getD, List.getElem?_eq_getElem hi]; exact List.getElem_mem _
  have : (qs.drop k ++ qs.take k ++ qs).getD i [] ∈ qs := by
    rcases List.mem_append.1 hm with h1 | h1
    · rcases List.mem_append.1 h1 with h1 | h1
      · exact List.mem_of_mem_drop h1
      · exact List.mem_of_mem_take h1
    · exact h1
  exact h.bnd.x.mem this
theorem ord_len {qs : List (List PtT)} {k : Nat} (hk : k ≤ qs.length) : (qs.drop k ++ qs.take k ++ qs).length = 0 + (qs.length - k) + k + qs.length := by
  simp only [List.length_append, List.length_drop, List.length_take]; omega
theorem rowAt_takeV {w : World} {v : Value} {esz n : Nat} {xs : List Value} (h : RowAt w v esz n xs) {hi : Nat} (hle : hi ≤ n) : RowAt w (subTo v hi) esz hi (xs.take (hi * esz)) := rowAt_to h hle
theorem o_sliceToC {C : Cx} {s : St} {d : Option Nat} {x z : Operand} {T E ty : TypeId} {pos : String} {aft : Array Edge} {gd : Option (Nat × Bool)} {v : Value} {n esz : Nat} {k : IntKind} {q : Int} (hi : Nat) [ht : TSl C.P T E esz] (h : ev C s x = some v) (hv : RowV v n) (hcap : Capd v) (h2 : ev C s z = some (.int k q)) (hq : q = ((hi : Nat) : Int)) (hle : hi ≤ n) :
    OpV C s ⟨d, .slice T x none (some z) none, ty, pos, aft, gd⟩ [] (subTo v hi) := opv _ _ (by simp) fun ρ w hr => by
  have hx := rd1 hr (x := x) (by simp [Op.operands]) h
  have hz := rd1 hr (x := z) (by simp [Op.operands]) h2
  subst hq
  obtain ⟨b, c, rfl⟩ := hv.sl
  have h6 := hcap _ _ _ rfl
  simp [execOp, hx, hz, run_sliceTo (P := C.P) (w := w) (T := T) (k := k) (b := b) n (show hi ≤ c by omega), Sem.run_bind, Result.andThen, subTo]
/-- what a put comes to: nothing, or a slice and a row -/
abbrev PutX (n m : Nat) := Option {x : Value × Value // RowV x.1 (n + 1) ∧ Capd x.1 ∧ RowV x.2 m}
def putV {n m : Nat} (v : Value) (o : PutX n m) : Value := match o with | none => v | some x => x.1.1
def putW {n m : Nat} (vs : List Value) (o : PutX n m) : List Value := match o with | none => vs | some x => vs ++ [x.1.2]
def putG {n m : Nat} (vs : List Value) (pc : List PtT) (o : PutX n m) (w : World) : Prop := match o with | none => True | some x => (Hp.own x.1.1 46 1 (n + 1) (vs ++ [x.1.2])).ok w ∧ (Hp.own x.1.2 59 2 m ((oriT pc).flatMap eP)).ok w
def putB {n m : Nat} (o : PutX n m) (b : Nat) : Prop := match o with | none => False | some x => x.1.1.ownBlock = some b ∨ x.1.2.ownBlock = some b
abbrev PutY (n : Nat) (pc : List PtT) := {o : PutX n pc.length // o.isSome = convexB (oriT pc)}
theorem putG_keep {n m : Nat} {vs : List Value} {pc : List PtT} (o : PutX n m) (w1 w2 : World) (h : putG vs pc o w1) (hb : ∀ b, putB o b → w2.heap[b]? = w1.heap[b]?) : putG vs pc o w2 := by
  match o, h, hb with
  | none, _, _ => trivial
  | some x, h, hb => exact ⟨Hp.keep h.1 fun b e => hb b (.inl e), Hp.keep h.2 fun b e => hb b (.inr e)⟩
theorem putG_lt {n m : Nat} {vs : List Value} {pc : List PtT} (o : PutX n m) (w1 : World) (b : Nat) (h : putG vs pc o w1) (hb : putB o b) : b < w1.heap.size := by
  match o, h, hb with
  | some x, h, hb => exact hb.elim (fun e => Hp.lt h.1 e) (fun e => Hp.lt h.2 e)
theorem capd_put {n m : Nat} {v : Value} (h : Capd v) (o : PutX n m) : Capd (putV v o) := by
  match o with
  | none => exact h
  | some x => exact x.2.2.1
theorem pcsW_put {v : Value} {vs : List Value} {qs : List (List PtT)} {pc : List PtT} (h : PcsW v vs qs) (hl : qs.length ≤ 100000) (o : PutY qs.length pc) : PcsW (putV v o.1) (putW vs o.1) (putT qs pc) := by
  obtain ⟨o, ho⟩ := o
  match o, ho with
  | none, ho => rw [putT_no ho.symm]; exact h
  | some x, ho =>
    rw [putT_yes ho.symm]
    exact pcsW_of (by rw [List.length_append]; exact x.2.1) (by rw [List.length_append, List.length_singleton]; omega) (h.all.append (.one (by unfold RV; rw [oriT_len]; exact x.2.2.2)))
theorem pcsAt_put {w : World} {v : Value} {vs : List Value} {qs : List (List PtT)} {pc : List PtT} (hW : PcsW v vs qs) (h : PcsAt w v vs qs) (o : PutY qs.length pc) (hg : putG vs pc o.1 w) : PcsAt w (putV v o.1) (putW vs o.1) (putT qs pc) := by
  obtain ⟨o, ho⟩ := o
  match o, ho, hg with
  | none, ho, _ => rw [putT_no ho.symm]; exact h
  | some x, ho, hg =>
    rw [putT_yes ho.symm]
    exact pcsAt_of (by rw [List.length_append]; exact rowAt_own hg.1) ((h.all hW).append (.one (by unfold RP; rw [oriT_len]; exact rowAt_own hg.2)))
theorem a_Put (w : World) (a : Option Addr) (n c : Nat) (pvs : List Value) (u : Value) (pc : List PtT) (hn : n ≤ 1000000) (hcap : n ≤ c) (hV : RowV (.slice a n c) n) (hrow : RowAt w (.slice a n c) 1 n pvs) (hs : pc.length ≤ 1000000) (hU : RowV u pc.length) (hrowU : RowAt w u 2 pc.length (pc.flatMap eP)) (hnear : ∀ p ∈ pc, NearT p) :
    Calls Try.prog 21 #[.slice a n c, u] w fun e w' => ∃ o : PutY n pc, e = .returned (putV (.slice a n c) o.1) ∧ Below w.heap.size w w' ∧ putG pvs pc o.1 w' ∧ ∀ b, putB o.1 b → w.heap.size ≤ b := by
  by_cases hcx : convexB (oriT pc) = true
  · exact (a_PutYes w a n c pvs u pc hn hcap hV hrow hs hU hrowU hnear hcx).mono fun e w2 ⟨x, h1, h2, h3, h4⟩ => ⟨⟨some ⟨x, rowV_own h3.1, capd_own h3.1, rowV_own h3.2⟩, hcx.symm⟩, h1, h2, h3, h4⟩
  · rw [Bool.not_eq_true] at hcx
    exact (a_PutNo w a n c pvs u pc hn hcap hV hrow hs hU hrowU hnear hcx).mono fun e w2 ⟨h1, h2⟩ => ⟨⟨none, hcx.symm⟩, h1, h2, trivial, fun b hb => hb.elim⟩

end Go.Proofs.Ytllhohbenniaaaa

/- A row has one span at most of a convex piece; more pieces have all that one has. Conditions: none. -/
namespace Go.Proofs.Ytllhohbenniaaaa
open Go.Proofs Go.RowKit Go.Shelf

/-! ### where a row has spans: plain law -/
theorem sumTo_eq {cs : List (Int × Int)} {x y : Int} (h : ∀ c ∈ cs, c.1 ≤ x ↔ c.1 ≤ y) : sumTo cs x = sumTo cs y := by
  unfold sumTo
  refine sumF_congr cs fun c hc => ?_
  by_cases h1 : c.1 ≤ x
  · rw [if_pos h1, if_pos ((h c hc).1 h1)]
  · rw [if_neg h1, if_neg fun h2 => h1 ((h c hc).2 h2)]
theorem key_at {cs : List (Int × Int)} {c : Int × Int} (hc : c ∈ cs) : ∃ j, j < (keysOf cs).length ∧ c.1 = (keysOf cs).getD j 0 := by
  obtain ⟨j, hj, e⟩ := List.getElem_of_mem (keysOf_mem.2 ⟨c, hc, rfl⟩)
  exact ⟨j, hj, by rw [List.getD_eq_getElem?_getD, List.getElem?_eq_getElem hj]; exact e.symm⟩
theorem inc_le {l : List Int} (h : Inc l) {i j : Nat} (hij : i ≤ j) (hj : j < l.length) : l.getD i 0 ≤ l.getD j 0 := by
  rcases Nat.lt_or_eq_of_le hij with h' | h'
  · exact Int.le_of_lt (inc_lt h h' hj)
  · subst h'; exact Int.le_refl _
theorem hasS_iff {l : List SpanT} {x : Int} : hasS l x = true ↔ ∃ s ∈ l, s.fr ≤ x ∧ x < s.to := by
  unfold hasS
  rw [List.any_eq_true]
  constructor
  · rintro ⟨s, h1, h2⟩
    simp only [Bool.and_eq_true, decide_eq_true_eq] at h2
    exact ⟨s, h1, h2⟩
  · rintro ⟨s, h1, h2⟩
    exact ⟨s, h1, by simp only [Bool.and_eq_true, decide_eq_true_eq]; exact h2⟩
theorem hasS_snoc {l : List SpanT} {s : SpanT} {x : Int} : hasS (l ++ [s]) x = true ↔ hasS l x = true ∨ (s.fr ≤ x ∧ x < s.to) := by
  rw [hasS_iff, hasS_iff]
  constructor
  · rintro ⟨t, h1, h2⟩
    rcases List.mem_append.1 h1 with h | h
    · exact .inl ⟨t, h, h2⟩
    · rw [List.mem_singleton.1 h] at h2; exact .inr h2
  · rintro (⟨t, h1, h2⟩ | h)
    · exact ⟨t, List.mem_append.2 (.inl h1), h2⟩
    · exact ⟨s, List.mem_append.2 (.inr List.mem_cons_self), h⟩
theorem row_has (cs : List (Int × Int)) : ∀ k, k ≤ (keysOf cs).length → ∀ x, (∀ j, k ≤ j → j < (keysOf cs).length → x < (keysOf cs).getD j 0) →
    ((hasS (rowTo cs k).2.2 x = true ∨ ((rowTo cs k).1 ≠ 0 ∧ (rowTo cs k).2.1 ≤ x)) ↔ sumTo cs x ≠ 0)
  | 0, _, x, hx => by
    have e : sumTo cs x = 0 := by
      unfold sumTo
      refine (sumF_congr cs fun c hc => ?_).trans (sumF_zero cs)
      obtain ⟨j, hj, e⟩ := key_at hc
      have := hx j (Nat.zero_le _) hj
      rw [if_neg (by omega)]
    rw [e]
    simp [rowTo, hasS]
  | k + 1, h, x, hx => by
    have hk : k < (keysOf cs).length := by omega
    have hinc := keysOf_inc cs
    have e := rowTo_succ hk
    have hw := rowTo_sumTo hk
    have hq := rowQ cs (k + 1) h
    rcases Int.lt_or_le x ((keysOf cs).getD k 0) with hy | hy
    · have ih := row_has cs k (by omega) x fun j hj hj2 => by
        have := inc_le hinc hj hj2; omega
      rw [← ih, e]
      by_cases h0 : (rowTo cs k).1 = 0
      · rw [stepR0 h0]
        dsimp only
        constructor
        · rintro (h1 | ⟨h1, h2⟩)
          · exact .inl h1
          · omega
        · rintro (h1 | ⟨h1, h2⟩)
          · exact .inl h1
          · exact absurd h0 h1
      · by_cases h1 : (rowTo cs k).1 + sumAt cs ((keysOf cs).getD k 0) = 0
        · rw [stepR1 h0 h1]
          dsimp only
          rw [hasS_snoc]
          dsimp only
          constructor
          · rintro ((h2 | h2) | ⟨h2, h3⟩)
            · exact .inl h2
            · exact .inr ⟨h0, h2.1⟩
            · exact absurd h1 h2
          · rintro (h2 | ⟨h2, h3⟩)
            · exact .inl (.inl h2)
            · exact .inl (.inr ⟨h3, hy⟩)
        · rw [stepR2 h0 h1]
          dsimp only
          constructor
          · rintro (h2 | ⟨h2, h3⟩)
            · exact .inl h2
            · exact .inr ⟨h0, h3⟩
          · rintro (h2 | ⟨h2, h3⟩)
            · exact .inl h2
            · exact .inr ⟨h1, h3⟩
    · have es : sumTo cs x = sumTo cs ((keysOf cs).getD k 0) := sumTo_eq fun c hc => by
        obtain ⟨j, hj, ej⟩ := key_at hc
        rcases Nat.lt_or_ge k j with h1 | h1
        · have := hx j (by omega) hj
          have := inc_lt hinc h1 hj
          omega
        · have := inc_le hinc h1 hk
          omega
      rw [es, ← hw]
      constructor
      · rintro (h1 | ⟨h1, _⟩)
        · obtain ⟨s, hs, h2, h3⟩ := hasS_iff.1 h1
          obtain ⟨j, hj, ej⟩ := hq.below s hs
          have := inc_le hinc (show j ≤ k by omega) hk
          omega
        · exact h1
      · intro h1
        obtain ⟨j, hj, ej, _⟩ := hq.open_ h1
        have := inc_le hinc (show j ≤ k by omega) hk
        exact .inr ⟨h1, by omega⟩
/-- a row has a span at x just where the winding is not nothing -/
theorem row_hasS {cs : List (Int × Int)} (h : sumF (fun c => c.2) cs = 0) (x : Int) : hasS (rowS cs) x = true ↔ sumTo cs x ≠ 0 := by
  have hk := row_has cs (keysOf cs).length (Nat.le_refl _) x fun j hj hj2 => absurd hj2 (by omega)
  have he := rowTo_end cs
  rw [h] at he
  rw [← hk]
  unfold rowS
  constructor
  · exact .inl
  · rintro (h1 | ⟨h1, _⟩)
    · exact h1
    · exact absurd he h1
theorem rise_pair {l : List SpanT} (h : l.Pairwise fun s t => s.to < t.fr) {i j : Nat} (hij : i < j) (hj : j < l.length) : (l.getD i dS).to < (l.getD j dS).fr := by
  have := List.pairwise_iff_getElem.1 h i j (by omega) hj hij
  rwa [List.getD_eq_getElem?_getD, List.getD_eq_getElem?_getD, List.getElem?_eq_getElem hj, List.getElem?_eq_getElem (show i < l.length by omega)]
theorem mem_getD {l : List SpanT} {s : SpanT} (h : s ∈ l) : ∃ j, j < l.length ∧ l.getD j dS = s := by
  obtain ⟨j, hj, e⟩ := List.getElem_of_mem h
  exact ⟨j, hj, by rw [List.getD_eq_getElem?_getD, List.getElem?_eq_getElem hj]; exact e⟩
/-- where a span begins there is one, and none ahead of it -/
theorem row_start {l : List SpanT} (h : l.Pairwise fun s t => s.to < t.fr) (hp : ∀ s ∈ l, s.fr < s.to) {i : Nat} (hi : i < l.length) : hasS l (l.getD i dS).fr = true ∧ ¬ hasS l ((l.getD i dS).fr - 1) = true := by
  have hm : l.getD i dS ∈ l := sp_mem hi
  refine ⟨hasS_iff.2 ⟨_, hm, Int.le_refl _, hp _ hm⟩, fun hn => ?_⟩
  obtain ⟨s, hs, h1, h2⟩ := hasS_iff.1 hn
  obtain ⟨j, hj, rfl⟩ := mem_getD hs
  have h4 := hp _ hm
  rcases Nat.lt_trichotomy i j with h3 | h3 | h3
  · have := rise_pair h h3 hj
    omega
  · subst h3; omega
  · have := rise_pair h h3 hi
    omega
/-- one hump: not above nothing, and without a gap -/
structure Hump (W : Int → Int) : Prop where
  le : ∀ x, W x ≤ 0
  mid : ∀ x y z, x ≤ y → y ≤ z → W x ≠ 0 → W z ≠ 0 → W y ≠ 0
theorem rowS_rise (cs : List (Int × Int)) : (rowS cs).Pairwise (fun s t => s.to < t.fr) ∧ ∀ s ∈ rowS cs, s.fr < s.to := ⟨(rowQ cs _ (Nat.le_refl _)).rise, (rowQ cs _ (Nat.le_refl _)).pos⟩
theorem hump_len {cs : List (Int × Int)} (h : sumF (fun c => c.2) cs = 0) (hh : Hump (sumTo cs)) : (rowS cs).length ≤ 1 := by
  obtain ⟨hr, hp⟩ := rowS_rise cs
  rcases Nat.lt_or_ge 1 (rowS cs).length with hl | hl
  · exfalso
    have h0 := row_start hr hp (i := 0) (by omega)
    have h1 := row_start hr hp (i := 1) hl
    rw [row_hasS h, row_hasS h] at h0 h1
    have h2 := rise_pair hr (show 0 < 1 by omega) hl
    have h3 := hp _ (sp_mem (l := rowS cs) (i := 0) (by omega))
    exact h1.2 (hh.mid ((rowS cs).getD 0 dS).fr _ ((rowS cs).getD 1 dS).fr (by omega) (by omega) h0.1 h1.1)
  · exact hl
theorem sumTo_append (a b : List (Int × Int)) (x : Int) : sumTo (a ++ b) x = sumTo a x + sumTo b x := sumF_append _ a b
theorem humps_len {a b : List (Int × Int)} (ha : sumF (fun c => c.2) a = 0) (hb : sumF (fun c => c.2) b = 0) (h1 : Hump (sumTo a)) (h2 : Hump (sumTo b)) : (rowS (a ++ b)).length ≤ 2 := by
  obtain ⟨hr, hp⟩ := rowS_rise (a ++ b)
  have hs : sumF (fun c => c.2) (a ++ b) = 0 := by rw [sumF_append, ha, hb]; rfl
  rcases Nat.lt_or_ge 2 (rowS (a ++ b)).length with hl | hl
  · exfalso
    have key : ∀ i, i < (rowS (a ++ b)).length → sumTo a (((rowS (a ++ b)).getD i dS).fr - 1) = 0 ∧ sumTo b (((rowS (a ++ b)).getD i dS).fr - 1) = 0 ∧ (sumTo a ((rowS (a ++ b)).getD i dS).fr ≠ 0 ∨ sumTo b ((rowS (a ++ b)).getD i dS).fr ≠ 0) := fun i hi => by
      have h0 := row_start hr hp hi
      rw [row_hasS hs, row_hasS hs, sumTo_append, sumTo_append] at h0
      have a1 := h1.le ((rowS (a ++ b)).getD i dS).fr
      have a2 := h1.le (((rowS (a ++ b)).getD i dS).fr - 1)
      have b1 := h2.le ((rowS (a ++ b)).getD i dS).fr
      have b2 := h2.le (((rowS (a ++ b)).getD i dS).fr - 1)
      omega
    have lt : ∀ i j, i < j → j < (rowS (a ++ b)).length → ((rowS (a ++ b)).getD i dS).fr ≤ ((rowS (a ++ b)).getD j dS).fr - 1 := fun i j hij hj => by
      have h3 := rise_pair hr hij hj
      have h4 := hp _ (sp_mem (l := rowS (a ++ b)) (i := i) (by omega))
      omega
    have no : ∀ W : Int → Int, Hump W → ∀ i j, i < j → j < (rowS (a ++ b)).length → W (((rowS (a ++ b)).getD j dS).fr - 1) = 0 → W ((rowS (a ++ b)).getD i dS).fr ≠ 0 → W ((rowS (a ++ b)).getD j dS).fr ≠ 0 → False := fun W hW i j hij hj h0 h3 h4 =>
      hW.mid _ _ _ (lt i j hij hj) (show ((rowS (a ++ b)).getD j dS).fr - 1 ≤ ((rowS (a ++ b)).getD j dS).fr by omega) h3 h4 h0
    have k0 := key 0 (by omega)
    have k1 := key 1 (by omega)
    have k2 := key 2 hl
    rcases k0.2.2 with c0 | c0 <;> rcases k1.2.2 with c1 | c1 <;> rcases k2.2.2 with c2 | c2
    · exact no _ h1 0 1 (by omega) (by omega) k1.1 c0 c1
    · exact no _ h1 0 1 (by omega) (by omega) k1.1 c0 c1
    · exact no _ h1 0 2 (by omega) (by omega) k2.1 c0 c2
    · exact no _ h2 1 2 (by omega) (by omega) k2.2.1 c1 c2
    · exact no _ h1 1 2 (by omega) (by omega) k2.1 c1 c2
    · exact no _ h2 0 2 (by omega) (by omega) k2.2.1 c0 c2
    · exact no _ h2 0 1 (by omega) (by omega) k1.2.1 c0 c1
    · exact no _ h2 0 1 (by omega) (by omega) k1.2.1 c0 c1
  · exact hl
theorem hump_has {a b : List (Int × Int)} (ha : sumF (fun c => c.2) a = 0) (hb : sumF (fun c => c.2) b = 0) (h1 : ∀ x, sumTo a x ≤ 0) (h2 : ∀ x, sumTo b x ≤ 0) {x : Int} (h : hasS (rowS a) x = true) : hasS (rowS (a ++ b)) x = true := by
  rw [row_hasS (by rw [sumF_append, ha, hb]; rfl), sumTo_append]
  rw [row_hasS ha] at h
  have := h1 x; have := h2 x; omega
/-! #### how much lies between, place by place -/
theorem lenC_step {lo : Int} {n : Nat} {s : SpanT} : lenC lo (lo + (n + 1 : Nat)) s = lenC lo (lo + n) s + (if s.fr ≤ lo + n ∧ lo + n < s.to then 1 else 0) := by
  have d1 := lenC_def lo (lo + (n + 1 : Nat)) s
  have d2 := lenC_def lo (lo + n) s
  split <;> omega
theorem lenC_nil {lo : Int} {s : SpanT} : lenC lo (lo + (0 : Nat)) s = 0 := by
  have d1 := lenC_def lo (lo + (0 : Nat)) s
  omega
theorem one_has {x : Int} : ∀ l : List SpanT, l.Pairwise (fun s t => s.to < t.fr) → (∀ s ∈ l, s.fr < s.to) → sumF (fun s => if s.fr ≤ x ∧ x < s.to then (1 : Int) else 0) l = if hasS l x = true then 1 else 0
  | [], _, _ => rfl
  | s :: l, h, hp => by
    have hc := List.pairwise_cons.1 h
    have ih := one_has (x := x) l hc.2 fun t ht => hp t (List.mem_cons_of_mem _ ht)
    have e : hasS (s :: l) x = true ↔ (s.fr ≤ x ∧ x < s.to) ∨ hasS l x = true := by
      rw [hasS_iff, hasS_iff]
      constructor
      · rintro ⟨t, h1, h2⟩
        rcases List.mem_cons.1 h1 with rfl | h1
        · exact .inl h2
        · exact .inr ⟨t, h1, h2⟩
      · rintro (h1 | ⟨t, h1, h2⟩)
        · exact ⟨s, List.mem_cons_self, h1⟩
        · exact ⟨t, List.mem_cons_of_mem _ h1, h2⟩
    simp only [sumF]
    rw [ih]
    by_cases h1 : s.fr ≤ x ∧ x < s.to
    · have hn : ¬ hasS l x = true := fun hh => by
        obtain ⟨t, h2, h3⟩ := hasS_iff.1 hh
        have := hc.1 t h2; omega
      rw [if_pos h1, if_neg hn, if_pos (e.2 (.inl h1))]; rfl
    · rw [if_neg h1, Int.zero_add]
      by_cases h2 : hasS l x = true
      · rw [if_pos h2, if_pos (e.2 (.inr h2))]
      · rw [if_neg h2, if_neg fun h3 => (e.1 h3).elim h1 h2]
theorem len_mono {a b : List (Int × Int)} (h : ∀ x, hasS (rowS a) x = true → hasS (rowS b) x = true) (lo : Int) : ∀ n : Nat, sumF (lenC lo (lo + n)) (rowS a) ≤ sumF (lenC lo (lo + n)) (rowS b)
  | 0 => by
    rw [sumF_congr (g := fun _ => 0) _ fun s _ => lenC_nil, sumF_congr (g := fun _ => 0) (rowS b) fun s _ => lenC_nil, sumF_zero, sumF_zero]
    exact Int.le_refl _
  | n + 1 => by
    have ih := len_mono h lo n
    have e : ∀ cs, sumF (lenC lo (lo + (n + 1 : Nat))) (rowS cs) = sumF (lenC lo (lo + n)) (rowS cs) + if hasS (rowS cs) (lo + n) = true then 1 else 0 := fun cs => by
      rw [← one_has (rowS cs) (rowS_rise cs).1 (rowS_rise cs).2, ← sumF_add]
      exact sumF_congr _ fun s _ => lenC_step
    rw [e a, e b]
    have := h (lo + n)
    by_cases h1 : hasS (rowS a) (lo + n) = true
    · rw [if_pos h1, if_pos (this h1)]; omega
    · rw [if_neg h1]; split <;> omega
theorem sumS_len {lo : Int} {n : Nat} {l : List SpanT} (h : ∀ s ∈ l, lo ≤ s.fr ∧ s.fr ≤ s.to ∧ s.to ≤ lo + n) : sumS l = sumF (lenC lo (lo + n)) l := by
  unfold sumS
  refine sumF_congr l fun s hs => ?_
  have := h s hs
  have d := lenC_def lo (lo + n) s
  omega
theorem sumS_mono {a b : List (Int × Int)} (h : ∀ x, hasS (rowS a) x = true → hasS (rowS b) x = true) (ha : SpOk (rowS a)) (hb : SpOk (rowS b)) : sumS (rowS a) ≤ sumS (rowS b) := by
  have h1 := len_mono h (-2199023255552) 4398046511104
  rw [← sumS_len fun s hs => ha s hs, ← sumS_len fun s hs => hb s hs] at h1
  exact h1
/-! #### a convex piece: what goes down lies right of what goes up -/
def cntP (p : Int × Int → Bool) : List (Int × Int) → Int := sumF fun c => if p c = true then 1 else 0
theorem cnt_mono {p q : Int × Int → Bool} : ∀ l : List (Int × Int), (∀ c ∈ l, p c = true → q c = true) → cntP p l ≤ cntP q l
  | [], _ => Int.le_refl _
  | c :: l, h => by
    have ih := cnt_mono l fun d hd => h d (List.mem_cons_of_mem _ hd)
    have h1 := h c List.mem_cons_self
    unfold cntP at ih ⊢
    simp only [sumF]
    by_cases h2 : p c = true
    · rw [if_pos h2, if_pos (h1 h2)]; omega
    · rw [if_neg h2]; split <;> omega
theorem cnt_zero {p : Int × Int → Bool} (l : List (Int × Int)) (h : ∀ c ∈ l, p c = false) : cntP p l = 0 := by
  unfold cntP
  exact (sumF_congr l fun c hc => by rw [h c hc]; rfl).trans (sumF_zero l)
theorem hump_of {cs : List (Int × Int)} (hw : WiOk cs) (h0 : sumF (fun c => c.2) cs = 0) (ho : ∀ c ∈ cs, ∀ d ∈ cs, c.2 = -1 → d.2 = 1 → c.1 ≤ d.1) : Hump (sumTo cs) := by
  have e : ∀ x, sumTo cs x = cntP (fun c => decide (c.2 = 1 ∧ c.1 ≤ x)) cs - cntP (fun c => decide (c.2 = -1 ∧ c.1 ≤ x)) cs := fun x => by
    have : sumTo cs x + cntP (fun c => decide (c.2 = -1 ∧ c.1 ≤ x)) cs = cntP (fun c => decide (c.2 = 1 ∧ c.1 ≤ x)) cs := by
      unfold sumTo cntP
      rw [← sumF_add]
      refine sumF_congr cs fun c hc => ?_
      simp only [decide_eq_true_eq]
      have := hw c hc
      (repeat' split) <;> omega
    omega
  have e0 : cntP (fun c => decide (c.2 = 1)) cs = cntP (fun c => decide (c.2 = -1)) cs := by
    have : sumF (fun c => c.2) cs + cntP (fun c => decide (c.2 = -1)) cs = cntP (fun c => decide (c.2 = 1)) cs := by
      unfold cntP
      rw [← sumF_add]
      refine sumF_congr cs fun c hc => ?_
      simp only [decide_eq_true_eq]
      have := hw c hc
      (repeat' split) <;> omega
    omega
  have mN : ∀ x y, x ≤ y → cntP (fun c => decide (c.2 = -1 ∧ c.1 ≤ x)) cs ≤ cntP (fun c => decide (c.2 = -1 ∧ c.1 ≤ y)) cs := fun x y hxy => cnt_mono cs fun c _ h => by
    simp only [decide_eq_true_eq] at h ⊢; omega
  have mP : ∀ x y, x ≤ y → cntP (fun c => decide (c.2 = 1 ∧ c.1 ≤ x)) cs ≤ cntP (fun c => decide (c.2 = 1 ∧ c.1 ≤ y)) cs := fun x y hxy => cnt_mono cs fun c _ h => by
    simp only [decide_eq_true_eq] at h ⊢; omega
  have tP : ∀ x, cntP (fun c => decide (c.2 = 1 ∧ c.1 ≤ x)) cs ≤ cntP (fun c => decide (c.2 = 1)) cs := fun x => cnt_mono cs fun c _ h => by
    simp only [decide_eq_true_eq] at h ⊢; exact h.1
  have nN : ∀ x, 0 ≤ cntP (fun c => decide (c.2 = -1 ∧ c.1 ≤ x)) cs := fun x => by
    have h1 := cnt_mono (p := fun _ => false) (q := fun c => decide (c.2 = -1 ∧ c.1 ≤ x)) cs (fun c _ h => by cases h)
    have h2 := cnt_zero (p := fun _ => false) cs fun c _ => rfl
    omega
  have split_ : ∀ x, (cntP (fun c => decide (c.2 = 1 ∧ c.1 ≤ x)) cs = 0) ∨ (∀ y, x ≤ y → cntP (fun c => decide (c.2 = -1 ∧ c.1 ≤ y)) cs = cntP (fun c => decide (c.2 = -1)) cs) := fun x => by
    by_cases h : ∃ d ∈ cs, d.2 = 1 ∧ d.1 ≤ x
    · obtain ⟨d, hd, h1, h2⟩ := h
      refine .inr fun y hy => ?_
      unfold cntP
      refine sumF_congr cs fun c hc => ?_
      simp only [decide_eq_true_eq]
      by_cases hm : c.2 = -1
      · have := ho c hc d hd hm h1
        rw [if_pos ⟨hm, by omega⟩, if_pos hm]
      · rw [if_neg fun h => hm h.1, if_neg hm]
    · refine .inl (cnt_zero cs fun c hc => ?_)
      simp only [decide_eq_false_iff_not]
      exact fun h' => h ⟨c, hc, h'⟩
  refine ⟨fun x => ?_, fun x y z hxy hyz hx hz => ?_⟩
  · rw [e]
    have h1 := tP x
    have h2 := nN x
    rcases split_ x with h | h
    · omega
    · have := h x (Int.le_refl _); omega
  · rw [e] at hx hz ⊢
    have a1 := mN x y hxy
    have a2 := mP x y hxy
    have a3 := mP y z hyz
    have a4 := tP z
    have a5 := nN x
    rcases split_ y with h | h
    · have a6 := mP x y hxy
      have a7 : 0 ≤ cntP (fun c => decide (c.2 = 1 ∧ c.1 ≤ x)) cs := by
        have h1 := cnt_mono (p := fun _ => false) (q := fun c => decide (c.2 = 1 ∧ c.1 ≤ x)) cs (fun c _ h => by cases h)
        have h2 := cnt_zero (p := fun _ => false) cs fun c _ => rfl
        omega
      omega
    · have b1 := h y (Int.le_refl _)
      have b2 := h z hyz
      omega
theorem cross_le {a b c d : PtT} {Y : Int} (h1 : a.y ≤ Y) (h2 : Y < b.y) (h3 : d.y ≤ Y) (h4 : Y < c.y) (hc : 0 ≤ crossT ⟨b.x - a.x, b.y - a.y⟩ ⟨c.x - a.x, c.y - a.y⟩) (hd : 0 ≤ crossT ⟨b.x - a.x, b.y - a.y⟩ ⟨d.x - a.x, d.y - a.y⟩) :
    d.x + (Y - d.y) * (c.x - d.x) / (c.y - d.y) ≤ a.x + (Y - a.y) * (b.x - a.x) / (b.y - a.y) := by
  unfold crossT at hc hd
  dsimp only at hc hd
  have hh : 0 < b.y - a.y := by omega
  have hk : 0 < c.y - d.y := by omega
  have hq := Int.mul_ediv_self_le (x := (Y - d.y) * (c.x - d.x)) (k := c.y - d.y) (by omega)
  generalize (Y - d.y) * (c.x - d.x) / (c.y - d.y) = q at hq ⊢
  have p1 := Int.mul_nonneg (show 0 ≤ Y - d.y by omega) hc
  have p2 := Int.mul_nonneg (show 0 ≤ c.y - Y by omega) hd
  have p3 := Int.mul_le_mul_of_nonneg_left hq (Int.le_of_lt hh)
  have key : (c.y - d.y) * ((d.x + q - a.x) * (b.y - a.y)) ≤ (c.y - d.y) * ((Y - a.y) * (b.x - a.x)) := by grind
  have h5 : (d.x + q - a.x) * (b.y - a.y) ≤ (Y - a.y) * (b.x - a.x) := Int.le_of_mul_le_mul_left key hk
  have h6 := Int.le_ediv_of_mul_le hh h5
  omega
theorem sg_nonneg {x : Int} (h : ¬ sg x < 0) : 0 ≤ x := by
  have := sg_spec x; omega
theorem conv_left {pc : List PtT} (h : convexB pc = true) {i : Nat} (hi : i < pc.length) {p : PtT} (hp : p ∈ pc) : 0 ≤ crossT ⟨(pc.getD ((i + 1) % pc.length) dP).x - (pc.getD i dP).x, (pc.getD ((i + 1) % pc.length) dP).y - (pc.getD i dP).y⟩ ⟨p.x - (pc.getD i dP).x, p.y - (pc.getD i dP).y⟩ := by
  unfold convexB at h
  simp only [Bool.and_eq_true, Bool.not_eq_true'] at h
  have h1 := List.any_eq_false.1 h.2.2 p hp
  simp only [Bool.not_eq_true', Bool.not_eq_false] at h1
  refine sg_nonneg fun hn => ?_
  have := left_no (p := p) hi hn
  rw [this] at h1; cases h1
theorem mem_crs {r : Int} {pc : List PtT} {c : Int × Int} (h : c ∈ crs r (liveT r (edgesOf pc))) : ∃ i, i < pc.length ∧ c = (atE (edgeOf (pc.getD i dP) (pc.getD ((i + 1) % pc.length) dP)) r, (edgeOf (pc.getD i dP) (pc.getD ((i + 1) % pc.length) dP)).wi) ∧
    (edgeOf (pc.getD i dP) (pc.getD ((i + 1) % pc.length) dP)).fr ≤ r ∧ r < (edgeOf (pc.getD i dP) (pc.getD ((i + 1) % pc.length) dP)).to := by
  obtain ⟨e, he, rfl⟩ := List.mem_map.1 h
  have h1 := mem_live he
  obtain ⟨i, hi, hm⟩ := List.mem_flatMap.1 h1.1
  rw [List.mem_range] at hi
  unfold edgesAt at hm
  split at hm
  · rw [List.mem_singleton.1 hm] at h1 ⊢
    exact ⟨i, hi, rfl, h1.2.1, h1.2.2⟩
  · cases hm
theorem hump_piece {pc : List PtT} (hb : BndP pc) (h : convexB pc = true) (r : Int) : Hump (sumTo (crs r (liveT r (edgesOf pc)))) := by
  have he : edgesAll [pc] = edgesOf pc := by simp [edgesAll]
  refine hump_of (crs_wi (he ▸ all_crossX (bnd_one.2 hb).x r)) (by rw [zeroSum_crs, ← he, wind_all]) fun c hc d hd hc2 hd2 => ?_
  obtain ⟨i, hi, rfl, hi1, hi2⟩ := mem_crs hc
  obtain ⟨j, hj, rfl, hj1, hj2⟩ := mem_crs hd
  have hni : (i + 1) % pc.length < pc.length := Nat.mod_lt _ (by omega)
  have hnj : (j + 1) % pc.length < pc.length := Nat.mod_lt _ (by omega)
  have hl1 := conv_left h hj (pt_mem hi)
  have hl2 := conv_left h hj (pt_mem hni)
  generalize pc.getD i dP = c at *
  generalize pc.getD ((i + 1) % pc.length) dP = d at *
  generalize pc.getD j dP = a at *
  generalize pc.getD ((j + 1) % pc.length) dP = b at *
  have r1 := rowOf_def a.y
  have r2 := rowOf_def b.y
  have r3 := rowOf_def c.y
  have r4 := rowOf_def d.y
  by_cases h1 : d.y < c.y
  · by_cases h2 : b.y < a.y
    · rw [edgeOf_lt h2] at hd2; dsimp only at hd2; omega
    · rw [edgeOf_lt h1] at hi1 hi2 ⊢
      rw [edgeOf_ge h2] at hj1 hj2 ⊢
      dsimp only at *
      exact cross_le (Y := 16 * r + 8) (by omega) (by omega) (by omega) (by omega) hl1 hl2
  · rw [edgeOf_ge h1] at hc2; dsimp only at hc2; omega
/-- what is put: none, or a convex piece -/
def humps (r : Int) (ps : List (List PtT)) : Prop := ∀ pc ∈ ps, BndP pc ∧ convexB pc = true
theorem all_le (r : Int) : ∀ ps : List (List PtT), humps r ps → ∀ x, sumTo (crs r (liveT r (edgesAll ps))) x ≤ 0
  | [], _, x => by simp [edgesAll, liveT, crs, sumTo, sumF]
  | pc :: ps, h, x => by
    have ih := all_le r ps (fun q hq => h q (List.mem_cons_of_mem _ hq)) x
    have hp := (hump_piece (h pc List.mem_cons_self).1 (h pc List.mem_cons_self).2 r).le x
    have e : crs r (liveT r (edgesAll (pc :: ps))) = crs r (liveT r (edgesOf pc)) ++ crs r (liveT r (edgesAll ps)) := by
      have e1 : edgesAll (pc :: ps) = edgesOf pc ++ edgesAll ps := by simp [edgesAll]
      rw [e1, live_append]; simp [crs]
    rw [e, sumTo_append]; omega
theorem all_zero (r : Int) (ps : List (List PtT)) : sumF (fun c => c.2) (crs r (liveT r (edgesAll ps))) = 0 := by rw [zeroSum_crs, wind_all]
theorem crs_all_append (r : Int) (a b : List (List PtT)) : crs r (liveT r (edgesAll (a ++ b))) = crs r (liveT r (edgesAll a)) ++ crs r (liveT r (edgesAll b)) := by
  rw [all_append, live_append]; simp [crs]
/-- more pieces have all that fewer have -/
theorem more_has {r : Int} {a b : List (List PtT)} (ha : humps r a) (hb : humps r b) {x : Int} (h : hasS (rowS (crs r (liveT r (edgesAll a)))) x = true) : hasS (rowS (crs r (liveT r (edgesAll (a ++ b))))) x = true := by
  rw [crs_all_append]
  exact hump_has (all_zero r a) (all_zero r b) (all_le r a ha) (all_le r b hb) h
theorem hump_nil (r : Int) : Hump (sumTo (crs r (liveT r (edgesAll [])))) := ⟨fun x => by simp [edgesAll, liveT, crs, sumTo, sumF], fun x y z _ _ h => absurd (by simp [edgesAll, liveT, crs, sumTo, sumF]) h⟩
/-- what is put to pieces -/
def putO (pc : List PtT) : List (List PtT) := if convexB (oriT pc) = true then [oriT pc] else []
theorem putT_L (qs : List (List PtT)) (pc : List PtT) : putT qs pc = qs ++ putO pc := by
  unfold putT putO; split <;> simp
theorem putO_humps {pc : List PtT} (h : BndP pc) (r : Int) : humps r (putO pc) := fun q hq => by
  unfold putO at hq
  split at hq
  · rename_i hc
    rw [List.mem_singleton.1 hq]; exact ⟨oriT_bnd h, hc⟩
  · cases hq
theorem putO_hump {pc : List PtT} (h : BndP pc) (r : Int) : Hump (sumTo (crs r (liveT r (edgesAll (putO pc))))) := by
  unfold putO
  split
  · rename_i hc
    rw [show edgesAll [oriT pc] = edgesOf (oriT pc) by simp [edgesAll]]
    exact hump_piece (oriT_bnd h) hc r
  · exact hump_nil r
theorem putO_len {pc : List PtT} (h : BndP pc) (r : Int) : (rowS (crs r (liveT r (edgesAll (putO pc))))).length ≤ 1 := hump_len (all_zero r _) (putO_hump h r)
theorem putO_len2 {p q : List PtT} (hp : BndP p) (hq : BndP q) (r : Int) : (rowS (crs r (liveT r (edgesAll (putO p ++ putO q))))).length ≤ 2 := by
  rw [crs_all_append]
  exact humps_len (all_zero r _) (all_zero r _) (putO_hump hp r) (putO_hump hq r)

end Go.Proofs.Ytllhohbenniaaaa

/- A row has one span at most of a convex piece; more pieces have all that one has. Conditions: none. -/
namespace Go.Proofs.Ytllhohbenniaaaa
open Go.Proofs Go.RowKit Go.Shelf

theorem pcsW_two {v a b : Value} {p q : List PtT} (h : RowV v 2) (hp : RowV a p.length) (hq : RowV b q.length) : PcsW v [a, b] [p, q] := pcsW_of (ps := [p, q]) h (by show 2 ≤ 1000000; omega) (All2.append (.one hp) (.one hq) : All2 RV ([a] ++ [b]) ([p] ++ [q]))
theorem Bn20.two {p q : List PtT} (h : Bn20 [p, q]) : BndP p ∧ BndP q := ⟨h.2 0 (by show 0 < 2; omega), h.2 1 (by show 1 < 2; omega)⟩
theorem put_nil (p : List PtT) : putT [] p = putO p := putT_L [] p
theorem putO_size (p : List PtT) : (putO p).length ≤ 1 := by unfold putO; split <;> simp
theorem putO_bnd {p : List PtT} (h : BndP p) : ∀ q ∈ putO p, BndP q := fun q hq => (putO_humps h 0 q hq).1
theorem bnd_of {ps : List (List PtT)} (hl : ps.length ≤ 20) (h : ∀ q ∈ ps, BndP q) : Bnd ps := ⟨hl, fun i hi => h _ (by rw [List.getD_eq_getElem?_getD, List.getElem?_eq_getElem hi]; exact List.getElem_mem _)⟩
theorem pcsW_none : PcsW (.slice none 0 0) [] [] := pcsW_of .nil0 (Nat.zero_le _) .nil
theorem pcsAt_none (w : World) : PcsAt w (.slice none 0 0) [] [] := pcsAt_of ⟨rfl, fun j u hu => by simp at hu, fun u hu => by simp at hu⟩ .nil
theorem capd_none : Capd (.slice none 0 0) := fun a n c h => by cases h; exact Nat.le_refl _
theorem rows_le (r : Int) (ps : List (List PtT)) : (rowS (crs r (liveT r (edgesAll ps)))).length ≤ (edgesAll ps).length := by
  have h1 := rowS_len (crs r (liveT r (edgesAll ps))); rw [crs_len] at h1
  exact Nat.le_trans h1 (List.length_filter_le _ _)
set_option maxHeartbeats 4000000 in
theorem a_SpansConvex (w : World) (pv qv : Value) (p q : List PtT) (r x : Int) (hP : RowV pv p.length) (hQ : RowV qv q.length) (hrp : RowAt w pv 2 p.length (p.flatMap eP)) (hrq : RowAt w qv 2 q.length (q.flatMap eP)) : Calls Try.prog 4 #[pv, qv, .int .i64 r, .int .i64 x] w fun e w' => e = .returned (.bool true) ∧ Below w.heap.size w w' := by
  have hp : ∀ w', Chg (fun _ => False) w w' → RowAt w' pv 2 p.length (p.flatMap eP) := fun w' h => hrp.chg h (fun h => h)
  have hq : ∀ w', Chg (fun _ => False) w w' → RowAt w' qv 2 q.length (q.flatMap eP) := fun w' h => hrq.chg h (fun h => h)
  obtain ⟨ap, cp, rfl⟩ := hP.sl
  obtain ⟨aq, cq, rfl⟩ := hQ.sl
  refine calls_of (args := [.slice ap p.length cp, .slice aq q.length cq, .int .i64 r, .int .i64 x]) Try.func4 rfl Try.ntmps4 Try.results4 rfl ?_
  refine v_seq ?_
  refine v_region ?_
  refine l_val rfl (o_assign rfl) ?_
  refine l_nil ?_
  refine kt_norm ?_
  refine v_seq ?_
  refine v_seq ?_
  refine v_region ?_
  refine l_val rfl (o_move rfl) ?_
  refine l_val rfl (o_move rfl) ?_
  refine l_buildSlice (vs := [_, _]) (cs := [_, _]) rfl rfl rfl rfl rfl rfl fun v15 hv15 => ?_
  refine l_call (ks := [15]) rfl (o_callC (vs := [_]) (r := .bool (decide (Bn20 [p, q]))) (ent_of Try.func17 rfl rfl) rfl (fun w' hg hh => a_bounded20 w' v15 _ [p, q] (pcsW_two hv15 hP hQ) (pcsAt_two (rowAt_own (hh 15 (by simp) _ rfl)) (hp w' hg) (hq w' hg)))) ?_
  refine lz_bool (fun hbb => ?_) (fun hbb => ?_)
  · have hbp := hbb.two.1
    have hbq := hbb.two.2
    have hnp := hbp.near
    have hnq := hbq.near
    have hlp := hbp.1
    have hlq := hbq.1
    have hpl := putO_size p
    have hql := putO_size q
    have hbA : Bnd (putO p) := bnd_of (by omega) (putO_bnd hbp)
    have hbB : Bnd (putO p ++ putO q) := bnd_of (by rw [List.length_append]; omega) (fun x hx => (List.mem_append.1 hx).elim (putO_bnd hbp x) (putO_bnd hbq x))
    refine l_val rfl (o_not rfl rfl) ?_
    refine l_val rfl (o_move rfl) ?_
    refine l_val rfl (o_move rfl) ?_
    refine l_ans (vs := [_]) rfl rfl (a_row20 _) ?_
    refine lz_bool (fun q1 => ?_) (fun q1 => ?_)
    · skip
      refine l_val rfl (o_not rfl rfl) ?_
      refine l_val rfl (o_pickF rfl rfl) ?_
      refine l_val rfl (o_move rfl) ?_
      refine l_val rfl (o_move rfl) ?_
      refine l_ans (vs := [_]) rfl rfl (a_far _) ?_
      refine lz_bool (fun q2 => ?_) (fun q2 => ?_)
      · skip
        refine l_val rfl (o_pickF rfl rfl) ?_
        refine l_val rfl (o_move rfl) ?_
        refine l_no rfl ?_
        refine l_no rfl ?_
        refine l_val rfl (o_pickT rfl rfl) ?_
        refine l_nil ?_
        refine kt_norm ?_
        refine v_sel [0, 1, 2, 3, 30] [] rfl rfl ?_
        refine v_condT rfl ?_
        refine v_seq ?_
        refine v_region ?_
        refine l_ans (vs := []) rfl rfl (a_shown20) ?_
        refine l_val rfl (o_assign rfl) ?_
        refine l_nil ?_
        refine kt_norm ?_
        refine v_sel [8] [] rfl rfl ?_
        refine v_ret ?_
        refine kt_ret ?_
        refine ⟨[_], .cons (.tmp rfl) (ResAll.nil), ?_⟩
        rfl
      · skip
        refine l_val rfl (o_pickF rfl rfl) ?_
        refine l_val rfl (o_move rfl) ?_
        refine l_ans (vs := []) rfl rfl (a_shown20) ?_
        refine l_val rfl (o_not rfl rfl) ?_
        refine l_val rfl (o_pickF rfl rfl) ?_
        refine l_nil ?_
        refine kt_norm ?_
        refine v_sel [0, 1, 2, 3, 30] [] rfl rfl ?_
        refine v_condF rfl ?_
        refine v_skip ?_
        refine kt_norm ?_
        refine v_seq ?_
        refine v_region ?_
        refine l_val rfl (o_move rfl) ?_
        refine l_gsaid (ks := []) (caps := #[]) (vs := [_, _]) (α := PutY 0 p) (fun o => putV _ o.1) (fun o w2 => putG [] p o.1 w2) (fun o b => putB o.1 b) rfl rfl (ent_of Try.func21 rfl rfl) rfl (fun o => putG_keep o.1) (fun o => putG_lt o.1) (fun w' hg hh => a_Put w' none 0 0 [] (.slice ap p.length cp) p (by omega) (Nat.le_refl 0) .nil0 (pcsAt_none w').row (by omega) hP (hp w' hg) hnp) fun o1 => ?_
        have hW1 := pcsW_put pcsW_none (Nat.zero_le _) o1
        have hC1 := capd_put capd_none o1.1
        have hT1 := fun w2 (h : putG [] p o1.1 w2) => pcsAt_put pcsW_none (pcsAt_none w2) o1 h
        rw [put_nil] at hW1
        simp only [put_nil] at hT1
        obtain ⟨tv1, htv1⟩ : ∃ t, putV (.slice none 0 0) o1.1 = t := ⟨_, rfl⟩
        obtain ⟨ts1, hts1⟩ : ∃ t, putW [] o1.1 = t := ⟨_, rfl⟩
        simp only [htv1, hts1] at hW1 hC1 hT1 ⊢
        obtain ⟨a1, c1, rfl⟩ := hW1.V.sl
        refine l_val rfl (o_assign rfl) ?_
        refine l_nil ?_
        refine kt_norm ?_
        refine v_seq ?_
        refine v_region ?_
        refine l_val rfl (o_move rfl) ?_
        refine l_val rfl (o_move rfl) ?_
        refine l_gsaid (ks := []) (caps := #[]) (vs := [_, _]) (α := PutY (putO p).length q) (fun o => putV _ o.1) (fun o w2 => putG ts1 q o.1 w2) (fun o b => putB o.1 b) rfl rfl (ent_of Try.func21 rfl rfl) rfl (fun o => putG_keep o.1) (fun o => putG_lt o.1) (fun w' hg hh => a_Put w' a1 (putO p).length c1 ts1 (.slice aq q.length cq) q (by omega) (hC1 _ _ _ rfl) hW1.V (hT1 w' hg.2).row (by omega) hQ (hq w' hg.1) hnq) fun o2 => ?_
        have hW2 := pcsW_put hW1 (by omega) o2
        have hT2 := fun w2 (h1 : putG [] p o1.1 w2) (h : putG ts1 q o2.1 w2) => pcsAt_put hW1 (hT1 w2 h1) o2 h
        rw [putT_L] at hW2
        simp only [putT_L] at hT2
        obtain ⟨tv2, htv2⟩ : ∃ t, putV (.slice a1 (putO p).length c1) o2.1 = t := ⟨_, rfl⟩
        obtain ⟨ts2, hts2⟩ : ∃ t, putW ts1 o2.1 = t := ⟨_, rfl⟩
        simp only [htv2, hts2] at hW2 hT2 ⊢
        refine l_val rfl (o_assign rfl) ?_
        refine l_nil ?_
        refine kt_norm ?_
        refine v_sel [2, 3, 9, 10] [] rfl rfl ?_
        refine v_seq ?_
        refine v_region ?_
        have hA3 := edgesAll_len hbA
        have hB3 := edgesAll_len hbB
        have hAl := rows_le r (putO p)
        have hBl := rows_le r (putO p ++ putO q)
        have hAo := all_spOk hbA r
        have hBo := all_spOk hbB r
        have hA1 := putO_len hbp r
        have hB2 := putO_len2 hbp hbq r
        have hmh : ∀ x, hasS (rowS (crs r (liveT r (edgesAll (putO p))))) x = true → hasS (rowS (crs r (liveT r (edgesAll (putO p ++ putO q))))) x = true := fun x => more_has (putO_humps hbp r) (putO_humps hbq r)
        have hms := sumS_mono hmh hAo hBo
        refine l_val rfl (o_move rfl) ?_
        refine l_gown (ks := []) (caps := #[]) (vs := [_]) rfl rfl (ent_of Try.func23 rfl rfl) rfl (fun w' hg hh => a_all w' _ ts1 (putO p) hbA (hbA.pcsV hW1) (hT1 w' hg.1.2)) fun yla hyla => ?_
        refine l_val rfl (o_move rfl) ?_
        refine l_gown (ks := [38]) (caps := #[]) (vs := [_, _]) rfl rfl (ent_of Try.func22 rfl rfl) rfl (fun w' hg hh => a_Spans w' yla (edgesAll (putO p)) r (by omega) hyla (rowAt_own (hh 38 (by simp) _ rfl)) (all_cross hbA r)) fun ya hya => ?_
        refine l_val rfl (o_assign rfl) ?_
        refine l_nil ?_
        refine kt_norm ?_
        refine v_seq ?_
        refine v_region ?_
        refine l_val rfl (o_move rfl) ?_
        refine l_gown (ks := []) (caps := #[]) (vs := [_]) rfl rfl (ent_of Try.func23 rfl rfl) rfl (fun w' hg hh => a_all w' _ ts2 (putO p ++ putO q) hbB (hbB.pcsV hW2) (hT2 w' hg.1.2 hg.2)) fun ylb hylb => ?_
        refine l_val rfl (o_move rfl) ?_
        refine l_gown (ks := [42]) (caps := #[]) (vs := [_, _]) rfl rfl (ent_of Try.func22 rfl rfl) rfl (fun w' hg hh => a_Spans w' ylb (edgesAll (putO p ++ putO q)) r (by omega) hylb (rowAt_own (hh 42 (by simp) _ rfl)) (all_cross hbB r)) fun yb hyb => ?_
        refine l_val rfl (o_assign rfl) ?_
        refine l_nil ?_
        refine kt_norm ?_
        refine v_sel [3, 11, 12] [40, 44] rfl rfl ?_
        refine v_seq ?_
        refine v_region ?_
        refine l_val rfl (o_move rfl) ?_
        refine l_val rfl (o_len rfl hya) ?_
        refine l_split rfl (o_leq rfl rfl) (fun q3 => ?_) (fun q3 => absurd (show _ by omega) q3)
        refine l_val rfl (o_move rfl) ?_
        refine l_val rfl (o_move rfl) ?_
        refine l_val rfl (o_len rfl hyb) ?_
        refine l_split rfl (o_leq rfl rfl) (fun q4 => ?_) (fun q4 => absurd (show _ by omega) q4)
        refine l_val rfl (o_pickT rfl rfl) ?_
        refine l_val rfl (o_move rfl) ?_
        refine l_val rfl (o_move rfl) ?_
        refine l_val rfl (o_move rfl) ?_
        refine l_call (ks := [40]) rfl (o_callC (vs := [_, _]) (r := .bool (hasS (rowS (crs r (liveT r (edgesAll (putO p))))) x)) (ent_of Try.func24 rfl rfl) rfl (fun w' hg hh => a_Has w' ya (rowS (crs r (liveT r (edgesAll (putO p))))) x (by omega) hya (rowAt_own (hh 40 (by simp) _ rfl)))) ?_
        cases hha : hasS (rowS (crs r (liveT r (edgesAll (putO p))))) x
        · skip
          refine l_val rfl (o_not rfl rfl) ?_
          refine l_val rfl (o_move rfl) ?_
          refine l_no rfl ?_
          refine l_no rfl ?_
          refine l_no rfl ?_
          refine l_val rfl (o_pickT rfl rfl) ?_
          refine l_val rfl (o_pickT rfl rfl) ?_
          refine l_val rfl (o_move rfl) ?_
          refine l_val rfl (o_move rfl) ?_
          refine l_call (ks := [40]) rfl (o_callC (vs := [_]) (r := .int .i64 (sumS (rowS (crs r (liveT r (edgesAll (putO p))))))) (ent_of Try.func25 rfl rfl) rfl (fun w' hg hh => a_Sum w' ya (rowS (crs r (liveT r (edgesAll (putO p))))) (by omega) hAo hya (rowAt_own (hh 40 (by simp) _ rfl)))) ?_
          refine l_val rfl (o_move rfl) ?_
          refine l_call (ks := [44]) rfl (o_callC (vs := [_]) (r := .int .i64 (sumS (rowS (crs r (liveT r (edgesAll (putO p ++ putO q))))))) (ent_of Try.func25 rfl rfl) rfl (fun w' hg hh => a_Sum w' yb (rowS (crs r (liveT r (edgesAll (putO p ++ putO q))))) (by omega) hBo hyb (rowAt_own (hh 44 (by simp) _ rfl)))) ?_
          refine l_split rfl (o_leq rfl rfl) (fun q5 => ?_) (fun q5 => absurd (show _ by omega) q5)
          refine l_val rfl (o_pickT rfl rfl) ?_
          refine l_val rfl (o_assign rfl) ?_
          refine l_nil ?_
          refine kt_norm ?_
          refine v_sel [8] [] rfl rfl ?_
          refine v_ret ?_
          refine ⟨[_], .cons (.tmp rfl) (ResAll.nil), ?_⟩
          rfl
        · skip
          refine l_val rfl (o_not rfl rfl) ?_
          refine l_val rfl (o_move rfl) ?_
          refine l_val rfl (o_move rfl) ?_
          refine l_val rfl (o_move rfl) ?_
          refine l_call (ks := [44]) rfl (o_callC (vs := [_, _]) (r := .bool true) (ent_of Try.func24 rfl rfl) rfl (fun w' hg hh => hmh x hha ▸ a_Has w' yb (rowS (crs r (liveT r (edgesAll (putO p ++ putO q))))) x (by omega) hyb (rowAt_own (hh 44 (by simp) _ rfl)))) ?_
          refine l_val rfl (o_pickF rfl rfl) ?_
          refine l_val rfl (o_pickT rfl rfl) ?_
          refine l_val rfl (o_move rfl) ?_
          refine l_val rfl (o_move rfl) ?_
          refine l_call (ks := [40]) rfl (o_callC (vs := [_]) (r := .int .i64 (sumS (rowS (crs r (liveT r (edgesAll (putO p))))))) (ent_of Try.func25 rfl rfl) rfl (fun w' hg hh => a_Sum w' ya (rowS (crs r (liveT r (edgesAll (putO p))))) (by omega) hAo hya (rowAt_own (hh 40 (by simp) _ rfl)))) ?_
          refine l_val rfl (o_move rfl) ?_
          refine l_call (ks := [44]) rfl (o_callC (vs := [_]) (r := .int .i64 (sumS (rowS (crs r (liveT r (edgesAll (putO p ++ putO q))))))) (ent_of Try.func25 rfl rfl) rfl (fun w' hg hh => a_Sum w' yb (rowS (crs r (liveT r (edgesAll (putO p ++ putO q))))) (by omega) hBo hyb (rowAt_own (hh 44 (by simp) _ rfl)))) ?_
          refine l_split rfl (o_leq rfl rfl) (fun q6 => ?_) (fun q6 => absurd (show _ by omega) q6)
          refine l_val rfl (o_pickT rfl rfl) ?_
          refine l_val rfl (o_assign rfl) ?_
          refine l_nil ?_
          refine kt_norm ?_
          refine v_sel [8] [] rfl rfl ?_
          refine v_ret ?_
          refine ⟨[_], .cons (.tmp rfl) (ResAll.nil), ?_⟩
          rfl
    · skip
      refine l_val rfl (o_not rfl rfl) ?_
      refine l_val rfl (o_pickF rfl rfl) ?_
      refine l_val rfl (o_move rfl) ?_
      refine l_no rfl ?_
      refine l_no rfl ?_
      refine l_val rfl (o_pickT rfl rfl) ?_
      refine l_val rfl (o_move rfl) ?_
      refine l_no rfl ?_
      refine l_no rfl ?_
      refine l_val rfl (o_pickT rfl rfl) ?_
      refine l_nil ?_
      refine kt_norm ?_
      refine v_sel [0, 1, 2, 3, 30] [] rfl rfl ?_
      refine v_condT rfl ?_
      refine v_seq ?_
      refine v_region ?_
      refine l_ans (vs := []) rfl rfl (a_shown20) ?_
      refine l_val rfl (o_assign rfl) ?_
      refine l_nil ?_
      refine kt_norm ?_
      refine v_sel [8] [] rfl rfl ?_
      refine v_ret ?_
      refine kt_ret ?_
      refine ⟨[_], .cons (.tmp rfl) (ResAll.nil), ?_⟩
      rfl
  · skip
    refine l_val rfl (o_not rfl rfl) ?_
    refine l_val rfl (o_move rfl) ?_
    refine l_no rfl ?_
    refine l_no rfl ?_
    refine l_no rfl ?_
    refine l_val rfl (o_pickT rfl rfl) ?_
    refine l_val rfl (o_move rfl) ?_
    refine l_no rfl ?_
    refine l_no rfl ?_
    refine l_val rfl (o_pickT rfl rfl) ?_
    refine l_val rfl (o_move rfl) ?_
    refine l_no rfl ?_
    refine l_no rfl ?_
    refine l_val rfl (o_pickT rfl rfl) ?_
    refine l_nil ?_
    refine kt_norm ?_
    refine v_sel [0, 1, 2, 3, 30] [] rfl rfl ?_
    refine v_condT rfl ?_
    refine v_seq ?_
    refine v_region ?_
    refine l_ans (vs := []) rfl rfl (a_shown20) ?_
    refine l_val rfl (o_assign rfl) ?_
    refine l_nil ?_
    refine kt_norm ?_
    refine v_sel [8] [] rfl rfl ?_
    refine v_ret ?_
    refine kt_ret ?_
    refine ⟨[_], .cons (.tmp rfl) (ResAll.nil), ?_⟩
    rfl
end Go.Proofs.Ytllhohbenniaaaa
