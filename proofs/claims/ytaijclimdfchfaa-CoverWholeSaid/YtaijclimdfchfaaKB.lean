import Derived.Test.YtaijclimdfchfaaKA
/- Operations: what each does to the state; regions in the order of the text; regions that draw their order: one run in the order of the text tells all. Conditions: none. -/
namespace Go.Proofs.Ytaijclimdfchfaa
open Go.Proofs Go.RowKit

def isNew (o : Oper) : Bool := match o.op with | .alloc _ | .box _ _ | .buildSlice _ _ _ | .makeSlice _ _ _ => true | .call c => (match c.callee with | .value _ => true | _ => false) | _ => false
def isApp (o : Oper) : Bool := match o.op with | .call c => (match c.callee with | .builtin .append => true | _ => false) | _ => false
def isSt (o : Oper) : Bool := match o.op with | .store _ _ _ => true | .call c => (match c.callee with | .builtin .append => true | _ => false) | _ => false
/-- its outcome is drawn: a block, a value -/
def draws (o : Oper) : Bool := isNew o || isApp o

variable {C : Cx} {s : St} {a : Act} {w w' : World} {K : Exit → St → Prop} {ops : Array Oper} {o : Oper}

def Reads (C : Cx) (s : St) (o : Oper) (ρ : Operand → Value) : Prop := ∀ x ∈ o.op.operands, ∀ v, ev C s x = some v → ρ x = v
def Held (s : St) (ks : List Nat) (w : World) : Prop := ∀ k ∈ ks, ∀ h, s.m k = some h → h.ok w

theorem reads_of (hr : Rep C s a w) : Reads C s o a.eval := fun x _ v h => ev_ok hr h
theorem held_of (hr : Rep C s a w) (ks : List Nat) : Held s ks w := fun k _ h hk => (hr.mo k h hk).1

/-- a value, the world as it was -/
structure OpV (C : Cx) (s : St) (o : Oper) (ks : List Nat) (y : Value) : Prop where
  hd : ∀ c, o.op ≠ .defer c
  run : ∀ (ρ : Operand → Value) (w : World), Reads C s o ρ → s.g w → Held s ks w → (execOp ρ o).run C.P w = .ok (.value y) w
/-- a call that is entered; it turns nothing -/
structure OpC (C : Cx) (s : St) (o : Oper) (ks : List Nat) (y : Value) : Prop where
  hd : ∀ c, o.op ≠ .defer c
  run : ∀ (ρ : Operand → Value) (w : World), Reads C s o ρ → s.g w → Held s ks w → ∃ f args, (execOp ρ o).run C.P w = .ok (.enter f args) w ∧ Calls C.P f args w fun e w' => e = .returned y ∧ Below w.heap.size w w'
/-- a store -/
structure OpS (C : Cx) (s : St) (o : Oper) (k : Nat) (h h' : Hp) : Prop where
  hd : ∀ c, o.op ≠ .defer c
  hk : s.m k = some h
  hb : h'.blk = h.blk
  run : ∀ (ρ : Operand → Value) (w : World), Reads C s o ρ → h.ok w → ∃ w', (execOp ρ o).run C.P w = .ok .skip w' ∧ h'.ok w' ∧ Chg (fun b => h.blk = some b) w w'
/-- a new box -/
structure OpN (C : Cx) (s : St) (o : Oper) (X : Nat → Value) (T : TypeId) (cs : List Value) : Prop where
  hd : ∀ c, o.op ≠ .defer c
  run : ∀ (ρ : Operand → Value) (w : World), Reads C s o ρ → (execOp ρ o).run C.P w = .ok (.value (X w.heap.size)) (w.alloc (.cells cs.toArray T))

/-- a call that makes a block and turns nothing -/
structure OpO (C : Cx) (s : St) (o : Oper) (ks : List Nat) (RV : Value → Prop) (H : Value → Hp) : Prop where
  hd : ∀ c, o.op ≠ .defer c
  run : ∀ (ρ : Operand → Value) (w : World), Reads C s o ρ → s.g w → Held s ks w → ∃ f args, (execOp ρ o).run C.P w = .ok (.enter f args) w ∧ Calls C.P f args w fun e w' => ∃ y, e = .returned y ∧ RV y ∧ Below w.heap.size w w' ∧ (H y).ok w' ∧ ∀ b, (H y).blk = some b → w.heap.size ≤ b
/-- a row of ours grows, where it lies or elsewhere -/
structure OpA (C : Cx) (s : St) (o : Oper) (ks : List Nat) (k : Nat) (h0 : Hp) (RV : Value → Prop) (H : Value → Hp) : Prop where
  hd : ∀ c, o.op ≠ .defer c
  hk : s.m k = some h0
  run : ∀ (ρ : Operand → Value) (w : World), Reads C s o ρ → s.g w → Held s ks w → h0.ok w → ∃ y w', (execOp ρ o).run C.P w = .ok (.value y) w' ∧ RV y ∧ (H y).ok w' ∧ Chg (fun b => h0.blk = some b) w w' ∧ ∀ b, (H y).blk = some b → h0.blk = some b ∨ w.heap.size ≤ b

def appS (s : St) (d : Option Nat) (r : Value × Wr) : St := (s.mem r.2).put d r.1

theorem wpIn_value {y : Value} {K : Act → World → Prop} {Q : Exit → Act → World → Prop} (hd : ∀ c, o.op ≠ .defer c) (hrun : (execOp a.eval o).run C.P w = .ok (.value y) w') (hK : K (a.put o.dst y) w') : o.wpIn C.F C.n C.P a w K Q := by
  refine ⟨fun f _ => C.all f, ?_⟩
  rw [Oper.semAt_eq _ _ _ hd, hrun]
  exact hK
theorem wpIn_skipOp {K : Act → World → Prop} {Q : Exit → Act → World → Prop} (hd : ∀ c, o.op ≠ .defer c) (hrun : (execOp a.eval o).run C.P w = .ok .skip w') (hK : K (a.put o.dst undef) w') : o.wpIn C.F C.n C.P a w K Q := by
  refine ⟨fun f _ => C.all f, ?_⟩
  rw [Oper.semAt_eq _ _ _ hd, hrun]
  exact hK
theorem wpIn_enter {f : Nat} {args : Array Value} {R : Value → World → Prop} {K : Act → World → Prop} {Q : Exit → Act → World → Prop} (hd : ∀ c, o.op ≠ .defer c) (hrun : (execOp a.eval o).run C.P w = .ok (.enter f args) w')
    (hc : Calls C.P f args w' fun e w'' => ∃ y, e = .returned y ∧ R y w'') (hK : ∀ y w'', R y w'' → K (a.put o.dst y) w'') : o.wpIn C.F C.n C.P a w K Q := by
  refine ⟨fun f _ => C.all f, ?_⟩
  rw [Oper.semAt_eq _ _ _ hd, hrun]
  refine ⟨by simp [C.nod], C.callsIn (hc.mono ?_)⟩
  rintro e w'' ⟨y, rfl, h⟩
  exact hK y w'' h

theorem rep_new (hr : Rep C s a w) (d : Nat) (X : Nat → Value) (T : TypeId) (cs : List Value) :
    Rep C (appS s (some d) (X w.heap.size, some (d, .box w.heap.size T cs))) (a.put (some d) (X w.heap.size)) (w.alloc (.cells cs.toArray T)) := by
  refine rep_put (s := s.mem _) ?_ (some d) _
  have hlt : ∀ k h, s.m k = some h → ∀ b, h.blk = some b → b < w.heap.size := fun k h hk b hb => Hp.lt (hr.mo k h hk).1 hb
  refine rep_chg hr (fun _ => False) (Chg.alloc _ w _) (fun _ h => h.elim) _ (fun k h hh => ?_) fun k k' h h' b hh hh' e e' => ?_
  · by_cases e : k = d
    · subst e; rw [updN_same] at hh; cases hh
      exact .inr ⟨Blk.new w _ T, fun b hb => by cases hb; exact .inr (Nat.le_refl _)⟩
    · rw [updN_other _ _ e] at hh; exact .inl ⟨hh, fun _ _ h => h⟩
  · by_cases e1 : k = d <;> by_cases e2 : k' = d
    · rw [e1, e2]
    · subst e1; rw [updN_same] at hh; cases hh; rw [updN_other _ _ e2] at hh'
      cases e; have := hlt k' h' hh' _ e'; omega
    · subst e2; rw [updN_same] at hh'; cases hh'; rw [updN_other _ _ e1] at hh
      cases e'; have := hlt k h hh _ e; omega
    · rw [updN_other _ _ e1] at hh; rw [updN_other _ _ e2] at hh'; exact hr.inj k k' h h' b hh hh' e e'

theorem rep_newH (hr : Rep C s a w) {h1 : Hp} (hb : Below w.heap.size w w') (ho : h1.ok w') (hn : ∀ b, h1.blk = some b → w.heap.size ≤ b) (d : Nat) : Rep C (s.mem (some (d, h1))) a w' := by
  have hlt : ∀ k h, s.m k = some h → ∀ b, h.blk = some b → b < w.heap.size := fun k h hk b hb => Hp.lt (hr.mo k h hk).1 hb
  refine rep_chg hr (fun _ => False) (Chg.of_below hb) (fun _ h => h.elim) _ (fun k h hh => ?_) fun k k' h h' b hh hh' e e' => ?_
  · by_cases e : k = d
    · subst e; rw [updN_same] at hh; cases hh
      exact .inr ⟨ho, fun b hb => .inr (hn b hb)⟩
    · rw [updN_other _ _ e] at hh; exact .inl ⟨hh, fun _ _ h => h⟩
  · by_cases e1 : k = d <;> by_cases e2 : k' = d
    · rw [e1, e2]
    · subst e1; rw [updN_same] at hh; cases hh; rw [updN_other _ _ e2] at hh'
      have := hn b e; have := hlt k' h' hh' b e'; omega
    · subst e2; rw [updN_same] at hh'; cases hh'; rw [updN_other _ _ e1] at hh
      have := hn b e'; have := hlt k h hh b e; omega
    · rw [updN_other _ _ e1] at hh; rw [updN_other _ _ e2] at hh'; exact hr.inj k k' h h' b hh hh' e e'
theorem rep_grow (hr : Rep C s a w) {k : Nat} {h0 h1 : Hp} (hk : s.m k = some h0) (hc : Chg (fun b => h0.blk = some b) w w') (ho : h1.ok w') (hb : ∀ b, h1.blk = some b → h0.blk = some b ∨ w.heap.size ≤ b) : Rep C (s.mem (some (k, h1))) a w' := by
  have hm := hr.mo k h0 hk
  have hlt : ∀ k h, s.m k = some h → ∀ b, h.blk = some b → b < w.heap.size := fun k h hk b hb => Hp.lt (hr.mo k h hk).1 hb
  refine rep_chg hr _ hc (fun b hb' _ => ⟨hm.2 b hb', fun hg => (hr.gd b hg).2 k h0 hk hb', fun o ho' => ?_⟩) _ (fun j u hu => ?_) fun j j' u u' b hu hu' e e' => ?_
  · obtain ⟨o', h1, h2⟩ := Hp.isCells hm.1 hb'
    rw [h1] at ho'; cases ho'; exact h2
  · by_cases e : j = k
    · subst e; rw [updN_same] at hu; cases hu
      exact .inr ⟨ho, fun b hb' => (hb b hb').imp (fun h => ⟨h, hlt j h0 hk b h⟩) id⟩
    · rw [updN_other _ _ e] at hu
      exact .inl ⟨hu, fun b hb' hb'' => e (hr.inj j k u h0 b hu hk hb' hb'')⟩
  · have key1 : ∀ i v, s.m i = some v → i ≠ k → v.blk = some b → h1.blk = some b → False := fun i v hv hne hb1 hb2 => by
      rcases hb b hb2 with h3 | h3
      · exact hne (hr.inj i k v h0 b hv hk hb1 h3)
      · have := hlt i v hv b hb1; omega
    by_cases e1 : j = k <;> by_cases e2 : j' = k
    · rw [e1, e2]
    · subst e1; rw [updN_same] at hu; cases hu; rw [updN_other _ _ e2] at hu'; exact (key1 j' u' hu' e2 e' e).elim
    · subst e2; rw [updN_same] at hu'; cases hu'; rw [updN_other _ _ e1] at hu; exact (key1 j u hu e1 e e').elim
    · rw [updN_other _ _ e1] at hu; rw [updN_other _ _ e2] at hu'; exact hr.inj j j' u u' b hu hu' e e'

theorem rep_store (hr : Rep C s a w) {k : Nat} {h h' : Hp} (hk : s.m k = some h) (hb : h'.blk = h.blk) (ho : h'.ok w') (hc : Chg (fun b => h.blk = some b) w w') : Rep C (s.mem (some (k, h'))) a w' := by
  have hm := hr.mo k h hk
  refine rep_chg hr _ hc (fun b hb' hlt => ⟨hm.2 b hb', fun hg => (hr.gd b hg).2 k h hk hb', fun o ho' => ?_⟩) _ (fun j u hu => ?_) fun j j' u u' b hu hu' e e' => ?_
  · obtain ⟨o', h1, h2⟩ := Hp.isCells hm.1 hb'
    rw [h1] at ho'; cases ho'; exact h2
  · by_cases e : j = k
    · subst e; rw [updN_same] at hu; cases hu
      exact .inr ⟨ho, fun b hb' => .inl ⟨by rw [← hb]; exact hb', Hp.lt hm.1 (by rw [← hb]; exact hb')⟩⟩
    · rw [updN_other _ _ e] at hu
      exact .inl ⟨hu, fun b hb' hb'' => e (hr.inj j k u h b hu hk hb' hb'')⟩
  · have key : ∀ i v, updN s.m k (some h') i = some v → ∃ v', s.m i = some v' ∧ v'.blk = v.blk := fun i v hv => by
      by_cases ei : i = k
      · subst ei; rw [updN_same] at hv; cases hv; exact ⟨h, hk, hb.symm⟩
      · rw [updN_other _ _ ei] at hv; exact ⟨v, hv, rfl⟩
    obtain ⟨v, h1, h2⟩ := key j u hu
    obtain ⟨v', h1', h2'⟩ := key j' u' hu'
    exact hr.inj j j' v v' b h1 h1' (h2.trans e) (h2'.trans e')

/-! ### in the order of the text -/
def wantS (C : Cx) (s : St) (ops : Array Oper) (o : Oper) : Option Bool := match o.guard with
  | none => some true
  | some (j, want) => (match (ops[j]?).bind (·.dst) with
    | some d => (match ev C s (.tmp d) with | some (.bool b) => some (b == want) | _ => none)
    | none => none)

theorem want_ok (hr : Rep C s a w) {b : Bool} (h : wantS C s ops o = some b) : Region.wanted o (yielded ops a.tmps) = b := by
  unfold wantS at h
  unfold Region.wanted
  split at h
  · rename_i hg; rw [hg]; cases h; rfl
  · rename_i j want hg
    rw [hg]
    simp only
    split at h
    · rename_i d hd
      split at h
      · rename_i x hx
        cases h
        have he' : a.tmps.getD d undef = .bool x := ev_ok hr hx
        have hlt : d < a.tmps.size := by
          rcases Nat.lt_or_ge d a.tmps.size with h | h
          · exact h
          · rw [Array.getD_eq_getD_getElem?, Array.getElem?_eq_none h] at he'; cases he'
        have hget : a.tmps[d]? = some (.bool x) := by
          rw [Array.getD_eq_getD_getElem?, Array.getElem?_eq_getElem hlt] at he'
          rw [Array.getElem?_eq_getElem hlt]; simpa using he'
        have : yielded ops a.tmps j = some x := by
          simp [yielded, hd, hget]
        rw [this]
        cases x <;> cases want <;> rfl
      · cases h
    · cases h

variable {rest : List Oper}
theorem vl_nil (h : K .normal s) : VL C ops [] K s := fun a w hr => wpListIn_nil ⟨s, hr, h⟩
theorem vl_step (hw : wantS C s ops o = some true) (h : ∀ a w, Rep C s a w → o.wpIn C.F C.n C.P a w (fun a' w' => ∃ s', Rep C s' a' w' ∧ VL C ops rest K s') (Post C K)) : VL C ops (o :: rest) K s := by
  intro a w hr
  unfold wpListIn
  rw [want_ok hr hw, if_pos rfl]
  refine Oper.wpIn_mono ?_ (h a w hr)
  rintro a' w' ⟨s', h1, h2⟩
  exact h2 a' w' h1
theorem vl_no' (hw : wantS C s ops o = some false) (h : VL C ops rest K (s.put o.dst undef)) : VL C ops (o :: rest) K s := by
  intro a w hr
  unfold wpListIn
  rw [want_ok hr hw, if_neg (by simp)]
  exact ⟨fun f _ => C.all f, h _ _ (rep_put hr _ _)⟩
theorem vl_val (hw : wantS C s ops o = some true) {ks : List Nat} {y : Value} (h : OpV C s o ks y) (next : VL C ops rest K (s.put o.dst y)) : VL C ops (o :: rest) K s :=
  vl_step hw fun a w hr => wpIn_value h.hd (h.run _ _ (reads_of hr) hr.gh (held_of hr ks)) ⟨_, rep_put hr _ _, next⟩
theorem vl_call (hw : wantS C s ops o = some true) {ks : List Nat} {y : Value} (h : OpC C s o ks y) (next : VL C ops rest K (s.put o.dst y)) : VL C ops (o :: rest) K s :=
  vl_step hw fun a w hr => by
    obtain ⟨f, args, h1, h2⟩ := h.run _ _ (reads_of hr) hr.gh (held_of hr ks)
    refine wpIn_enter (R := fun y' w' => y' = y ∧ Below w.heap.size w w') h.hd h1 (h2.mono fun e w' ⟨e1, e2⟩ => ⟨y, e1, rfl, e2⟩) ?_
    rintro _ w' ⟨rfl, hb⟩
    exact ⟨_, rep_put (rep_below hr hb) _ _, next⟩
theorem vl_store (hw : wantS C s ops o = some true) {k : Nat} {h h' : Hp} (hs : OpS C s o k h h') (hd : o.dst = none) (next : VL C ops rest K (s.mem (some (k, h')))) : VL C ops (o :: rest) K s :=
  vl_step hw fun a w hr => by
    obtain ⟨w', h1, h2, h3⟩ := hs.run _ _ (reads_of hr) (hr.mo k h hs.hk).1
    refine wpIn_skipOp hs.hd h1 ⟨_, ?_, next⟩
    rw [hd]
    exact rep_store hr hs.hk hs.hb h2 h3
theorem vl_new (hw : wantS C s ops o = some true) {X : Nat → Value} {T : TypeId} {cs : List Value} (h : OpN C s o X T cs) {d : Nat} (hd : o.dst = some d) (next : ∀ b, VL C ops rest K (appS s (some d) (X b, some (d, .box b T cs)))) : VL C ops (o :: rest) K s :=
  vl_step hw fun a w hr => by
    refine wpIn_value h.hd (h.run _ _ (reads_of hr)) ⟨_, ?_, next w.heap.size⟩
    rw [hd]
    exact rep_new hr d X T cs
theorem v_region {id : Nat} {l : List Oper} (h : VL C l.toArray l K s) : V C (.region id l.toArray false) K s := fun a w hr => wpIn_region_lit (h a w hr)

/-! ### whatever order -/
/-- what is drawn: for each slot a block and a value -/
structure Pr (wf : Nat → Value → Prop) where
  b : Nat → Nat
  v : Nat → Value
  ok : ∀ d, wf d (v d)
instance {wf : Nat → Value → Prop} : CoeFun (Pr wf) (fun _ => Nat → Nat) := ⟨Pr.b⟩
variable {wf : Nat → Value → Prop}
inductive OpP (C : Cx) (o : Oper) (S : Pr wf → St) : List Nat → (Pr wf → Value × Wr) → Prop
  | val {ks : List Nat} (y : Pr wf → Value) (h : ∀ σ, OpV C (S σ) o ks (y σ)) : OpP C o S ks (fun σ => (y σ, none))
  | call {ks : List Nat} (y : Value) (h : ∀ σ, OpC C (S σ) o ks y) : OpP C o S ks (fun _ => (y, none))
  | store (k : Nat) (h h' : Pr wf → Hp) (hst : isSt o = true) (hs : ∀ σ, OpS C (S σ) o k (h σ) (h' σ)) : OpP C o S [k] (fun σ => (undef, some (k, h' σ)))
  | new (d : Nat) (X : Nat → Value) (T : TypeId) (cs : Pr wf → List Value) (hn : isNew o = true) (hd : o.dst = some d) (h : ∀ σ, OpN C (S σ) o X T (cs σ)) : OpP C o S [] (fun σ => (X (σ.b d), some (d, .box (σ.b d) T (cs σ))))
  | newO (d n : Nat) (E : TypeId) (esz : Nat) (cs : Pr wf → List Value) (hn : isNew o = true) (hd : o.dst = some d) (hl : ∀ σ, (cs σ).length = n * esz) (hm : n ≤ maxLen) (h1 : ∀ σ, ∀ u ∈ cs σ, u.oneCell' = true) (h : ∀ σ, OpN C (S σ) o (fun b => .slice (some ⟨b, 0, none⟩) n n) E (cs σ)) :
      OpP C o S [] (fun σ => (.slice (some ⟨σ.b d, 0, none⟩) n n, some (d, .own (.slice (some ⟨σ.b d, 0, none⟩) n n) E esz n (cs σ))))
  | own {ks : List Nat} (d : Nat) (RV : Value → Prop) (H : Value → Hp) (hn : isNew o = true) (hd : o.dst = some d) (hwf : ∀ y, RV y → wf d y) (h : ∀ σ, OpO C (S σ) o ks RV H) : OpP C o S ks (fun σ => (σ.v d, some (d, H (σ.v d))))
  | app {ks : List Nat} (d k : Nat) (h0 : Pr wf → Hp) (RV : Value → Prop) (H : Pr wf → Value → Hp) (hst : isSt o = true) (ha : isApp o = true) (hd : o.dst = some d) (hwf : ∀ y, RV y → wf d y) (h : ∀ σ, OpA C (S σ) o ks k (h0 σ) RV (H σ)) : OpP C o S (k :: ks) (fun σ => (σ.v d, some (k, H σ (σ.v d))))

/-- an operation, wanted or not -/
def EvP (C : Cx) (ops : Array Oper) (S : Pr wf → St) (o : Oper × List Nat) (r : Pr wf → Value × Wr) : Prop :=
  ((∀ σ, wantS C (S σ) ops o.1 = some true) ∧ OpP C o.1 S o.2 r) ∨ ((∀ σ, wantS C (S σ) ops o.1 = some false) ∧ r = fun _ => (undef, none))
def appP (S : Pr wf → St) (d : Option Nat) (r : Pr wf → Value × Wr) : Pr wf → St := fun σ => appS (S σ) d (r σ)

inductive Run (C : Cx) (ops : Array Oper) : List (Oper × List Nat) → (Pr wf → St) → (Pr wf → St) → Prop
  | nil {S : Pr wf → St} : Run C ops [] S S
  | cons {S S' : Pr wf → St} {o : Oper × List Nat} {rest : List (Oper × List Nat)} {r : Pr wf → Value × Wr} (h : EvP C ops S o r) (t : Run C ops rest (appP S o.1.dst r) S') : Run C ops (o :: rest) S S'

def opReads (o : Oper) : List Nat := o.op.operands.toList.filterMap fun | .tmp t => some t | _ => none
def rdOf (ops : Array Oper) (o : Oper) : List Nat := opReads o ++ (match o.guard with | some (j, _) => ((ops[j]?).bind (·.dst)).toList | none => [])
def disj (x y : List Nat) : Bool := x.all fun k => !y.contains k
/-- neither reads or writes what the other one writes; behind each the blocks that it goes to -/
def indep (ops : Array Oper) (x y : Oper × List Nat) : Bool :=
  (match x.1.dst with | some d => !(rdOf ops y.1).contains d && y.1.dst != some d && (match isNew x.1 with | true => !y.2.contains d | false => true) | none => true) &&
  (match y.1.dst with | some d => !(rdOf ops x.1).contains d && (match isNew y.1 with | true => !x.2.contains d | false => true) | none => true) &&
  (match isSt x.1 || isSt y.1 with | true => disj x.2 y.2 | false => true)

theorem indep_spec {x y : Oper × List Nat} (h : indep ops x y = true) :
    (∀ t ∈ rdOf ops y.1, x.1.dst ≠ some t) ∧ (∀ i, x.1.dst = some i → y.1.dst ≠ some i) ∧ (∀ t ∈ rdOf ops x.1, y.1.dst ≠ some t) ∧
    (isNew x.1 = true → ∀ d, x.1.dst = some d → d ∉ y.2) ∧ (isNew y.1 = true → ∀ d, y.1.dst = some d → d ∉ x.2) ∧ ((isSt x.1 = true ∨ isSt y.1 = true) → ∀ k ∈ x.2, k ∉ y.2) := by
  simp only [indep, Bool.and_eq_true] at h
  obtain ⟨⟨h1, h2⟩, h3⟩ := h
  refine ⟨fun t ht e => ?_, fun i e e' => ?_, fun t ht e => ?_, fun hn d e hm => ?_, fun hn d e hm => ?_, fun hs k hk hk' => ?_⟩
  · rw [e] at h1; simp at h1; exact h1.1.1 ht
  · rw [e] at h1; simp at h1; exact h1.1.2 e'
  · rw [e] at h2; simp at h2; exact h2.1 ht
  · rw [e, hn] at h1; simp at h1; exact h1.2 hm
  · rw [e, hn] at h2; simp at h2; exact h2.2 hm
  · have : (isSt x.1 || isSt y.1) = true := by simpa [Bool.or_eq_true] using hs
    rw [this] at h3
    have := List.all_eq_true.1 h3 k hk
    simp at this
    exact this hk'

theorem put_m (s : St) (d : Option Nat) (x : Value) : (s.put d x).m = s.m := by cases d <;> rfl
theorem put_g (s : St) (d : Option Nat) (x : Value) : (s.put d x).g = s.g := by cases d <;> rfl
theorem mem_l (s : St) (w : Wr) : (s.mem w).l = s.l := by rcases w with _ | ⟨_, _⟩ <;> rfl
theorem mem_g (s : St) (w : Wr) : (s.mem w).g = s.g := by rcases w with _ | ⟨_, _⟩ <;> rfl
theorem app_g (s : St) (d : Option Nat) (r : Value × Wr) : (appS s d r).g = s.g := by rw [appS, put_g, mem_g]
theorem app_l {s : St} {d : Option Nat} {r : Value × Wr} {t : Nat} (h : d ≠ some t) : (appS s d r).l t = s.l t := by
  cases d with
  | none => simp only [appS, St.put, mem_l]
  | some i => simp only [appS, St.put, mem_l]; exact updN_other _ _ (fun e => h (by rw [e]))
theorem app_m {s : St} {d : Option Nat} {r : Value × Wr} {k : Nat} (h : ∀ k' p, r.2 = some (k', p) → k' ≠ k) : (appS s d r).m k = s.m k := by
  rw [appS, put_m]
  obtain ⟨x, wr⟩ := r
  rcases wr with _ | ⟨k', hp⟩
  · rfl
  · simp only [St.mem]; exact updN_other _ _ (fun e => h k' _ rfl e.symm)
def putL (l : Nat → Option Value) (d : Option Nat) (x : Value) : Nat → Option Value := match d with | some i => updN l i (some x) | none => l
def memM (m : Nat → Option Hp) (w : Wr) : Nat → Option Hp := match w with | some (k, h) => updN m k (some h) | none => m
theorem app_eq (s : St) (d : Option Nat) (r : Value × Wr) : appS s d r = ⟨putL s.l d r.1, memM s.m r.2, s.g, s.gb, s.d⟩ := by
  obtain ⟨x, wr⟩ := r
  rcases wr with _ | ⟨_, _⟩ <;> cases d <;> rfl
theorem putL_comm {l : Nat → Option Value} {d e : Option Nat} {x y : Value} (hd : ∀ i, d = some i → e ≠ some i) : putL (putL l d x) e y = putL (putL l e y) d x := by
  cases d with
  | none => rfl
  | some i => cases e with
    | none => rfl
    | some j => exact updN_comm _ _ _ fun h => hd i rfl (by rw [h])
theorem memM_comm {m : Nat → Option Hp} {w v : Wr} (hk : ∀ k p k' p', w = some (k, p) → v = some (k', p') → k ≠ k') : memM (memM m w) v = memM (memM m v) w := by
  rcases w with _ | ⟨k, p⟩
  · rfl
  · rcases v with _ | ⟨k', p'⟩
    · rfl
    · exact updN_comm _ _ _ (hk _ _ _ _ rfl rfl)
theorem app_comm {s : St} {d e : Option Nat} {r q : Value × Wr} (hd : ∀ i, d = some i → e ≠ some i) (hk : ∀ k p k' p', r.2 = some (k, p) → q.2 = some (k', p') → k ≠ k') :
    appS (appS s d r) e q = appS (appS s e q) d r := by
  rw [app_eq, app_eq, app_eq, app_eq, putL_comm hd, memM_comm hk]

theorem ev_loc {s s' : St} {x : Operand} (h : ∀ t, x = .tmp t → s'.l t = s.l t) : ev C s' x = ev C s x := by
  cases x with
  | tmp t => simp only [ev, h t rfl]
  | _ => rfl
theorem mem_opReads {x : Operand} (hx : x ∈ o.op.operands) {t : Nat} (e : x = .tmp t) : t ∈ opReads o := by
  subst e
  exact List.mem_filterMap.2 ⟨.tmp t, by simpa using hx, rfl⟩
theorem want_loc {s s' : St} (hl : ∀ t ∈ rdOf ops o, s'.l t = s.l t) : wantS C s' ops o = wantS C s ops o := by
  unfold wantS
  cases hg : o.guard with
  | none => rfl
  | some jw =>
    obtain ⟨j, want⟩ := jw
    simp only
    cases hd : (ops[j]?).bind (·.dst) with
    | none => rfl
    | some d =>
      simp only
      rw [ev_loc (s := s) (s' := s') (x := .tmp d) (fun t e => hl t (by cases e; simp [rdOf, hg, hd]))]
theorem reads_loc {s s' : St} (hl : ∀ t ∈ opReads o, s'.l t = s.l t) {ρ : Operand → Value} (h : Reads C s' o ρ) : Reads C s o ρ := fun x hx v hv => h x hx v (by rw [ev_loc (s := s) fun t e => hl t (mem_opReads hx e)]; exact hv)
theorem held_loc {s s' : St} {ks : List Nat} (hm : ∀ k ∈ ks, s'.m k = s.m k) {w : World} (h : Held s' ks w) : Held s ks w := fun k hk p hp => h k hk p (by rw [hm k hk]; exact hp)

/-- an operation does as it did where another one that does not touch it has gone ahead -/
theorem EvP.loc {S S' : Pr wf → St} {o : Oper × List Nat} {r : Pr wf → Value × Wr} (h : EvP C ops S o r) (hl : ∀ σ, ∀ t ∈ rdOf ops o.1, (S' σ).l t = (S σ).l t) (hg : ∀ σ, (S' σ).g = (S σ).g)
    (hm : ∀ σ, ∀ k ∈ o.2, (S' σ).m k = (S σ).m k) : EvP C ops S' o r := by
  obtain ⟨o, ks⟩ := o
  have hl' : ∀ σ, ∀ t ∈ opReads o, (S' σ).l t = (S σ).l t := fun σ t ht => hl σ t (List.mem_append_left _ ht)
  rcases h with ⟨h1, h2⟩ | ⟨h1, h2⟩
  · refine .inl ⟨fun σ => (want_loc (hl σ)).trans (h1 σ), ?_⟩
    cases h2 with
    | val y h => exact .val y fun σ => ⟨(h σ).hd, fun ρ w a b c => (h σ).run ρ w (reads_loc (hl' σ) a) (by rw [hg] at b; exact b) (held_loc (hm σ) c)⟩
    | call y h => exact .call y fun σ => ⟨(h σ).hd, fun ρ w a b c => (h σ).run ρ w (reads_loc (hl' σ) a) (by rw [hg] at b; exact b) (held_loc (hm σ) c)⟩
    | store k h h' hst hs => exact .store k h h' hst fun σ => ⟨(hs σ).hd, (hm σ k (by simp)).trans (hs σ).hk, (hs σ).hb, fun ρ w a b => (hs σ).run ρ w (reads_loc (hl' σ) a) b⟩
    | new d X T cs hn hd h => exact .new d X T cs hn hd fun σ => ⟨(h σ).hd, fun ρ w a => (h σ).run ρ w (reads_loc (hl' σ) a)⟩
    | newO d n E esz cs hn hd hln hm' hone h => exact .newO d n E esz cs hn hd hln hm' hone fun σ => ⟨(h σ).hd, fun ρ w a => (h σ).run ρ w (reads_loc (hl' σ) a)⟩
    | own d RV H hn hd hwf h => exact .own d RV H hn hd hwf fun σ => ⟨(h σ).hd, fun ρ w a b c => (h σ).run ρ w (reads_loc (hl' σ) a) (by rw [hg] at b; exact b) (held_loc (hm σ) c)⟩
    | app d k h0 RV H hst ha hd hwf h => exact .app d k h0 RV H hst ha hd hwf fun σ => ⟨(h σ).hd, (hm σ k (by simp)).trans (h σ).hk, fun ρ w a b c => (h σ).run ρ w (reads_loc (hl' σ) a) (by rw [hg] at b; exact b) (held_loc (fun k hk => hm σ k (List.mem_cons_of_mem _ hk)) c)⟩
  · exact .inr ⟨fun σ => (want_loc (hl σ)).trans (h1 σ), h2⟩

/-- which block a write goes to -/
theorem EvP.wr {S : Pr wf → St} {o : Oper × List Nat} {r : Pr wf → Value × Wr} (h : EvP C ops S o r) {σ : Pr wf} {k : Nat} {p : Hp} (e : (r σ).2 = some (k, p)) :
    (isNew o.1 = true ∧ o.1.dst = some k) ∨ (isSt o.1 = true ∧ k ∈ o.2) := by
  obtain ⟨o, ks⟩ := o
  rcases h with ⟨h1, h2⟩ | ⟨h1, rfl⟩
  · cases h2 with
    | val y h => cases e
    | call y h => cases e
    | store k' h h' hst hs => cases e; exact .inr ⟨hst, by simp⟩
    | new d X T cs hn hd h => cases e; exact .inl ⟨hn, hd⟩
    | newO d n E esz cs hn hd hl hm' h1 h => cases e; exact .inl ⟨hn, hd⟩
    | own d RV H hn hd hwf h => cases e; exact .inl ⟨hn, hd⟩
    | app d k' h0 RV H hst ha hd hwf h => cases e; exact .inr ⟨hst, by simp⟩
  · cases e

theorem EvP.swap {S : Pr wf → St} {j i : Oper × List Nat} {rj ri : Pr wf → Value × Wr} (hj : EvP C ops S j rj) (hi : EvP C ops (appP S j.1.dst rj) i ri) (hin : indep ops j i = true) :
    EvP C ops S i ri ∧ EvP C ops (appP S i.1.dst ri) j rj ∧ appP (appP S j.1.dst rj) i.1.dst ri = appP (appP S i.1.dst ri) j.1.dst rj := by
  obtain ⟨h1, h2, h3, h4, h5, h6⟩ := indep_spec hin
  have aj : ∀ σ k p, (rj σ).2 = some (k, p) → k ∉ i.2 := fun σ k p e hk => by
    rcases hj.wr e with ⟨a1, a2⟩ | ⟨a1, a2⟩
    · exact h4 a1 k a2 hk
    · exact h6 (.inl a1) k a2 hk
  have ai : ∀ σ k p, (ri σ).2 = some (k, p) → k ∉ j.2 := fun σ k p e hk => by
    rcases hi.wr e with ⟨a1, a2⟩ | ⟨a1, a2⟩
    · exact h5 a1 k a2 hk
    · exact h6 (.inr a1) k hk a2
  refine ⟨hi.loc (fun σ t ht => (app_l (h1 t ht)).symm) (fun σ => (app_g _ _ _).symm) fun σ k hk => (app_m fun k' p e e' => aj σ k' p e (e' ▸ hk)).symm,
    hj.loc (fun σ t ht => app_l (h3 t ht)) (fun σ => app_g _ _ _) fun σ k hk => app_m fun k' p e e' => ai σ k' p e (e' ▸ hk), ?_⟩
  funext σ
  refine app_comm h2 fun k p k' p' e e' he => ?_
  subst he
  rcases hi.wr e' with ⟨b1, b2⟩ | ⟨b1, b2⟩
  · rcases hj.wr e with ⟨a1, a2⟩ | ⟨a1, a2⟩
    · exact h2 k a2 b2
    · exact h5 b1 k b2 a2
  · exact aj σ k p e b2

theorem bubble {i : Oper × List Nat} {post : List (Oper × List Nat)} {S' : Pr wf → St} : ∀ (pre : List (Oper × List Nat)) (S : Pr wf → St), Run C ops (pre ++ i :: post) S S' → (∀ j ∈ pre, indep ops j i = true) →
    ∃ r, EvP C ops S i r ∧ Run C ops (pre ++ post) (appP S i.1.dst r) S'
  | [], S, h, _ => by cases h with | cons h t => exact ⟨_, h, t⟩
  | j :: pre, S, h, hi => by
    cases h with
    | cons h t =>
      obtain ⟨r, h1, h2⟩ := bubble pre _ t (fun j hj => hi j (List.mem_cons_of_mem _ hj))
      obtain ⟨a1, a2, a3⟩ := EvP.swap h h1 (hi j List.mem_cons_self)
      exact ⟨r, a1, .cons a2 (by rw [← a3]; exact h2)⟩

/-- what an operation does to the machine: for all prophecies that agree with what has been laid -/
theorem evp_sound {S : Pr wf → St} {o : Oper × List Nat} {r : Pr wf → Value × Wr} (h : EvP C ops S o r) (Z : Pr wf → Prop) (σ0 : Pr wf) (hz : Z σ0) (hr : ∀ σ, Z σ → Rep C (S σ) a w) {K : Act → World → Prop} {Q : Exit → Act → World → Prop}
    (hK : ∀ a' w' y, (∀ d, o.1.dst = some d → wf d y) → (∀ σ, Z σ → (∀ d, draws o.1 = true → o.1.dst = some d → σ.b d = w.heap.size ∧ σ.v d = y) → Rep C (appS (S σ) o.1.dst (r σ)) a' w') → K a' w') :
    if Region.wanted o.1 (yielded ops a.tmps) then o.1.wpIn C.F C.n C.P a w K Q else (∀ f, o.1.about C.P w a.eval = some f → C.F.fn f) ∧ K (a.put o.1.dst undef) w := by
  obtain ⟨o, ks⟩ := o
  have hy0 : ∀ d, o.dst = some d → wf d (σ0.v (o.dst.getD 0)) := fun d hd => by rw [hd]; exact σ0.ok d
  rcases h with ⟨h1, h2⟩ | ⟨h1, rfl⟩
  · rw [want_ok (hr σ0 hz) (h1 σ0), if_pos rfl]
    cases h2 with
    | val y h =>
      have hrun := fun σ hσ => (h σ).run _ _ (reads_of (hr σ hσ)) (hr σ hσ).gh (held_of (hr σ hσ) ks)
      refine wpIn_value (h σ0).hd (hrun σ0 hz) (hK _ _ _ hy0 fun σ hσ _ => ?_)
      have e := (hrun σ hσ).symm.trans (hrun σ0 hz)
      simp only [Result.ok.injEq, Next.value.injEq, and_true] at e
      rw [← e]
      exact rep_put (hr σ hσ) _ _
    | call y h =>
      obtain ⟨f, args, h3, h4⟩ := (h σ0).run _ _ (reads_of (hr σ0 hz)) (hr σ0 hz).gh (held_of (hr σ0 hz) ks)
      refine wpIn_enter (R := fun y' w' => y' = y ∧ Below w.heap.size w w') (h σ0).hd h3 (h4.mono fun e w' ⟨e1, e2⟩ => ⟨y, e1, rfl, e2⟩) ?_
      rintro _ w' ⟨rfl, hb⟩
      exact hK _ _ _ hy0 fun σ hσ _ => rep_put (rep_below (hr σ hσ) hb) _ _
    | store k h h' hst hs =>
      have hrun := fun σ hσ => (hs σ).run _ _ (reads_of (hr σ hσ)) ((hr σ hσ).mo k _ (hs σ).hk).1
      obtain ⟨w', h3, h4, h5⟩ := hrun σ0 hz
      refine wpIn_skipOp (hs σ0).hd h3 (hK _ _ _ hy0 fun σ hσ _ => ?_)
      obtain ⟨w'', h3', h4', h5'⟩ := hrun σ hσ
      have e := h3'.symm.trans h3
      simp only [Result.ok.injEq, true_and] at e
      subst e
      exact rep_put (rep_store (hr σ hσ) (hs σ).hk (hs σ).hb h4' h5') _ _
    | new d X T cs hn hd h =>
      have hrun := fun σ hσ => (h σ).run _ w (reads_of (hr σ hσ))
      refine wpIn_value (h σ0).hd (hrun σ0 hz) (hK _ _ _ hy0 fun σ hσ hb => ?_)
      have e := (hrun σ hσ).symm.trans (hrun σ0 hz)
      simp only [Result.ok.injEq, true_and] at e
      have hb' := (hb d (by simp [draws, hn]) hd).1
      rw [← e, hd]
      simp only [hb']
      exact rep_new (hr σ hσ) d X T (cs σ)
    | newO d n E esz cs hn hd hln hm' hone h =>
      have hrun := fun σ hσ => (h σ).run _ w (reads_of (hr σ hσ))
      refine wpIn_value (h σ0).hd (hrun σ0 hz) (hK _ _ _ hy0 fun σ hσ hb => ?_)
      have e := (hrun σ hσ).symm.trans (hrun σ0 hz)
      simp only [Result.ok.injEq, true_and] at e
      have hb' := (hb d (by simp [draws, hn]) hd).1
      rw [← e]
      simp only [hb']
      refine rep_put (rep_newH (hr σ hσ) ((Below.refl _ w).alloc (Nat.le_refl _) _) (h1 := .own _ E esz n (cs σ)) ⟨⟨hln σ, .inr ⟨w.heap.size, n, (cs σ).toArray, rfl, Nat.zero_le _, Blk.new w _ E, Nat.le_refl _, hm', by simp [hln], by rw [← hln σ]; simp⟩⟩, hone σ⟩ (fun b hb => by simp [Hp.blk, Value.ownBlock] at hb; omega) d) _ _
    | own d RV H hn hd hwf h =>
      obtain ⟨f, args, h3, h4⟩ := (h σ0).run _ _ (reads_of (hr σ0 hz)) (hr σ0 hz).gh (held_of (hr σ0 hz) ks)
      refine wpIn_enter (R := fun y w' => RV y ∧ Below w.heap.size w w' ∧ (H y).ok w' ∧ ∀ b, (H y).blk = some b → w.heap.size ≤ b) (h σ0).hd h3 (h4.mono fun e w' ⟨y, e1, e2⟩ => ⟨y, e1, e2⟩) ?_
      rintro y w' ⟨h5, h6, h7, h8⟩
      refine hK _ _ y (fun d' hd' => by rw [hd] at hd'; cases hd'; exact hwf y h5) fun σ hσ hb => ?_
      have hb' := (hb d (by simp [draws, hn]) hd).2
      simp only [hb']
      exact rep_put (rep_newH (hr σ hσ) h6 h7 h8 d) _ _
    | app d k h0 RV H hst ha hd hwf h =>
      have hrun := fun σ hσ => (h σ).run _ _ (reads_of (hr σ hσ)) (hr σ hσ).gh (held_of (hr σ hσ) _) ((hr σ hσ).mo k _ (h σ).hk).1
      obtain ⟨y, w', h3, h4, h5, h6, h7⟩ := hrun σ0 hz
      refine wpIn_value (h σ0).hd h3 (hK _ _ y (fun d' hd' => by rw [hd] at hd'; cases hd'; exact hwf y h4) fun σ hσ hb => ?_)
      have hb' := (hb d (by simp [draws, ha]) hd).2
      obtain ⟨y', w'', h3', h4', h5', h6', h7'⟩ := hrun σ hσ
      have e := h3'.symm.trans h3
      simp only [Result.ok.injEq, Next.value.injEq] at e
      obtain ⟨rfl, rfl⟩ := e
      simp only [hb']
      exact rep_put (rep_grow (hr σ hσ) (h σ).hk h6' h5' h7') _ _
  · rw [want_ok (hr σ0 hz) (h1 σ0), if_neg (by simp)]
    exact ⟨fun f _ => C.all f, hK _ _ _ hy0 fun σ hσ _ => rep_put (hr σ hσ) _ _⟩
end Go.Proofs.Ytaijclimdfchfaa
