import Derived.Test.YtaijclimdfchfaaKD
/- The walk over states that are lists: in the order of the text, in a region that draws, control, calls, into a function and out of it. Conditions: none. -/
namespace Go.Proofs.Ytaijclimdfchfaa
open Go.Proofs Go.RowKit

variable {C : Cx} {K : Exit → St → Prop} {ops : Array Oper} {rest : List Oper} {l l' : List (Nat × Value)} {m m' : List (Nat × Hp)} {g : World → Prop} {gb : Nat → Prop} {dd : List Nat}
  {i : Nat} {d : Option Nat} {op : Op} {ty : TypeId} {pos : String} {aft : Array Edge} {gd : Option (Nat × Bool)} {ks : List Nat} {y : Value} {T : TypeId}

/-! ### in the order of the text -/
theorem l_val (hw : wantS C (mk l m g gb dd) ops ⟨some i, op, ty, pos, aft, gd⟩ = some true) (h : OpV C (mk l m g gb dd) ⟨some i, op, ty, pos, aft, gd⟩ ks y) (next : VL C ops rest K (mk ((i, y) :: l) m g gb dd)) : VL C ops (⟨some i, op, ty, pos, aft, gd⟩ :: rest) K (mk l m g gb dd) :=
  vl_val hw h (by simp only [mk_put]; exact next)
theorem l_call (hw : wantS C (mk l m g gb dd) ops ⟨some i, op, ty, pos, aft, gd⟩ = some true) (h : OpC C (mk l m g gb dd) ⟨some i, op, ty, pos, aft, gd⟩ ks y) (next : VL C ops rest K (mk ((i, y) :: l) m g gb dd)) : VL C ops (⟨some i, op, ty, pos, aft, gd⟩ :: rest) K (mk l m g gb dd) :=
  vl_call hw h (by simp only [mk_put]; exact next)
theorem l_call0 (hw : wantS C (mk l m g gb dd) ops ⟨none, op, ty, pos, aft, gd⟩ = some true) (h : OpC C (mk l m g gb dd) ⟨none, op, ty, pos, aft, gd⟩ ks y) (next : VL C ops rest K (mk l m g gb dd)) : VL C ops (⟨none, op, ty, pos, aft, gd⟩ :: rest) K (mk l m g gb dd) :=
  vl_call hw h next
theorem l_no (hw : wantS C (mk l m g gb dd) ops ⟨some i, op, ty, pos, aft, gd⟩ = some false) (next : VL C ops rest K (mk ((i, undef) :: l) m g gb dd)) : VL C ops (⟨some i, op, ty, pos, aft, gd⟩ :: rest) K (mk l m g gb dd) :=
  vl_no' hw (by simp only [mk_put]; exact next)
theorem l_no0 (hw : wantS C (mk l m g gb dd) ops ⟨none, op, ty, pos, aft, gd⟩ = some false) (next : VL C ops rest K (mk l m g gb dd)) : VL C ops (⟨none, op, ty, pos, aft, gd⟩ :: rest) K (mk l m g gb dd) :=
  vl_no' hw next
theorem l_split {p : Prop} [Decidable p] (hw : wantS C (mk l m g gb dd) ops ⟨some i, op, ty, pos, aft, gd⟩ = some true) (h : OpV C (mk l m g gb dd) ⟨some i, op, ty, pos, aft, gd⟩ ks (.bool (decide p)))
    (yes : p → VL C ops rest K (mk ((i, .bool true) :: l) m g gb dd)) (no : ¬ p → VL C ops rest K (mk ((i, .bool false) :: l) m g gb dd)) : VL C ops (⟨some i, op, ty, pos, aft, gd⟩ :: rest) K (mk l m g gb dd) := by
  refine l_val hw h ?_
  by_cases hp : p
  · rw [decide_eq_true hp]; exact yes hp
  · rw [decide_eq_false hp]; exact no hp
theorem l_store {k : Nat} {h h' : Hp} (hw : wantS C (mk l m g gb dd) ops ⟨none, op, ty, pos, aft, gd⟩ = some true) (hs : OpS C (mk l m g gb dd) ⟨none, op, ty, pos, aft, gd⟩ k h h') (next : VL C ops rest K (mk l ((k, h') :: m) g gb dd)) : VL C ops (⟨none, op, ty, pos, aft, gd⟩ :: rest) K (mk l m g gb dd) :=
  vl_store hw hs rfl (by simp only [mk_mem]; exact next)
theorem l_new {cs : List Value} (hw : wantS C (mk l m g gb dd) ops ⟨some i, op, ty, pos, aft, gd⟩ = some true) (h : OpN C (mk l m g gb dd) ⟨some i, op, ty, pos, aft, gd⟩ (fun b => .pointer (some ⟨b, 0, none⟩)) T cs) (next : ∀ b, VL C ops rest K (mk ((i, .pointer (some ⟨b, 0, none⟩)) :: l) ((i, .box b T cs) :: m) g gb dd)) :
    VL C ops (⟨some i, op, ty, pos, aft, gd⟩ :: rest) K (mk l m g gb dd) :=
  vl_new hw h rfl fun b => by simp only [appS, mk_mem, mk_put]; exact next b
theorem l_nil (h : K .normal (mk l m g gb dd)) : VL C ops [] K (mk l m g gb dd) := vl_nil h

/-! ### whatever order -/
/-- a region that draws, κs: the blocks that its operations go to -/
structure VDZ {wf : Nat → Value → Prop} (C : Cx) (ops : Array Oper) (os : List Oper) (κs : List (List Nat)) (K : Exit → St → Prop) (S : Pr wf → St) : Prop where
  vd : VD C ops ((os.take κs.length).zip κs) (os.drop κs.length) K S

variable {wf : Nat → Value → Prop} {L : Pr wf → List (Nat × Value)} {M : Pr wf → List (Nat × Hp)} {os : List Oper} {κ : List Nat} {κs : List (List Nat)}

/-- nothing is known of the values that are drawn -/
abbrev anyV : Nat → Value → Prop := fun _ _ => True
theorem v_drawZ {id : Nat} (κs : List (List Nat)) (hm : C.P.follows .mixedOrders = true) (h : VDZ C os.toArray os κs K (fun _ : Pr anyV => mk l m g gb dd)) (hle : (os.take κs.length).length = κs.length) (hok : drawOk os ((os.take κs.length).zip κs) = true) : V C (.region id os.toArray true) K (mk l m g gb dd) :=
  v_draw (⟨fun _ => 0, fun _ => undef, fun _ => trivial⟩ : Pr anyV) κs hm hle hok h.vd
theorem d_nil (h : ∀ σ, VL C ops os K (mk (L σ) (M σ) g gb dd)) : VDZ C ops os [] K (fun σ => mk (L σ) (M σ) g gb dd) := ⟨vd_nil h⟩
theorem d_cons {o : Oper} {S : Pr wf → St} {r : Pr wf → Value × Wr} (h : EvP C ops S (o, κ) r) (t : VDZ C ops os κs K (appP S o.dst r)) : VDZ C ops (o :: os) (κ :: κs) K S := ⟨vd_cons (o := (o, κ)) h t.vd⟩
theorem d_val {Y : Pr wf → Value} (hw : ∀ σ, wantS C (mk (L σ) (M σ) g gb dd) ops ⟨some i, op, ty, pos, aft, gd⟩ = some true) (_hn : isNew ⟨some i, op, ty, pos, aft, gd⟩ = false) (_hs : isSt ⟨some i, op, ty, pos, aft, gd⟩ = false)
    (h : ∀ σ, OpV C (mk (L σ) (M σ) g gb dd) ⟨some i, op, ty, pos, aft, gd⟩ κ (Y σ)) (next : VDZ C ops os κs K (fun σ => mk ((i, Y σ) :: L σ) (M σ) g gb dd)) : VDZ C ops (⟨some i, op, ty, pos, aft, gd⟩ :: os) (κ :: κs) K (fun σ => mk (L σ) (M σ) g gb dd) :=
  d_cons (.inl ⟨hw, .val Y h⟩) (by simp only [appP, appS, St.mem, mk_put]; exact next)
theorem d_call (hw : ∀ σ, wantS C (mk (L σ) (M σ) g gb dd) ops ⟨some i, op, ty, pos, aft, gd⟩ = some true)
    (h : ∀ σ, OpC C (mk (L σ) (M σ) g gb dd) ⟨some i, op, ty, pos, aft, gd⟩ κ y) (next : VDZ C ops os κs K (fun σ => mk ((i, y) :: L σ) (M σ) g gb dd)) : VDZ C ops (⟨some i, op, ty, pos, aft, gd⟩ :: os) (κ :: κs) K (fun σ => mk (L σ) (M σ) g gb dd) :=
  d_cons (.inl ⟨hw, .call y h⟩) (by simp only [appP, appS, St.mem, mk_put]; exact next)
theorem d_valC {Y : Pr wf → Value} (hw : ∀ σ, wantS C (mk (L σ) (M σ) g gb dd) ops ⟨some i, op, ty, pos, aft, gd⟩ = some true)
    (h : ∀ σ, OpV C (mk (L σ) (M σ) g gb dd) ⟨some i, op, ty, pos, aft, gd⟩ κ (Y σ)) (next : VDZ C ops os κs K (fun σ => mk ((i, Y σ) :: L σ) (M σ) g gb dd)) : VDZ C ops (⟨some i, op, ty, pos, aft, gd⟩ :: os) (κ :: κs) K (fun σ => mk (L σ) (M σ) g gb dd) :=
  d_cons (.inl ⟨hw, .val Y h⟩) (by simp only [appP, appS, St.mem, mk_put]; exact next)
theorem d_no (hw : ∀ σ, wantS C (mk (L σ) (M σ) g gb dd) ops ⟨some i, op, ty, pos, aft, gd⟩ = some false) (next : VDZ C ops os κs K (fun σ => mk ((i, undef) :: L σ) (M σ) g gb dd)) : VDZ C ops (⟨some i, op, ty, pos, aft, gd⟩ :: os) (κ :: κs) K (fun σ => mk (L σ) (M σ) g gb dd) :=
  d_cons (.inr ⟨hw, rfl⟩) (by simp only [appP, appS, St.mem, mk_put]; exact next)
theorem d_split {p : Prop} [Decidable p] (hw : ∀ σ, wantS C (mk (L σ) (M σ) g gb dd) ops ⟨some i, op, ty, pos, aft, gd⟩ = some true) (_hn : isNew ⟨some i, op, ty, pos, aft, gd⟩ = false) (_hs : isSt ⟨some i, op, ty, pos, aft, gd⟩ = false)
    (h : ∀ σ, OpV C (mk (L σ) (M σ) g gb dd) ⟨some i, op, ty, pos, aft, gd⟩ κ (.bool (decide p)))
    (yes : p → VDZ C ops os κs K (fun σ => mk ((i, .bool true) :: L σ) (M σ) g gb dd)) (no : ¬ p → VDZ C ops os κs K (fun σ => mk ((i, .bool false) :: L σ) (M σ) g gb dd)) : VDZ C ops (⟨some i, op, ty, pos, aft, gd⟩ :: os) (κ :: κs) K (fun σ => mk (L σ) (M σ) g gb dd) := by
  by_cases hp : p
  · refine d_val (Y := fun _ => .bool true) hw _hn _hs (fun σ => ?_) (yes hp)
    have := h σ; rwa [decide_eq_true hp] at this
  · refine d_val (Y := fun _ => .bool false) hw _hn _hs (fun σ => ?_) (no hp)
    have := h σ; rwa [decide_eq_false hp] at this
theorem d_store {k : Nat} {H H' : Pr wf → Hp} (hw : ∀ σ, wantS C (mk (L σ) (M σ) g gb dd) ops ⟨none, op, ty, pos, aft, gd⟩ = some true) (_hn : isNew ⟨none, op, ty, pos, aft, gd⟩ = false) (hst : isSt ⟨none, op, ty, pos, aft, gd⟩ = true)
    (h : ∀ σ, OpS C (mk (L σ) (M σ) g gb dd) ⟨none, op, ty, pos, aft, gd⟩ k (H σ) (H' σ)) (next : VDZ C ops os κs K (fun σ => mk (L σ) ((k, H' σ) :: M σ) g gb dd)) : VDZ C ops (⟨none, op, ty, pos, aft, gd⟩ :: os) ([k] :: κs) K (fun σ => mk (L σ) (M σ) g gb dd) :=
  d_cons (.inl ⟨hw, .store k H H' hst h⟩) (by simp only [appP, appS, mk_mem]; exact next)
theorem d_new {cs : Pr wf → List Value} (hw : ∀ σ, wantS C (mk (L σ) (M σ) g gb dd) ops ⟨some i, op, ty, pos, aft, gd⟩ = some true) (hn : isNew ⟨some i, op, ty, pos, aft, gd⟩ = true) (_hst : isSt ⟨some i, op, ty, pos, aft, gd⟩ = false)
    (h : ∀ σ, OpN C (mk (L σ) (M σ) g gb dd) ⟨some i, op, ty, pos, aft, gd⟩ (fun b => .pointer (some ⟨b, 0, none⟩)) T (cs σ)) (next : VDZ C ops os κs K (fun σ => mk ((i, .pointer (some ⟨σ i, 0, none⟩)) :: L σ) ((i, .box (σ i) T (cs σ)) :: M σ) g gb dd)) : VDZ C ops (⟨some i, op, ty, pos, aft, gd⟩ :: os) ([] :: κs) K (fun σ => mk (L σ) (M σ) g gb dd) :=
  d_cons (.inl ⟨hw, .new i _ T cs hn rfl h⟩) (by simp only [appP, appS, mk_mem, mk_put]; exact next)
theorem d_newS {nn : Nat} {cs : Pr wf → List Value} (hw : ∀ σ, wantS C (mk (L σ) (M σ) g gb dd) ops ⟨some i, op, ty, pos, aft, gd⟩ = some true) (hn : isNew ⟨some i, op, ty, pos, aft, gd⟩ = true) (_hst : isSt ⟨some i, op, ty, pos, aft, gd⟩ = false)
    (h : ∀ σ, OpN C (mk (L σ) (M σ) g gb dd) ⟨some i, op, ty, pos, aft, gd⟩ (fun b => .slice (some ⟨b, 0, none⟩) nn nn) T (cs σ)) (next : VDZ C ops os κs K (fun σ => mk ((i, .slice (some ⟨σ i, 0, none⟩) nn nn) :: L σ) ((i, .box (σ i) T (cs σ)) :: M σ) g gb dd)) : VDZ C ops (⟨some i, op, ty, pos, aft, gd⟩ :: os) ([] :: κs) K (fun σ => mk (L σ) (M σ) g gb dd) :=
  d_cons (.inl ⟨hw, .new i _ T cs hn rfl h⟩) (by simp only [appP, appS, mk_mem, mk_put]; exact next)

theorem d_lss {k : IntKind} {a b : Int} {x y : Operand} {T T' : TypeId} (hw : ∀ σ, wantS C (mk (L σ) (M σ) g gb dd) ops ⟨some i, .binOp .lss T x y T', ty, pos, aft, gd⟩ = some true) (hx : ∀ σ, ev C (mk (L σ) (M σ) g gb dd) x = some (.int k a)) (hy : ∀ σ, ev C (mk (L σ) (M σ) g gb dd) y = some (.int k b))
    (yes : (a < b) → VDZ C ops os κs K (fun σ => mk ((i, .bool true) :: L σ) (M σ) g gb dd)) (no : ¬ (a < b) → VDZ C ops os κs K (fun σ => mk ((i, .bool false) :: L σ) (M σ) g gb dd)) : VDZ C ops (⟨some i, .binOp .lss T x y T', ty, pos, aft, gd⟩ :: os) ([] :: κs) K (fun σ => mk (L σ) (M σ) g gb dd) :=
  d_split hw rfl rfl (fun σ => o_lss (hx σ) (hy σ)) yes no
theorem d_leq {k : IntKind} {a b : Int} {x y : Operand} {T T' : TypeId} (hw : ∀ σ, wantS C (mk (L σ) (M σ) g gb dd) ops ⟨some i, .binOp .leq T x y T', ty, pos, aft, gd⟩ = some true) (hx : ∀ σ, ev C (mk (L σ) (M σ) g gb dd) x = some (.int k a)) (hy : ∀ σ, ev C (mk (L σ) (M σ) g gb dd) y = some (.int k b))
    (yes : (a ≤ b) → VDZ C ops os κs K (fun σ => mk ((i, .bool true) :: L σ) (M σ) g gb dd)) (no : ¬ (a ≤ b) → VDZ C ops os κs K (fun σ => mk ((i, .bool false) :: L σ) (M σ) g gb dd)) : VDZ C ops (⟨some i, .binOp .leq T x y T', ty, pos, aft, gd⟩ :: os) ([] :: κs) K (fun σ => mk (L σ) (M σ) g gb dd) :=
  d_split hw rfl rfl (fun σ => o_leq (hx σ) (hy σ)) yes no
theorem d_gtr {k : IntKind} {a b : Int} {x y : Operand} {T T' : TypeId} (hw : ∀ σ, wantS C (mk (L σ) (M σ) g gb dd) ops ⟨some i, .binOp .gtr T x y T', ty, pos, aft, gd⟩ = some true) (hx : ∀ σ, ev C (mk (L σ) (M σ) g gb dd) x = some (.int k a)) (hy : ∀ σ, ev C (mk (L σ) (M σ) g gb dd) y = some (.int k b))
    (yes : (b < a) → VDZ C ops os κs K (fun σ => mk ((i, .bool true) :: L σ) (M σ) g gb dd)) (no : ¬ (b < a) → VDZ C ops os κs K (fun σ => mk ((i, .bool false) :: L σ) (M σ) g gb dd)) : VDZ C ops (⟨some i, .binOp .gtr T x y T', ty, pos, aft, gd⟩ :: os) ([] :: κs) K (fun σ => mk (L σ) (M σ) g gb dd) :=
  d_split hw rfl rfl (fun σ => o_gtr (hx σ) (hy σ)) yes no
theorem d_geq {k : IntKind} {a b : Int} {x y : Operand} {T T' : TypeId} (hw : ∀ σ, wantS C (mk (L σ) (M σ) g gb dd) ops ⟨some i, .binOp .geq T x y T', ty, pos, aft, gd⟩ = some true) (hx : ∀ σ, ev C (mk (L σ) (M σ) g gb dd) x = some (.int k a)) (hy : ∀ σ, ev C (mk (L σ) (M σ) g gb dd) y = some (.int k b))
    (yes : (b ≤ a) → VDZ C ops os κs K (fun σ => mk ((i, .bool true) :: L σ) (M σ) g gb dd)) (no : ¬ (b ≤ a) → VDZ C ops os κs K (fun σ => mk ((i, .bool false) :: L σ) (M σ) g gb dd)) : VDZ C ops (⟨some i, .binOp .geq T x y T', ty, pos, aft, gd⟩ :: os) ([] :: κs) K (fun σ => mk (L σ) (M σ) g gb dd) :=
  d_split hw rfl rfl (fun σ => o_geq (hx σ) (hy σ)) yes no
theorem d_eql {k : IntKind} {a b : Int} {x y : Operand} {T T' : TypeId} (hw : ∀ σ, wantS C (mk (L σ) (M σ) g gb dd) ops ⟨some i, .binOp .eql T x y T', ty, pos, aft, gd⟩ = some true) (hx : ∀ σ, ev C (mk (L σ) (M σ) g gb dd) x = some (.int k a)) (hy : ∀ σ, ev C (mk (L σ) (M σ) g gb dd) y = some (.int k b))
    (yes : (a = b) → VDZ C ops os κs K (fun σ => mk ((i, .bool true) :: L σ) (M σ) g gb dd)) (no : ¬ (a = b) → VDZ C ops os κs K (fun σ => mk ((i, .bool false) :: L σ) (M σ) g gb dd)) : VDZ C ops (⟨some i, .binOp .eql T x y T', ty, pos, aft, gd⟩ :: os) ([] :: κs) K (fun σ => mk (L σ) (M σ) g gb dd) :=
  d_split hw rfl rfl (fun σ => o_eql (hx σ) (hy σ)) yes no
theorem d_neq {k : IntKind} {a b : Int} {x y : Operand} {T T' : TypeId} (hw : ∀ σ, wantS C (mk (L σ) (M σ) g gb dd) ops ⟨some i, .binOp .neq T x y T', ty, pos, aft, gd⟩ = some true) (hx : ∀ σ, ev C (mk (L σ) (M σ) g gb dd) x = some (.int k a)) (hy : ∀ σ, ev C (mk (L σ) (M σ) g gb dd) y = some (.int k b))
    (yes : (a ≠ b) → VDZ C ops os κs K (fun σ => mk ((i, .bool true) :: L σ) (M σ) g gb dd)) (no : ¬ (a ≠ b) → VDZ C ops os κs K (fun σ => mk ((i, .bool false) :: L σ) (M σ) g gb dd)) : VDZ C ops (⟨some i, .binOp .neq T x y T', ty, pos, aft, gd⟩ :: os) ([] :: κs) K (fun σ => mk (L σ) (M σ) g gb dd) :=
  d_split hw rfl rfl (fun σ => o_neq (hx σ) (hy σ)) yes no
theorem lz_bool {p : Prop} [Decidable p] (yes : p → VL C ops rest K (mk ((i, .bool true) :: l) m g gb dd)) (no : ¬ p → VL C ops rest K (mk ((i, .bool false) :: l) m g gb dd)) : VL C ops rest K (mk ((i, .bool (decide p)) :: l) m g gb dd) := by
  by_cases hp : p
  · rw [decide_eq_true hp]; exact yes hp
  · rw [decide_eq_false hp]; exact no hp
theorem dz_bool {p : Prop} [Decidable p] (yes : p → VDZ C ops os κs K (fun σ => mk ((i, .bool true) :: L σ) (M σ) g gb dd)) (no : ¬ p → VDZ C ops os κs K (fun σ => mk ((i, .bool false) :: L σ) (M σ) g gb dd)) : VDZ C ops os κs K (fun σ => mk ((i, .bool (decide p)) :: L σ) (M σ) g gb dd) := by
  by_cases hp : p
  · rw [decide_eq_true hp]; exact yes hp
  · rw [decide_eq_false hp]; exact no hp

/-! ### to know less -/
def sel {α : Type} : List Nat → List (Nat × α) → Option (List (Nat × α))
  | [], _ => some []
  | k :: ks, l => match lk l k, sel ks l with | some v, some r => some ((k, v) :: r) | _, _ => none
theorem sel_ok {α : Type} {l : List (Nat × α)} : ∀ (ks : List Nat) (l' : List (Nat × α)), sel ks l = some l' → ∀ i v, lk l' i = some v → lk l i = some v
  | [], l', h, i, v, hv => by simp [sel] at h; subst h; cases hv
  | k :: ks, l', h, i, v, hv => by
    simp only [sel] at h
    split at h
    · rename_i u r hu hr
      cases h
      simp only [lk] at hv
      split at hv
      · rename_i hb
        have := Nat.eq_of_beq_eq_true hb
        subst this; cases hv; exact hu
      · exact sel_ok ks r hr i v hv
    · cases h
theorem le_sel (kl km : List Nat) (hl : sel kl l = some l') (hm : sel km m = some m') : Le (mk l m g gb dd) (mk l' m' g gb dd) := ⟨sel_ok kl l' hl, sel_ok km m' hm, rfl, rfl, rfl⟩
theorem l_sel (kl km : List Nat) (hl : sel kl l = some l') (hm : sel km m = some m') (h : VL C ops rest K (mk l' m' g gb dd)) : VL C ops rest K (mk l m g gb dd) := h.le (le_sel kl km hl hm)
theorem v_sel {c : Code} (kl km : List Nat) (hl : sel kl l = some l') (hm : sel km m = some m') (h : V C c K (mk l' m' g gb dd)) : V C c K (mk l m g gb dd) := h.le (le_sel kl km hl hm)

/-! ### control -/
variable {s : St} {n : St → Prop}
theorem kt_norm (h : n s) : thenK n K .normal s := h
theorem kt_ret (h : K .ret s) : thenK n K .ret s := h
theorem kt_exit {id : Nat} (h : K (.exit id) s) : thenK n K (.exit id) s := h
theorem kb_norm {id : Nat} (h : K .normal s) : blockK id K .normal s := h
theorem kb_ret {id : Nat} (h : K .ret s) : blockK id K .ret s := h
theorem kb_eq {id : Nat} (h : K .normal s) : blockK id K (.exit id) s := by simp only [blockK, if_true]; exact h
theorem kb_ne {id id' : Nat} (hne : id' ≠ id) (h : K (.exit id') s) : blockK id K (.exit id') s := by simp only [blockK, if_neg hne]; exact h
theorem v_condT {c : Operand} {x y : Code} (hc : ev C s c = some (.bool true)) (h : V C x K s) : V C (.cond c x y) K s := v_cond true hc (fun _ => h) (fun h => by cases h)
theorem v_condF {c : Operand} {x y : Code} (hc : ev C s c = some (.bool false)) (h : V C y K s) : V C (.cond c x y) K s := v_cond false hc (fun h => by cases h) (fun _ => h)
theorem v_condP {c : Operand} {x y : Code} {p : Prop} [Decidable p] (hc : ev C s c = some (.bool (decide p))) (ht : p → V C x K s) (hf : ¬ p → V C y K s) : V C (.cond c x y) K s :=
  v_cond _ hc (fun h => ht (of_decide_eq_true h)) (fun h => hf (of_decide_eq_false h))

/-! ### calls -/
/-- a function's answer, in whatever world; it turns nothing -/
def Ans (P : Program) (f : Nat) (vs : List Value) (r : Value) : Prop :=
  ((∀ args w, (callFunc f args).run P w = .ok (.enter f args) w) ∧ ∀ w, Calls P f vs.toArray w fun e w' => e = .returned r ∧ Below w.heap.size w w') ∨ (∀ w, (callFunc f vs.toArray).run P w = .ok (.value r) w)
theorem ent_of {P : Program} {f : Nat} {fn : Func} {c : Code} (hf : P.funcs[f]? = some fn) (hname : (fn.name == "runtime.NumGoroutine") = false) (hb : fn.body = some c) : ∀ args w, (callFunc f args).run P w = .ok (.enter f args) w := fun args w => by
  have h1 : fn.name ≠ "runtime.NumGoroutine" := by simpa using hname
  simp [callFunc, hf, h1, hb, Sem.run_bind]

theorem run_callTo {P : Program} {cal : Operand} {xs : Array Operand} {ts : Array TypeId} {f : Nat} {caps : Array Value} {vs : List Value} {ρ : Operand → Value} {w : World} (h : ρ cal = .func (.func f) #[] caps) (hargs : xs.toList.map ρ = vs) :
    (execOp ρ ⟨d, .call { callee := .value cal, args := xs, argTypes := ts }, ty, pos, aft, gd⟩).run P w = (callFunc f (vs.toArray ++ caps)).run P w := by
  have ha : xs.map ρ = vs.toArray := by apply Array.ext'; simp [hargs]
  simp [execOp, resolve, h, Deferred.ofValue, invoke, Sem.run_bind, Result.andThen, ha]

theorem callee_mem {cal : Operand} {xs : Array Operand} {ts : Array TypeId} : cal ∈ (⟨d, .call { callee := .value cal, args := xs, argTypes := ts }, ty, pos, aft, gd⟩ : Oper).op.operands := by simp [Op.operands, Call.operands]
theorem args_of {cal : Operand} {xs : Array Operand} {ts : Array TypeId} {vs : List Value} {ρ : Operand → Value} (hr : Reads C s ⟨d, .call { callee := .value cal, args := xs, argTypes := ts }, ty, pos, aft, gd⟩ ρ) (h : evs C s xs.toList = some vs) : xs.toList.map ρ = vs :=
  evs_ok (C := C) (s := s) xs.toList vs (fun x hx v hv => hr x (by simp [Op.operands, Call.operands]; right; simpa using hx) v hv) h

variable {f : Nat} {xs : Array Operand} {ts : Array TypeId} {vs : List Value} {r : Value}
theorem o_callC (hent : ∀ args w, (callFunc f args).run C.P w = .ok (.enter f args) w) (hargs : evs C s xs.toList = some vs)
    (hc : ∀ w, s.g w → Held s ks w → Calls C.P f vs.toArray w fun e w' => e = .returned r ∧ Below w.heap.size w w') : OpC C s ⟨d, .call { callee := .value (.func f), args := xs, argTypes := ts }, ty, pos, aft, gd⟩ ks r :=
  ⟨by simp, fun ρ w hr hg hh => ⟨f, vs.toArray, by rw [run_callTo (caps := #[]) (rd1 hr callee_mem rfl) (args_of hr hargs)]; simpa using hent vs.toArray w, hc w hg hh⟩⟩
theorem o_callX (hargs : evs C s xs.toList = some vs) (hx : ∀ w, (callFunc f vs.toArray).run C.P w = .ok (.value r) w) : OpV C s ⟨d, .call { callee := .value (.func f), args := xs, argTypes := ts }, ty, pos, aft, gd⟩ [] r :=
  opv _ _ (by simp) fun ρ w hr => by rw [run_callTo (caps := #[]) (rd1 hr callee_mem rfl) (args_of hr hargs)]; simpa using hx w
/-- a closure that is called -/
theorem o_callF {cal : Operand} {caps : Array Value} (hcal : ev C s cal = some (.func (.func f) #[] caps)) (hent : ∀ args w, (callFunc f args).run C.P w = .ok (.enter f args) w) (hargs : evs C s xs.toList = some vs)
    (hc : ∀ w, s.g w → Held s ks w → Calls C.P f (vs.toArray ++ caps) w fun e w' => e = .returned r ∧ Below w.heap.size w w') : OpC C s ⟨d, .call { callee := .value cal, args := xs, argTypes := ts }, ty, pos, aft, gd⟩ ks r :=
  ⟨by simp, fun ρ w hr hg hh => ⟨f, vs.toArray ++ caps, by rw [run_callTo (rd1 hr callee_mem hcal) (args_of hr hargs)]; exact hent _ w, hc w hg hh⟩⟩

theorem l_ans (hw : wantS C (mk l m g gb dd) ops ⟨some i, .call { callee := .value (.func f), args := xs, argTypes := ts }, ty, pos, aft, gd⟩ = some true) (hargs : evs C (mk l m g gb dd) xs.toList = some vs) (hc : Ans C.P f vs r)
    (next : VL C ops rest K (mk ((i, r) :: l) m g gb dd)) : VL C ops (⟨some i, .call { callee := .value (.func f), args := xs, argTypes := ts }, ty, pos, aft, gd⟩ :: rest) K (mk l m g gb dd) := by
  rcases hc with ⟨h1, h2⟩ | h
  · exact l_call (ks := []) hw (o_callC h1 hargs fun w _ _ => h2 w) next
  · exact l_val (ks := []) hw (o_callX hargs h) next
theorem d_ans (hw : ∀ σ, wantS C (mk (L σ) (M σ) g gb dd) ops ⟨some i, .call { callee := .value (.func f), args := xs, argTypes := ts }, ty, pos, aft, gd⟩ = some true) (hargs : ∀ σ, evs C (mk (L σ) (M σ) g gb dd) xs.toList = some vs) (hc : Ans C.P f vs r)
    (next : VDZ C ops os κs K (fun σ => mk ((i, r) :: L σ) (M σ) g gb dd)) : VDZ C ops (⟨some i, .call { callee := .value (.func f), args := xs, argTypes := ts }, ty, pos, aft, gd⟩ :: os) ([] :: κs) K (fun σ => mk (L σ) (M σ) g gb dd) := by
  rcases hc with ⟨h1, h2⟩ | h
  · exact d_call hw (fun σ => o_callC h1 (hargs σ) fun w _ _ => h2 w) next
  · exact d_valC (Y := fun _ => r) hw (fun σ => o_callX (hargs σ) h) next

/-! ### out of a function -/
def packV : List Value → Value | [v] => v | vs => .tuple vs.toArray
inductive ResOk (C : Cx) (s : St) : ResultVar → Value → Prop
  | tmp {t : Nat} {v : Value} (h : ev C s (.tmp t) = some v) : ResOk C s (.tmp t) v
  | cellW {t n key bl : Nat} {T T' : TypeId} {cs : List Value} [ht : TAgg C.P T n] (h : ev C s (.tmp t) = some (.pointer (some ⟨bl, 0, none⟩))) (hm : s.m key = some (.box bl T' cs)) (hl : cs.length = n) : ResOk C s (.cell t T) (.agg cs.toArray)
  | cell1 {t key bl : Nat} {T T' : TypeId} {v : Value} [ht : TOne C.P T] (h : ev C s (.tmp t) = some (.pointer (some ⟨bl, 0, none⟩))) (hm : s.m key = some (.box bl T' [v])) : ResOk C s (.cell t T) v
inductive ResAll (C : Cx) (s : St) : List ResultVar → List Value → Prop
  | nil : ResAll C s [] []
  | cons {r : ResultVar} {v : Value} {rs : List ResultVar} {vs : List Value} (h : ResOk C s r v) (t : ResAll C s rs vs) : ResAll C s (r :: rs) (v :: vs)
/-- where it ends: the results, and what is said of them -/
def retK (C : Cx) (rs : List ResultVar) (R : Value → St → Prop) : Exit → St → Prop
  | .ret, s => ∃ vs, ResAll C s rs vs ∧ R (packV vs) s
  | .normal, s => ∃ vs, ResAll C s rs vs ∧ R (packV vs) s
  | _, _ => False

def rdRes (tmps : Array Value) : ResultVar → Sem Value
  | .tmp t => pure (tmps.getD t undef)
  | .cell ad t => do loadVar t (← asAddr (tmps.getD ad undef))
variable {a : Act} {w : World}
theorem rdRes_ok (hr : Rep C s a w) {r : ResultVar} {v : Value} (h : ResOk C s r v) {w' : World} (hk : ∀ k hp, s.m k = some hp → hp.ok w') : (rdRes a.tmps r).run C.P w' = .ok v w' := by
  cases h with
  | tmp h => have := ev_ok hr h; simp only [rdRes]; rw [show a.tmps.getD _ undef = v from this, Sem.run_pure]
  | cellW h hm hl =>
    have e := ev_ok hr h
    have hb : Blk w' _ _ _ := hk _ _ hm
    simp only [rdRes, show a.tmps.getD _ undef = _ from e, asAddr, Sem.run_bind, Sem.run_pure, Result.andThen, run_loadVar_agg (by assumption) hl (hb.cellsAt 0 _ fun j v hj => by simpa using hj)]
  | cell1 h hm =>
    have e := ev_ok hr h
    have hb : Blk w' _ _ _ := hk _ _ hm
    simp only [rdRes, show a.tmps.getD _ undef = _ from e, asAddr, Sem.run_bind, Sem.run_pure, Result.andThen, run_loadVar_one (v := v) (by assumption) (hb.cell 0 v rfl)]
theorem rdAll_ok (hr : Rep C s a w) {w' : World} (hk : ∀ k hp, s.m k = some hp → hp.ok w') : ∀ (rs : List ResultVar) (vs : List Value), ResAll C s rs vs → (rs.mapM (rdRes a.tmps)).run C.P w' = .ok vs w' := by
  intro rs
  induction rs with
  | nil => intro vs h; cases h; simp
  | cons r rs ih =>
    intro vs h
    cases h with
    | cons h t =>
      rw [List.mapM_cons, Sem.run_bind, rdRes_ok hr h hk]
      simp only [Result.andThen, Sem.run_bind, ih _ t, Sem.run_pure]
theorem results_ok {fn : Func} (hr : Rep C s a w) {w' : World} (hk : ∀ k hp, s.m k = some hp → hp.ok w') {vs : List Value} (h : ResAll C s fn.results.toList vs) : (results fn a.tmps).run C.P w' = .ok (packV vs) w' := by
  have := rdAll_ok hr hk _ vs h
  have hres : results fn a.tmps = (do let vs ← fn.results.mapM (rdRes a.tmps); pure (if h : vs.size = 1 then vs[0] else .tuple vs)) := rfl
  rw [hres, Sem.run_bind, Array.mapM_eq_mapM_toList, Sem.run_map, this]
  simp only [Result.andThen, Sem.run_pure]
  match vs with
  | [] => rfl
  | [v] => rfl
  | _ :: _ :: _ => rfl

/-- behind a return: what the state says, of the world in which the marks have been taken -/
structure Out (C : Cx) (s : St) (w : World) : Prop where
  mo : ∀ k h, s.m k = some h → h.ok w ∧ ∀ b, h.blk = some b → C.own b
  inj : ∀ k k' h h' b, s.m k = some h → s.m k' = some h' → h.blk = some b → h'.blk = some b → k = k'
  gh : s.g w
  fr : Chg C.W C.w0 w
  ko : C.kp → KeepsOthers C.w0 w

theorem leaves_ok {fn : Func} {vs : List Value} {R : Ending → World → Prop} (hrep : Rep C s a w) (hv : ResAll C s fn.results.toList vs) (hR : ∀ w', Out C s w' → R (.returned (packV vs)) w') :
    ∀ (ds : List Nat) (w' : World), ds.Nodup → (∀ D ∈ ds, D ∈ s.d ∧ w'.heap[D]? = some (.deferred (some []))) → Out C s w' → LeavesInM C.F C.n C.P fn a.tmps R (ds.map mark) .returning w'
  | [], w', _, _, ho => by
    refine ⟨_, results_ok hrep (fun k hp h => (ho.mo k hp h).1) hv, hR w' ho⟩
  | D :: ds, w', hnd, hd, ho => by
    have hD := hd D List.mem_cons_self
    have hnd' := List.nodup_cons.1 hnd
    refine ⟨by simp, .inl ⟨D, _, rfl, run_takeDeferred hD.2, leaves_ok hrep hv hR ds _ hnd'.2 (fun E hE => ⟨(hd E (List.mem_cons_of_mem _ hE)).1, ?_⟩) ?_⟩⟩
    · rw [World.putObj_heap_other (fun e => hnd'.1 (by rw [← e]; exact hE))]
      exact (hd E (List.mem_cons_of_mem _ hE)).2
    · have hg := hrep.dg D hD.1
      have hne : ∀ k h, s.m k = some h → ∀ b, h.blk = some b → b ≠ D := fun k h hk b hb e => by
        subst e
        obtain ⟨o, h1, h2⟩ := Hp.isCells (ho.mo k h hk).1 hb
        rw [hD.2] at h1; cases h1; cases h2
      have hc : Chg (fun b => b = D) w' (w'.putObj D (.deferred none)) := ⟨rfl, rfl, rfl, by simp, fun k _ hn => World.putObj_heap_other hn⟩
      refine ⟨fun k h hk => ⟨Hp.keep (ho.mo k h hk).1 fun b hb => World.putObj_heap_other (hne k h hk b hb), (ho.mo k h hk).2⟩, ho.inj, hrep.st w' _ (hc.mono fun k _ e => by subst e; exact hg.2) ho.gh, ho.fr.trans (hc.mono fun k _ e => .inr (by subst e; exact hg.1)),
        fun hp => ⟨Nat.le_trans (ho.ko hp).size (by simp), fun k o hk hco => (World.putObj_heap_other (fun e => ?_)).trans ((ho.ko hp).same k o hk hco)⟩⟩
      have := (Array.getElem?_eq_some_iff.1 hk).1
      have := hg.1
      omega

def argsL : Nat → List Value → List (Nat × Value)
  | _, [] => []
  | i, v :: r => (i, v) :: argsL (i + 1) r
theorem argsL_ok : ∀ (vs : List Value) (j i : Nat) (v : Value), lk (argsL j vs) i = some v → j ≤ i ∧ vs[i - j]? = some v
  | [], j, i, v, h => by cases h
  | x :: r, j, i, v, h => by
    simp only [argsL, lk] at h
    split at h
    · rename_i hb
      have := Nat.eq_of_beq_eq_true hb
      subst this; cases h
      exact ⟨Nat.le_refl _, by simp⟩
    · have := argsL_ok r (j + 1) i v h
      refine ⟨by omega, ?_⟩
      rw [show i - j = (i - (j + 1)) + 1 by omega]
      simpa using this.2

/-- INTO a function and out of it. W: the blocks that it may turn; m0: what is known of them. -/
theorem enter {P : Program} {f N : Nat} {fn : Func} {c : Code} {rs : List ResultVar} {args : List Value} {w : World} (W : Nat → Prop) (m0 : List (Nat × Hp)) (R : Value → St → Prop) (hf : P.funcs[f]? = some fn) (hb : fn.body = some c) (hn : fn.ntmps = N) (hrs : fn.results = rs.toArray)
    (hsz : Nat.ble args.length N = true) (hm0 : ∀ k h, lk m0 k = some h → h.ok w ∧ ∀ b, h.blk = some b → W b) (hi0 : ∀ k k' h h' b, lk m0 k = some h → lk m0 k' = some h' → h.blk = some b → h'.blk = some b → k = k')
    (h : V ⟨P, w, N, 3, none, W, True⟩ c (retK ⟨P, w, N, 3, none, W, True⟩ rs R) (mk (argsL 0 args) m0 (fun w' => Chg W w w') (fun b => b < w.heap.size ∧ ¬ W b) [])) :
    Calls P f args.toArray w fun e w' => ∃ v s', e = .returned v ∧ R v s' ∧ Out ⟨P, w, N, 3, none, W, True⟩ s' w' := by
  have hrs' : fn.results.toList = rs := by rw [hrs]
  rw [← hrs'] at h
  refine callsIn_wide (n := 3).1 (callsIn_of_wp_marks hf hb trivial ?_)
  have hle : args.length ≤ N := Nat.le_of_ble_eq_true hsz
  have hrep : Rep ⟨P, w, N, 3, none, W, True⟩ (mk (argsL 0 args) m0 (fun w' => Chg W w w') (fun b => b < w.heap.size ∧ ¬ W b) []) { tmps := args.toArray ++ Array.replicate (fn.ntmps - args.toArray.size) undef, defers := [] } w := by
    refine ⟨rfl, fun _ h => (by cases h), fun _ h => (by cases h), List.nodup_nil, by simp [hn]; omega, fun i v hi hv => ?_, fun k h hk => ⟨(hm0 k h hk).1, fun b hb => .inr ((hm0 k h hk).2 b hb)⟩, hi0, Chg.refl _ _, fun b hb => ⟨hb.1, fun k h hk e => hb.2 ((hm0 k h hk).2 b e)⟩, fun w1 w2 hc h1 => ?_, Chg.refl _ _, fun _ => KeepsOthers.refl _⟩
    · have := (argsL_ok args 0 i v hv).2
      have hlt := (List.getElem?_eq_some_iff.1 this).1
      rw [Array.getD_eq_getD_getElem?, Array.getElem?_append_left (by simpa using hlt)]
      simp at this
      simp [this]
    · refine h1.trans (hc.mono fun k hk hnb => ?_)
      by_cases hlt : k < w.heap.size
      · by_cases hW : W k
        · exact .inl hW
        · exact absurd ⟨hlt, hW⟩ hnb
      · exact .inr (by omega)
  refine wpIn_mono (h _ _ hrep) ?_
  rintro e a' w' ⟨s', hr', hk⟩
  have fin : (∃ vs, ResAll ⟨P, w, N, 3, none, W, True⟩ s' fn.results.toList vs ∧ R (packV vs) s') →
      LeavesInM Fence.wide 3 P fn a'.tmps (fun e w' => ∃ v s', e = .returned v ∧ R v s' ∧ Out ⟨P, w, N, 3, none, W, True⟩ s' w') a'.defers .returning w' := by
    rintro ⟨vs, h1, h2⟩
    rw [hr'.dfs]
    exact leaves_ok (C := ⟨P, w, N, 3, none, W, True⟩) hr' h1 (fun w'' ho => ⟨_, s', rfl, h2, ho⟩) s'.d w' hr'.dn (fun D hD => ⟨hD, hr'.dd D hD⟩) ⟨hr'.mo, hr'.inj, hr'.gh, hr'.fr, hr'.ko⟩
  cases e with
  | ret => exact fin hk
  | normal => exact fin hk
  | _ => exact hk.elim

/-- a function that turns nothing and answers r -/
theorem ans_of {P : Program} {f N : Nat} {fn : Func} {c : Code} {rs : List ResultVar} {args : List Value} {r : Value} (hf : P.funcs[f]? = some fn) (hb : fn.body = some c) (hn : fn.ntmps = N) (hrs : fn.results = rs.toArray) (hname : (fn.name == "runtime.NumGoroutine") = false)
    (hsz : Nat.ble args.length N = true)
    (h : ∀ w, V ⟨P, w, N, 3, none, fun _ => False, True⟩ c (retK ⟨P, w, N, 3, none, fun _ => False, True⟩ rs (fun v _ => v = r)) (mk (argsL 0 args) [] (fun w' => Chg (fun _ => False) w w') (fun b => b < w.heap.size ∧ ¬ False) [])) : Ans P f args r := by
  refine .inl ⟨ent_of hf hname hb, fun w => (enter (fun _ => False) [] (fun v _ => v = r) hf hb hn hrs hsz (fun k h hk => (by cases hk)) (fun k k' h h' b hk => (by cases hk)) (h w)).mono ?_⟩
  rintro e w' ⟨v, s', rfl, rfl, ho⟩
  exact ⟨rfl, ho.fr.below⟩
end Go.Proofs.Ytaijclimdfchfaa
